/-
  The proof of AttestationAny, part 1 (texts PvX1 PvX2).
-/
import Derived.Orders
import Derived.LoopN
import Derived.Below
import Derived.Lib.ValidU
import Derived.Lib.Bytealg
import Derived.IntWalk
import Derived.WalkKit
import Derived.WalkLawsBesides
import Derived.Laws.IdiomStrings
import Derived.Laws.MakeOwn
import Derived.Laws.Tables
set_option linter.unusedSimpArgs false
set_option linter.unusedVariables false
namespace Go.Proofs.YtgfgmbpmghgbkaaGreatDoor.Pv
section
inductive PV where
 |sc (v:Value)
 |lst (z:Bool) (es n:Nat) (cells:List PV)
 |own (es n:Nat) (cells:List PV)
 |view (id es off n:Nat)
 |ptr (id off:Nat)
 |iptr (cells:List PV) (off:Nat)
 |pbox (cells:List PV)
 |agg (cells:List PV)
 |tup (vs:List PV)
 |top
 |ub
inductive Cp where
 |st (cells:List PV)
 |ar (fz:Bool) (cells:List PV)
 |mv
structure St where
 tm:Nat->PV
 hp:Nat->Option Cp
structure A0 where
 vals:List PV
 outs:List (List PV)
structure J4 where
 shr:FuncId->Bool
 mvd:FuncId->Nat->Bool
 lnd:FuncId->Nat->Bool
 kz:FuncId->Bool
 ext:FuncId->Option (List PV->Option A0)
def Dl {α:Type}(f:Nat->α)(i:Nat)(v:α):Nat->α:=fun j=>bif Nat.beq j i then v else f j
def rd (hp:Nat->Option Cp)(id:Nat):Option (List PV):=
 match hp id with
 |some (.st c)=>some c
 |some (.ar _ c)=>some c
 |_=>none
def My (hp:Nat->Option Cp)(id:Nat):Option (List PV):=
 match hp id with
 |some (.ar _ c)=>some c
 |_=>none
inductive CT where
 |int (k:IntKind)
 |bool
 |str
 |sl (es:Nat)
 |any
def Bx (P:Program)(t:TypeId):Nat:=((P.info? t).map (·.size)).getD 0
def Da (P:Program)(t:TypeId):Bool:=
 match P.underlying t with
 |some (.struct _)=>true
 |some (.array _ _)=>true
 |_=>false
def A7s (P:Program):Nat->TypeId->List CT
 |0,_=>[]
 |d+1,t=>
  match P.underlying t with
  |some (.int k)=>[.int k]
  |some .bool=>[.bool]
  |some .string=>[.str]
  |some (.slice e)=>[.sl (Bx P e)]
  |some (.struct fs)=>fs.toList.flatMap fun f=>A7s P d f.type
  |some (.array n e)=>(List.replicate n (A7s P d e)).flatten
  |_=>[.any]
abbrev J3 (P:Program)(t:TypeId):List CT:=A7s P 9 t
def Lf (P:Program)(t:TypeId):Bool:=(P.underlying t).isSome&&Nat.beq (J3 P t).length (Bx P t)
abbrev Ez (k:IntKind)(a b:Int):Int:=k.wrap (BitVec.ofInt k.bits a &&& BitVec.ofInt k.bits b).toNat
abbrev Xz (k:IntKind)(a b:Int):Int:=k.wrap (BitVec.ofInt k.bits a ||| BitVec.ofInt k.bits b).toNat
abbrev Eu (k:IntKind)(a b:Int):Int:=k.wrap (BitVec.ofInt k.bits a ^^^ BitVec.ofInt k.bits b).toNat
abbrev Apm (k:IntKind)(a b:Int):Int:=k.wrap (BitVec.ofInt k.bits a &&& ~~~BitVec.ofInt k.bits b).toNat
abbrev Fk (k:IntKind)(a b:Int):Int:=k.wrap (a*2 ^ (min b.toNat k.bits))
abbrev El (k:IntKind)(a b:Int):Int:=a.fdiv (2 ^ (min b.toNat k.bits))
abbrev A8v (k:IntKind)(n:Int):Int:=k.wrap (BitVec.ofInt k.bits (if k.signed then -1 else k.max) ^^^ BitVec.ofInt k.bits n).toNat
section
variable {R:Type}
def Af (k:IntKind)(p:PV)(K:Int->Option R):Option R:=
 match p with
 |.sc (.int k' n)=>if k'=k then K n else none
 |_=>none
def Bw (p:PV)(K:Bool->Option R):Option R:=
 match p with
 |.sc (.bool b)=>K b
 |_=>none
def Cn (p:PV)(K:ByteArray->Option R):Option R:=
 match p with
 |.sc (.string s)=>K s
 |_=>none
def Iz (es:Nat)(p:PV)(K:Bool->Nat->List PV->Option R):Option R:=
 match p with
 |.lst z es' n c=>bif Nat.beq es' es then K z n c else none
 |.sc (.slice none 0 0)=>K true 0 []
 |_=>none
def fsK (es:Nat)(p:PV)(K:PV->Option R):Option R:=
 match p with
 |.view id es' off n=>bif Nat.beq es' es then K (.view id es off n) else none
 |p=>Iz es p fun z n c=>K (.lst z es n c)
def Dp (es:Nat)(p:PV)(K:Nat->List PV->Option R):Option R:=
 match p with
 |.own es' n c=>bif Nat.beq es' es then K n c else none
 |_=>none
def Ay (b:Bool)(K:Option R):Option R:=bif b then K else none
abbrev Aa {α:Type}(x:α)(K:α->Option R):Option R:=K x
def Aym (b:Bool)(x y:Option R):Option R:=bif b then x else y
abbrev Bb4 (x:Nat)(K:Nat->Option R):Option R:=K x
def A6t (x:List (List Nat)) (K:List (List Nat)->Option R):Option R:=K x
def A4 (b:Bool)(x y:Option R):Option R:=bif b then x else y
def Fe {α:Type}(o:Option α)(K:α->Option R):Option R:=
 match o with
 |some a=>K a
 |none=>none
def Ab {α:Type}(l:List α)(K:α->List α->Option R):Option R:=
 match l with
 |a::r=>K a r
 |[]=>none
def Ac {α:Type}(l:List α)(K:Option R):Option R:=
 match l with
 |[]=>K
 |_::_=>none
def C3 (p:PV)(K:List PV->Option R):Option R:=
 match p with
 |.agg c=>K c
 |_=>none
def Adh (p:PV)(K:List PV->Option R):Option R:=
 match p with
 |.pbox c=>K c
 |_=>none
def Aj (r:Option A0)(K:List PV->List (List PV)->Option R):Option R:=
 match r with
 |some ⟨v,o⟩=>K v o
 |none=>none
def fnK (p:PV)(K:Value->Option R):Option R:=
 match p with
 |.sc (.func f a b)=>K (.func f a b)
 |_=>none
def fvK (p:PV)(K:FuncId->Option R):Option R:=
 match p with
 |.sc (.func (.func f) a b)=>bif a.isEmpty&&b.isEmpty then K f else none
 |_=>none
def tcK (t:CT)(p:PV)(K:PV->Option R):Option R:=
 match t with
 |.int k=>Af k p fun n=>K (.sc (.int k n))
 |.bool=>Bw p fun b=>K (.sc (.bool b))
 |.str=>Cn p fun s=>K (.sc (.string s))
 |.sl es=>Iz es p fun z n c=>K (.lst z es n c)
 |.any=>fnK p fun v=>K (.sc v)
def fcK (t:CT)(p:PV)(K:PV->Option R):Option R:=
 match t with
 |.sl es=>fsK es p K
 |t=>tcK t p K
def Yo:List CT->List PV->Nat->(List PV->Option R)->Option R
 |[],_,_,K=>K []
 |t::ts,cells,off,K=>tcK t (cells.getD off .top) fun c=>Yo ts cells (off+1) fun r=>K (c::r)
def Ud:List CT->List PV->Nat->(List PV->Option R)->Option R
 |[],_,_,K=>K []
 |t::ts,cells,off,K=>fcK t (cells.getD off .top) fun c=>Ud ts cells (off+1) fun r=>K (c::r)
def mkV (agg:Bool)(cells:List PV)(K:PV->Option R):Option R:=
 bif agg then K (.agg cells) else Ab cells fun c r=>Ac r (K c)
def cellsOf:PV->List PV
 |.agg c=>c
 |p=>[p]
def cvK (P:Program)(t:TypeId)(v:Value)(K:PV->Option R):Option R:=
 match v with
 |.agg cs=>Ay (Nat.beq cs.toList.length (J3 P t).length) (Yo (J3 P t) (cs.toList.map .sc) 0 fun c=>K (.agg c))
 |.slice none 0 0=>
  match P.underlying t with
  |some (.slice e)=>K (.lst true (Bx P e) 0 [])
  |_=>none
 |v=>K (.sc v)
end
def C4 (tm:Nat->PV):Operand->PV
 |.tmp t=>tm t
 |.const (.agg cs)=>.agg (cs.toList.map .sc)
 |.const v=>.sc v
 |.func f=>.sc (.func (.func f) #[] #[])
 |.global g=>.sc (.pointer (some ⟨g,0,none⟩))
section
variable {R:Type}
def Ek (p:PV)(K:IntKind->Int->Option R):Option R:=
 match p with
 |.sc (.int k n)=>K k n
 |_=>none
def Auc (rdf:Nat->Option (List PV)) (es:Nat)(p:PV)(K:Nat->List PV->Option R):Option R:=
 match p with
 |.view id es' off n=>bif Nat.beq es' es then Fe (rdf id) fun c=>Ay (decide (off+n*es<=c.length)) (K n ((c.drop off).take (n*es))) else none
 |p=>Iz es p fun _ n c=>K n c
def Sn (rdf:Nat->Option (List PV)) (t:CT)(p:PV)(K:PV->List Nat->Option R):Option R:=
 match t with
 |.sl es=>
  match p with
  |.view id es' off n=>bif Nat.beq es' es then Fe (rdf id) fun c=>Ay (decide (off+n*es<=c.length)) (K (.lst false es n ((c.drop off).take (n*es))) [id]) else none
  |p=>Iz es p fun _ n c=>K (.lst false es n c) []
 |t=>tcK t p fun c=>K c []
def Ru (rdf:Nat->Option (List PV)):List CT->List PV->(List PV->List Nat->Option R)->Option R
 |[],[],K=>K [] []
 |t::ts,p::ps,K=>Sn rdf t p fun c m=>Ru rdf ts ps fun cs ms=>K (c::cs) (m++ms)
 |_,_,_=>none
def Avz (P:Program)(rdf:Nat->Option (List PV)) (t:TypeId)(p:PV)(K:PV->List Nat->Option R):Option R:=
 bif Da P t then C3 p fun ps=>Ru rdf (J3 P t) ps fun cs m=>K (.agg cs) m
 else Ru rdf (J3 P t) [p] fun cs m=>Ab cs fun c r=>Ac r (K c m)
def Aj8 (P:Program)(rdf:Nat->Option (List PV)):List TypeId->List PV->(List PV->List Nat->Option R)->Option R
 |[],[],K=>K [] []
 |t::ts,p::ps,K=>Avz P rdf t p fun v m=>Aj8 P rdf ts ps fun vs ms=>K (v::vs) (m++ms)
 |_,_,_=>none
def A0n (shr:Bool)(id:Nat)(t:CT)(p:PV)(K:PV->List (Nat × Cp)->Option R):Option R:=
 match t with
 |.sl es=>bif shr then Iz es p fun z n c=>K (.lst z es n c) [] else Dp es p fun n c=>K (.view id es 0 n) [(id,.ar false c)]
 |t=>tcK t p fun c=>K c []
def Xc (shr:Bool)(N:Nat):Nat->List CT->List PV->(List PV->List (Nat × Cp)->Option R)->Option R
 |_,[],ps,K=>Ac ps (K [] [])
 |id,t::ts,ps,K=>Ab ps fun p ps=>A0n shr id t p fun c b=>Xc shr N (id+N) ts ps fun cs bs=>K (c::cs) (b++bs)
def Ae6 (P:Program)(t:TypeId):Option TypeId:=
 match P.underlying t with
 |some (.pointer e)=>some e
 |_=>none
def Arh (P:Program)(t:TypeId):Nat:=
 match Ae6 P t with
 |some e=>1+(J3 P e).length
 |none=>(J3 P t).length
def Ax7 (P:Program)(shr:Bool)(N:Nat)(id:Nat)(t:TypeId)(p:PV)(K:PV->List (Nat × Cp)->Option R):Option R:=
 match Ae6 P t with
 |some e=>Adh p fun ps=>Xc shr N (id+N) (J3 P e) ps fun cs bs=>K (.ptr id 0) ((id,.st cs)::bs)
 |none=>
 bif Da P t then C3 p fun ps=>Xc shr N id (J3 P t) ps fun cs bs=>K (.agg cs) bs
 else Xc shr N id (J3 P t) [p] fun cs bs=>Ab cs fun c r=>Ac r (K c bs)
def Ahb (P:Program)(shr:Bool)(N:Nat):Nat->List TypeId->List PV->(List PV->List (Nat × Cp)->Option R)->Option R
 |_,[],ps,K=>Ac ps (K [] [])
 |id,t::ts,ps,K=>Ab ps fun p ps=>Ax7 P shr N id t p fun v bs=>Ahb P shr N (id+N*Arh P t) ts ps fun vs bs'=>K (v::vs) (bs++bs')
def Rr (P:Program)(t:TypeId):List TypeId:=
 match P.underlying t with
 |some (.tuple ts)=>ts.toList
 |_=>[t]
def Q9 (vs:List PV)(t:Bool):PV:=bif t then .tup vs else vs.headD .top
def Tg (P:Program)(t:TypeId):Bool:=
 match P.underlying t with
 |some (.tuple _)=>true
 |_=>false
def A43 (op:BinOp)(a b:Int)(K:Bool->Option R):Option R:=
 match op with
 |.eql=>K (a==b)
 |.neq=>K (a != b)
 |.lss=>K (decide (a<b))
 |.leq=>K (decide (a<=b))
 |.gtr=>K (decide (a>b))
 |.geq=>K (decide (a>=b))
 |_=>none
def Ak3 (op:BinOp)(k:IntKind)(a b:Int)(K:PV->Option R):Option R:=
 match op with
 |.add=>Aa ((k.wrap (a+b))) fun n=>K (.sc (.int k n))
 |.sub=>Aa ((k.wrap (a-b))) fun n=>K (.sc (.int k n))
 |.mul=>Aa ((k.wrap (a*b))) fun n=>K (.sc (.int k n))
 |.quo=>Ay (decide (b≠0)) (Aa ((k.wrap (a.tdiv b))) fun n=>K (.sc (.int k n)))
 |.rem=>Ay (decide (b≠0)) (Aa ((a.tmod b)) fun n=>K (.sc (.int k n)))
 |.and=>Aa (Ez k a b) fun n=>K (.sc (.int k n))
 |.or=>Aa (Xz k a b) fun n=>K (.sc (.int k n))
 |.xor=>Aa (Eu k a b) fun n=>K (.sc (.int k n))
 |.andNot=>Aa (Apm k a b) fun n=>K (.sc (.int k n))
 |op=>A43 op a b fun r=>K (.sc (.bool r))
def Ajr (op:BinOp)(x y:ByteArray)(K:PV->Option R):Option R:=
 match op with
 |.add=>Ay (decide (x.size+y.size<=9223372036854775807)) (Aa (x++y) fun s=>K (.sc (.string s)))
 |.eql=>K (.sc (.bool (x.data.toList==y.data.toList)))
 |.neq=>K (.sc (.bool !(x.data.toList==y.data.toList)))
 |.lss=>K (.sc (.bool (Op.bytesLess x.data.toList y.data.toList)))
 |.leq=>K (.sc (.bool (Op.bytesLess x.data.toList y.data.toList||x.data.toList==y.data.toList)))
 |.gtr=>K (.sc (.bool !(Op.bytesLess x.data.toList y.data.toList||x.data.toList==y.data.toList)))
 |.geq=>K (.sc (.bool !(Op.bytesLess x.data.toList y.data.toList)))
 |_=>none
def Ai8 (e:Bool)(p:PV)(K:PV->Option R):Option R:=
 match p with
 |.sc (.slice none 0 0)=>K (.sc (.bool e))
 |.lst z _ n _=>A4 z (K (.sc (.bool e))) (A4 (decide (0<n)) (K (.sc (.bool !e))) (K .ub))
 |.view _ _ _ n=>A4 (decide (0<n)) (K (.sc (.bool !e))) (K .ub)
 |_=>none
def Ajo (P:Program):List Field->Nat->Bool
 |[],_=>true
 |f::r,i=>Nat.beq f.offset i&&(f.name != "_")&&(match P.underlying f.type with|some (.int _)=>true|some .bool=>true|some .string=>true|_=>false)&&Ajo P r (i+1)
def Aqi (P:Program)(t:TypeId)(fs:Array Field):Bool:=Ajo P fs.toList 0 && !P.stoodInHeld t && !P.eqGuardType P.depth t
def fty (P:Program)(f:Field):CT:=
 match P.underlying f.type with
 |some (.int k)=>.int k
 |some .bool=>.bool
 |some .string=>.str
 |_=>.any
def Alo:List CT->List PV->List PV->(Bool->Option R)->Option R
 |[],[],[],K=>K true
 |.int k::ts,p::ps,q::qs,K=>Af k p fun a=>Af k q fun b=>Alo ts ps qs fun r=>K ((a==b)&&r)
 |.bool::ts,p::ps,q::qs,K=>Bw p fun a=>Bw q fun b=>Alo ts ps qs fun r=>K ((a==b)&&r)
 |.str::ts,p::ps,q::qs,K=>Cn p fun a=>Cn q fun b=>Alo ts ps qs fun r=>K ((a==b)&&r)
 |_,_,_,_=>none
def A02 (P:Program)(op:BinOp)(t:TypeId)(x y:PV)(K:PV->Option R):Option R:=
 match P.underlying t with
 |some (.int k)=>
  match op with
  |.shl=>Af k x fun a=>Ek y fun _ b=>Ay (decide (0<=b)) (Aa (Fk k a b) fun n=>K (.sc (.int k n)))
  |.shr=>Af k x fun a=>Ek y fun _ b=>Ay (decide (0<=b)) (Aa (El k a b) fun n=>K (.sc (.int k n)))
  |op=>Af k x fun a=>Af k y fun b=>Ak3 op k a b K
 |some .string=>Cn x fun a=>Cn y fun b=>Ajr op a b K
 |some .bool=>
  match op with
  |.eql=>Bw x fun a=>Bw y fun b=>K (.sc (.bool (a==b)))
  |.neq=>Bw x fun a=>Bw y fun b=>K (.sc (.bool !(a==b)))
  |_=>none
 |some (.slice _)=>
  match op,y with
  |.eql,.sc (.slice none 0 0)=>Ai8 true x K
  |.neq,.sc (.slice none 0 0)=>Ai8 false x K
  |_,_=>none
 |_=>none
def Zu (P:Program)(op:BinOp)(t:TypeId)(x y:PV)(K:PV->Option R):Option R:=
 match P.underlying t with
 |some (.struct fs)=>
  match op with
  |.eql=>Ay (Aqi P t fs) (C3 x fun xs=>C3 y fun ys=>Alo (fs.toList.map (fty P)) xs ys fun b=>K (.sc (.bool b)))
  |.neq=>Ay (Aqi P t fs) (C3 x fun xs=>C3 y fun ys=>Alo (fs.toList.map (fty P)) xs ys fun b=>K (.sc (.bool !b)))
  |_=>none
 |_=>A02 P op t x y K
def unK (op:UnOp)(x:PV)(K:PV->Option R):Option R:=
 match op with
 |.not=>Bw x fun b=>K (.sc (.bool !b))
 |.neg=>Ek x fun k n=>Aa (k.wrap (0-n)) fun n=>K (.sc (.int k n))
 |.xor=>Ek x fun k n=>Aa (A8v k n) fun n=>K (.sc (.int k n))
 |_=>none
def bytesOf:List PV->Option (List UInt8)
 |[]=>some []
 |.sc (.int .u8 n)::r=>(bytesOf r).map (n.toNat.toUInt8 :: ·)
 |_::_=>none
def Ct (s:ByteArray):List PV:=s.data.toList.map fun b=>.sc (.int .u8 b.toNat)
def Aj4 (P:Program)(rdf:Nat->Option (List PV)) (d:Nat)(src dst:TypeId)(x:PV)(K:PV->List (Nat × Cp)->Option R):Option R:=
 match P.underlying dst with
 |some (.int k)=>Ay (P.underlying src).isSome (Ek x fun _ n=>Aa (k.wrap n) fun n=>K (.sc (.int k n)) [])
 |some .string=>
  match P.underlying src with
  |some .string=>Cn x fun s=>K (.sc (.string s)) []
  |some (.slice e)=>
   match P.underlying e with
   |some (.int .u8)=>Auc rdf 1 x fun n c=>Ay (decide (c.length=n)) (Fe (bytesOf c) fun b=>K (.sc (.string ⟨b.toArray⟩)) [])
   |_=>none
  |_=>none
 |some (.slice e)=>
  match P.underlying e,P.underlying src with
  |some (.int .u8),some .string=>Cn x fun s=>Ay (decide (s.size<=1099511627776)) (K (.view d 1 0 s.size) [(d,.ar false (Ct s))])
  |_,_=>none
 |_=>none
def Pg (p:Option PV)(dflt:Nat)(K:Nat->Option R):Option R:=
 match p with
 |none=>K dflt
 |some p=>Ek p fun _ i=>Ay (decide (0<=i)) (K i.toNat)
def Af3 (P:Program)(rdf:Nat->Option (List PV)) (t:TypeId)(x:PV)(lo hi:Option PV)(K:PV->Option R):Option R:=
 match P.underlying t with
 |some .string=>Cn x fun s=>Pg lo 0 fun l=>Pg hi s.size fun h=>Ay (decide (l<=h)&&decide (h<=s.size)) (Aa (s.extract l h) fun s=>K (.sc (.string s)))
 |some (.slice e)=>Ay (P.info? e).isSome (
  match x with
  |.view id es off n=>Ay (Nat.beq es (Bx P e)) (Pg lo 0 fun l=>Pg hi n fun h=>Ay (decide (l<=h)&&decide (h<=n)) (Aa (off+l*es) fun o=>Aa (h-l) fun n=>K (.view id es o n)))
  |x=>Iz (Bx P e) x fun z n c=>Pg lo 0 fun l=>Pg hi n fun h=>Ay (decide (l<=h)&&decide (h<=n)) (Aa (h-l) fun n=>Aa ((c.drop (l*Bx P e)).take (n*Bx P e)) fun c=>K (.lst z (Bx P e) n c)))
 |some (.array n e)=>Ay (P.info? e).isSome (
  match x with
  |.ptr id off=>Fe (rdf id) fun c=>Ay (decide (1<=n*Bx P e)&&decide (off+n*Bx P e<=c.length))<|Pg lo 0 fun l=>Pg hi n fun h=>Ay (decide (l<=h)&&decide (h<=n)) (Aa (off+l*Bx P e) fun o=>Aa (h-l) fun n=>K (.view id (Bx P e) o n))
  |_=>none)
 |_=>none
def Yz (x:PV)(d:Nat)(K:PV->Option R):Option R:=
 match x with
 |.ptr id off=>K (.ptr id (off+d))
 |.iptr c off=>K (.iptr c (off+d))
 |_=>none
def Ajy (P:Program)(e:TypeId):Bool:=(P.info? e).isSome
def Vd (P:Program)(t:TypeId)(f:Nat):Option (Nat × TypeId):=
 match P.underlying t with
 |some (.struct fs)=>(fs[f]?).map fun g=>(g.offset,g.type)
 |_=>none
def Nw (P:Program)(t:TypeId)(x:PV)(i:Int)(K:PV->Option R):Option R:=
 match P.underlying t with
 |some (.array n e)=>Ay (Ajy P e) (Ay (decide (0<=i)&&decide (i<n)) (Yz x (i.toNat*Bx P e) K))
 |some (.slice e)=>Ay (Ajy P e) (
  match x with
  |.view id es off n=>Ay (Nat.beq es (Bx P e)) (Ay (decide (0<=i)&&decide (i<n)) (K (.ptr id (off+i.toNat*es))))
  |x=>Iz (Bx P e) x fun _ n c=>Ay (decide (0<=i)&&decide (i<n)) (K (.iptr c (i.toNat*Bx P e))))
 |_=>none
def Aja (P:Program)(rdf:Nat->Option (List PV)) (t:TypeId)(x:PV)(K:PV->Option R):Option R:=
 match x with
 |.ptr id off=>Ay (Lf P t) (Fe (rdf id) fun c=>Ud (J3 P t) c off fun cs=>mkV (Da P t) cs K)
 |.iptr c off=>Ay (Lf P t) (Yo (J3 P t) c off fun cs=>mkV (Da P t) cs K)
 |_=>none
def Ay7:PV->PV
 |.lst _ es n c=>.lst false es n c
 |p=>p
def Azz:PV->PV
 |.agg cs=>.agg (cs.map Ay7)
 |p=>Ay7 p
def Ac9 (P:Program)(rdf rdaf:Nat->Option (List PV)) (t:TypeId)(x:PV)(K:PV->Option R):Option R:=
 match x with
 |.ptr id off=>Ay (Lf P t) (
  match rdaf id with
  |some c=>Yo (J3 P t) c off fun cs=>mkV (Da P t) cs fun v=>K (Azz v)
  |none=>Fe (rdf id) fun c=>Ud (J3 P t) c off fun cs=>mkV (Da P t) cs K)
 |.iptr c off=>Ay (Lf P t) (Yo (J3 P t) c off fun cs=>mkV (Da P t) cs fun v=>K (Azz v))
 |_=>none
def Cb (cells new:List PV)(off:Nat):List PV:=cells.take off++new++cells.drop (off+new.length)
def okP:PV->Bool
 |.agg _=>true
 |.lst _ _ _ _=>true
 |.view _ _ _ _=>true
 |.sc (.int _ _)=>true
 |.sc (.bool _)=>true
 |.sc (.string _)=>true
 |.sc (.slice none 0 0)=>true
 |_=>false
def Zn (Iu:Nat->Option (Nat × Nat)):List (Nat × PV)->List PV->(List PV->Option R)->Option R
 |[],cells,K=>K cells
 |(i,p)::r,cells,K=>Fe (Iu i) fun q=>Ay (okP p&&Nat.beq (cellsOf p).length q.2&&Nat.ble (q.1+q.2) cells.length) (Aa (Cb cells (cellsOf p) q.1) fun cells=>Zn Iu r cells K)
def Wa (P:Program)(t:TypeId)(i:Nat):Option (Nat × Nat):=
 match P.underlying t with
 |some (.struct fs)=>(fs[i]?).map fun f=>(f.offset,Bx P f.type)
 |some (.array _ e)=>some (i*Bx P e,Bx P e)
 |some (.slice e)=>some (i*Bx P e,Bx P e)
 |_=>none
def Ut (P:Program)(t:TypeId):Bool:=
 match P.underlying t with
 |some (.struct fs)=>fs.toList.all fun f=>Ajy P f.type
 |some (.array _ e)=>Ajy P e
 |some (.slice e)=>Ajy P e
 |_=>false
def Ac1 (P:Program)(t:TypeId):Option Value:=(P.info? t).bind (·.zero)
def Iw (P:Program)(t:TypeId)(K:List PV->Option R):Option R:=
 Fe (Ac1 P t) fun v=>Ay (Nat.beq v.cells.toList.length (J3 P t).length&&Lf P t) (Yo (J3 P t) (v.cells.toList.map .sc) 0 K)
def Ze (P:Program)(t:TypeId):Bool:=
 match P.underlying t with
 |some (.array _ _)=>true
 |_=>false
def A1n (P:Program)(t:TypeId)(cells:List PV):Cp:=bif Ze P t then .ar false cells else .st cells
def Xj (n:Nat)(l:List PV):List PV:=(List.replicate n l).flatten
def A4l (a b:PV)(K:PV->Option R):Option R:=Ek a fun k x=>Af k b fun y=>Aa (if y<x then y else x) fun n=>K (.sc (.int k n))
def A5q (a b:PV)(K:PV->Option R):Option R:=Ek a fun k x=>Af k b fun y=>Aa (if x<y then y else x) fun n=>K (.sc (.int k n))
def Ayd (P:Program)(t:TypeId)(x:PV)(K:Nat->Option R):Option R:=
 match P.underlying t with
 |some .string=>Cn x fun s=>K s.size
 |some (.array n _)=>K n
 |some (.slice e)=>
  match x with
  |.view _ es _ n=>Ay (Nat.beq es (Bx P e)) (K n)
  |x=>Iz (Bx P e) x fun _ n _=>K n
 |_=>none
end
abbrev Aq:=FuncId->List PV->Option A0
section
variable {R:Type}
def L5 (P:Program)(ts:List TypeId):Bool:=ts.any fun t=>(Ae6 P t).isSome||(J3 P t).any fun c=>match c with | .sl _=>true|_=>false
def Agc (P:Program)(t:TypeId)(tm:Nat->PV)(x:Operand)(K:PV->Option R):Option R:=
 match x with
 |.const v=>cvK P t v K
 |x=>K (C4 tm x)
def Ao8 (P:Program)(e:TypeId):Bool:=
 match P.info? e with
 |some i=>(match i.zero with|some z=>Nat.beq z.cells.size i.size|none=>false)
 |none=>false
def Aun (P:Program)(rdaf:Nat->Option (List PV)) (es:Nat)(t:TypeId)(x:PV)(K:Nat->List PV->Option R):Option R:=
 match P.underlying t with
 |some .string=>Ay (Nat.beq es 1) (Cn x fun b=>K b.size (Ct b))
 |some (.slice _)=>Auc rdaf es x K
 |_=>none
abbrev Avf (P:Program)(s:St)(es:Nat)(t:TypeId)(x:PV)(K:Nat->List PV->Option R):Option R:=Aun P (My s.hp) es t x K
def Adc (c:Call):Bool:=
 match c.args.toList with
 |.const (.slice none 0 0)::_=>true
 |_=>false
def Z2 (P:Program)(rdaf:Nat->Option (List PV)) (d:Nat)(t tx:TypeId)(x:PV)(K:PV->List (Nat × Cp)->Option R):Option R:=
 match P.underlying t with
 |some (.slice e)=>Ay (Ao8 P e) <|
  Aun P rdaf (Bx P e) tx x fun m new=>
   Ay (decide (new.length=m*Bx P e)&&decide (m*((P.info? e).map (·.bytes)).getD 0<=1099511627776)&&decide (m<=1099511627776)) (K (.view d (Bx P e) 0 m) [(d,.ar false new)])
 |_=>none
def Md (k:Bool):List Operand->List PV->List PV
  |x::xs,p::ps=>
    (match x,p with
     |.const (.slice none 0 0),.lst z es 0 []=>.lst (k||z) es 0 []
     |_,p=>p)::Md k xs ps
  |_,ps=>ps
def A0g (P:Program)(t:TypeId)(x:PV)(K:Nat->Option R):Option R:=
 match P.underlying t with
 |some (.slice e)=>Iz (Bx P e) x fun z _ _=>Ay z (K 0)
 |_=>none
def Akr (P:Program)(f:FuncId)(c:Call):List TypeId:=
 match P.funcs[f]? with
 |some fn=>fn.params.toList
 |none=>c.argTypes.toList
def Alg (C:J4)(P:Program)(N:Nat)(call:Aq)(tm:Nat->PV)(rdaf:Nat->Option (List PV)) (o:Oper)(c:Call)(f:FuncId)(K:PV->List Nat->List (Nat × Cp)->Option R):Option R:=
 Aj8 P rdaf (Akr P f c) (c.args.toList.map (C4 tm)) fun vs m=>
  Aj (call f (Md (C.kz f) c.args.toList vs)) fun rv ro=>Ac ro (Ay (Nat.blt 0 N)<|Ahb P (C.shr f) N (o.dst.getD 0) (Rr P o.type) rv fun ws bs=>
   Ay (bif Tg P o.type then !Nat.beq ws.length 1 else Nat.beq ws.length 1)<|K (Q9 ws (Tg P o.type)) (bif L5 P (Rr P o.type) then m else []) bs)
def Akk (C:J4)(P:Program)(N:Nat)(call:Aq)(tm:Nat->PV)(rdf rdaf:Nat->Option (List PV)) (o:Oper)(K:PV->List Nat->List (Nat × Cp)->Option R):Option R:=
  match o.op with
  |.move x=>Agc P o.type tm x fun p=>K p [] []
  |.assign x=>Agc P o.type tm x fun p=>K p [] []
  |.pick c a b=>Bw (C4 tm c) fun t=>A4 t (K (C4 tm a) [] []) (K (C4 tm b) [] [])
  |.alloc t=>Fe o.dst fun d=>Iw P t fun cs=>K (.ptr d 0) [] [(d,A1n P t cs)]
  |.box t x=>Fe o.dst fun d=>Ay (Lf P t&&Nat.beq (cellsOf (C4 tm x)).length (J3 P t).length)
      (bif Ze P t then Yo (J3 P t) (cellsOf (C4 tm x)) 0 fun cs=>K (.ptr d 0) [] [(d,.ar false cs)]
       else Ud (J3 P t) (cellsOf (C4 tm x)) 0 fun cs=>K (.ptr d 0) [] [(d,.st cs)])
  |.build t ps=>Ay (Ut P t&&Da P t)<|Iw P t fun z=>Zn (Wa P t) (ps.toList.map fun q=>(q.1,C4 tm q.2)) z fun cs=>Ud (J3 P t) cs 0 fun cs'=>K (.agg cs') [] []
  |.buildSlice t n ps=>Fe o.dst fun d=>
      match P.underlying t with
      |some (.slice e)=>Ay (Ut P t&&Nat.ble (n*Bx P e) 16777216) (Iw P e fun z=>Zn (Wa P t) (ps.toList.map fun q=>(q.1,C4 tm q.2)) (Xj n z) fun cs=>
          Ru rdaf (List.replicate n (J3 P e)).flatten cs fun cs' m=>K (.view d (Bx P e) 0 n) m [(d,.ar false cs')])
      |_=>none
  |.load t a=>Ac9 P rdf rdaf t (C4 tm a) fun v=>K v [] []
  |.nilCheck x=>Yz (C4 tm x) 0 fun p=>K p [] []
  |.binOp op t x y _=>
      Zu P op t (C4 tm x) (C4 tm y) fun v=>K v [] []
  |.unOp op _ x=>unK op (C4 tm x) fun v=>K v [] []
  |.convert src dst x=>Aj4 P rdaf (o.dst.getD 0) src dst (C4 tm x) fun v b=>Fe o.dst fun _=>K v [] b
  |.makeSlice t l c=>Fe o.dst fun d=>
      match P.underlying t with
      |some (.slice e)=>Ek (C4 tm l) fun _ n=>Ek (C4 tm c) fun _ m=>
          Ay (decide (0<=n)&&decide (n<=m)&&decide (m*((P.info? e).map (·.bytes)).getD 0<=1099511627776)&&decide (m<=1099511627776))
            (Iw P e fun z=>K (.view d (Bx P e) 0 n.toNat) [] [(d,.ar false (Xj n.toNat z))])
      |_=>none
  |.slice t x lo hi mx=>
      match mx with
      |none=>Af3 P rdf t (C4 tm x) (lo.map (C4 tm)) (hi.map (C4 tm)) fun v=>K v [] []
      |some _=>none
  |.fieldAddr t x f=>Fe (Vd P t f) fun q=>Ay (Nat.ble 1 (Bx P q.2)) (Yz (C4 tm x) q.1 fun p=>K p [] [])
  |.field t x f=>Fe (Vd P t f) fun q=>Ay (Lf P q.2)<|C3 (C4 tm x) fun cs=>Ud (J3 P q.2) cs q.1 fun c=>mkV (Da P q.2) c fun v=>K v [] []
  |.indexAddr t x i=>Ek (C4 tm i) fun _ n=>Nw P t (C4 tm x) n fun p=>K p [] []
  |.index t x i=>Ek (C4 tm i) fun _ n=>
      match P.underlying t with
      |some .string=>Cn (C4 tm x) fun s=>Ay (decide (0<=n)) (Fe (s.data.toList[n.toNat]?) fun b=>K (.sc (.int .u8 b.toNat)) [] [])
      |some (.array len e)=>C3 (C4 tm x) fun cs=>Ay (decide (0<=n)&&decide (n<len)&&Lf P e) (Ud (J3 P e) cs (n.toNat*Bx P e) fun c=>mkV (Da P e) c fun v=>K v [] [])
      |_=>none
  |.extract x i=>
      match C4 tm x with
      |.tup vs=>Fe vs[i]? fun p=>K p [] []
      |_=>none
  |.call c=>
      match c.callee with
      |.builtin .len=>Ab c.args.toList fun x _=>Ab c.argTypes.toList fun t _=>Ayd P t (C4 tm x) fun n=>K (.sc (.int .i64 n)) [] []
      |.builtin .cap=>Ab c.args.toList fun x _=>Ab c.argTypes.toList fun t _=>A0g P t (C4 tm x) fun n=>K (.sc (.int .i64 n)) [] []
      |.builtin .min=>Ab c.args.toList fun x r=>Ab r fun y r'=>Ac r' (A4l (C4 tm x) (C4 tm y) fun v=>K v [] [])
      |.builtin .max=>Ab c.args.toList fun x r=>Ab r fun y r'=>Ac r' (A5q (C4 tm x) (C4 tm y) fun v=>K v [] [])
      |.builtin .append=>Ay (Adc c) (Fe o.dst fun d=>Ab c.args.toList fun _ r=>Ab r fun x r'=>Ac r' (Ab c.argTypes.toList fun t u=>Ab u fun tx _=>Z2 P rdaf d t tx (C4 tm x) fun v nw=>K v [] nw))
      |.value (.func f)=>Alg C P N call tm rdaf o c f K
      |.value (.tmp t)=>fvK (tm t) fun f=>Alg C P N call tm rdaf o c f K
      |_=>none
  |_=>none
def V8 (C:J4)(P:Program)(o:Op):Bool:=
 match o with
 |.store .. =>true
 |.call c=>
  match c.callee with
  |.builtin .append=> !Adc c
  |.builtin .copy=>true
  |.builtin _=>false
  |.value (.func f)=>((Akr P f c).any fun t=>(Ae6 P t).isSome)||((Akr P f c).zipIdx.any fun q=>C.mvd f q.2||C.lnd f q.2)
  |_=>false
 |_=>false
def Yu (b:Cp):Cp:=
 match b with
 |.ar _ c=>.ar true c
 |b=>b
def Aw (hp:Nat->Option Cp)(ids:List Nat):Nat->Option Cp:=fun i=>bif ids.any (Nat.beq i) then (hp i).map Yu else hp i
def Bf (hp:Nat->Option Cp):List (Nat × Cp)->Nat->Option Cp
 |[]=>hp
 |(i,b)::r=>Bf (Dl hp i (some b)) r
def Cs (hp:Nat->Option Cp):List (Nat × Cp)->Bool
 |[]=>true
 |(i,_)::r=>(hp i).isNone && !(r.any fun q=>Nat.beq q.1 i)&&Cs hp r
def Ch (tm:Nat->PV)(d:Option Tmp)(v:PV):Nat->PV:=
 match d with
 |some i=>Dl tm i v
 |none=>tm
def H4 (N:Nat)(d:Option Tmp):Bool:=
 match d with
 |some i=>Nat.blt i N
 |none=>true
def Agn (N:Nat)(s:St)(d:Option Tmp)(v:PV)(fz:List Nat)(nw:List (Nat × Cp)) (K:St->Option R):Option R:=
 Ay (H4 N d&&Cs s.hp nw) (K ⟨Ch s.tm d v,Bf (Aw s.hp fz) nw⟩)
def Age (P:Program)(s:St)(t:TypeId)(a x:PV)(K:St->Option R):Option R:=
 match a with
 |.ptr id off=>
  match s.hp id with
  |some (.st c)=>Ay (Lf P t&&Nat.beq (cellsOf x).length (J3 P t).length&&decide (off+(J3 P t).length<=c.length)) (Ud (J3 P t) (cellsOf x) 0 fun cs=>Aa (Cb c cs off) fun c=>K ⟨s.tm,Dl s.hp id (some (.st c))⟩)
  |some (.ar false c)=>Ay (Lf P t&&decide (off+(J3 P t).length<=c.length)) (Ru (My s.hp) (J3 P t) (cellsOf x) fun cs m=>Ay (!m.any (Nat.beq id)) (Aa (Cb c cs off) fun c=>K ⟨s.tm,Dl (Aw s.hp m) id (some (.ar false c))⟩))
  |_=>none
 |_=>none
def Adz (P:Program)(t:TypeId):Bool:=
 match P.underlying t with
 |some (.int _)=>true
 |_=>false
def Y3 (P:Program)(N:Nat)(s:St)(d:Nat)(e:TypeId)(b x:PV)(K:St->Option R):Option R:=
 Ek x fun _ n=>Iz (Bx P e) b fun z _ _=>
  Ay (z&&Nat.blt d N&&(s.hp d).isNone&&decide (0<=n)&&decide (n.toNat*((P.info? e).map (·.bytes)).getD 0<=1099511627776)&&decide (n<=1099511627776))
   (K ⟨Dl s.tm d (.view d (Bx P e) 0 n.toNat),Dl s.hp d (some (.ar false []))⟩)
def Tr (P:Program)(N:Nat)(s:St)(d:Nat)(t tx:TypeId)(b x:PV)(K:St->Option R):Option R:=
 match P.underlying t with
 |some (.slice e)=>Ay (Ao8 P e) <|
  bif Adz P tx then Y3 P N s d e b x K else
  Avf P s (Bx P e) tx x fun m new=>
  match b with
  |.view id es off n=>
   match s.hp id with
   |some (.ar false c)=>
    Ay (Nat.beq es (Bx P e)&&Nat.beq off 0&&Nat.blt d N&&(s.hp d).isNone&&decide (n*es<=c.length)&&decide (new.length=m*es)
     && decide ((n+m)*((P.info? e).map (·.bytes)).getD 0<=1099511627776)&&decide (n+m<=1099511627776))
     (Aa (n+m) fun n'=>Aa (c.take (n*es)++new) fun c=>K ⟨Dl s.tm d (.view d es 0 n'),Dl (Dl s.hp id (some .mv)) d (some (.ar false c))⟩)
   |_=>none
  |b=>Iz (Bx P e) b fun z _ _=>
    Ay (z&&Nat.blt d N&&(s.hp d).isNone&&decide (new.length=m*Bx P e)&&decide (m*((P.info? e).map (·.bytes)).getD 0<=1099511627776)&&decide (m<=1099511627776))
     (K ⟨Dl s.tm d (.view d (Bx P e) 0 m),Dl s.hp d (some (.ar false new))⟩)
 |_=>none
def Anu (P:Program)(N:Nat)(s:St)(d:Option Tmp)(t tx:TypeId)(b x:PV)(K:St->Option R):Option R:=
 match P.underlying t with
 |some (.slice e)=>Ay (Ajy P e&&H4 N d) <|
  Avf P s (Bx P e) tx x fun m new=>
  match b with
  |.view id es off n=>
   match s.hp id with
   |some (.ar false c)=>Ay (Nat.beq es (Bx P e)&&decide (off+n*es<=c.length)&&decide (new.length=m*es))
     (Aa (min m n) fun k=>Aa (Cb c (new.take (k*es)) off) fun c=>K ⟨Ch s.tm d (.sc (.int .i64 k)),Dl s.hp id (some (.ar false c))⟩)
   |_=>none
  |_=>none
 |_=>none
def Ayp (mv:Bool)(hp:Nat->Option Cp)(t:CT)(p:PV)(K:PV->List Nat->List Nat->Option R):Option R:=
 match t with
 |.sl es=>
  bif mv then
   match p with
   |.view id es' off n=>
    match hp id with
    |some (.ar false c)=>
     bif Nat.beq es' es&&Nat.beq off 0 then Ay (decide (n*es<=c.length)) (K (.own es n (c.take (n*es))) [] [id])
     else Sn (My hp) (.sl es) (.view id es' off n) fun c m=>K c m []
    |_=>Sn (My hp) (.sl es) (.view id es' off n) fun c m=>K c m []
   |p=>Iz es p fun z n c=>bif z then K (.own es 0 []) [] [] else K (.lst false es n c) [] []
  else Sn (My hp) (.sl es) p fun c m=>K c m []
 |t=>tcK t p fun c=>K c [] []
def Ag1 (mv:Bool)(hp:Nat->Option Cp):List CT->List PV->(List PV->List Nat->List Nat->Option R)->Option R
 |[],[],K=>K [] [] []
 |t::ts,p::ps,K=>Ayp mv hp t p fun c m x=>Ag1 mv hp ts ps fun cs ms xs=>K (c::cs) (m++ms) (x++xs)
 |_,_,_=>none
inductive Im where
 |var (id off:Nat) (cts:List CT) (ws:List PV)
 |row (id:Nat)
 |none
def Im.ids:Im->List Nat
 |.var id _ _ _=>[id]
 |.row id=>[id]
 |.none=>[]
def A8w (P:Program)(t:TypeId):Option TypeId:=
 match P.underlying t with
 |some (.slice e)=>some e
 |_=>none
def A1c (hp:Nat->Option Cp)(es:Nat)(p:PV)(K:PV->List Im->Option R):Option R:=
 match p with
 |.view id es' off n=>
  match hp id with
  |some (.ar false c)=>Ay (Nat.beq es' es&&Nat.beq off 0) (K (.tup [.own es n c]) [.row id])
  |_=>none
 |p=>Iz es p fun z _ _=>Ay z (K (.tup [.own es 0 []]) [.none])
def Agk (C:J4)(P:Program)(f:FuncId)(hp:Nat->Option Cp)(i:Nat)(t:TypeId)(p:PV)(K:PV->List Nat->List Nat->List Im->Option R):Option R:=
 match Ae6 P t with
 |some e=>
  match p with
  |.ptr id off=>
   match hp id with
   |some (.st c)=>Ay (Lf P e&&decide (off+(J3 P e).length<=c.length)) (Ag1 (C.mvd f i) hp (J3 P e) ((c.drop off).take (J3 P e).length) fun cs m x=>K (.pbox cs) m x [.var id off (J3 P e) cs])
   |_=>none
  |_=>none
 |none=>
  bif C.lnd f i then Fe (A8w P t) fun e=>A1c hp (Bx P e) p fun v l=>K v [] [] l
  else bif Da P t then C3 p fun ps=>Ag1 (C.mvd f i) hp (J3 P t) ps fun cs m x=>K (.agg cs) m x []
  else Ag1 (C.mvd f i) hp (J3 P t) [p] fun cs m x=>Ab cs fun c r=>Ac r (K c m x [])
def Anl (C:J4)(P:Program)(f:FuncId)(hp:Nat->Option Cp):Nat->List TypeId->List PV->(List PV->List Nat->List Nat->List Im->Option R)->Option R
 |_,[],[],K=>K [] [] [] []
 |i,t::ts,p::ps,K=>Agk C P f hp i t p fun v m x l=>Anl C P f hp (i+1) ts ps fun vs ms xs ls=>K (v::vs) (m++ms) (x++xs) (l++ls)
 |_,_,_,_=>none
def Zq (hp:Nat->Option Cp)(ids:List Nat):Nat->Option Cp:=fun i=>bif ids.any (Nat.beq i) then (hp i).map (fun _=>Cp.mv) else hp i
def nid (N t:Nat):Nat:=N*(1000+t)
def Atp (N:Nat)(hp:Nat->Option Cp):Nat->Nat->Nat
 |0,t=>t
 |k+1,t=>bif (hp (nid N t)).isNone then t else Atp N hp k (t+1)
def Axx (N t:Nat)(ct:CT)(was p:PV)(K:Nat->PV->List (Nat × Cp)->Option R):Option R:=
 match ct with
 |.sl es=>
  match was with
  |.own _ _ _=>Dp es p fun n c=>K (t+1) (.view (nid N t) es 0 n) [(nid N t,.ar false c)]
  |_=>Iz es p fun _ n c=>K t (.lst false es n c) []
 |ct=>tcK ct p fun c=>K t c []
def Anm (N:Nat):Nat->List CT->List PV->List PV->(Nat->List PV->List (Nat × Cp)->Option R)->Option R
 |t,[],[],ps,K=>Ac ps (K t [] [])
 |t,ct::cts,w::ws,ps,K=>Ab ps fun p ps=>Axx N t ct w p fun t' c b=>Anm N t' cts ws ps fun t'' cs bs=>K t'' (c::cs) (b++bs)
 |_,_,_,_,_=>none
def Ace (N:Nat):Nat->List Im->List (List PV)->(Nat->Option Cp)->((Nat->Option Cp)->List (Nat × Cp)->Option R)->Option R
 |_,[],ro,hp,K=>Ac ro (K hp [])
 |t,.var id off cts ws::l,ro,hp,K=>Ab ro fun cs ro=>Anm N t cts ws cs fun t' cs' bs=>
   match hp id with
   |some (.st c)=>Aa (Cb c cs' off) fun c=>Ace N t' l ro (Dl hp id (some (.st c))) fun hp' bs'=>K hp' (bs++bs')
   |_=>none
 |t,.row id::l,ro,hp,K=>Ab ro fun cs ro=>Ace N t l ro (Dl hp id (some (.ar false cs))) K
 |t,.none::l,ro,hp,K=>Ab ro fun _ ro=>Ace N t l ro hp K
def Fd:List Nat->Bool
 |[]=>true
 |a::r=> !(r.any (Nat.beq a))&&Fd r
def Afq (C:J4)(P:Program)(N:Nat)(call:Aq)(s:St)(o:Oper)(f:FuncId)(c:Call)(K:St->Option R):Option R:=
 Anl C P f s.hp 0 (Akr P f c) (c.args.toList.map (C4 s.tm)) fun vs m x l=>
  Ay (Fd (l.flatMap Im.ids++x)&&m.all (fun i=> !((l.flatMap Im.ids++x).any (Nat.beq i)))&&Nat.blt 0 N&&H4 N o.dst) <|
  Aj (call f (Md (C.kz f) c.args.toList vs)) fun rv ro=>
   Ahb P (C.shr f) N (o.dst.getD N) (Rr P o.type) rv fun ws bs=>
    Ay (bif Tg P o.type then !Nat.beq ws.length 1 else Nat.beq ws.length 1) <|
    Bb4 (Atp N s.hp 100 0) fun t0=>Ace N t0 l ro (Zq (Aw s.hp m) x) fun hp' bs'=>
     Ay (Cs hp' (bs++bs')) (K ⟨Ch s.tm o.dst (Q9 ws (Tg P o.type)),Bf hp' (bs++bs')⟩)
def Aam (C:J4)(P:Program)(N:Nat)(call:Aq)(s:St)(o:Oper)(K:St->Option R):Option R:=
 match o.op with
 |.store t a x=>Ay (o.dst.isNone) (Age P s t (C4 s.tm a) (C4 s.tm x) K)
 |.call c=>
  match c.callee with
  |.builtin .append=>Fe o.dst fun d=>Ab c.args.toList fun b r=>Ab r fun x r'=>Ac r' (Ab c.argTypes.toList fun t u=>Ab u fun tx _=>Tr P N s d t tx (C4 s.tm b) (C4 s.tm x) K)
  |.builtin .copy=>Ab c.args.toList fun b r=>Ab r fun x r'=>Ac r' (Ab c.argTypes.toList fun t u=>Ab u fun tx _=>Anu P N s o.dst t tx (C4 s.tm b) (C4 s.tm x) K)
  |.value (.func f)=>Afq C P N call s o f c K
  |_=>none
 |_=>none
def Atg (C:J4)(P:Program)(N:Nat)(call:Aq)(o:Oper)(s:St)(K:St->Option R):Option R:=
 bif V8 C P o.op then Aam C P N call s o K
 else Akk C P N call s.tm (rd s.hp) (My s.hp) o fun v fz nw=>Agn N s o.dst v fz nw K
def Ej (C:J4)(P:Program)(N:Nat)(call:Aq)(ops:Array Oper)(o:Oper)(s:St)(K:St->Option R):Option R:=
 match o.guard with
 |none=>Atg C P N call o s K
 |some (j,want)=>
  match (ops[j]?).bind (·.dst) with
  |none=>none
  |some d=>
   match s.tm d with
   |.sc (.bool b)=>
    A4 b (bif want then Atg C P N call o ⟨Dl s.tm d (.sc (.bool true)),s.hp⟩ K else Ay (H4 N o.dst) (K ⟨Ch (Dl s.tm d (.sc (.bool true))) o.dst (.sc undef),s.hp⟩))
     (bif want then Ay (H4 N o.dst) (K ⟨Ch (Dl s.tm d (.sc (.bool false))) o.dst (.sc undef),s.hp⟩) else Atg C P N call o ⟨Dl s.tm d (.sc (.bool false)),s.hp⟩ K)
   |.sc (.tuple _)=>Ay (H4 N o.dst) (K ⟨Ch s.tm o.dst (.sc undef),s.hp⟩)
   |_=>none
def S4 (C:J4)(P:Program)(N:Nat)(call:Aq)(ops:Array Oper):List Oper->St->(St->Option R)->Option R
 |[],s,K=>K s
 |o::r,s,K=>Ej C P N call ops o s fun s'=>S4 C P N call ops r s' K
noncomputable def Abm (x y:Option R):Option R:=open Classical in if x=y then x else none
noncomputable def Avo (ops:Array Oper)(o:Oper)(s:St)(F:St->Option R):Option R:=
 match o.guard with
 |none=>F s
 |some (j,_)=>
  match (ops[j]?).bind (·.dst) with
  |none=>F s
  |some d=>
   match s.tm d with
   |.ub=>Abm (F ⟨Dl s.tm d (.sc (.bool true)),s.hp⟩) (F ⟨Dl s.tm d (.sc (.bool false)),s.hp⟩)
   |_=>F s
noncomputable def Ap7 (C:J4)(P:Program)(N:Nat)(call:Aq)(ops:Array Oper):List Oper->St->(St->Option R)->Option R
 |[],s,K=>K s
 |o::r,s,K=>Avo ops o s fun s1=>Ej C P N call ops o s1 fun s'=>Ap7 C P N call ops r s' K
end
def A3a (o:Oper):List Nat:=o.op.operands.toList.filterMap fun x=>match x with | .tmp t=>some t|_=>none
def looks (ops:Array Oper)(o:Oper):List Nat:=
 A3a o++(match o.guard with|some (g,_)=>((ops[g]?).bind (·.dst)).toList|none=>[])
def Jk (P:Program)(o:Op):Bool:=
 match o with
 |.slice t .. =>match P.underlying t with|some (.array _ _)=>true|_=>false
 |.buildSlice t _ _=>match P.underlying t with|some (.slice e)=>L5 P [e]|_=>true
 |.convert _ dst _=>match P.underlying dst with|some .string=>true|_=>false
 |.alloc _ | .box .. | .makeSlice .. =>false
 |.move _ | .assign _ | .pick .. | .build .. | .binOp .. | .unOp .. | .fieldAddr .. | .field .. | .index .. | .indexAddr .. | .extract .. | .nilCheck _=>false
 |.call c=>match c.callee with | .builtin .len=>false | .builtin .min=>false | .builtin .max=>false|_=>true
 |_=>true
def Ai9 (C:J4)(P:Program)(ops:Array Oper)(x y:Oper):Bool:=
 (match x.dst with|some d=>(looks ops y).any (Nat.beq d)||(match y.dst with|some e=>Nat.beq d e|none=>false)|none=>false) ||
 (match y.dst with|some e=>(looks ops x).any (Nat.beq e)|none=>false) ||
 (V8 C P x.op&&Jk P y.op)||(V8 C P y.op&&Jk P x.op)
def Mm (ops:List Oper):List Nat->List Nat
 |acc=>match ops with
  |[]=>acc
  |o::r=>Mm r (acc++[o.after.toList.foldl (fun s e=>bif Region.binds .any e then s ||| 2 ^ e.on ||| acc.getD e.on 0 else s) 0])
def Aij (C:J4)(P:Program)(ops:Array Oper)(bs:List Nat):List Oper->Nat->Bool
 |[],_=>true
 |o::r,i=>(ops.toList.zipIdx.all fun q=> !Nat.blt q.2 i || !Ai9 C P ops q.1 o||(bs.getD i 0).testBit q.2)&&Aij C P ops bs r (i+1)
def Arx (C:J4)(P:Program)(ops:Array Oper):Bool:=
 ops.toList.zipIdx.all (fun q=>q.1.after.toList.all fun e=> !Region.binds .any e||Nat.blt e.on q.2)&&Aij C P ops (Mm ops.toList []) ops.toList 0
def Bd:PV->List Nat
 |.view id _ _ _=>[id]
 |.ptr id _=>[id]
 |_=>[]
def Dg:PV->List Nat
 |.agg cs=>cs.flatMap Bd
 |p=>Bd p
def Cv:PV->List Nat
 |.tup ps=>ps.flatMap Dg
 |p=>Dg p
def Y4 (P:Program)(o:Op):Bool:=
 match o with
 |.load .. =>true
 |.convert _ dst _=>(match P.underlying dst with|some .string=>true|_=>false)
 |_=>false
def Sb (o:Op):Bool:=
 match o with
 |.call c=>(match c.callee with | .builtin .append=> !Adc c|_=>false)
 |_=>false
def A2p (ops:Array Oper)(x y:Oper):Bool:=
 (match x.dst with|some d=>(looks ops y).any (Nat.beq d)||(match y.dst with|some e=>Nat.beq d e|none=>false)|none=>false) ||
 (match y.dst with|some e=>(looks ops x).any (Nat.beq e)|none=>false)
def Wd (C:J4)(P:Program)(x y:Oper):Bool:=(V8 C P x.op&&Jk P y.op)||(V8 C P y.op&&Jk P x.op)
def Nh (C:J4)(P:Program)(x y:Oper):Bool:=(V8 C P x.op&&Y4 P y.op)||(V8 C P y.op&&Y4 P x.op)||(Sb x.op&&Sb y.op)
def A00 (C:J4)(P:Program)(ops:Array Oper)(x y:Oper):Bool:=A2p ops x y||(Wd C P x y && !Nh C P x y)
def Aeg (C:J4)(P:Program)(ops:Array Oper)(bs:List Nat):List Oper->Nat->Bool
 |[],_=>true
 |o::r,i=>(ops.toList.zipIdx.all fun q=> !Nat.blt q.2 i || !A00 C P ops q.1 o||(bs.getD i 0).testBit q.2)&&Aeg C P ops bs r (i+1)
def Ap6 (C:J4)(P:Program)(ops:Array Oper):Bool:=
 ops.toList.zipIdx.all (fun q=>q.1.after.toList.all fun e=> !Region.binds .any e||Nat.blt e.on q.2)&&Aeg C P ops (Mm ops.toList []) ops.toList 0
def Qa (C:J4)(P:Program)(s:St)(o:Oper):List Nat:=
 let l:=o.op.operands.toList.flatMap fun y=>Cv (C4 s.tm y)
 bif V8 C P o.op && !Sb o.op then l++l.flatMap (fun i=>match s.hp i with|some (.st c)=>c.flatMap Bd|_=>[])
 else bif Y4 P o.op||Sb o.op then l else []
def Azy (a b:List Nat):Bool:=a.all fun i=> !b.any (Nat.beq i)
def Aeo (C:J4)(P:Program)(ops:Array Oper)(bs:List Nat)(i:Nat)(o:Oper):List Nat:=
 (ops.toList.zipIdx.filter fun q=>Nh C P q.1 o && !(Nat.blt q.2 i&&(bs.getD i 0).testBit q.2) && !(Nat.blt i q.2&&(bs.getD q.2 0).testBit i)).map (·.2)
def Aj1 (C:J4)(P:Program)(ops:Array Oper)(bs:List Nat):List (List Nat):=ops.toList.zipIdx.map fun q=>Aeo C P ops bs q.2 q.1
def rch (C:J4)(P:Program)(sm:List (List Nat)) (s:St)(i:Nat)(o:Oper):List Nat:=
 match sm.getD i [] with
 |[]=>[]
 |_::_=>Qa C P s o
def Amb (C:J4)(P:Program)(sm:List (List Nat)) (s:St)(i:Nat)(o:Oper)(q:Nat × Oper × List Nat):Bool:=
 !((sm.getD i []).any (Nat.beq q.1))||Azy q.2.2 (rch C P sm s i o)
def Kr {R:Type}(C:J4)(P:Program)(N:Nat)(call:Aq)(ops:Array Oper)(sm:List (List Nat)):List (Nat × Oper × List Nat)->List Nat->St->(St->Option R)->Option R
 |_,[],s,K=>K s
 |dn,i::l,s,K=>Fe ops[i]? fun o=>Ay (dn.all (Amb C P sm s i o)&&(rch C P sm s i o).all (fun k=>(s.hp k).isSome)) (Ej C P N call ops o s fun s'=>Kr C P N call ops sm ((i,o,rch C P sm s i o)::dn) l s' K)
def A3k (m i:Nat):Nat:=m ||| 2 ^ i
def A9n (m i:Nat):Nat:=bif m.testBit i then m ^^^ 2 ^ i else m
def Axu (ops:Array Oper):List Oper->Nat->Nat
 |[],m=>m
 |o::r,m=>
  let m1:=Axu ops r m
  let m2:=match o.dst with|some d=>A9n m1 d|none=>m1
  (looks ops o).foldl A3k m2
def Vo:Code->Nat->(Nat->Nat)->Nat->Nat
 |.skip,ln,_,_=>ln
 |.region _ ops _,ln,_,_=>Axu ops ops.toList ln
 |.seq a b,ln,lx,lr=>Vo a (Vo b ln lx lr) lx lr
 |.cond c a b,ln,lx,lr=>let m:=Vo a ln lx lr ||| Vo b ln lx lr;match c with | .tmp d=>A3k m d|_=>m
 |.block id c,ln,lx,lr=>Vo c ln (fun j=>bif Nat.beq j id then ln else lx j) lr
 |.loop c,_,lx,lr=>Vo c (Vo c 0 lx lr) lx lr
 |.exit id,_,lx,_=>lx id
 |.ret,_,_,lr=>lr
 |_,_,_,_=>0
def A20 (ops:List Oper):List Nat:=(ops.filterMap fun o=>o.guard.map (·.1)).eraseDups
def Abj:Code->Nat
 |.region _ _ _=>1
 |.seq a b=>Abj a+Abj b
 |.cond _ a b=>Abj a+Abj b
 |.block _ c=>Abj c
 |.loop c=>Abj c
 |_=>0
def Amr:Code->Nat
 |.skip=>1
 |.region _ ops _=>2 ^ min 6 (A20 ops.toList).length
 |.seq a b=>bif (Nat.ble 7 (Amr a)&&Nat.ble 6 (Abj b))||(Nat.ble 5 (Amr a)&&Nat.ble 9 (Abj b)) then Amr b else min 1000 (Amr a*Amr b)
 |.cond _ a b=>Amr a+Amr b
 |.block _ c=>Amr c
 |.loop _=>1
 |.exit _=>1
 |_=>0
def A6x (P:Program)(o:Oper):Bool:=
 match o.op with
 |.load t _=>Ze P t&&Nat.ble 8 (Bx P t)
 |.store t _ _=>Ze P t&&Nat.ble 8 (Bx P t)
 |_=>false
def Atk (P:Program):Code->Bool
 |.region _ ops _=>ops.toList.any (A6x P)
 |.seq a _=>Atk P a
 |_=>false
def Awj (P:Program):Code->Bool
 |.region _ ops _=>ops.toList.any (A6x P)
 |.seq _ b=>Awj P b
 |_=>false
def A25 (P:Program)(a b:Code):Bool:=(Nat.ble 7 (Amr a)&&Nat.ble 6 (Abj b))||(Nat.ble 5 (Amr a)&&Nat.ble 9 (Abj b))||Atk P b||Awj P a
def Za (m:Nat):Nat->List Nat
 |0=>[]
 |n+1=>Za m n++(bif m.testBit n then [n] else [])
def lk (l:List (Nat × PV)) (i:Nat):PV:=
 match l with
 |[]=>.top
 |(j,p)::r=>bif Nat.beq i j then p else lk r i
def Gf (l:List (Nat × Cp)) (i:Nat):Option Cp:=
 match l with
 |[]=>none
 |(j,b)::r=>bif Nat.beq i j then some b else Gf r i
def lkn (l:List (Nat × Nat)) (i:Nat):Option Nat:=
 match l with
 |[]=>none
 |(j,b)::r=>bif Nat.beq i j then some b else lkn r i
def Aqw (s:St)(i:Nat):St:=
 match s.tm i with
 |.lst true es 0 []=>bif (s.hp i).isNone then ⟨Dl s.tm i (.view i es 0 0),Dl s.hp i (some (.ar false []))⟩ else s
 |_=>s
def Apl (N:Nat)(id:Nat)(s:St)(j:Nat):St:=
 match s.hp id with
 |some (.st c)=>
  match c[j]? with
  |some (.lst true es 0 [])=>bif (s.hp (id+N*(j+1))).isNone then ⟨s.tm,Dl (Dl s.hp id (some (.st (c.set j (.view (id+N*(j+1)) es 0 0))))) (id+N*(j+1)) (some (.ar false []))⟩ else s
  |_=>s
 |_=>s
def Auz (N:Nat)(s:St)(i:Nat):St:=
 match s.tm i with
 |.ptr id _=>
  match s.hp id with
  |some (.st c)=>(List.range c.length).foldl (Apl N id) s
  |_=>s
 |_=>s
def Ana (m:List (Nat × Nat)) (old new:Nat):List (Nat × Nat):=
 match lkn m old with
 |some _=>m
 |none=>m++[(old,new)]
def Wz (N new:Nat):List PV->Nat->List (Nat × Nat)->List (Nat × Nat)
 |[],_,m=>m
 |.view id _ _ _::r,j,m=>Wz N new r (j+1) (Ana m id (new+N*(j+1)))
 |_::r,j,m=>Wz N new r (j+1) m
def Ail (N:Nat)(s:St)(m:List (Nat × Nat)) (i:Nat):List (Nat × Nat):=
 match s.tm i with
 |.view id _ _ _=>Ana m id i
 |.ptr id _=>
  match lkn m id with
  |some _=>m
  |none=>
   match s.hp id with
   |some (.st c)=>Wz N i c 0 (Ana m id i)
   |_=>Ana m id i
 |.agg c=>Wz N i c 0 m
 |_=>m
def Au7 (m:List (Nat × Nat)):PV->PV
 |.view id es off n=>match lkn m id with|some j=>.view j es off n|none=>.top
 |.ptr id off=>match lkn m id with|some j=>.ptr j off|none=>.top
 |.sc v=>.sc v
 |.lst z es n c=>.lst z es n c
 |.iptr c off=>.iptr c off
 |_=>.top
def Azo (m:List (Nat × Nat)):PV->PV
 |.agg c=>.agg (c.map (Au7 m))
 |p=>Au7 m p
def A45 (m:List (Nat × Nat)):Cp->Cp
 |.st c=>.st (c.map (Au7 m))
 |b=>b
def Eg (N i:Nat):Nat:=i+N*2000
def Asp (N:Nat)(hp:Nat->Option Cp):Nat->List (Nat × Nat)
 |0=>[]
 |i+1=>bif (hp (Eg N i)).isSome then Asp N hp i++[(Eg N i,Eg N i)] else Asp N hp i
def Zo (N:Nat)(hp:Nat->Option Cp):Nat->List (Nat × Nat)->List (Nat × Nat)
 |0,m=>m
 |i+1,m=>
  match hp (Eg N i) with
  |some (.st c)=>Wz N (Eg N i) c 0 (Zo N hp i m)
  |_=>Zo N hp i m
def Bag (N:Nat)(hp:Nat->Option Cp)(k:Nat):List (Nat × Nat):=Zo N hp k (Asp N hp k)
def Qe (m:List (Nat × Nat)) (hp:Nat->Option Cp):List (Nat × Nat)->List (Nat × Cp)
 |[]=>[]
 |(old,new)::r=>match hp old with
  |some b=>(new,A45 m b)::Qe m hp r
  |none=>Qe m hp r
section
variable {R:Type}
def A6g (N:Nat)(ls:List Nat)(s:St)(K:St->Option R):Option R:=
 let s1:=ls.foldl Aqw s
 let s2:=ls.foldl (Auz N) s1
 let m:=ls.foldl (Ail N s2) (Bag N s2.hp 8)
 Ay (Fd (m.map (·.1))&&Fd (m.map (·.2))) (K ⟨lk (ls.map fun i=>(i,Azo m (s2.tm i))),Gf (Qe m s2.hp m)⟩)
def Abh (N L:Nat)(s:St)(K:St->Option R):Option R:=A6g N (Za L N) s K
def A3d (F:(St->Option R)->St->Option R) (nm:St->(St->Option R)->Option R):Nat->St->Option R
 |0,_=>none
 |n+1,s=>F (fun s'=>nm s' (A3d F nm n)) s
def Aru (n:Nat)(F:St->Option R)(s:St):Option R:=
 match n with
 |0=>none
 |_+1=>F s
noncomputable def A08 (s:St)(c:Operand)(kt kf:St->Option R):Option R:=
 match c with
 |.tmp d=>
  match s.tm d with
  |.sc (.bool b)=>A4 b (kt ⟨Dl s.tm d (.sc (.bool true)),s.hp⟩) (kf ⟨Dl s.tm d (.sc (.bool false)),s.hp⟩)
  |.ub=>Abm (kt s) (kf s)
  |_=>none
 |.const (.bool true)=>kt s
 |.const (.bool false)=>kf s
 |_=>none
noncomputable def Wx (C:J4)(P:Program)(fu N:Nat)(call:Aq):Code->Nat->(Nat->Nat)->Nat->(St->Option R)->(Nat->St->Option R)->(St->Option R)->St->Option R
 |.skip,_,_,_,kn,_,_,s=>kn s
 |.region _ ops draw,_,_,_,kn,_,_,s=>Aym (draw && !Arx C P ops) (Ay (Ap6 C P ops) (A6t (Aj1 C P ops (Mm ops.toList [])) fun sm=>Kr C P N call ops sm [] (List.range ops.size) s kn)) (Aym draw (S4 C P N call ops ops.toList s kn) (Ap7 C P N call ops ops.toList s kn))
 |.seq a b,ln,lx,lr,kn,kx,kr,s=>Wx C P fu N call a (Vo b ln lx lr) lx lr (fun s'=>Aym (A25 P a b) (Abh N (Vo b ln lx lr) s' (Aru fu fun s''=>Wx C P fu N call b ln lx lr kn kx kr s'')) (Wx C P fu N call b ln lx lr kn kx kr s')) kx kr s
 |.cond c a b,ln,lx,lr,kn,kx,kr,s=>A08 s c (Wx C P fu N call a ln lx lr kn kx kr) (Wx C P fu N call b ln lx lr kn kx kr)
 |.block id c,ln,lx,lr,kn,kx,kr,s=>Wx C P fu N call c ln (fun j=>bif Nat.beq j id then ln else lx j) lr kn (fun j s'=>bif Nat.beq j id then kn s' else kx j s') kr s
 |.loop c,ln,lx,lr,_,kx,kr,s=>
  Abh N (Vo (.loop c) ln lx lr) s (A3d (fun k s'=>Wx C P fu N call c (Vo (.loop c) ln lx lr) lx lr k kx kr s') (Abh N (Vo (.loop c) ln lx lr)) fu)
 |.exit id,_,_,_,_,kx,_,s=>kx id s
 |.ret,_,_,_,_,_,kr,s=>kr s
 |_,_,_,_,_,_,_,_=>none
def A1v (id:Nat)(t:CT)(p:PV)(K:PV->List (Nat × Cp)->Option R):Option R:=
 match t with
 |.sl es=>
  match p with
  |.own es' n c=>bif Nat.beq es' es then K (.view id es 0 n) [(id,.ar false c)] else none
  |p=>Iz es p fun z n c=>K (.lst z es n c) []
 |t=>tcK t p fun c=>K c []
def Ahc (N:Nat):Nat->List CT->List PV->(List PV->List (Nat × Cp)->Option R)->Option R
 |_,[],ps,K=>Ac ps (K [] [])
 |id,t::ts,ps,K=>Ab ps fun p ps=>A1v id t p fun c b=>Ahc N (id+N) ts ps fun cs bs=>K (c::cs) (b++bs)
def inK (P:Program)(N i:Nat)(t:TypeId)(p:PV)(K:PV->List (Nat × Cp)->Option R):Option R:=
 match Ae6 P t with
 |some e=>Adh p fun ps=>Ay (Nat.blt i 8) (Ahc N (Eg N i+N) (J3 P e) ps fun cs bs=>K (.ptr (Eg N i) 0) ((Eg N i,.st cs)::bs))
 |none=>
  match p with
  |.tup ps=>Fe (A8w P t) fun e=>Ay (Nat.blt i 8) (Ab ps fun q r=>Ac r (Dp (Bx P e) q fun n c=>K (.view (Eg N i) (Bx P e) 0 n) [(Eg N i,.ar false c)]))
  |p=>
   bif Da P t then C3 p fun ps=>Ahc N (i+N) (J3 P t) ps fun cs bs=>K (.agg cs) bs
   else Ahc N (i+N) (J3 P t) [p] fun cs bs=>Ab cs fun c r=>Ac r (K c bs)
def A11 (P:Program)(N:Nat):Nat->List TypeId->List PV->(List (Nat × PV)->List (Nat × Cp)->Option R)->Option R
 |_,[],ps,K=>Ac ps (K [] [])
 |i,t::ts,ps,K=>Ab ps fun p ps=>inK P N i t p fun v bs=>A11 P N (i+1) ts ps fun vs bs'=>K ((i,v)::vs) (bs++bs')
def A6h (hp:Nat->Option Cp)(t:CT)(p:PV)(K:PV->List Nat->List Nat->Option R):Option R:=
  match t with
  |.sl es=>
    match p with
    |.view id es' off n=>bif Nat.beq es' es&&Nat.beq off 0 then
        (match hp id with
         |some (.ar false c)=>Ay (decide (n*es<=c.length)) (K (.own es n (c.take (n*es))) [id] [])
         |_=>none) else none
    |p=>Iz es p fun z _ _=>Ay z (K (.own es 0 []) [] [])
  |t=>tcK t p fun c=>K c [] []
def Awh (shr:Bool)(hp:Nat->Option Cp)(t:CT)(p:PV)(K:PV->List Nat->List Nat->Option R):Option R:=
 bif shr then Sn (My hp) t p fun c m=>K c [] m else A6h hp t p K
def Afl (shr:Bool)(hp:Nat->Option Cp):List CT->List PV->(List PV->List Nat->List Nat->Option R)->Option R
 |[],[],K=>K [] [] []
 |t::ts,p::ps,K=>Awh shr hp t p fun c m z=>Afl shr hp ts ps fun cs ms zs=>K (c::cs) (m++ms) (z++zs)
 |_,_,_=>none
def A2e (P:Program)(shr:Bool)(hp:Nat->Option Cp)(t:TypeId)(p:PV)(K:PV->List Nat->List Nat->Option R):Option R:=
 match Ae6 P t with
 |some e=>
  match p with
  |.ptr id off=>
   match hp id with
   |some (.st c)=>Ay (Nat.beq off 0) (Afl shr hp (J3 P e) c fun cs m z=>K (.pbox cs) (id::m) z)
   |_=>none
  |_=>none
 |none=>
  bif Da P t then C3 p fun ps=>Afl shr hp (J3 P t) ps fun cs m z=>K (.agg cs) m z
  else Afl shr hp (J3 P t) [p] fun cs m z=>Ab cs fun c r=>Ac r (K c m z)
def A17 (P:Program)(s:St)(r:ResultVar)(K:PV->Option R):Option R:=
 match r with
 |.tmp t=>K (s.tm t)
 |.cell a t=>Ac9 P (rd s.hp) (My s.hp) t (s.tm a) K
def Aps (P:Program)(shr:Bool)(s:St):List ResultVar->List TypeId->(List PV->List Nat->List Nat->Option R)->Option R
 |[],[],K=>K [] [] []
 |r::rs,t::ts,K=>A17 P s r fun p=>A2e P shr s.hp t p fun v m z=>Aps P shr s rs ts fun vs ms zs=>K (v::vs) (m++ms) (z++zs)
 |_,_,_=>none
def Aim (hp:Nat->Option Cp):List CT->List PV->List PV->(List PV->List Nat->List Nat->Option R)->Option R
 |[],[],[],K=>K [] [] []
 |t::ts,w::ws,p::ps,K=>Awh (match w with | .own _ _ _=>false|_=>true) hp t p fun c m z=>Aim hp ts ws ps fun cs ms zs=>K (c::cs) (m++ms) (z++zs)
 |_,_,_,_=>none
def Afx (P:Program)(N:Nat)(hp:Nat->Option Cp):Nat->List TypeId->List PV->(List (List PV)->List Nat->List Nat->List Nat->Option R)->Option R
 |_,[],ps,K=>Ac ps (K [] [] [] [])
 |i,t::ts,ps,K=>Ab ps fun p ps=>
  match p with
  |.pbox ws=>Fe (Ae6 P t) fun e=>
    match hp (Eg N i) with
    |some (.st c)=>Aim hp (J3 P e) ws c fun cs m z=>Afx P N hp (i+1) ts ps fun r m' z' q=>K (cs::r) (m++m') (z++z') (Eg N i::q)
    |_=>none
  |.tup _=>
    match hp (Eg N i) with
    |some (.ar false c)=>Afx P N hp (i+1) ts ps fun r m' z' q=>K (c::r) m' z' (Eg N i::q)
    |_=>none
  |_=>Afx P N hp (i+1) ts ps K
def Axo (rs:List ResultVar):Nat:=rs.foldl (fun m r=>match r with | .tmp t=>A3k m t | .cell a _=>A3k m a) 0
end
def Ait (P:Program):Nat->List TypeId->Nat->Nat
 |_,[],m=>m
 |i,t::ts,m=>Ait P (i+1) ts (match P.underlying t with|some (.pointer _)=>A3k m i|_=>m)
def Azw (C:J4)(P:Program)(f:FuncId)(fn:Func)(args:List PV)(s:St):Option A0:=
 Aps P (C.shr f) s fn.results.toList fn.resultTypes.toList fun vs m z=>Afx P fn.ntmps s.hp 0 fn.params.toList args fun os m' z' q=>
  Ay (Fd ((m++m')++q)&&(z++z').all (fun i=> !(((m++m')++q).any (Nat.beq i)))) (some ⟨vs,os⟩)
noncomputable def A7f (C:J4)(P:Program)(fu:Nat)(call:Aq)(f:FuncId)(fn:Func)(c:Code)(args:List PV):Option A0:=
  A11 P fn.ntmps 0 fn.params.toList args fun tms bs=>Ay (Nat.ble args.length fn.ntmps&&Cs (fun _=>none) bs)
    (let lr:=Ait P 0 fn.params.toList (Axo fn.results.toList)
     Wx C P fu fn.ntmps call c lr (fun _=>0) lr (Azw C P f fn args) (fun _ _=>none) (Azw C P f fn args) ⟨lk tms,Gf bs⟩)
noncomputable def Ae (C:J4)(P:Program)(fu:Nat):Nat->FuncId->List PV->Option A0
 |0,_,_=>none
 |d+1,f,args=>
  match C.ext f with
  |some g=>g args
  |none=>
   match P.funcs[f]? with
   |none=>none
   |some fn=>match fn.body with
    |none=>none
    |some c=>A7f C P fu (Ae C P fu d) f fn c args
inductive Dir where
 |l
 |r
 |i (m:Nat)
section
variable {R:Type}
noncomputable def Abv (C:J4)(P:Program)(fu N:Nat)(call:Aq):List Dir->Code->Nat->(Nat->Nat)->Nat->(St->Option R)->(Nat->St->Option R)->(St->Option R)->Nat->St->Option R
 |[],.seq _ b,ln,lx,lr,kn,kx,kr,n,s=>Aru n (fun s''=>Wx C P fu N call b ln lx lr kn kx kr s'') s
 |[],.loop c,ln,lx,lr,_,kx,kr,n,s=>A3d (fun k s'=>Wx C P fu N call c (Vo (.loop c) ln lx lr) lx lr k kx kr s') (Abh N (Vo (.loop c) ln lx lr)) n s
 |.l::p,.seq a b,ln,lx,lr,kn,kx,kr,n,s=>Abv C P fu N call p a (Vo b ln lx lr) lx lr (fun s'=>Aym (A25 P a b) (Abh N (Vo b ln lx lr) s' (Aru fu fun s''=>Wx C P fu N call b ln lx lr kn kx kr s'')) (Wx C P fu N call b ln lx lr kn kx kr s')) kx kr n s
 |.r::p,.seq _ b,ln,lx,lr,kn,kx,kr,n,s=>Abv C P fu N call p b ln lx lr kn kx kr n s
 |.l::p,.cond _ a _,ln,lx,lr,kn,kx,kr,n,s=>Abv C P fu N call p a ln lx lr kn kx kr n s
 |.r::p,.cond _ _ b,ln,lx,lr,kn,kx,kr,n,s=>Abv C P fu N call p b ln lx lr kn kx kr n s
 |.l::p,.block id c,ln,lx,lr,kn,kx,kr,n,s=>Abv C P fu N call p c ln (fun j=>bif Nat.beq j id then ln else lx j) lr kn (fun j s'=>bif Nat.beq j id then kn s' else kx j s') kr n s
 |.i m::p,.loop c,ln,lx,lr,_,kx,kr,n,s=>
  Abv C P fu N call p c (Vo (.loop c) ln lx lr) lx lr
   (fun s'=>Abh N (Vo (.loop c) ln lx lr) s' (A3d (fun k s'=>Wx C P fu N call c (Vo (.loop c) ln lx lr) lx lr k kx kr s') (Abh N (Vo (.loop c) ln lx lr)) m)) kx kr n s
 |_,_,_,_,_,_,_,_,_,_=>none
end
noncomputable def Cw (C:J4)(P:Program)(fu:Nat)(call:Aq)(f:FuncId)(fn:Func)(c:Code)(args:List PV)(p:List Dir)(n:Nat)(s:St):Option A0:=
 let lr:=Ait P 0 fn.params.toList (Axo fn.results.toList)
 Abv C P fu fn.ntmps call p c lr (fun _=>0) lr (Azw C P f fn args) (fun _ _=>none) (Azw C P f fn args) n s
def A44:List Nat:=[
 1000000]
def A7a:List Nat:=[
 7,
 57,
 21,
 78,
 26,
 24,
 10,
 8,
 1000000]
def A62:List Nat:=[
 1000000]
def A66:List Nat:=[
 135,
 142,
 139,
 109,
 134,
 121,
 122,
 137,
 144,
 110,
 120,
 66,
 94,
 1000000]
def Akb (args:List PV):Option A0:=
 match args with
 |[.sc (.string s)]=>bif decide (s.size<=9223372036854775807) then some ⟨[.sc (.bool (Lib.validD s.data.toList))],[]⟩ else none
 |_=>none
def Y8 (args:List PV):Option A0:=
  match args with
  |[.lst _ 1 n c,.lst _ 1 m c']=>bif Nat.beq c.length n&&Nat.beq c'.length m then
      (match bytesOf c,bytesOf c' with
       |some a,some b=>some ⟨[.sc (.int .i64 (Lib.compareBytes a b))],[]⟩
       |_,_=>none) else none
  |_=>none
def A3z (f:FuncId):Option (List PV->Option A0):=
 bif Nat.beq f 67 then some Akb else
 bif Nat.beq f 143 then some Y8 else
 bif Nat.beq f 1000000 then some (fun _=>none) else none
def C0:J4:=⟨fun f=>A7a.any (Nat.beq f),fun f i=>Nat.beq i 0&&A66.any (Nat.beq f),fun f i=>Nat.beq i 0&&A62.any (Nat.beq f),fun f=>A44.any (Nat.beq f),fun f=>A3z f⟩
def B5 (f:Func):Code:=match f.body with|some c=>c|none=>.skip
section
variable {R:Type} {r:Option R}
theorem Am {k:IntKind}{p:PV}{K:Int->Option R}{n:Int}(h:p=.sc (.int k n)) (hk:K n=r):Af k p K=r:=by
 subst h;unfold Af;simp [hk]
theorem A9i {p:PV}{K:IntKind->Int->Option R}{k:IntKind}{n:Int}(h:p=.sc (.int k n)) (hk:K k n=r):Ek p K=r:=by
 subst h;exact hk
theorem Ar {p:PV}{K:Bool->Option R}{b:Bool}(h:p=.sc (.bool b)) (hk:K b=r):Bw p K=r:=by
 subst h;exact hk
theorem Ax {p:PV}{K:ByteArray->Option R}{s:ByteArray}(h:p=.sc (.string s)) (hk:K s=r):Cn p K=r:=by
 subst h;exact hk
theorem Bh {es:Nat}{p:PV}{K:Bool->Nat->List PV->Option R}{z:Bool}{n:Nat}{c:List PV}(h:p=.lst z es n c)(hk:K z n c=r):Iz es p K=r:=by
 subst h;unfold Iz;simp [Nat.beq_refl,hk]
theorem Az {es:Nat}{p:PV}{K:Nat->List PV->Option R}{n:Nat}{c:List PV}(h:p=.own es n c)(hk:K n c=r):Dp es p K=r:=by
 subst h;unfold Dp;simp [Nat.beq_refl,hk]
theorem Ao {b:Bool}{K:Option R}(h:b=true)(hk:K=r):Ay b K=r:=by
 subst h;exact hk
theorem A3v {b:Bool}{x y:Option R}(hx:b=true->x=r)(hy:b=false->y=r):A4 b x y=r:=by
 cases b
 ·exact hy rfl
 ·exact hx rfl
theorem Ak {b:Bool}{x y:Option R}(h:b=true)(hx:x=r):A4 b x y=r:=by
 subst h;exact hx
theorem Al {b:Bool}{x y:Option R}(h:b=false)(hx:y=r):A4 b x y=r:=by
 subst h;exact hx
theorem Cf {α:Type}{o:Option α}{K:α->Option R}{a:α}(h:o=some a)(hk:K a=r):Fe o K=r:=by
 subst h;exact hk
theorem Ag {α:Type}{l:List α}{K:α->List α->Option R}{a:α}{t:List α}(h:l=a::t)(hk:K a t=r):Ab l K=r:=by
 subst h;exact hk
theorem Ap {α:Type}{l:List α}{K:Option R}(h:l=[]) (hk:K=r):Ac l K=r:=by
 subst h;exact hk
theorem A6 {p:PV}{K:List PV->Option R}{c:List PV}(h:p=.agg c)(hk:K c=r):C3 p K=r:=by
 subst h;exact hk
theorem A9c {p:PV}{K:List PV->Option R}{c:List PV}(h:p=.pbox c)(hk:K c=r):Adh p K=r:=by
 subst h;exact hk
theorem Ah {o:Option A0}{K:List PV->List (List PV)->Option R} {v:List PV}{q:List (List PV)} (h:o=some ⟨v,q⟩)(hk:K v q=r):Aj o K=r:=by
 subst h;exact hk
theorem Apo {x y:Option R}(hx:x=r)(hy:y=r):Abm x y=r:=by subst hx;subst hy;unfold Abm;simp
end
theorem Ah6 (a b:Int):(a != b)=decide (a≠b):=by by_cases h:a=b<;>simp [h,bne]
theorem A0e (a b:Int):(a==b)=decide (a=b):=by by_cases h:a=b<;>simp [h]
section
variable {R:Type}
theorem Awu (v:List PV)(o:List (List PV)) (K:List PV->List (List PV)->Option R):Aj (some ⟨v,o⟩) K=K v o:=by exact id rfl
theorem A18 {α:Type}(K:Option R):Ac ([]:List α) K=K:=by exact id rfl
theorem Awx {α:Type}(a:α)(r:List α)(K:α->List α->Option R):Ab (a::r) K=K a r:=by exact id rfl
theorem Axq (b:Bool)(K:Bool->Option R):Bw (.sc (.bool b)) K=K b:=by exact id rfl
theorem A1e (s:ByteArray)(K:ByteArray->Option R):Cn (.sc (.string s)) K=K s:=by exact id rfl
theorem Ao9 (k:IntKind)(n:Int)(K:Int->Option R):Af k (.sc (.int k n)) K=K n:=by unfold Af;simp
theorem A2t (k:IntKind)(n:Int)(K:IntKind->Int->Option R):Ek (.sc (.int k n)) K=K k n:=by exact id rfl
theorem A6q (z:Bool)(es n:Nat)(c:List PV)(K:Bool->Nat->List PV->Option R):Iz es (.lst z es n c) K=K z n c:=by unfold Iz;simp
theorem A6b (es n:Nat)(c:List PV)(K:Nat->List PV->Option R):Dp es (.own es n c) K=K n c:=by unfold Dp;simp
theorem A0u (c:List PV)(K:List PV->Option R):C3 (.agg c) K=K c:=by exact id rfl
theorem Awn (c:List PV)(K:List PV->Option R):Adh (.pbox c) K=K c:=by exact id rfl
theorem Awe {α:Type}(a:α)(K:α->Option R):Fe (some a) K=K a:=by exact id rfl
theorem Hw {α:Type}(a:α)(K:α->Option R):Aa a K=K a:=by exact id rfl
theorem A06 (K:Option R):Ay true K=K:=by exact id rfl
theorem Zt (p:Prop) [Decidable p] (K:Option R)(h:p):Ay (decide p) K=K:=by simp [Ay,h]
theorem Awi (b c:Bool)(K:Option R):Ay (b&&c) K=Ay b (Ay c K):=by cases b<;>rfl
theorem Auq (x y:Option R):A4 true x y=x:=by exact id rfl
theorem Akp (x y:Option R):A4 false x y=y:=by exact id rfl
theorem Ai7 (p:Prop) [Decidable p] (x y:Option R)(h:p):A4 (decide p) x y=x:=by simp [A4,h]
theorem Dj (p:Prop) [Decidable p] (x y:Option R)(h:¬p):A4 (decide p) x y=y:=by simp [A4,h]
theorem Agt (p:Prop) [Decidable p] (x y:Option R):A4 (decide p) x y=if p then x else y:=by by_cases h:p<;>simp [A4,h]
theorem Fm (a b:Int)(x y:Option R):A4 (a==b) x y=if a=b then x else y:=by
 rw [A0e,Agt]
theorem Do (a b:Int)(x y:Option R):A4 (a != b) x y=if a=b then y else x:=by
 rw [Ah6,Agt];by_cases h:a=b<;>simp [h]
theorem Axe (x:Option R):Abm x x=x:=by unfold Abm;simp
end
theorem Au {x:Int}(h1: -9223372036854775808<=x)(h2:x<=9223372036854775807):IntKind.wrap .i64 x=x:=by
 have:=IntWalk.i64_in x (by omega)
 exact this
theorem B7 {x:Int}(h1:0<=x)(h2:x<=18446744073709551615):IntKind.wrap .u64 x=x:=by
 simp only [IntKind.wrap,IntKind.signed,IntKind.bits];simp;omega
theorem Gm {x:Int}(h1:0<=x)(h2:x<=255):IntKind.wrap .u8 x=x:=by
 simp only [IntKind.wrap,IntKind.signed,IntKind.bits];simp;omega
theorem Mc (x:Int):0<=IntKind.wrap .u64 x∧IntKind.wrap .u64 x<=18446744073709551615:=by
 simp only [IntKind.wrap,IntKind.signed,IntKind.bits];simp;omega
theorem Ca {α:Type}{l r:List α}{x:α}{i:Nat}(h:l.drop i=x::r):i<l.length∧l[i]?=some x∧l.drop (i+1)=r:=by
 have h1:i<l.length:=by
  rcases Nat.lt_or_ge i l.length with h1|h1
  ·exact h1
  ·rw [List.drop_of_length_le h1] at h;cases h
 rw [List.drop_eq_getElem_cons h1] at h;injection h with h2 h3;exact ⟨h1,by rw [List.getElem?_eq_getElem h1,h2],h3⟩
theorem drop_nil {α:Type}{l:List α}{i:Nat}(h:l.drop i=[]):l.length<=i:=by
 have:=congrArg List.length h;simp at this;omega
section
variable {α:Type} {f:α->List PV} {k:Nat}
theorem Ald (hf:∀x,(f x).length=k):∀(l:List α),(l.flatMap f).length=l.length*k
 |[]=>by simp
 |x::l=>by simp [hf x,Ald hf l,Nat.succ_mul];omega
theorem Aqf (hf:∀x,(f x).length=k):∀(l:List α)(i:Nat),(l.flatMap f).drop (i*k)=(l.drop i).flatMap f
 |l,0=>by simp
 |[],i+1=>by simp
 |x::l,i+1=>by
  rw [List.flatMap_cons,Nat.succ_mul,Nat.add_comm,←List.drop_drop,List.drop_append_of_le_length (by rw [hf x];omega)]
  rw [show (f x).drop k=[] from List.drop_of_length_le (by rw [hf x];omega),List.nil_append]
  exact Aqf hf l i
theorem Awl (hf:∀x,(f x).length=k):∀(l:List α)(i:Nat),(l.flatMap f).take (i*k)=(l.take i).flatMap f
 |l,0=>by simp
 |[],i+1=>by simp
 |x::l,i+1=>by
  rw [List.flatMap_cons,Nat.succ_mul,Nat.add_comm,List.take_succ_cons,List.flatMap_cons,←Awl hf l i];rw [show k+i*k=(f x).length+i*k by rw [hf x],List.take_length_add_append]
theorem D3 (hf:∀x,(f x).length=k) {l:List α}{i:Nat}{x:α}(h:l[i]?=some x) {j:Nat}(hj:j<k):(l.flatMap f).getD (i*k+j) .top=(f x).getD j .top:=by
 have h1:((l.flatMap f).drop (i*k))[j]?=(l.flatMap f)[i*k+j]?:=List.getElem?_drop;rw [Aqf hf] at h1
 have h2:i<l.length:=by
  rcases Nat.lt_or_ge i l.length with h1|h1
  ·exact h1
  ·rw [List.getElem?_eq_none h1] at h;cases h
 rw [List.drop_eq_getElem_cons h2,List.flatMap_cons] at h1;have h3:l[i]=x:=by rw [List.getElem?_eq_getElem h2] at h;injection h
 rw [h3,List.getElem?_append_left (by rw [hf x];exact hj)] at h1
 simp only [List.getD_eq_getElem?_getD,←h1]
theorem Kp {c:List PV}{p:PV}{i:Nat}(h:i<c.length):Cb c [p] i=c.set i p:=by
 unfold Cb;rw [List.set_eq_take_append_cons_drop,if_pos h];simp
end
theorem A2x {α:Type}{l:List α}{i:Nat}{x:α}(h:l[i]?=some x):i<l.length:=by
 rcases Nat.lt_or_ge i l.length with h1|h1
 ·exact h1
 ·rw [List.getElem?_eq_none h1] at h;cases h
abbrev A7y (k:IntKind)(n:Int):List PV:=[.sc (.int k n)]
abbrev Ai (k:IntKind)(l:List Int):List PV:=l.flatMap (A7y k)
theorem Ads (k:IntKind)(n:Int):(A7y k n).length=1:=rfl
theorem Qz {k:IntKind}{l:List Int}{i:Nat}{n:Int}(h:l[i]?=some n):(Ai k l).getD i .top=.sc (.int k n):=by
 have:=D3 (Ads k) h (j:=0) (by omega)
 simpa using this
theorem As (k:IntKind)(l:List Int):(Ai k l).length=l.length:=by rw [Ald (Ads k)];omega
theorem Fs (k:IntKind)(l:List Int)(n:Int):Ai k l++[.sc (.int k n)]=Ai k (l++[n]):=by simp
theorem G4 (k:IntKind)(l:List Int):List.take l.length (Ai k l)=Ai k l:=List.take_of_length_le (by rw [As];omega)
theorem B6:type_of% @Awu∧type_of% @A18∧type_of% @Awx∧type_of% @Axq∧type_of% @A1e∧type_of% @Ao9∧type_of% @A2t∧type_of% @A6q∧type_of% @A6b∧type_of% @A0u∧type_of% @Awn∧type_of% @Awe∧type_of% @Hw∧type_of% @A06∧type_of% @Zt∧type_of% @Awi∧type_of% @Auq∧type_of% @Akp∧type_of% @Ai7∧type_of% @Dj∧type_of% @Axe∧type_of% @Bool.not_true∧type_of% @Bool.not_false∧type_of% @Bool.false_eq_true∧type_of% @if_true.{1}∧type_of% @if_false.{1}∧type_of% @Bool.true_and∧type_of% @Bool.and_true∧type_of% @Bool.false_and∧type_of% @Bool.and_false∧type_of% @decide_true∧type_of% @decide_false:=
 ⟨@Awu,@A18,@Awx,@Axq,@A1e,@Ao9,@A2t,@A6q,@A6b,@A0u,@Awn,@Awe,@Hw,@A06,@Zt,@Awi,@Auq,@Akp,@Ai7,@Dj,@Axe,@Bool.not_true,@Bool.not_false,@Bool.false_eq_true,@if_true.{1},@if_false.{1},@Bool.true_and,@Bool.and_true,@Bool.false_and,@Bool.and_false,@decide_true,@decide_false⟩
theorem gT:type_of% @Bool.and_eq_true∧type_of% @decide_eq_true_eq∧type_of% @beq_iff_eq.{0}∧type_of% @bne_iff_ne.{0}∧type_of% @ne_eq.{1}∧type_of% @Bool.not_eq_true'∧type_of% @true_and∧type_of% @and_true:=
 ⟨@Bool.and_eq_true,@decide_eq_true_eq,@beq_iff_eq.{0},@bne_iff_ne.{0},@ne_eq.{1},@Bool.not_eq_true',@true_and,@and_true⟩
theorem gF:type_of% @decide_eq_false_iff_not∧type_of% @beq_eq_false_iff_ne.{0}∧type_of% @bne_eq_false_iff_eq.{0}∧type_of% @ne_eq.{1}∧type_of% @Bool.not_eq_false':=
 ⟨@decide_eq_false_iff_not,@beq_eq_false_iff_ne.{0},@bne_eq_false_iff_eq.{0},@ne_eq.{1},@Bool.not_eq_false'⟩
end
section
open Go.RowKit
def B8 {α β:Type}(R:α->β->Prop):List α->List β->Prop
 |[],[]=>True
 |a::zs,b::bs=>R a b∧B8 R zs bs
 |_,_=>False
section
variable {α β γ:Type} {R S:α->β->Prop}
theorem B8.len:∀{zs:List α}{bs:List β},B8 R zs bs->zs.length=bs.length
 |[],[],_=>rfl
 |_::_,_::_,h=>by simp [B8.len h.2]
 |[],_::_,h=>h.elim
 |_::_,[],h=>h.elim
theorem B8.at_:∀{zs:List α}{bs:List β},B8 R zs bs->∀{i:Nat} {a b},zs[i]?=some a->bs[i]?=some b->R a b
 |[],[],_,i,a,b,h,_=>by simp at h
 |_::_,_::_,h,0,a,b,ha,hb=>by simp at ha hb;subst ha;subst hb;exact h.1
 |_::_,_::_,h,i+1,a,b,ha,hb=>by simp at ha hb;exact B8.at_ h.2 ha hb
 |[],_::_,h,_,_,_,_,_=>h.elim
 |_::_,[],h,_,_,_,_,_=>h.elim
theorem B8.of_at:∀{zs:List α}{bs:List β},zs.length=bs.length->(∀(i:Nat) a b,zs[i]?=some a->bs[i]?=some b->R a b)->B8 R zs bs
 |[],[],_,_=>trivial
 |a::zs,b::bs,hl,h=>⟨h 0 a b rfl rfl,B8.of_at (by simpa using hl) fun i x y hx hy=>h (i+1) x y hx hy⟩
 |[],_::_,hl,_=>by simp at hl
 |_::_,[],hl,_=>by simp at hl
theorem B8.mono (hRS:∀a b,R a b->S a b):∀{zs:List α}{bs:List β},B8 R zs bs->B8 S zs bs
 |[],[],_=>trivial
 |_::_,_::_,h=>⟨hRS _ _ h.1,B8.mono hRS h.2⟩
 |[],_::_,h=>h.elim
 |_::_,[],h=>h.elim
theorem B8.mono_mem:∀{zs:List α}{bs:List β},(∀a∈zs,∀b,R a b->S a b)->B8 R zs bs->B8 S zs bs
 |[],[],_,_=>trivial
 |a::_,_::_,hRS,h=>⟨hRS a (by simp) _ h.1,B8.mono_mem (fun x hx=>hRS x (by simp [hx])) h.2⟩
 |[],_::_,_,h=>h.elim
 |_::_,[],_,h=>h.elim
theorem B8.app:∀{zs:List α}{bs:List β}{as':List α}{bs':List β},B8 R zs bs->B8 R as' bs'->B8 R (zs++as') (bs++bs')
 |[],[],_,_,_,h'=>h'
 |_::_,_::_,_,_,h,h'=>⟨h.1,B8.app h.2 h'⟩
 |[],_::_,_,_,h,_=>h.elim
 |_::_,[],_,_,h,_=>h.elim
theorem B8.take:∀(n:Nat){zs:List α}{bs:List β},B8 R zs bs->B8 R (zs.take n) (bs.take n)
 |0,_,_,_=>by simp [B8]
 |_+1,[],[],_=>trivial
 |n+1,_::_,_::_,h=>⟨h.1,B8.take n h.2⟩
 |_+1,[],_::_,h=>h.elim
 |_+1,_::_,[],h=>h.elim
theorem B8.drop:∀(n:Nat){zs:List α}{bs:List β},B8 R zs bs->B8 R (zs.drop n) (bs.drop n)
 |0,_,_,h=>h
 |_+1,[],[],_=>trivial
 |n+1,_::_,_::_,h=>B8.drop n h.2
 |_+1,[],_::_,h=>h.elim
 |_+1,_::_,[],h=>h.elim
end
inductive Bu (w:World) (A:Nat->Prop):PV->Value->Prop where
 |sc (v:Value):Bu w A (.sc v) v
 |top (v:Value):Bu w A .top v
 |ub (b:Bool):Bu w A .ub (.bool b)
 |lnil (z:Bool) (es:Nat):Bu w A (.lst z es 0 []) (.slice none 0 0)
 |lemp (es:Nat) (a:Addr) (cap:Nat):Bu w A (.lst false es 0 []) (.slice (some a) 0 cap)
 |lst (es n:Nat) (cells:List PV) (a:Addr) (cap:Nat) (f:Nat->Value) (hs:a.spot=none) (hb:a.block<w.heap.size) (hA:¬A a.block) (hn:n<=cap)
   (hc:∀j c,cells[j]?=some c->w.cell? (a.add j)=some (f j)) (h1:∀j c,cells[j]?=some c->(f j).oneCell'=true) (hr:∀j c,cells[j]?=some c->Bu w A c (f j)):Bu w A (.lst false es n cells) (.slice (some a) n cap)
def bsz (w:World)(b:Nat):Nat:=
 match w.heap[b]? with
 |some (.cells c _ _)=>c.size
 |_=>0
def RdT (w:World)(A:Nat->Prop)(a:Addr)(cells:List PV):Prop:=∀j c,cells[j]?=some c->∃v,w.cell? (a.add j)=some v∧v.oneCell'=true∧Bu w A c v
def C5 (w:World)(A:Nat->Prop)(β:Nat->Option (Nat × Nat)) (p:PV)(v:Value):Prop:=
 match p with
 |.view id es off n=>(β id=none∧off=0∧n=0∧v=.slice none 0 0) ∨
   ∃b o x cap,β id=some (b,o)∧v=.slice (some ⟨b,x,none⟩) n cap∧(x=o+off∨(n=0∧off≠0))∧n<=cap∧x+cap*es<=bsz w b∧b<w.heap.size
 |.ptr id off=>∃b o,β id=some (b,o)∧v=.pointer (some ⟨b,o+off,none⟩)
 |.iptr c off=>∃a:Addr,v=.pointer (some (a.add off))∧a.spot=none∧a.block<w.heap.size∧¬A a.block∧RdT w A a c
 |p=>Bu w A p v
def Jw (w:World)(A:Nat->Prop)(β:Nat->Option (Nat × Nat)) (p:PV)(v:Value):Prop:=
 match p with
 |.agg cs=>∃vs,v=.agg ⟨vs⟩∧B8 (C5 w A β) cs vs
 |p=>C5 w A β p v
def Fw (w:World)(A:Nat->Prop)(β:Nat->Option (Nat × Nat)) (p:PV)(v:Value):Prop:=
 match p with
 |.tup ps=>∃vs,v=.tuple ⟨vs⟩∧B8 (Jw w A β) ps vs
 |p=>Jw w A β p v
structure C1 (A:Nat->Prop) (w w':World):Prop where
 size:w.heap.size<=w'.heap.size
 keep:∀b,b<w.heap.size->¬A b->w'.heap[b]?=w.heap[b]?
 bs:∀b,b<w.heap.size->bsz w b<=bsz w' b
theorem Hp (a:Addr)(j:Nat):(a.add j).block=a.block:=by unfold Addr.add;split<;>rfl
theorem add_add (a:Addr)(i j:Nat):(a.add i).add j=a.add (i+j):=by
 unfold Addr.add;by_cases hi:i=0<;>by_cases hj:j=0<;>simp [hi,hj,Nat.add_assoc]
theorem F7 (b o j:Nat):(⟨b,o,none⟩:Addr).add j=⟨b,o+j,none⟩:=by
 unfold Addr.add;by_cases hj:j=0<;>simp [hj]
theorem A27 {a:Addr}(h:a.spot=none)(j:Nat):(a.add j).spot=none:=by unfold Addr.add;split<;>simp [h]
section
variable {w w':World} {A A':Nat->Prop} {β β':Nat->Option (Nat × Nat)}
theorem C1.cell (h:C1 A w w'){a:Addr}(hb:a.block<w.heap.size)(hA:¬A a.block):w'.cell? a=w.cell? a:=
 World.cell?_of_block (h.keep a.block hb hA)
theorem Bu.step (h:C1 A w w')(hA:∀b,b<w.heap.size->A' b->A b){p:PV}{v:Value}(t:Bu w A p v):Bu w' A' p v:=by
 induction t with
 |sc v=>exact .sc v
 |top v=>exact .top v
 |ub b=>exact .ub b
 |lnil z es=>exact .lnil z es
 |lemp es a cap=>exact .lemp es a cap
 |lst es n cells a cap f hs hb hA1 hn hc h1 hr ih=>
  refine .lst es n cells a cap f hs (Nat.lt_of_lt_of_le hb h.size) (fun x=>hA1 (hA _ hb x)) hn (fun j c hj=>?_) h1 (fun j c hj=>ih j c hj)
  rw [h.cell (by rw [Hp];exact hb) (by rw [Hp];exact hA1)]
  exact hc j c hj
theorem RdT.step (h:C1 A w w')(hA:∀b,b<w.heap.size->A' b->A b){a:Addr}(hb:a.block<w.heap.size)(hn:¬A a.block){cells:List PV}(t:RdT w A a cells):RdT w' A' a cells:=by
 intro j c hj;obtain ⟨v,hv,h1,ht⟩:=t j c hj;exact ⟨v,by rw [h.cell (by rw [Hp];exact hb) (by rw [Hp];exact hn)];exact hv,h1,ht.step h hA⟩
theorem C5.step (h:C1 A w w')(hA:∀b,b<w.heap.size->A' b->A b){p:PV}{v:Value}(hβ:∀id∈Bd p,β' id=β id)(t:C5 w A β p v):C5 w' A' β' p v:=by
 cases p with
 |view id es off n=>
  have e:=hβ id (by simp [Bd])
  rcases t with ⟨h1,h2,h3,h4⟩|⟨b,o,x,cap,h1,h2,hx,h3,h4,h5⟩
  ·exact .inl ⟨by rw [e];exact h1,h2,h3,h4⟩
  ·exact .inr ⟨b,o,x,cap,by rw [e];exact h1,h2,hx,h3,Nat.le_trans h4 (h.bs b h5),Nat.lt_of_lt_of_le h5 h.size⟩
 |ptr id off=>
  have e:=hβ id (by simp [Bd])
  obtain ⟨b,o,h1,h2⟩:=t;exact ⟨b,o,by rw [e];exact h1,h2⟩
 |iptr c off=>
  obtain ⟨a,h1,h2,h3,h4,h5⟩:=t;exact ⟨a,h1,h2,Nat.lt_of_lt_of_le h3 h.size,fun x=>h4 (hA _ h3 x),h5.step h hA h3 h4⟩
 |sc v=>exact Bu.step h hA t
 |lst z es n c=>exact Bu.step h hA t
 |own es n c=>exact Bu.step h hA t
 |pbox c=>exact Bu.step h hA t
 |agg c=>exact Bu.step h hA t
 |tup c=>exact Bu.step h hA t
 |top=>exact Bu.step h hA t
 |ub=>exact Bu.step h hA t
theorem Jw.step (h:C1 A w w')(hA:∀b,b<w.heap.size->A' b->A b){p:PV}{v:Value}(hβ:∀id∈Dg p,β' id=β id)(t:Jw w A β p v):Jw w' A' β' p v:=by
 cases p with
 |agg cs=>
  obtain ⟨vs,rfl,h2⟩:=t;exact ⟨vs,rfl,h2.mono_mem fun c hc v hv=>hv.step h hA fun id hid=>hβ id (by simp only [Dg,List.mem_flatMap];exact ⟨c,hc,hid⟩)⟩
 |sc x=>exact C5.step (p:=.sc x) h hA hβ t
 |lst x y z u=>exact C5.step (p:=.lst x y z u) h hA hβ t
 |own x y z=>exact C5.step (p:=.own x y z) h hA hβ t
 |view x y z u=>exact C5.step (p:=.view x y z u) h hA hβ t
 |ptr x y=>exact C5.step (p:=.ptr x y) h hA hβ t
 |iptr x y=>exact C5.step (p:=.iptr x y) h hA hβ t
 |pbox x=>exact C5.step (p:=.pbox x) h hA hβ t
 |tup x=>exact C5.step (p:=.tup x) h hA hβ t
 |top=>exact C5.step (p:=.top) h hA hβ t
 |ub=>exact C5.step (p:=.ub) h hA hβ t
theorem Fw.step (h:C1 A w w')(hA:∀b,b<w.heap.size->A' b->A b){p:PV}{v:Value}(hβ:∀id∈Cv p,β' id=β id)(t:Fw w A β p v):Fw w' A' β' p v:=by
 cases p with
 |tup cs=>
  obtain ⟨vs,rfl,h2⟩:=t;exact ⟨vs,rfl,h2.mono_mem fun c hc v hv=>hv.step h hA fun id hid=>hβ id (by simp only [Cv,List.mem_flatMap];exact ⟨c,hc,hid⟩)⟩
 |sc x=>exact Jw.step (p:=.sc x) h hA hβ t
 |lst x y z u=>exact Jw.step (p:=.lst x y z u) h hA hβ t
 |own x y z=>exact Jw.step (p:=.own x y z) h hA hβ t
 |view x y z u=>exact Jw.step (p:=.view x y z u) h hA hβ t
 |ptr x y=>exact Jw.step (p:=.ptr x y) h hA hβ t
 |iptr x y=>exact Jw.step (p:=.iptr x y) h hA hβ t
 |pbox x=>exact Jw.step (p:=.pbox x) h hA hβ t
 |top=>exact Jw.step (p:=.top) h hA hβ t
 |ub=>exact Jw.step (p:=.ub) h hA hβ t
 |agg x=>exact Jw.step (p:=.agg x) h hA hβ t
theorem C1.refl (A:Nat->Prop)(w:World):C1 A w w:=⟨Nat.le_refl _,fun _ _ _=>rfl,fun _ _=>Nat.le_refl _⟩
theorem RdT.weak (hA:∀b,b<w.heap.size->A' b->A b){a:Addr}{cells:List PV}(t:RdT w A a cells):RdT w A' a cells:=by
 intro j c hj;obtain ⟨v,hv,h1,ht⟩:=t j c hj;exact ⟨v,hv,h1,ht.step (C1.refl A w) hA⟩
theorem C1.trans {w'':World}(h:C1 A w w')(h':C1 A' w' w'')(hA:∀b,b<w.heap.size->A' b->A b):C1 A w w'':=
  ⟨Nat.le_trans h.size h'.size,fun b hb hn=>(h'.keep b (Nat.lt_of_lt_of_le hb h.size) (fun x=>hn (hA b hb x))).trans (h.keep b hb hn),
   fun b hb=>Nat.le_trans (h.bs b hb) (h'.bs b (Nat.lt_of_lt_of_le hb h.size))⟩
theorem C1.weaken (h:C1 A w w')(hA:∀b,b<w.heap.size->A b->A' b):C1 A' w w':=⟨h.size,fun b hb hn=>h.keep b hb (fun x=>hn (hA b hb x)),h.bs⟩
end
section
variable {R:Type} {r:R}
theorem Je {k:IntKind}{p:PV}{K:Int->Option R}(h:Af k p K=some r):∃n,p=.sc (.int k n)∧K n=some r:=by
 unfold Af at h;split at h
 ·split at h
  ·rename_i hk;subst hk;exact ⟨_,rfl,h⟩
  ·cases h
 ·cases h
theorem Hu {p:PV}{K:Bool->Option R}(h:Bw p K=some r):∃b,p=.sc (.bool b)∧K b=some r:=by
 unfold Bw at h;split at h
 ·exact ⟨_,rfl,h⟩
 ·cases h
theorem Gu {p:PV}{K:ByteArray->Option R}(h:Cn p K=some r):∃b,p=.sc (.string b)∧K b=some r:=by
 unfold Cn at h;split at h
 ·exact ⟨_,rfl,h⟩
 ·cases h
theorem Ef {p:PV}{K:IntKind->Int->Option R}(h:Ek p K=some r):∃k n,p=.sc (.int k n)∧K k n=some r:=by
 unfold Ek at h;split at h
 ·exact ⟨_,_,rfl,h⟩
 ·cases h
theorem A8 {b:Bool}{K:Option R}(h:Ay b K=some r):b=true∧K=some r:=by
 unfold Ay at h;cases b
 ·cases h
 ·exact ⟨rfl,h⟩
theorem Dy {α:Type}{o:Option α}{K:α->Option R}(h:Fe o K=some r):∃a,o=some a∧K a=some r:=by
 unfold Fe at h;split at h
 ·exact ⟨_,rfl,h⟩
 ·cases h
theorem Bs {α:Type}{l:List α}{K:α->List α->Option R}(h:Ab l K=some r):∃a t,l=a::t∧K a t=some r:=by
 unfold Ab at h;split at h
 ·exact ⟨_,_,rfl,h⟩
 ·cases h
theorem Eh {α:Type}{l:List α}{K:Option R}(h:Ac l K=some r):l=[]∧K=some r:=by
 unfold Ac at h;split at h
 ·exact ⟨rfl,h⟩
 ·cases h
theorem Ja {p:PV}{K:List PV->Option R}(h:C3 p K=some r):∃c,p=.agg c∧K c=some r:=by
 unfold C3 at h;split at h
 ·exact ⟨_,rfl,h⟩
 ·cases h
theorem An2 {p:PV}{K:List PV->Option R}(h:Adh p K=some r):∃c,p=.pbox c∧K c=some r:=by
 unfold Adh at h;split at h
 ·exact ⟨_,rfl,h⟩
 ·cases h
theorem Apw {p:PV}{K:Value->Option R}(h:fnK p K=some r):∃f a b,p=.sc (.func f a b)∧K (.func f a b)=some r:=by
 unfold fnK at h;split at h
 ·exact ⟨_,_,_,rfl,h⟩
 ·cases h
theorem A4h {p:PV}{K:FuncId->Option R}(h:fvK p K=some r):∃f,p=.sc (.func (.func f) #[] #[])∧K f=some r:=by
 unfold fvK at h;split at h
 ·rename_i f a b;cases hb:(a.isEmpty&&b.isEmpty)<;>rw [hb] at h
  ·cases h
  ·simp only [Bool.and_eq_true,Array.isEmpty_iff] at hb;rw [hb.1,hb.2];exact ⟨f,rfl,h⟩
 ·cases h
theorem An5 {o:Option A0}{K:List PV->List (List PV)->Option R} (h:Aj o K=some r):∃v x,o=some ⟨v,x⟩∧K v x=some r:=by
 unfold Aj at h;split at h
 ·exact ⟨_,_,rfl,h⟩
 ·cases h
theorem Qv {b:Bool}{x y:Option R}(h:A4 b x y=some r):(b=true∧x=some r)∨(b=false∧y=some r):=by
 unfold A4 at h;cases b
 ·exact .inr ⟨rfl,h⟩
 ·exact .inl ⟨rfl,h⟩
theorem He {es:Nat}{p:PV}{K:Bool->Nat->List PV->Option R}(h:Iz es p K=some r):
  ∃z n c,K z n c=some r∧(p=.lst z es n c∨(p=.sc (.slice none 0 0)∧z=true∧n=0∧c=[])):=by
 unfold Iz at h;split at h
 ·rename_i z es' n c;cases hb:Nat.beq es' es
  ·rw [hb] at h;cases h
  ·rw [hb] at h;have:=Nat.eq_of_beq_eq_true hb;subst this;exact ⟨z,n,c,h,.inl rfl⟩
 ·exact ⟨true,0,[],h,.inr ⟨rfl,rfl,rfl,rfl⟩⟩
 ·cases h
def isT:PV->Prop
 |.sc _=>True
 |.lst _ _ _ _=>True
 |_=>False
def isF:PV->Prop
 |.sc _=>True
 |.lst _ _ _ _=>True
 |.view _ _ _ _=>True
 |_=>False
theorem Z7 {c:PV}(h:isT c):isF c:=by
 cases c<;>first|trivial|exact h.elim
theorem Lr {c:PV}(h:isT c):Bd c=[]:=by
 cases c<;>first|rfl|exact h.elim
variable {w:World} {A:Nat->Prop} {β:Nat->Option (Nat × Nat)}
theorem Rl {c:PV}{v:Value}(h:isT c):C5 w A β c v↔Bu w A c v:=by
 cases c<;>first|exact Iff.rfl|exact h.elim
theorem Ac7 {c:PV}{v:Value}(h:∀cs,c ≠ .agg cs):Jw w A β c v↔C5 w A β c v:=by
 cases c<;>first|exact Iff.rfl|exact absurd rfl (h _)
theorem Wg {c:PV}{v:Value}(h:∀cs,c ≠ .tup cs):Fw w A β c v↔Jw w A β c v:=by
 cases c<;>first|exact Iff.rfl|exact absurd rfl (h _)
theorem Aig {c:PV}(h:isT c)(cs:List PV):c ≠ .agg cs:=by rintro rfl;exact h
theorem Aw9 {c:PV}(h:isT c)(cs:List PV):c ≠ .tup cs:=by rintro rfl;exact h
theorem Bu.val {v u:Value}(h:Bu w A (.sc v) u):u=v:=by cases h;rfl
theorem Acs {es n:Nat}{z:Bool}{c:List PV}{p:PV}{v:Value}(h:p=.lst z es n c∨(p=.sc (.slice none 0 0)∧z=true∧n=0∧c=[])) (hv:C5 w A β p v):Bu w A (.lst z es n c) v:=by
 rcases h with rfl|⟨rfl,rfl,rfl,rfl⟩
 ·exact hv
 ·have:=Bu.val (w:=w) (A:=A) hv;subst this;exact .lnil true es
theorem Qh {t:CT}{p:PV}{K:PV->Option R}(h:tcK t p K=some r):
  ∃c,K c=some r∧isT c∧isT p∧∀(w:World) (A:Nat->Prop) (β:Nat->Option (Nat × Nat)) (v:Value),C5 w A β p v->Bu w A c v∧v.oneCell'=true:=by
 cases t with
 |int k=>obtain ⟨n,rfl,h2⟩:=Je h;exact ⟨_,h2,trivial,trivial,fun w A β v hv=>⟨hv,by have:=Bu.val (w:=w) (A:=A) hv;subst this;rfl⟩⟩
 |bool=>obtain ⟨n,rfl,h⟩:=Hu h;exact ⟨_,h,trivial,trivial,fun w A β v hv=>⟨hv,by have:=Bu.val (w:=w) (A:=A) hv;subst this;rfl⟩⟩
 |str=>obtain ⟨n,rfl,h⟩:=Gu h;exact ⟨_,h,trivial,trivial,fun w A β v hv=>⟨hv,by have:=Bu.val (w:=w) (A:=A) hv;subst this;rfl⟩⟩
 |sl es=>
  obtain ⟨z,n,c,h,hp⟩:=He h;refine ⟨_,h,trivial,?_,fun w A β v hv=>⟨Acs hp hv,?_⟩⟩
  ·rcases hp with rfl|⟨rfl,_⟩<;>trivial
  ·have ht:=Acs hp hv;cases ht<;>rfl
 |any=>
  obtain ⟨f,a,b,rfl,h2⟩:=Apw (show fnK p (fun v=>K (.sc v))=some r from h)
  exact ⟨_,h2,trivial,trivial,fun w A β v hv=>⟨hv,by have:=Bu.val (w:=w) (A:=A) hv;subst this;rfl⟩⟩
theorem A46 {t:CT}{p:PV}{K:PV->Option R}(h:fcK t p K=some r):
  ∃c,K c=some r∧(isT c∨c=p)∧isF p∧p ≠ .top∧(∀cs,c ≠ .agg cs)∧(∀cs,c ≠ .tup cs)∧(∀id,id∈Bd c->id∈Bd p)∧∀(w:World) (A:Nat->Prop) (β:Nat->Option (Nat × Nat)) (v:Value),C5 w A β p v->C5 w A β c v∧v.oneCell'=true:=by
 have tree:∀t',tcK t' p K=some r->∃c,K c=some r∧(isT c∨c=p)∧isF p∧p ≠ .top∧(∀cs,c ≠ .agg cs)∧(∀cs,c ≠ .tup cs)∧(∀id,id∈Bd c->id∈Bd p)∧∀(w:World) (A:Nat->Prop) (β:Nat->Option (Nat × Nat)) (v:Value),C5 w A β p v->C5 w A β c v∧v.oneCell'=true:=by
  intro t' h;obtain ⟨c,h,hc,hp,hv⟩:=Qh h;exact ⟨c,h,.inl hc,Z7 hp,by rintro rfl;exact hp,Aig hc,Aw9 hc,by rw [Lr hc];simp,fun w A β v h=>⟨(Rl hc).2 (hv w A β v h).1,(hv w A β v h).2⟩⟩
 cases t with
 |sl es=>
  unfold fcK fsK at h;dsimp only at h;split at h
  ·rename_i id es' off n;cases hb:Nat.beq es' es
   ·rw [hb] at h;cases h
   ·rw [hb] at h;have:=Nat.eq_of_beq_eq_true hb;subst this;exact ⟨_,h,.inr rfl,trivial,by simp,by simp,by simp,fun _ h=>h,fun _ _ _ _ h=>⟨h,by rcases h with ⟨_,_,_,rfl⟩|⟨_,_,_,_,_,rfl,_⟩<;>rfl⟩⟩
  ·exact tree (.sl es) h
 |int k=>exact tree (.int k) h
 |bool=>exact tree (.bool) h
 |str=>exact tree (.str) h
 |any=>exact tree (.any) h
theorem Aha {cells:List PV}{i:Nat}{p:PV}(h:cells.getD i .top=p)(hp:p ≠ .top):cells[i]?=some p:=by
 rw [List.getD_eq_getElem?_getD] at h;cases hc:cells[i]? with
 |none=>rw [hc] at h;exact absurd h.symm hp
 |some q=>rw [hc] at h;simp at h;rw [h]
theorem Zk:∀{ts:List CT}{cells:List PV}{off:Nat}{K:List PV->Option R},Yo ts cells off K=some r ->
  ∃cs,K cs=some r∧cs.length=ts.length∧∀j c,cs[j]?=some c->isT c∧∃p,cells[off+j]?=some p∧isT p ∧
   ∀(w:World) (A:Nat->Prop) (β:Nat->Option (Nat × Nat)) (v:Value),C5 w A β p v->Bu w A c v∧v.oneCell'=true
 |[],_,_,_,h=>⟨[],h,rfl,fun j c hj=>by simp at hj⟩
 |t::ts,cells,off,K,h=>by
  unfold Yo at h;obtain ⟨c,h,hc,hp,hv⟩:=Qh h;obtain ⟨cs,h,hl,hcs⟩:=Zk h;refine ⟨c::cs,h,by simp [hl],fun j c' hj=>?_⟩
  cases j with
  |zero=>
   simp at hj;subst hj;refine ⟨hc,cells.getD off .top,Aha rfl ?_,hp,hv⟩;intro e;rw [e] at hp;exact hp
  |succ j=>
   simp at hj;have:=hcs j c' hj
   rwa [Nat.add_right_comm,Nat.add_assoc] at this
theorem Yh:∀{ts:List CT}{cells:List PV}{off:Nat}{K:List PV->Option R},Ud ts cells off K=some r ->
  ∃cs,K cs=some r∧cs.length=ts.length∧(∀c∈cs,(∀x,c ≠ .agg x)∧(∀x,c ≠ .tup x))∧∀j c,cs[j]?=some c->∃p,cells[off+j]?=some p∧isF p∧(∀id,id∈Bd c->id∈Bd p) ∧
   ∀(w:World) (A:Nat->Prop) (β:Nat->Option (Nat × Nat)) (v:Value),C5 w A β p v->C5 w A β c v∧v.oneCell'=true
 |[],_,_,_,h=>⟨[],h,rfl,by simp,fun j c hj=>by simp at hj⟩
 |t::ts,cells,off,K,h=>by
  unfold Ud at h;obtain ⟨c,h,hc,hf,hp,ha,ht,hr,hv⟩:=A46 h;obtain ⟨cs,h,hl,hna,hcs⟩:=Yh h;refine ⟨c::cs,h,by simp [hl],?_,fun j c' hj=>?_⟩
  ·intro x hx;rcases List.mem_cons.1 hx with rfl|hx
   ·exact ⟨ha,ht⟩
   ·exact hna x hx
  ·cases j with
   |zero=>
    simp at hj;subst hj;exact ⟨cells.getD off .top,Aha rfl hp,hf,hr,hv⟩
   |succ j=>
    simp at hj;have:=hcs j c' hj
    rwa [Nat.add_right_comm,Nat.add_assoc] at this
theorem Ap9 {agg:Bool}{cells:List PV}{K:PV->Option R}(h:mkV agg cells K=some r):
  (agg=true∧K (.agg cells)=some r)∨(agg=false∧∃c,cells=[c]∧K c=some r):=by
 unfold mkV at h;cases agg
 ·obtain ⟨c,t,rfl,h⟩:=Bs h;obtain ⟨rfl,h⟩:=Eh h;exact .inr ⟨rfl,c,rfl,h⟩
 ·exact .inl ⟨rfl,h⟩
end
open Go.RowKit
def D2 (b:Option Cp):Prop:=
 match b with
 |some (.st _)=>True
 |some (.ar false _)=>True
 |_=>False
abbrev Bt:=Nat->Option (Nat × Nat)
def Xof (hp:Nat->Option Cp)(β:Bt)(b:Nat):Prop:=∃id o,D2 (hp id)∧β id=some (b,o)
def D7 (hp:Nat->Option Cp)(β:Bt)(Y:Nat->Prop)(b:Nat):Prop:=Xof hp β b∨Y b
def Ww (w:World)(A:Nat->Prop)(β:Bt)(id:Nat)(bx:Cp):Prop:=
 match bx with
 |.st cells=>∃b o,β id=some (b,o)∧(∀j c,cells[j]?=some c->∃v,w.cell? ⟨b,o+j,none⟩=some v∧C5 w A β c v)∧∀j,j<cells.length->w.frozen? ⟨b,o+j,none⟩=false
 |.ar fz cells=>(β id=none∧cells=[])∨∃b o,β id=some (b,o)∧RdT w A ⟨b,o,none⟩ cells∧(fz=false->∀j,o<=j->j<bsz w b->w.frozen? ⟨b,j,none⟩=false)∧(fz=true->¬A b)
 |.mv=>True
structure Jx where
 X:Nat->Prop
 L:Nat->Nat->Prop
 pn:Nat->Prop
 pt:Nat->Option (Nat × Nat)
 p8:∀i,pn i->i<8
def BR (bx:Cp)(o j:Nat):Prop:=
 match bx with
 |.st c=>o<=j∧j<o+c.length
 |.ar _ _=>o<=j
 |.mv=>False
structure Fr (X0:Jx) (w0 w:World):Prop where
 os:w.os=w0.os
 tape:w.tape=w0.tape
 output:w.output=w0.output
 step:C1 X0.X w0 w
 rng:∀b j,b<w0.heap.size->¬X0.L b j->w.cell? ⟨b,j,none⟩=w0.cell? ⟨b,j,none⟩∧w.frozen? ⟨b,j,none⟩=w0.frozen? ⟨b,j,none⟩
structure D4 (N:Nat) (w0:World) (X0:Jx) (Y:Nat->Prop) (β:Bt) (s:St) (a:Act) (w:World):Prop where
 dfr:a.defers=[]
 tsz:a.tmps.size=N
 tmo:∀i,N<=i->s.tm i=.top
 tms:∀i,i<N->Fw w (D7 s.hp β Y) β (s.tm i) (a.tmps.getD i undef)
 box:∀id b,s.hp id=some b->Ww w (D7 s.hp β Y) β id b
 inj:∀id id' b o o',D2 (s.hp id)->D2 (s.hp id')->β id=some (b,o)->β id'=some (b,o')->id=id'
 blt:∀id b o,s.hp id≠none->β id=some (b,o)->b<w.heap.size
 wfT:∀i,i<N->∀id∈Cv (s.tm i),s.hp id≠none
 wfB:∀id cells,s.hp id=some (.st cells)->∀c∈cells,∀id'∈Bd c,s.hp id'≠none
 ownd:∀b,Xof s.hp β b->X0.X b∨w0.heap.size<=b
 rngB:∀id bx b o,s.hp id=some bx->D2 (some bx)->β id=some (b,o)->b<w0.heap.size->∀j,BR bx o j->X0.L b j
 pin:∀i,X0.pn i->s.hp (Eg N i)≠none∧β (Eg N i)=X0.pt i
 stp:∀id c b o,s.hp id=some (.st c)->β id=some (b,o)->b<w0.heap.size->∃i,id=Eg N i∧X0.pn i
 Yx:∀b,Y b->¬Xof s.hp β b
 Ylt:∀b,Y b->b<w0.heap.size
 fr:Fr X0 w0 w
theorem Dw {b:Option Cp}(h:D2 b):b≠none:=by rintro rfl;exact h
theorem A9 {α:Type}(f:Nat->α)(i:Nat)(v:α):Dl f i v i=v:=by simp [Dl,Nat.beq_refl]
theorem A5 {α:Type}(f:Nat->α){i j:Nat}(v:α)(h:j≠i):Dl f i v j=f j:=by
 have:Nat.beq j i=false:=by
  cases hb:Nat.beq j i
  ·rfl
  ·exact absurd (Nat.eq_of_beq_eq_true hb) h
 simp [Dl,this]
theorem Ac5 {α:Type}(f:Nat->α){i:Nat}{v:α}(h:f i=v):Dl f i v=f:=by
 funext j
 by_cases e:j=i
 ·subst e;rw [A9];exact h.symm
 ·exact A5 f v e
theorem Ara {α:Type}(f:Nat->α){i j:Nat}(u v:α)(h:i≠j):Dl (Dl f i u) j v=Dl (Dl f j v) i u:=by
 funext k
 by_cases e:k=j
 ·subst e;rw [A9,A5 _ _ (Ne.symm h),A9]
 ·rw [A5 _ _ e];by_cases e':k=i
  ·subst e';rw [A9,A9]
  ·rw [A5 _ _ e',A5 _ _ e',A5 _ _ e]
theorem Al7 {a:Act}{d:Nat}{v:Value}(h:d<a.tmps.size):(a.put (some d) v).tmps.getD d undef=v:=by
 simp [Act.put,h]
theorem Ajn {a:Act}{d i:Nat}{v:Value}(h:i≠d):(a.put (some d) v).tmps.getD i undef=a.tmps.getD i undef:=by
 have h':d≠i:=fun e=>h e.symm
 simp [Act.put,Array.getElem?_setIfInBounds_ne h']
section
variable {N:Nat} {w0:World} {X0:Jx} {Y:Nat->Prop} {β β':Bt} {s:St} {a:Act} {w w':World}
theorem Adx (d:Option Tmp)(v:Value):(a.put d v).tmps.size=a.tmps.size:=by cases d<;>simp [Act.put]
theorem We (d:Option Tmp)(v:Value):(a.put d v).defers=a.defers:=by cases d<;>rfl
theorem Vi {d:Option Tmp}(h:H4 N d=true){i:Nat}(e:d=some i):i<N:=by
 subst e;exact Nat.lt_of_succ_le (Nat.le_of_ble_eq_true h)
theorem Tl {Q:Nat->PV->Value->Prop}{tm:Nat->PV}{d:Option Tmp}{v:PV}{val:Value}(hN:a.tmps.size=N)(hd:H4 N d=true)
  (h:∀i,i<N->Q i (tm i) (a.tmps.getD i undef)) (hv:∀i,Q i v val):∀i,i<N->Q i (Ch tm d v i) ((a.put d val).tmps.getD i undef):=by
 intro i hi;cases d with
 |none=>exact h i hi
 |some d=>
  have hlt:=Vi hd rfl;by_cases e:i=d
  ·subst e;show Q i (Dl tm i v i) _;rw [A9,Al7 (by omega)]
   exact hv i
  ·show Q i (Dl tm d v i) _;rw [A5 _ _ e,Ajn e];exact h i hi
theorem Ap5 {tm:Nat->PV}{d:Option Tmp}{v:PV}(hd:H4 N d=true)(h:∀i,N<=i->tm i=.top):∀i,N<=i->Ch tm d v i=.top:=by
 intro i hi;cases d with
 |none=>exact h i hi
 |some d=>
  have:=Vi hd rfl;show Dl tm d v i=_;rw [A5 _ _ (by omega)]
  exact h i hi
theorem D4.put (h:D4 N w0 X0 Y β s a w){d:Option Tmp}{v:PV}{val:Value}(hd:H4 N d=true)(hv:Fw w (D7 s.hp β Y) β v val) (hr:∀id∈Cv v,s.hp id≠none):
  D4 N w0 X0 Y β ⟨Ch s.tm d v,s.hp⟩ (a.put d val) w where
 dfr:=by rw [We];exact h.dfr
 tsz:=by rw [Adx];exact h.tsz
 tmo:=Ap5 hd h.tmo
 tms:=Tl (Q:=fun _ p u=>Fw w (D7 s.hp β Y) β p u) h.tsz hd h.tms (fun _=>hv)
 box:=h.box
 inj:=h.inj
 blt:=h.blt
 wfT:=by
  have:=Tl (Q:=fun _ p _=>∀id∈Cv p,s.hp id≠none) (val:=val) h.tsz hd h.wfT (fun _=>hr)
  exact this
 wfB:=h.wfB
 ownd:=h.ownd
 rngB:=h.rngB
 pin:=h.pin
 stp:=h.stp
 Yx:=h.Yx
 Ylt:=h.Ylt
 fr:=h.fr
theorem Cu (hp:Nat->Option Cp)(ids:List Nat)(i:Nat):Aw hp ids i=if i∈ids then (hp i).map Yu else hp i:=by
 unfold Aw;by_cases hi:i∈ids
 ·have:ids.any (Nat.beq i)=true:=List.any_eq_true.2 ⟨i,hi,Nat.beq_refl i⟩;rw [this,if_pos hi];rfl
 ·have:ids.any (Nat.beq i)=false:=by
   cases hb:ids.any (Nat.beq i)
   ·rfl
   ·obtain ⟨j,hj,e⟩:=List.any_eq_true.1 hb;exact absurd (Nat.eq_of_beq_eq_true e ▸ hj) hi
  rw [this,if_neg hi];rfl
theorem Fa {hp:Nat->Option Cp}{ids:List Nat}{i:Nat}:Aw hp ids i=none↔hp i=none:=by
 rw [Cu];split<;>simp
theorem Tt {hp:Nat->Option Cp}{ids:List Nat}{i:Nat}(h:D2 (Aw hp ids i)):D2 (hp i):=by
 rw [Cu] at h;split at h
 ·cases hb:hp i with
  |none=>rw [hb] at h;exact h
  |some b=>cases b with
   |st c=>trivial
   |ar fz c=>rw [hb] at h;exact h.elim
   |mv=>rw [hb] at h;exact h
 ·exact h
theorem Ln {hp:Nat->Option Cp}{ids:List Nat}{i:Nat}{bx:Cp}(h:Aw hp ids i=some bx)(hl:D2 (some bx)):hp i=some bx:=by
 rw [Cu] at h;split at h
 ·cases hb:hp i with
  |none=>rw [hb] at h;cases h
  |some b=>
   rw [hb] at h;cases b with
   |st c=>exact h
   |ar fz c=>simp only [Option.map_some,Yu,Option.some.injEq] at h;subst h;exact hl.elim
   |mv=>simp only [Option.map_some,Yu,Option.some.injEq] at h;subst h;exact hl.elim
 ·exact h
theorem Up {hp:Nat->Option Cp}{ids:List Nat}{b:Nat}(h:Xof (Aw hp ids) β b):Xof hp β b:=by
 obtain ⟨id,o,hl,hb⟩:=h;exact ⟨id,o,Tt hl,hb⟩
theorem Ww.step' {A A':Nat->Prop}{id:Nat}{bx:Cp}(hA:∀b,A' b->A b)(h:Ww w A β id bx):Ww w A' β id bx:=by
 have hs:=C1.refl A w;cases bx with
 |st c=>
  obtain ⟨b,o,h1,h2,h3⟩:=h;exact ⟨b,o,h1,fun j c hj=>let ⟨v,hv,hc⟩:=h2 j c hj;⟨v,hv,hc.step hs (fun b _=>hA b) (fun _ _=>rfl)⟩,h3⟩
 |ar fz c=>
  rcases h with h|⟨b,o,h1,h2,h3,h4⟩
  ·exact .inl h
  ·exact .inr ⟨b,o,h1,h2.weak (fun b _=>hA b),h3,fun e x=>h4 e (hA b x)⟩
 |mv=>trivial
theorem D4.freeze (h:D4 N w0 X0 Y β s a w){fz:List Nat}(hfz:∀id∈fz,∃f c,s.hp id=some (.ar f c)):D4 N w0 X0 Y β ⟨s.tm,Aw s.hp fz⟩ a w:=by
 have hA:∀b,D7 (Aw s.hp fz) β Y b->D7 s.hp β Y b:=fun b hb=>hb.imp Up id
 refine ⟨h.dfr,h.tsz,h.tmo,fun i hi=>(h.tms i hi).step (C1.refl _ _) (fun b _=>hA b) (fun _ _=>rfl),fun id b hb=>?_,fun id id' b o o' h1 h2=>h.inj id id' b o o' (Tt h1) (Tt h2),
  fun id b o hn=>h.blt id b o (fun e=>hn (Fa.2 e)),fun i hi id hid e=>h.wfT i hi id hid (Fa.1 e),fun id cells hc c hcm id' hid e=>?_,fun b hb=>h.ownd b (Up hb),
  fun id bx b o hb hl=>h.rngB id bx b o (Ln hb hl) hl,fun i hi=>⟨fun e=>(h.pin i hi).1 (Fa.1 e),(h.pin i hi).2⟩,fun id c b o hc=>h.stp id c b o (Ln hc trivial),fun b hb x=>h.Yx b hb (Up x),h.Ylt,h.fr⟩
 ·simp only at hb;rw [Cu] at hb;split at hb
  ·rename_i hm;obtain ⟨f,c,hc⟩:=hfz id hm;rw [hc] at hb;simp only [Option.map_some,Yu,Option.some.injEq] at hb;subst hb;have hbx:=h.box id _ hc;rcases hbx with hbx|⟨b,o,h1,h2,h3,h4⟩
   ·exact .inl hbx
   ·refine .inr ⟨b,o,h1,h2.weak (fun b _=>hA b),(fun e=>by cases e),fun _ hb=>?_⟩
    rcases hb with ⟨id',o',hl,hb⟩|hY
    ·have hl0:=Tt hl;cases f with
     |true=>exact h4 rfl (.inl ⟨id',o',hl0,hb⟩)
     |false=>
      have e:=h.inj id' id b o' o hl0 (by rw [hc];trivial) hb h1
      subst e;simp only at hl;rw [Cu,if_pos hm,hc] at hl;exact hl
    ·cases f with
     |true=>exact h4 rfl (.inr hY)
     |false=>exact h.Yx b hY ⟨id,o,by rw [hc];trivial,h1⟩
  ·exact (h.box id b hb).step' hA
 ·simp only at hc;rw [Cu] at hc;refine h.wfB id cells ?_ c hcm id' hid (Fa.1 e);split at hc
  ·rename_i hm;obtain ⟨f,c,hc'⟩:=hfz id hm;rw [hc'] at hc;cases hc
  ·exact hc
theorem Ck:∀{nw:List (Nat × Cp)} {hp:Nat->Option Cp},Cs hp nw=true ->
  (∀id bx,(id,bx)∈nw->hp id=none)∧(∀id bx bx',(id,bx)∈nw->(id,bx')∈nw->bx=bx')
 |[],_,_=>⟨by simp,by simp⟩
 |(i,b)::r,hp,h=>by
  simp only [Cs,Bool.and_eq_true,Option.isNone_iff_eq_none,Bool.not_eq_true'] at h;obtain ⟨⟨h1,h2⟩,h3⟩:=h;obtain ⟨h4,h5⟩:=Ck h3
  have hne:∀bx,(i,bx) ∉ r:=by
   intro bx hm;have:r.any (fun q=>Nat.beq q.1 i)=true:=List.any_eq_true.2 ⟨_,hm,Nat.beq_refl i⟩
   rw [this] at h2;cases h2
  refine ⟨fun id bx hm=>?_,fun id bx bx' hm hm'=>?_⟩
  ·rcases List.mem_cons.1 hm with e|hm
   ·cases e;exact h1
   ·exact h4 id bx hm
  ·rcases List.mem_cons.1 hm with e|hm
   ·cases e;rcases List.mem_cons.1 hm' with e|hm'
    ·cases e;rfl
    ·exact absurd hm' (hne _)
   ·rcases List.mem_cons.1 hm' with e|hm'
    ·cases e;exact absurd hm (hne _)
    ·exact h5 id bx bx' hm hm'
theorem Fo:∀{nw:List (Nat × Cp)} {hp:Nat->Option Cp},(∀id bx bx',(id,bx)∈nw->(id,bx')∈nw->bx=bx') ->
  (∀id bx,(id,bx)∈nw->Bf hp nw id=some bx)∧(∀id,(∀bx,(id,bx) ∉ nw)->Bf hp nw id=hp id)
 |[],_,_=>⟨by simp,fun _ _=>rfl⟩
 |(i,b)::r,hp,h=>by
  obtain ⟨h1,h2⟩:=Fo (nw:=r) (hp:=Dl hp i (some b)) (fun id bx bx' hm hm'=>h id bx bx' (by simp [hm]) (by simp [hm']))
  refine ⟨fun id bx hm=>?_,fun id hn=>?_⟩
  ·by_cases hr:∃bx',(id,bx')∈r
   ·obtain ⟨bx',hr⟩:=hr;have:=h id bx bx' hm (by simp [hr])
    subst this;exact h1 id bx hr
   ·rcases List.mem_cons.1 hm with e|hm
    ·cases e;show Bf (Dl hp i (some b)) r i=_;rw [h2 i (fun bx' hb=>hr ⟨bx',hb⟩),A9]
    ·exact absurd ⟨bx,hm⟩ hr
  ·show Bf (Dl hp i (some b)) r id=_;rw [h2 id (fun bx hb=>hn bx (by simp [hb])),A5]
   rintro rfl
   exact hn b (by simp)
structure Anv (Y:Nat->Prop) (β:Bt) (s:St) (w:World) (v:PV) (nw:List (Nat × Cp)) (val:Value) (w':World) (β':Bt):Prop where
 os:w'.os=w.os
 tape:w'.tape=w.tape
 output:w'.output=w.output
 ext:C1 (fun _=>False) w w'
 old:∀id,s.hp id≠none->β' id=β id
 nlive:∀id bx,(id,bx)∈nw->D2 (some bx)
 nbox:∀id bx,(id,bx)∈nw->Ww w' (D7 (Bf s.hp nw) β' Y) β' id bx
 nblk:∀id bx b o,(id,bx)∈nw->β' id=some (b,o)->w.heap.size<=b∧b<w'.heap.size
 ninj:∀id bx id' bx' b o o',(id,bx)∈nw->(id',bx')∈nw->β' id=some (b,o)->β' id'=some (b,o')->id=id'
 nwf:∀id cells,(id,.st cells)∈nw->∀c∈cells,∀id'∈Bd c,s.hp id'≠none∨∃bx,(id',bx)∈nw
 val:Fw w' (D7 (Bf s.hp nw) β' Y) β' v val
 vwf:∀id∈Cv v,s.hp id≠none∨∃bx,(id,bx)∈nw
theorem D4.stepR (h:D4 N w0 X0 Y β s a w){d:Option Tmp}{v:PV}{nw:List (Nat × Cp)} {val:Value}(hd:H4 N d=true)(hab:Cs s.hp nw=true)
  (st:Anv Y β s w v nw val w' β'):D4 N w0 X0 Y β' ⟨Ch s.tm d v,Bf s.hp nw⟩ (a.put d val) w':=by
 obtain ⟨ha1,ha2⟩:=Ck hab;obtain ⟨hg1,hg2⟩:=Fo (hp:=s.hp) ha2
 have hcase:∀id,(∃bx,(id,bx)∈nw)∨Bf s.hp nw id=s.hp id:=fun id=>by
  by_cases hx:∃bx,(id,bx)∈nw
  ·exact .inl hx
  ·exact .inr (hg2 id fun bx hb=>hx ⟨bx,hb⟩)
 have hpres:∀id,s.hp id≠none->Bf s.hp nw id=s.hp id:=fun id hn=>by
  rcases hcase id with ⟨bx,hx⟩|e
  ·exact absurd (ha1 id bx hx) hn
  ·exact e
 have hnn:∀id,(s.hp id≠none∨∃bx,(id,bx)∈nw)->Bf s.hp nw id≠none:=by
  rintro id (hn|⟨bx,hx⟩)
  ·rw [hpres id hn];exact hn
  ·rw [hg1 id bx hx];simp
 have hXold:∀b,b<w.heap.size->Xof (Bf s.hp nw) β' b->Xof s.hp β b:=by
  rintro b hb ⟨id,o,hl,hβ⟩
  rcases hcase id with ⟨bx,hx⟩|e
  ·have:=(st.nblk id bx b o hx hβ).1;omega
  ·rw [e] at hl;exact ⟨id,o,hl,by rw [←st.old id (Dw hl)];exact hβ⟩
 have hAold:∀b,b<w.heap.size->D7 (Bf s.hp nw) β' Y b->D7 s.hp β Y b:=fun b hb hA=>hA.imp (hXold b hb) id
 have hstep:C1 (D7 s.hp β Y) w w':=st.ext.weaken (fun _ _ x=>x.elim)
 refine ⟨by rw [We];exact h.dfr,by rw [Adx];exact h.tsz,Ap5 hd h.tmo,?_,?_,?_,?_,?_,?_,?_,?_,?_,?_,?_,h.Ylt,?_⟩
 ·refine Tl (Q:=fun _ p u=>Fw w' (D7 (Bf s.hp nw) β' Y) β' p u) h.tsz hd (fun i hi=>?_) (fun _=>st.val)
  exact (h.tms i hi).step hstep hAold fun id hid=>st.old id (h.wfT i hi id hid)
 ·intro id b hb;simp only at hb;rcases hcase id with ⟨bx,hx⟩|e
  ·rw [hg1 id bx hx] at hb;cases hb;exact st.nbox id _ hx
  ·rw [e] at hb;have hβ:=st.old id (by rw [hb];simp)
   have hbx:=h.box id b hb;have hlt:=h.blt id;have hne:s.hp id≠none:=by rw [hb];simp
   cases b with
   |st c=>
    obtain ⟨b,o,h1,h2,h3⟩:=hbx;have hb':=hlt b o hne h1;have hbl:=st.ext.keep b hb' (fun x=>x)
    refine ⟨b,o,by rw [hβ];exact h1,fun j c hj=>?_,fun j hj=>?_⟩
    ·obtain ⟨v,hv,hc⟩:=h2 j c hj;refine ⟨v,by rw [World.cell?_of_block (w:=w) hbl];exact hv,hc.step hstep hAold fun id' hid=>st.old id' ?_⟩
     exact h.wfB id _ hb c (List.mem_of_getElem? hj) id' hid
    ·rw [World.frozen?_of_block (w:=w) hbl];exact h3 j hj
   |ar fz c=>
    rcases hbx with ⟨h1,h2⟩|⟨b,o,h1,h2,h3,h4⟩
    ·exact .inl ⟨by rw [hβ];exact h1,h2⟩
    ·have hb':=hlt b o hne h1;have hbl:=st.ext.keep b hb' (fun x=>x)
     have hbs:bsz w' b=bsz w b:=by unfold bsz;rw [hbl]
     refine .inr ⟨b,o,by rw [hβ];exact h1,fun j c hj=>?_,fun e j hj hj'=>?_,fun e x=>h4 e (hAold b hb' x)⟩
     ·obtain ⟨v,hv,h5,hc⟩:=h2 j c hj;exact ⟨v,by rw [World.cell?_of_block (w:=w) (by rw [Hp];exact hbl)];exact hv,h5,hc.step hstep hAold⟩
     ·rw [World.frozen?_of_block (w:=w) hbl];exact h3 e j hj (by rw [←hbs];exact hj')
   |mv=>trivial
 ·intro id id' b o o' hl hl' hb hb';simp only at hl hl';rcases hcase id with ⟨bx,hx⟩|e
  ·rcases hcase id' with ⟨bx',hx'⟩|e'
   ·exact st.ninj id bx id' bx' b o o' hx hx' hb hb'
   ·rw [e'] at hl';have h1:=(st.nblk id bx b o hx hb).1;have h2:=h.blt id' b o' (Dw hl') (by rw [←st.old id' (Dw hl')];exact hb')
    omega
  ·rw [e] at hl;rcases hcase id' with ⟨bx',hx'⟩|e'
   ·have h1:=(st.nblk id' bx' b o' hx' hb').1;have h2:=h.blt id b o (Dw hl) (by rw [←st.old id (Dw hl)];exact hb)
    omega
   ·rw [e'] at hl';exact h.inj id id' b o o' hl hl' (by rw [←st.old id (Dw hl)];exact hb) (by rw [←st.old id' (Dw hl')];exact hb')
 ·intro id b o hn hb;simp only at hn;rcases hcase id with ⟨bx,hx⟩|e
  ·exact (st.nblk id bx b o hx hb).2
  ·rw [e] at hn;exact Nat.lt_of_lt_of_le (h.blt id b o hn (by rw [←st.old id hn];exact hb)) st.ext.size
 ·have:=Tl (Q:=fun _ p _=>∀id∈Cv p,Bf s.hp nw id≠none) (val:=val) (d:=d) (v:=v) h.tsz hd (fun i hi id hid=>hnn id (.inl (h.wfT i hi id hid))) (fun _ id hid=>hnn id (st.vwf id hid))
  exact this
 ·intro id cells hc c hcm id' hid;simp only at hc;rcases hcase id with ⟨bx,hx⟩|e
  ·rw [hg1 id bx hx] at hc;cases hc;exact hnn id' (st.nwf id _ hx c hcm id' hid)
  ·rw [e] at hc;exact hnn id' (.inl (h.wfB id cells hc c hcm id' hid))
 ·rintro b ⟨id,o,hl,hb⟩
  simp only at hl;rcases hcase id with ⟨bx,hx⟩|e
  ·exact .inr (Nat.le_trans h.fr.step.size (st.nblk id bx b o hx hb).1)
  ·rw [e] at hl;exact h.ownd b ⟨id,o,hl,by rw [←st.old id (Dw hl)];exact hb⟩
 ·intro id bx b o hb hl hβ hlt;simp only at hb;rcases hcase id with ⟨bx',hx⟩|e
  ·have:=(st.nblk id bx' b o hx hβ).1;have:=h.fr.step.size;omega
  ·rw [e] at hb;exact h.rngB id bx b o hb hl (by rw [←st.old id (by rw [hb];simp)];exact hβ) hlt
 ·intro i hi;obtain ⟨h1,h2⟩:=h.pin i hi;exact ⟨hnn _ (.inl h1),by rw [st.old _ h1];exact h2⟩
 ·intro id c b o hb hβ hlt;simp only at hb;rcases hcase id with ⟨bx',hx⟩|e
  ·have:=(st.nblk id bx' b o hx hβ).1;have:=h.fr.step.size;omega
  ·rw [e] at hb;exact h.stp id c b o hb (by rw [←st.old id (by rw [hb];simp)];exact hβ) hlt
 ·rintro b hY hX
  have hb:b<w.heap.size:=Nat.lt_of_lt_of_le (h.Ylt b hY) h.fr.step.size;exact h.Yx b hY (hXold b hb hX)
 ·refine ⟨st.os.trans h.fr.os,st.tape.trans h.fr.tape,st.output.trans h.fr.output,h.fr.step.trans st.ext (fun _ _ x=>x.elim),fun b j hb hL=>?_⟩
  have hbl:=st.ext.keep b (Nat.lt_of_lt_of_le hb h.fr.step.size) (fun x=>x)
  have hc:w'.cell? ⟨b,j,none⟩=w.cell? ⟨b,j,none⟩:=World.cell?_of_block (w:=w) hbl;have hf:w'.frozen? ⟨b,j,none⟩=w.frozen? ⟨b,j,none⟩:=World.frozen?_of_block (w:=w) hbl;rw [hc,hf];exact h.fr.rng b j hb hL
end
open Go.RowKit
section
variable {P:Program} {N:Nat} {w0:World} {X0:Jx} {Y:Nat->Prop} {β β':Bt} {s:St} {a:Act} {w w':World} {o:Oper}
theorem As7 (cs:List Value)(A:Nat->Prop):B8 (C5 w A β) (cs.map PV.sc) cs:=by
 induction cs with
 |nil=>trivial
 |cons v r ih=>exact ⟨Bu.sc v,ih⟩
theorem Av8 (cs:List Value):(cs.map PV.sc).flatMap Bd=[]:=by
 induction cs with
 |nil=>rfl
 |cons v r ih=>exact ih
theorem D0 (h:D4 N w0 X0 Y β s a w)(x:Operand):Fw w (D7 s.hp β Y) β (C4 s.tm x) (a.eval x):=by
 cases x with
 |tmp t=>
  show Fw _ _ _ (s.tm t) (a.tmps.getD t undef);by_cases ht:t<N
  ·exact h.tms t ht
  ·rw [h.tmo t (Nat.le_of_not_lt ht)];exact Bu.top _
 |const v=>
  cases v with
  |agg cs=>exact ⟨cs.toList,by simp [Act.eval],As7 cs.toList _⟩
  |_=>exact Bu.sc _
 |func f=>exact Bu.sc _
 |global g=>exact Bu.sc _
theorem Gb (h:D4 N w0 X0 Y β s a w)(x:Operand):∀id∈Cv (C4 s.tm x),s.hp id≠none:=by
 cases x with
 |tmp t=>
  show ∀id∈Cv (s.tm t),_;by_cases ht:t<N
  ·exact h.wfT t ht
  ·rw [h.tmo t (Nat.le_of_not_lt ht)];intro id hid;cases hid
 |const v=>
  cases v with
  |agg cs=>
   intro id hid;have:Cv (.agg (cs.toList.map .sc))=[]:=Av8 cs.toList;simp only [C4] at hid;rw [this] at hid;cases hid
  |_=>intro id hid;cases hid
 |func f=>intro id hid;cases hid
 |global g=>intro id hid;cases hid
theorem Agg {A:Nat->Prop}{v u:Value}(h:Fw w A β (.sc v) u):u=v:=Bu.val h
theorem Di (h:D4 N w0 X0 Y β s a w){x:Operand}{v:Value}(e:C4 s.tm x=.sc v):a.eval x=v:=by
 have:=D0 h x;rw [e] at this;exact Agg this
def F6 (P:Program)(a:Act)(w:World)(o:Oper)(Y:Nat->Prop)(β:Bt)(s:St)(v:PV)(fz:List Nat)(nw:List (Nat × Cp)):Prop:=
 (∀id∈fz,∃f c,s.hp id=some (.ar f c))∧∃val w',(execOp a.eval o).run P w=.ok (.value val) w'∧(Cs s.hp nw=true->∃β',Anv Y β ⟨s.tm,Aw s.hp fz⟩ w v nw val w' β')
theorem Au3 {v:PV}{val:Value}(hv:Fw w (D7 s.hp β Y) β v val) (hr:∀id∈Cv v,s.hp id≠none):Anv Y β s w v [] val w β:=
 ⟨rfl,rfl,rfl,C1.refl _ _,fun _ _=>rfl,by simp,by simp,by simp,by simp,by simp,hv,fun id hid=>.inl (hr id hid)⟩
theorem Cx {v:PV}{val:Value}(hrun:(execOp a.eval o).run P w=.ok (.value val) w) (hv:Fw w (D7 s.hp β Y) β v val) (hr:∀id∈Cv v,s.hp id≠none):F6 P a w o Y β s v [] []:=
 ⟨by simp,val,w,hrun,fun _=>⟨β,Au3 (s:=⟨s.tm,Aw s.hp []⟩) hv hr⟩⟩
theorem Dr {v:Value}(hrun:(execOp a.eval o).run P w=.ok (.value v) w):F6 P a w o Y β s (.sc v) [] []:=Cx hrun (Bu.sc v) (by intro id hid;cases hid)
structure H3 (w w':World) (c:Array Value) (e:TypeId):Prop where
 os:w'.os=w.os
 tape:w'.tape=w.tape
 output:w'.output=w.output
 old:∀b,b<w.heap.size->w'.heap[b]?=w.heap[b]?
 size:w'.heap.size=w.heap.size+1
 new:∃fz:Nat × Nat,w'.heap[w.heap.size]?=some (.cells c e fz)∧(fz.1=fz.2∨c.size<=fz.1)
theorem H3.alloc (w:World)(c:Array Value)(e:TypeId):H3 w (w.alloc (.cells c e)) c e:=
 ⟨rfl,rfl,rfl,fun b hb=>Below.heap_alloc w _ b hb,by show (w.heap.push _).size=_;simp,(0,0),by show (w.heap.push _)[w.heap.size]?=_;simp,.inl rfl⟩
theorem H3.drew {c:Array Value}{e:TypeId}(h:H3 w w' c e):H3 w w'.drew c e:=⟨h.os,h.tape,h.output,h.old,h.size,h.new⟩
section
variable {c:Array Value} {e:TypeId}
theorem H3.step (h:H3 w w' c e):C1 (fun _=>False) w w':=
 ⟨by rw [h.size];omega,fun b hb _=>h.old b hb,fun b hb=>by unfold bsz;rw [h.old b hb];exact Nat.le_refl _⟩
theorem H3.cell (h:H3 w w' c e)(j:Nat):w'.cell? ⟨w.heap.size,j,none⟩=c[j]?:=by
 obtain ⟨fz,hn,_⟩:=h.new;simp [World.cell?,hn]
theorem H3.frozen (h:H3 w w' c e){j:Nat}(hj:j<c.size):w'.frozen? ⟨w.heap.size,j,none⟩=false:=by
 obtain ⟨fz,hn,hf⟩:=h.new;simp only [World.frozen?,hn];rcases hf with hf|hf<;>simp<;>omega
theorem H3.bsz (h:H3 w w' c e):bsz w' w.heap.size=c.size:=by
 obtain ⟨fz,hn,_⟩:=h.new;simp [Pv.bsz,hn]
end
theorem Ux {c:Array Value}{e:TypeId}{d:Nat}{bx:Cp}{v:PV}{val:Value}(hg:H3 w w' c e)(hd:s.hp d=none)(hl:D2 (some bx))
  (hbx:Ww w' (D7 (Dl s.hp d (some bx)) (Dl β d (some (w.heap.size,0))) Y) (Dl β d (some (w.heap.size,0))) d bx)
  (hcw:∀cells,bx=.st cells->∀x∈cells,∀id'∈Bd x,s.hp id'≠none)
  (hv:Fw w' (D7 (Dl s.hp d (some bx)) (Dl β d (some (w.heap.size,0))) Y) (Dl β d (some (w.heap.size,0))) v val)
  (hvr:∀id∈Cv v,s.hp id≠none∨id=d):Anv Y β s w v [(d,bx)] val w' (Dl β d (some (w.heap.size,0))) where
 os:=hg.os
 tape:=hg.tape
 output:=hg.output
 ext:=hg.step
 old:=fun id hn=>A5 _ _ (by rintro rfl;exact hn hd)
 nlive:=by intro id b hm;simp at hm;obtain ⟨rfl,rfl⟩:=hm;exact hl
 nbox:=by intro id b hm;simp at hm;obtain ⟨rfl,rfl⟩:=hm;exact hbx
 nblk:=by
  intro id b x y hm hb;simp at hm;obtain ⟨rfl,rfl⟩:=hm;rw [A9] at hb;simp at hb;have:=hg.size;omega
 ninj:=by intro id b id' b' x y z hm hm' _ _;simp at hm hm';rw [hm.1,hm'.1]
 nwf:=by intro id cells hm x hx id' hid;simp at hm;exact .inl (hcw cells hm.2.symm x hx id' hid)
 val:=hv
 vwf:=by
  intro id hid;rcases hvr id hid with h|rfl
  ·exact .inl h
  ·exact .inr ⟨bx,by simp⟩
theorem Awy {c:Array Value}{e:TypeId}(hg:H3 w w' c e){A A':Nat->Prop}(hA:∀b,b<w.heap.size->A' b->A b){cells:List PV}
  (h:∀(j:Nat) p,cells[j]?=some p->∃v,c[j]?=some v∧v.oneCell'=true∧Bu w A p v):RdT w' A' ⟨w.heap.size,0,none⟩ cells:=by
 intro j p hj;obtain ⟨v,hv,h1,ht⟩:=h j p hj;exact ⟨v,by rw [F7,Nat.zero_add,hg.cell];exact hv,h1,ht.step (hg.step.weaken (fun _ _ x=>x.elim)) hA⟩
theorem Awz {d:Nat}{bx:Cp}(hwf:s.hp d=none):∀b,b<w.heap.size->D7 (Dl s.hp d (some bx)) (Dl β d (some (w.heap.size,0))) Y b->D7 s.hp β Y b:=by
 intro b hb hA;rcases hA with ⟨id,o,hl,hβ⟩|hY
 ·by_cases e:id=d
  ·subst e;rw [A9] at hβ;simp at hβ;omega
  ·rw [A5 _ _ e] at hl hβ;exact .inl ⟨id,o,hl,hβ⟩
 ·exact .inr hY
theorem Ul {c:Array Value}{e:TypeId}{d:Nat}{cells:List PV}{fz:List Nat}{v:PV}{val:Value}
  (hfz:∀id∈fz,∃f c,s.hp id=some (.ar f c))
  (hrun:(execOp a.eval o).run P w=.ok (.value val) w') (hg:H3 w w' c e)
  (hc:∀(j:Nat) p,cells[j]?=some p->∃u,c[j]?=some u∧u.oneCell'=true∧Bu w (D7 (Aw s.hp fz) β Y) p u)
  (hv:(v=.ptr d 0∧val=.pointer (some ⟨w.heap.size,0,none⟩))∨∃es n cap,v=.view d es 0 n∧val=.slice (some ⟨w.heap.size,0,none⟩) n cap∧n<=cap∧cap*es<=c.size):
  F6 P a w o Y β s v fz [(d,.ar false cells)]:=by
 refine ⟨hfz,val,w',hrun,fun hab=>⟨Dl β d (some (w.heap.size,0)),?_⟩⟩
 have hd:s.hp d=none:=(Ck hab).1 d (.ar false cells) (by simp)
 have hd':Aw s.hp fz d=none:=Fa.2 hd;refine Ux (s:=⟨s.tm,Aw s.hp fz⟩) hg hd' trivial ?_ (fun cells hx=>by cases hx) ?_ ?_
 ·refine .inr ⟨w.heap.size,0,A9 _ _ _,?_,fun _ j _ hj=>?_,(fun x=>by cases x)⟩
  ·exact Awy hg (Awz (s:=⟨s.tm,Aw s.hp fz⟩) hd') hc
  ·rw [hg.bsz] at hj;exact hg.frozen hj
 ·rcases hv with ⟨rfl,rfl⟩|⟨es,n,cap,rfl,rfl,hn,hcap⟩
  ·exact ⟨w.heap.size,0,A9 _ _ _,rfl⟩
  ·exact .inr ⟨w.heap.size,0,0,cap,A9 _ _ _,rfl,.inl rfl,hn,by rw [hg.bsz];omega,by rw [hg.size];omega⟩
 ·intro id hid;rcases hv with ⟨rfl,_⟩|⟨es,n,cap,rfl,_⟩<;>(simp [Cv,Dg,Bd] at hid;exact .inr hid)
theorem An4 {c:Array Value}{e:TypeId}{d:Nat}{cells:List PV}
  (hrun:(execOp a.eval o).run P w=.ok (.value (.pointer (some ⟨w.heap.size,0,none⟩))) w') (hg:H3 w w' c e)
  (hc:∀(j:Nat) p,cells[j]?=some p->∃u,c[j]?=some u∧C5 w (D7 s.hp β Y) β p u) (hr:∀x∈cells,∀id∈Bd x,s.hp id≠none):
  F6 P a w o Y β s (.ptr d 0) [] [(d,.st cells)]:=by
 refine ⟨by simp,_,w',hrun,fun hab=>⟨Dl β d (some (w.heap.size,0)),?_⟩⟩
 have hd:s.hp d=none:=(Ck hab).1 d (.st cells) (by simp)
 refine Ux (s:=⟨s.tm,Aw s.hp []⟩) hg hd trivial ?_ (fun cs hx x hxm id hid=>?_) ?_ ?_
 ·refine ⟨w.heap.size,0,A9 _ _ _,fun j p hj=>?_,fun j hj=>?_⟩
  ·obtain ⟨u,hu,hp⟩:=hc j p hj;refine ⟨u,by rw [Nat.zero_add,hg.cell];exact hu,hp.step (hg.step.weaken (fun _ _ x=>x.elim)) (Awz (s:=⟨s.tm,Aw s.hp []⟩) hd) fun id hid=>A5 _ _ ?_⟩
   rintro rfl
   exact hr p (List.mem_of_getElem? hj) id hid hd
  ·rw [Nat.zero_add];obtain ⟨u,hu,_⟩:=hc j _ (List.getElem?_eq_getElem hj)
   exact hg.frozen (by
    rcases Nat.lt_or_ge j c.size with h|h
    ·exact h
    ·rw [Array.getElem?_eq_none h] at hu;cases hu)
 ·injection hx with hx;subst hx;exact hr x hxm id hid
 ·exact ⟨w.heap.size,0,A9 _ _ _,rfl⟩
 ·intro id hid;simp [Cv,Dg,Bd] at hid;exact .inr hid
end
open Go.RowKit
section
variable {R:Type} {r:R} {P:Program} {N:Nat} {w0:World} {X0:Jx} {Y:Nat->Prop} {β β':Bt} {s:St} {a:Act} {w w':World} {o:Oper}
theorem Nq {t:TypeId}{n:Nat}(h:(P.info? t).map (·.size)=some n) (w:World):(sizeOf t).run P w=.ok n w:=by
 cases hi:P.info? t with
 |none=>rw [hi] at h;cases h
 |some i=>rw [hi] at h;simp at h;simp [sizeOf,typeInfo,hi,h]
theorem A1r {t:TypeId}{n:Nat}(h:Bx P t=n)(hn:0<n):(P.info? t).map (·.size)=some n:=by
 unfold Bx at h;cases hi:(P.info? t).map (·.size) with
 |none=>rw [hi] at h;simp at h;omega
 |some i=>rw [hi] at h;simp at h;rw [h]
theorem U6 {t:TypeId}{d:TypeDesc}(h:P.underlying t=some d)(w:World):(isAgg t).run P w=.ok (Da P t) w:=by
 unfold isAgg Da;rw [h];simp only [Sem.run_bind,run_underlying h,Result.andThen_ok];cases d<;>rfl
theorem A4g {t:TypeId}{v:Value}{K:PV->Option R}(h:cvK P t v K=some r):∃p,K p=some r∧Cv p=[]∧∀(w:World)(A:Nat->Prop)(β:Bt),Fw w A β p v:=by
 have sc:∀v:Value,K (.sc v)=some r->∃p,K p=some r∧Cv p=[]∧∀(w:World) (A:Nat->Prop) (β:Bt),Fw w A β p v:=fun v h=>⟨_,h,rfl,fun w A β=>Bu.sc v⟩
 unfold cvK at h;split at h
 ·rename_i cs;obtain ⟨hl,h⟩:=A8 h;obtain ⟨xs,h,hxl,hx⟩:=Zk h;have hl:=Nat.eq_of_beq_eq_true hl;refine ⟨_,h,?_,fun w A β=>⟨cs.toList,by simp,?_⟩⟩
  ·show xs.flatMap Bd=[];rw [List.flatMap_eq_nil_iff];intro c hc;obtain ⟨j,hj⟩:=List.mem_iff_getElem?.1 hc;exact Lr (hx j c hj).1
  ·refine B8.of_at (by rw [hxl,hl]) fun i c u hc hu=>?_
   obtain ⟨hT,p,hp,_,hpv⟩:=hx i c hc;refine (Rl hT).2 (hpv w A β u ?_).1;rw [Nat.zero_add,List.getElem?_map,hu] at hp;simp at hp;subst hp;exact Bu.sc u
 ·split at h
  ·exact ⟨_,h,rfl,fun w A β=>Bu.lnil true _⟩
  ·cases h
 ·exact sc _ h
theorem Ado (h:D4 N w0 X0 Y β s a w){x:Operand}(hrun:(execOp a.eval o).run P w=.ok (.value (a.eval x)) w) {K:PV->Option R}(hk:Agc P o.type s.tm x K=some r):
  ∃v,K v=some r∧F6 P a w o Y β s v [] []:=by
 have dflt:K (C4 s.tm x)=some r->∃v,K v=some r∧F6 P a w o Y β s v [] []:=fun hk=>⟨_,hk,Cx hrun (D0 h x) (Gb h x)⟩
 cases x with
 |const v=>
  obtain ⟨p,hk,hr,hv⟩:=A4g hk;exact ⟨p,hk,Cx hrun (hv _ _ _) (by rw [hr];simp)⟩
 |tmp t=>exact dflt hk
 |func f=>exact dflt hk
 |global g=>exact dflt hk
theorem Ax1 {x:Operand}(ho:o.op=.move x):(execOp a.eval o).run P w=.ok (.value (a.eval x)) w:=by unfold execOp;rw [ho];rfl
theorem As1 {x:Operand}(ho:o.op=.assign x):(execOp a.eval o).run P w=.ok (.value (a.eval x)) w:=by unfold execOp;rw [ho];rfl
theorem Av1 (h:D4 N w0 X0 Y β s a w){c x y:Operand}(ho:o.op=.pick c x y){K:PV->Option R}(hk:(Bw (C4 s.tm c) fun t=>A4 t (K (C4 s.tm x)) (K (C4 s.tm y)))=some r):
  ∃v,K v=some r∧F6 P a w o Y β s v [] []:=by
 obtain ⟨b,hb,hk⟩:=Hu hk;have hc:=Di h hb;rcases Qv hk with ⟨rfl,hk⟩|⟨rfl,hk⟩
 ·exact ⟨_,hk,Cx (by unfold execOp;rw [ho];simp [asBool,hc]) (D0 h x) (Gb h x)⟩
 ·exact ⟨_,hk,Cx (by unfold execOp;rw [ho];simp [asBool,hc]) (D0 h y) (Gb h y)⟩
theorem Sz {t:TypeId}{K:List PV->Option R}(h:Iw P t K=some r):∃(v:Value)(cs:List PV),K cs=some r∧Ac1 P t=some v∧cs.length=(J3 P t).length∧cs.length=v.cells.toList.length∧cs.length=Bx P t ∧
  ∀(j:Nat) c,cs[j]?=some c->isT c∧∃u,v.cells.toList[j]?=some u∧u.oneCell'=true∧∀(w:World) (A:Nat->Prop),Bu w A c u:=by
 unfold Iw at h;obtain ⟨v,hz,h⟩:=Dy h;obtain ⟨hl,h⟩:=A8 h;obtain ⟨cs,h,hcl,hc⟩:=Zk h;simp only [Bool.and_eq_true] at hl;have hl1:=Nat.eq_of_beq_eq_true hl.1
 have hl2:(J3 P t).length=Bx P t:=by
  have:=hl.2;simp only [Lf,Bool.and_eq_true] at this;exact Nat.eq_of_beq_eq_true this.2
 refine ⟨v,cs,h,hz,hcl,by rw [hcl,hl1],by rw [hcl,hl2],fun j c hj=>?_⟩
 obtain ⟨hT,p,hp,_,hpv⟩:=hc j c hj;rw [Nat.zero_add,List.getElem?_map] at hp;cases hu:v.cells.toList[j]? with
 |none=>rw [hu] at hp;cases hp
 |some u=>
  rw [hu] at hp;simp at hp;subst hp;exact ⟨hT,u,rfl,(hpv default (fun _=>False) (fun _=>none) u (Bu.sc u)).2,fun w A=>(hpv w A (fun _=>none) u (Bu.sc u)).1⟩
theorem Abc {t:TypeId}{v:Value}(h:Ac1 P t=some v)(w:World):(zeroValue t).run P w=.ok v w:=by
 unfold Ac1 at h;cases hi:P.info? t with
 |none=>rw [hi] at h;cases h
 |some i=>rw [hi] at h;simp at h;simp [zeroValue,typeInfo,hi,h]
theorem Arz {t:TypeId}(ho:o.op=.alloc t){d:Nat}{K:PV->List Nat->List (Nat × Cp)->Option R}
  (hk:(Iw P t fun cs=>K (.ptr d 0) [] [(d,A1n P t cs)])=some r):∃v fz nw,K v fz nw=some r∧F6 P a w o Y β s v fz nw:=by
 obtain ⟨z,cs,hk,hz,_,hl,_,hc⟩:=Sz hk
 have hrun:(execOp a.eval o).run P w=.ok (.value (.pointer (some ⟨w.heap.size,0,none⟩))) (w.alloc (.cells z.cells t)):=by
  unfold execOp;rw [ho];simp [Instr.alloc,Abc hz,newVar,newRow]
 have hg:=H3.alloc w z.cells t;refine ⟨_,_,_,hk,?_⟩;unfold A1n;cases Ze P t
 ·refine An4 hrun hg (fun j p hj=>?_) fun x hx id hid=>?_
  ·obtain ⟨hT,u,hu,_,hv⟩:=hc j p hj;exact ⟨u,by simpa using hu,(Rl hT).2 (hv _ _)⟩
  ·obtain ⟨j,hj⟩:=List.mem_iff_getElem?.1 hx;rw [Lr (hc j x hj).1] at hid;cases hid
 ·refine Ul (by simp) hrun hg (fun j p hj=>?_) (.inl ⟨rfl,rfl⟩)
  obtain ⟨hT,u,hu,h1,hv⟩:=hc j p hj;exact ⟨u,by simpa using hu,h1,hv _ _⟩
end
open Go.RowKit
section
variable {R:Type} {r:R} {P:Program} {N:Nat} {w0:World} {X0:Jx} {Y:Nat->Prop} {β β':Bt} {s:St} {a:Act} {w w':World} {o:Oper} {A:Nat->Prop}
theorem Vt {t:TypeId}(h:Lf P t=true):(∃d,P.underlying t=some d)∧(J3 P t).length=Bx P t∧(P.info? t).map (·.size)=some (Bx P t):=by
 simp only [Lf,Bool.and_eq_true] at h;refine ⟨Option.isSome_iff_exists.1 h.1,Nat.eq_of_beq_eq_true h.2,?_⟩;unfold Bx;cases hi:P.info? t with
 |none=>unfold Program.underlying at h;rw [hi] at h;cases h.1
 |some i=>simp
theorem Q2 {v:Value}(h:v.oneCell'=true):v.cells = #[v]:=by cases v<;>first|rfl|cases h
theorem Aw5 {p:PV}{v:Value}{ts:List CT}{K:List PV->Option R}(hv:Fw w A β p v)(hl:(cellsOf p).length=ts.length) (h:Ud ts (cellsOf p) 0 K=some r):
  ∃cs,K cs=some r∧cs.length=ts.length∧B8 (C5 w A β) cs v.cells.toList∧(∀u∈v.cells.toList,u.oneCell'=true)∧(∀c∈cs,∀id∈Bd c,id∈Cv p)∧∀c∈cs,(∀x,c ≠ .agg x)∧(∀x,c ≠ .tup x):=by
 obtain ⟨cs,h,hcl,hna,hc⟩:=Yh h;refine ⟨cs,h,hcl,?_⟩
 have single:(∀x,p ≠ .agg x)->cellsOf p=[p]:=by
  intro hp;cases p<;>first|rfl|exact absurd rfl (hp _)
 by_cases hagg:∃x,p=.agg x
 ·obtain ⟨x,rfl⟩:=hagg;obtain ⟨vs,rfl,h2⟩:=hv;have hlen:cs.length=vs.length:=by rw [hcl,←hl];exact h2.len
  have key:∀(i:Nat) c u,cs[i]?=some c->vs[i]?=some u->C5 w A β c u∧u.oneCell'=true:=by
   intro i c u hc' hu;obtain ⟨q,hq,_,_,hqv⟩:=hc i c hc';rw [Nat.zero_add] at hq;exact hqv w A β u (h2.at_ hq hu)
  refine ⟨B8.of_at hlen fun i c u hc' hu=>(key i c u hc' hu).1,?_,?_,hna⟩
  ·intro u hu;obtain ⟨i,hi⟩:=List.mem_iff_getElem?.1 (show u∈vs from hu)
   have hlt:i<vs.length:=by
    rcases Nat.lt_or_ge i vs.length with h|h
    ·exact h
    ·rw [List.getElem?_eq_none h] at hi;cases hi
   exact (key i _ u (List.getElem?_eq_getElem (by omega)) hi).2
  ·intro c hcm id hid;obtain ⟨i,hi⟩:=List.mem_iff_getElem?.1 hcm;obtain ⟨q,hq,_,hr,_⟩:=hc i c hi;rw [Nat.zero_add] at hq;show id∈x.flatMap Bd;exact List.mem_flatMap.2 ⟨q,List.mem_of_getElem? hq,hr id hid⟩
 ·have hp:∀x,p ≠ .agg x:=fun x e=>hagg ⟨x,e⟩
  rw [single hp] at hl hc;have hl1:cs.length=1:=by rw [hcl,←hl];rfl
  match cs,hl1 with
  |[c],_=>
   obtain ⟨q,hq,hf,hr,hqv⟩:=hc 0 c rfl;simp at hq;subst hq;have htup:∀x,p ≠ .tup x:=by rintro x rfl;exact hf
   have hv':C5 w A β p v:=(Ac7 hp).1 ((Wg htup).1 hv);obtain ⟨h5,h6⟩:=hqv w A β v hv';rw [Q2 h6];refine ⟨⟨h5,trivial⟩,?_,?_,hna⟩
   ·intro u hu;simp at hu;subst hu;exact h6
   ·intro c' hc' id hid;simp at hc';subst hc';have:=hr id hid;cases p<;>first|exact this|exact absurd rfl (hp _)|exact absurd rfl (htup _)
end
open Go.RowKit
section
variable {R:Type} {r:R} {P:Program} {N:Nat} {w0:World} {X0:Jx} {Y:Nat->Prop} {β β':Bt} {s:St} {a:Act} {w w':World} {o:Oper} {A:Nat->Prop}
theorem B8.get {α β':Type}{R':α->β'->Prop}{zs:List α}{bs:List β'}(h:B8 R' zs bs){i:Nat}{x:α}(hx:zs[i]?=some x):∃y,bs[i]?=some y∧R' x y:=by
 have hlt:i<zs.length:=by
  rcases Nat.lt_or_ge i zs.length with h|h
  ·exact h
  ·rw [List.getElem?_eq_none h] at hx;cases hx
 have hb:bs[i]?=some (bs[i]'(by rw [←h.len];exact hlt)):=List.getElem?_eq_getElem _
 exact ⟨_,hb,h.at_ hx hb⟩
theorem A4x {p:PV}{v:Value}{ts:List CT}{K:List PV->Option R}(hv:Fw w A β p v)(hl:(cellsOf p).length=ts.length) (h:Yo ts (cellsOf p) 0 K=some r):
  ∃cs,K cs=some r∧cs.length=ts.length∧B8 (Bu w A) cs v.cells.toList∧∀u∈v.cells.toList,u.oneCell'=true:=by
 obtain ⟨cs,h,hcl,hc⟩:=Zk h;refine ⟨cs,h,hcl,?_⟩;by_cases hagg:∃x,p=.agg x
 ·obtain ⟨x,rfl⟩:=hagg;obtain ⟨vs,rfl,h2⟩:=hv;have hlen:cs.length=vs.length:=by rw [hcl,←hl];exact h2.len
  have key:∀(i:Nat) c u,cs[i]?=some c->vs[i]?=some u->Bu w A c u∧u.oneCell'=true:=by
   intro i c u hc' hu;obtain ⟨_,q,hq,_,hqv⟩:=hc i c hc';rw [Nat.zero_add] at hq;exact hqv w A β u (h2.at_ hq hu)
  refine ⟨B8.of_at hlen fun i c u hc' hu=>(key i c u hc' hu).1,?_⟩
  intro u hu;obtain ⟨i,hi⟩:=List.mem_iff_getElem?.1 (show u∈vs from hu)
  have hlt:i<vs.length:=by
   rcases Nat.lt_or_ge i vs.length with h|h
   ·exact h
   ·rw [List.getElem?_eq_none h] at hi;cases hi
  exact (key i _ u (List.getElem?_eq_getElem (by omega)) hi).2
 ·have hp:∀x,p ≠ .agg x:=fun x e=>hagg ⟨x,e⟩
  have single:cellsOf p=[p]:=by cases p<;>first|rfl|exact absurd rfl (hp _)
  rw [single] at hl hc;have hl1:cs.length=1:=by rw [hcl,←hl];rfl
  match cs,hl1 with
  |[c],_=>
   obtain ⟨_,q,hq,hf,hqv⟩:=hc 0 c rfl;simp at hq;subst hq;have htup:∀x,p ≠ .tup x:=by rintro x rfl;exact hf
   have hv':C5 w A β p v:=(Ac7 hp).1 ((Wg htup).1 hv);obtain ⟨h5,h6⟩:=hqv w A β v hv';rw [Q2 h6];exact ⟨⟨h5,trivial⟩,fun u hu=>by simp at hu;subst hu;exact h6⟩
theorem Az6 (h:D4 N w0 X0 Y β s a w){t:TypeId}{x:Operand}(ho:o.op=.box t x){d:Nat}{K:PV->List Nat->List (Nat × Cp)->Option R}
    (hk:(Ay (Lf P t&&Nat.beq (cellsOf (C4 s.tm x)).length (J3 P t).length)
      (bif Ze P t then Yo (J3 P t) (cellsOf (C4 s.tm x)) 0 fun cs=>K (.ptr d 0) [] [(d,.ar false cs)]
       else Ud (J3 P t) (cellsOf (C4 s.tm x)) 0 fun cs=>K (.ptr d 0) [] [(d,.st cs)]))=some r):∃v fz nw,K v fz nw=some r∧F6 P a w o Y β s v fz nw:=by
  obtain ⟨hl,hk⟩:=A8 hk
  simp only [Bool.and_eq_true] at hl
  have hl:=Nat.eq_of_beq_eq_true hl.2
  have hrun:(execOp a.eval o).run P w=.ok (.value (.pointer (some ⟨w.heap.size,0,none⟩))) (w.alloc (.cells (a.eval x).cells t)):=by
    unfold execOp
    rw [ho]
    simp [Instr.box,newVar,newRow]
  have hg:=H3.alloc w (a.eval x).cells t
  cases ha:Ze P t
  · rw [ha] at hk
    obtain ⟨cs,hk,_,h2,_,hr,_⟩:=Aw5 (D0 h x) hl hk
    refine ⟨_,_,_,hk,An4 hrun hg (fun j p hj=>?_) fun c hc id hid=>Gb h x id (hr c hc id hid)⟩
    obtain ⟨u,hu,hp⟩:=h2.get hj
    exact ⟨u,by simpa using hu,hp⟩
  · rw [ha] at hk
    obtain ⟨cs,hk,_,h2,h1⟩:=A4x (D0 h x) hl hk
    refine ⟨_,_,_,hk,Ul (by simp) hrun hg (fun j p hj=>?_) (.inl ⟨rfl,rfl⟩)⟩
    obtain ⟨u,hu,hp⟩:=h2.get hj
    exact ⟨u,by simpa using hu,h1 u (List.mem_of_getElem? hu),hp⟩
theorem Avn {c:PV}(h1:∀x,c ≠ .agg x)(h2:∀x,c ≠ .tup x):Cv c=Bd c:=by
 cases c<;>first|rfl|exact absurd rfl (h1 _)|exact absurd rfl (h2 _)
theorem Ae4 {t:TypeId}{ad:Addr}{cs:List PV}{p:PV}(hok:Lf P t=true)(hlen:cs.length=(J3 P t).length)
  (hna:∀c∈cs,(∀x,c ≠ .agg x)∧(∀x,c ≠ .tup x))
  (hc:∀(j:Nat) c,cs[j]?=some c->∃v,w.cell? (ad.add j)=some v∧C5 w A β c v)
  (hp:(Da P t=true∧p=.agg cs)∨(Da P t=false∧cs=[p])):∃val,(loadVar t ad).run P w=.ok val w∧Fw w A β p val:=by
 obtain ⟨⟨d,hd⟩,hl,hi⟩:=Vt hok;rcases hp with ⟨hagg,rfl⟩|⟨hagg,rfl⟩
 ·have hf:∀j,j<Bx P t->w.cell? (ad.add j)=some ((w.cell? (ad.add j)).getD undef):=by
   intro j hj;obtain ⟨v,hv,_⟩:=hc j _ (List.getElem?_eq_getElem (by omega))
   rw [hv];rfl
  refine ⟨_,?_,(List.range (Bx P t)).map (fun j=>(w.cell? (ad.add j)).getD undef),rfl,?_⟩
  ·simp only [loadVar,Sem.run_bind,U6 hd,hagg,Result.andThen_ok,if_true,Nq hi,run_loadCells w ad (Bx P t) _ hf];simp
  ·refine B8.of_at (by simp;omega) fun i c u hc' hu=>?_
   obtain ⟨v,hv,hcv⟩:=hc i c hc'
   have hlt:i<Bx P t:=by
    rcases Nat.lt_or_ge i cs.length with h|h
    ·omega
    ·rw [List.getElem?_eq_none h] at hc';cases hc'
   rw [List.getElem?_map,List.getElem?_range hlt] at hu;simp [hv] at hu;subst hu;exact hcv
 ·obtain ⟨v,hv,hcv⟩:=hc 0 p rfl;have hn:=hna p (by simp)
  have h0:ad.add 0=ad:=by simp [Addr.add]
  rw [h0] at hv;refine ⟨v,?_,(Wg hn.2).2 ((Ac7 hn.1).2 hcv)⟩;simp only [loadVar,Sem.run_bind,U6 hd,hagg,Result.andThen_ok];simp [hv]
theorem A32 {hp:Nat->Option Cp}{id:Nat}{c:List PV}(h:rd hp id=some c):hp id=some (.st c)∨∃f,hp id=some (.ar f c):=by
 unfold rd at h;split at h
 ·rename_i e;simp at h;subst h;exact .inl e
 ·rename_i f _ e;simp at h;subst h;exact .inr ⟨_,e⟩
 ·cases h
theorem Apa {hp:Nat->Option Cp}{id:Nat}{c:List PV}(h:My hp id=some c):∃f,hp id=some (.ar f c):=by
 unfold My at h;split at h
 ·rename_i e;simp at h;subst h;exact ⟨_,e⟩
 ·cases h
theorem Ak8 (h:D4 N w0 X0 Y β s a w){id:Nat}{c:List PV}(hr:rd s.hp id=some c){b ob:Nat}(hβ:β id=some (b,ob)) {j:Nat}{p:PV}(hj:c[j]?=some p):
  ∃v,w.cell? ⟨b,ob+j,none⟩=some v∧C5 w (D7 s.hp β Y) β p v:=by
 rcases A32 hr with hb|⟨f,hb⟩
 ·obtain ⟨b',o',h1,h2,_⟩:=h.box id _ hb;rw [hβ] at h1;simp at h1;obtain ⟨rfl,rfl⟩:=h1;exact h2 j p hj
 ·rcases h.box id _ hb with ⟨h1,_⟩|⟨b',o',h1,h2,_⟩
  ·rw [hβ] at h1;cases h1
  ·rw [hβ] at h1;simp at h1;obtain ⟨rfl,rfl⟩:=h1
   obtain ⟨v,hv,_,ht⟩:=h2 j p hj;rw [F7] at hv;refine ⟨v,hv,?_⟩;cases ht with
   |sc=>exact Bu.sc _
   |top=>exact Bu.top _
   |ub=>exact Bu.ub _
   |lnil=>exact Bu.lnil _ _
   |lemp=>exact Bu.lemp _ _ _
   |lst es n cells a cap f hs hb hA hn hc h1 hr=>exact Bu.lst es n cells a cap f hs hb hA hn hc h1 hr
theorem Nt:∀{ts:List CT}{cells:List PV}{off:Nat}{K:List PV->Option R},Yo ts cells off K=some r->Ud ts cells off K=some r
 |[],_,_,_,h=>h
 |.int k::ts,cells,off,K,h=>by
  obtain ⟨n,hp,h⟩:=Je (show Af k (cells.getD off .top) _=some r from h)
  show Af k _ _=_;rw [hp];simp only [Af,if_true];exact Nt h
 |.bool::ts,cells,off,K,h=>by
  obtain ⟨n,hp,h⟩:=Hu (show Bw (cells.getD off .top) _=some r from h)
  show Bw _ _=_;rw [hp];exact Nt h
 |.str::ts,cells,off,K,h=>by
  obtain ⟨n,hp,h⟩:=Gu (show Cn (cells.getD off .top) _=some r from h)
  show Cn _ _=_;rw [hp];exact Nt h
 |.sl es::ts,cells,off,K,h=>by
  obtain ⟨z,n,c,h,hp⟩:=He (show Iz es (cells.getD off .top) _=some r from h)
  change fcK (.sl es) (cells.getD off .top) (fun c=>Ud ts cells (off+1) fun r=>K (c::r))=some r
  unfold fcK;dsimp only;unfold fsK;rcases hp with hp|⟨hp,rfl,rfl,rfl⟩
  ·rw [hp];simp only [Iz,Nat.beq_refl,cond_true];exact Nt h
  ·rw [hp];exact Nt h
 |.any::ts,cells,off,K,h=>by
  obtain ⟨f,a,b,hp,h⟩:=Apw (show fnK (cells.getD off .top) (fun v=>Yo ts cells (off+1) fun r=>K (.sc v::r))=some r from h)
  show fnK (cells.getD off .top) (fun v=>Ud ts cells (off+1) fun r=>K (.sc v::r))=some r
  rw [hp];exact Nt h
theorem Bu.unz {w:World}{A:Nat->Prop}{z:Bool}{es n:Nat}{c:List PV}{u:Value}(h:Bu w A (.lst z es n c) u):Bu w A (.lst false es n c) u:=by
 cases h with
 |lnil z es=>exact .lnil false es
 |lemp es a cap=>exact .lemp es a cap
 |lst es n c a cap f h1 h2 h3 h4 h5 h6 h7=>exact .lst es n c a cap f h1 h2 h3 h4 h5 h6 h7
theorem Ayo {w:World}{A:Nat->Prop}{β:Bt}{p:PV}{u:Value}(h:C5 w A β p u):C5 w A β (Ay7 p) u:=by
 cases p with
 |lst z es n c=>exact Bu.unz h
 |_=>exact h
theorem At2 (p:PV):Bd (Ay7 p)=Bd p:=by cases p<;>rfl
theorem Am4 {w:World}{A:Nat->Prop}{β:Bt}:∀{cs:List PV}{vs:List Value},B8 (C5 w A β) cs vs->B8 (C5 w A β) (cs.map Ay7) vs
 |[],[],_=>trivial
 |_::_,_::_,h=>⟨Ayo h.1,Am4 h.2⟩
 |[],_::_,h=>h.elim
 |_::_,[],h=>h.elim
theorem Azx {w:World}{A:Nat->Prop}{β:Bt}{p:PV}{u:Value}(h:Fw w A β p u):Fw w A β (Azz p) u:=by
 cases p with
 |agg cs=>
  obtain ⟨vs,h1,h2⟩:=(show Jw w A β (.agg cs) u from h)
  exact ⟨vs,h1,Am4 h2⟩
 |lst z es n c=>exact Bu.unz (show Bu w A (.lst z es n c) u from h)
 |_=>exact h
theorem Azn (p:PV):Cv (Azz p)=Cv p:=by
 cases p with
 |agg cs=>
  show (cs.map Ay7).flatMap Bd=cs.flatMap Bd
  induction cs with
  |nil=>rfl
  |cons a l ih=>rw [List.map_cons,List.flatMap_cons,List.flatMap_cons,ih,At2]
 |_=>rfl
theorem A5x {hp:Nat->Option Cp}{t:TypeId}{x:PV}{K:PV->Option R}(h:Ac9 P (rd hp) (My hp) t x K=some r):
  Aja P (rd hp) t x K=some r∨Aja P (rd hp) t x (fun v=>K (Azz v))=some r:=by
 unfold Ac9 at h;unfold Aja;split at h
 ·rename_i id off;obtain ⟨hb,h⟩:=A8 h;rw [hb];show Fe _ _=_∨Fe _ _=_;split at h
  ·rename_i c hc;obtain ⟨f,hbx⟩:=Apa hc;have:rd hp id=some c:=by unfold rd;rw [hbx]
   rw [this];exact .inr (Nt h)
  ·exact .inl h
 ·exact .inr h
 ·cases h
theorem Ao2 (h:D4 N w0 X0 Y β s a w){t:TypeId}{x:PV}{u:Value}(hx:Fw w (D7 s.hp β Y) β x u) {K:PV->Option R}(hk:Aja P (rd s.hp) t x K=some r):
  ∃v ad val,K v=some r∧u=.pointer (some ad)∧(loadVar t ad).run P w=.ok val w∧Fw w (D7 s.hp β Y) β v val∧∀i∈Cv v,s.hp i≠none:=by
 unfold Aja at hk;split at hk
 ·rename_i id off;obtain ⟨hok,hk⟩:=A8 hk;obtain ⟨c,hr,hk⟩:=Dy hk;obtain ⟨cs,hk,hl,hna,hc⟩:=Yh hk;obtain ⟨b,ob,hβ,hax⟩:=hx
  have hcell:∀(j:Nat) q,cs[j]?=some q->∃v,w.cell? ((⟨b,ob+off,none⟩:Addr).add j)=some v∧C5 w (D7 s.hp β Y) β q v:=by
   intro j q hq;obtain ⟨p,hp,_,_,hpv⟩:=hc j q hq;obtain ⟨v,hv,hcv⟩:=Ak8 h hr hβ hp;exact ⟨v,by rw [F7,Nat.add_assoc];exact hv,(hpv _ _ _ _ hcv).1⟩
  have hrefs:∀q∈cs,∀i∈Bd q,s.hp i≠none:=by
   intro q hq i hi;obtain ⟨j,hj⟩:=List.mem_iff_getElem?.1 hq;obtain ⟨p,hp,_,hpr,_⟩:=hc j q hj;rcases A32 hr with hb|⟨f,hb⟩
   ·exact h.wfB id c hb p (List.mem_of_getElem? hp) i (hpr i hi)
   ·obtain ⟨v,hv,hcv⟩:=Ak8 h hr hβ hp;exfalso;have hp':=hpr i hi;rcases h.box id _ hb with ⟨_,rfl⟩|⟨b',o',h1,h2,_⟩
    ·simp at hp
    ·obtain ⟨v',_,_,ht⟩:=h2 _ p hp;cases ht<;>cases hp'
  rcases Ap9 hk with ⟨hagg,hk2⟩|⟨hagg,q,rfl,hk2⟩
  ·obtain ⟨val,hlv,hv⟩:=Ae4 hok hl hna hcell (.inl ⟨hagg,rfl⟩);refine ⟨_,_,val,hk2,hax,hlv,hv,fun i hi=>?_⟩
   obtain ⟨q,hq,hi⟩:=List.mem_flatMap.1 (show i∈cs.flatMap Bd from hi)
   exact hrefs q hq i hi
  ·obtain ⟨val,hlv,hv⟩:=Ae4 hok hl hna hcell (.inr ⟨hagg,rfl⟩);refine ⟨_,_,val,hk2,hax,hlv,hv,fun i hi=>hrefs q (by simp) i ?_⟩
   have hn:=hna q (by simp)
   rw [Avn hn.1 hn.2] at hi;exact hi
 ·rename_i c off;obtain ⟨hok,hk⟩:=A8 hk;obtain ⟨cs,hk,hl,hc⟩:=Zk hk;obtain ⟨ad,hax,hs,hb,hA,hrd⟩:=hx
  have hna:∀q∈cs,(∀x,q ≠ .agg x)∧(∀x,q ≠ .tup x):=by
   intro q hq;obtain ⟨j,hj⟩:=List.mem_iff_getElem?.1 hq;exact ⟨Aig (hc j q hj).1,Aw9 (hc j q hj).1⟩
  have hcell:∀(j:Nat) q,cs[j]?=some q->∃v,w.cell? ((ad.add off).add j)=some v∧C5 w (D7 s.hp β Y) β q v:=by
   intro j q hq;obtain ⟨hT,p,hp,hpT,hpv⟩:=hc j q hq;obtain ⟨v,hv,_,ht⟩:=hrd (off+j) p hp;exact ⟨v,by rw [add_add];exact hv,(Rl hT).2 (hpv w (D7 s.hp β Y) β v ((Rl hpT).2 ht)).1⟩
  have hrefs:∀q∈cs,Bd q=[]:=by
   intro q hq;obtain ⟨j,hj⟩:=List.mem_iff_getElem?.1 hq;exact Lr (hc j q hj).1
  rcases Ap9 hk with ⟨hagg,hk2⟩|⟨hagg,q,rfl,hk2⟩
  ·obtain ⟨val,hlv,hv⟩:=Ae4 hok hl hna hcell (.inl ⟨hagg,rfl⟩);refine ⟨_,_,val,hk2,hax,hlv,hv,fun i hi=>?_⟩
   obtain ⟨q,hq,hi⟩:=List.mem_flatMap.1 (show i∈cs.flatMap Bd from hi)
   rw [hrefs q hq] at hi;cases hi
  ·obtain ⟨val,hlv,hv⟩:=Ae4 hok hl hna hcell (.inr ⟨hagg,rfl⟩);refine ⟨_,_,val,hk2,hax,hlv,hv,fun i hi=>?_⟩
   have hn:=hna q (by simp)
   rw [Avn hn.1 hn.2,hrefs q (by simp)] at hi
   cases hi
 ·cases hk
theorem Are (h:D4 N w0 X0 Y β s a w){t:TypeId}{x:PV}{u:Value}(hx:Fw w (D7 s.hp β Y) β x u) {K:PV->Option R}(hk:Ac9 P (rd s.hp) (My s.hp) t x K=some r):
  ∃v ad val,K v=some r∧u=.pointer (some ad)∧(loadVar t ad).run P w=.ok val w∧Fw w (D7 s.hp β Y) β v val∧∀i∈Cv v,s.hp i≠none:=by
 rcases A5x hk with hk|hk
 ·exact Ao2 h hx hk
 ·obtain ⟨v,ad,val,h1,h2,h3,h4,h5⟩:=Ao2 h hx hk;exact ⟨Azz v,ad,val,h1,h2,h3,Azx h4,by rw [Azn];exact h5⟩
theorem Avu (h:D4 N w0 X0 Y β s a w){t:TypeId}{x:Operand}(ho:o.op=.load t x){K:PV->Option R}(hk:Ac9 P (rd s.hp) (My s.hp) t (C4 s.tm x) K=some r):
  ∃v,K v=some r∧F6 P a w o Y β s v [] []:=by
 obtain ⟨v,ad,val,hk1,hax,hl,hv,hr⟩:=Are h (D0 h x) hk;refine ⟨v,hk1,Cx ?_ hv hr⟩;unfold execOp;rw [ho];simp [Instr.loadAt,Instr.sureAddr,hax,hl]
theorem A0f {x:PV}{d:Nat}{K:PV->Option R}(h:Yz x d K=some r):(∃id off,x=.ptr id off∧K (.ptr id (off+d))=some r)∨∃c off,x=.iptr c off∧K (.iptr c (off+d))=some r:=by
 unfold Yz at h;split at h
 ·exact .inl ⟨_,_,rfl,h⟩
 ·exact .inr ⟨_,_,rfl,h⟩
 ·cases h
theorem Ab0 (h:D4 N w0 X0 Y β s a w){x:Operand}{d:Nat}{K:PV->Option R}(hk:Yz (C4 s.tm x) d K=some r)
  (hrun:∀ad:Addr,a.eval x=.pointer (some ad)->(execOp a.eval o).run P w=.ok (.value (.pointer (some (ad.add d)))) w):∃v,K v=some r∧F6 P a w o Y β s v [] []:=by
 have hx:=D0 h x;have hxr:=Gb h x;rcases A0f hk with ⟨id,off,e,hk⟩|⟨c,off,e,hk⟩
 ·rw [e] at hx hxr;obtain ⟨b,ob,hβ,hax⟩:=hx;refine ⟨_,hk,Cx (hrun _ hax) ⟨b,ob,hβ,by rw [F7,Nat.add_assoc]⟩ hxr⟩
 ·rw [e] at hx;obtain ⟨ad,hax,h1,h2,h3,h4⟩:=hx;exact ⟨_,hk,Cx (hrun _ hax) ⟨ad,by rw [add_add],h1,h2,h3,h4⟩ (by intro i hi;cases hi)⟩
theorem Akz (h:D4 N w0 X0 Y β s a w){x:Operand}(ho:o.op=.nilCheck x){K:PV->Option R}(hk:Yz (C4 s.tm x) 0 K=some r):∃v,K v=some r∧F6 P a w o Y β s v [] []:=by
 refine Ab0 h hk fun ad hax=>?_
 unfold execOp;rw [ho];simp [hax,Addr.add]
theorem Adl {t:TypeId}{f:Nat}{q:Nat × TypeId}(h:Vd P t f=some q):∃fs g,P.underlying t=some (.struct fs)∧fs[f]?=some g∧q=(g.offset,g.type):=by
 unfold Vd at h;split at h
 ·rename_i fs e;cases hg:fs[f]? with
  |none=>rw [hg] at h;cases h
  |some g=>rw [hg] at h;simp at h;exact ⟨fs,g,e,hg,h.symm⟩
 ·cases h
theorem Ah3 (h:D4 N w0 X0 Y β s a w){t:TypeId}{x:Operand}{f:Nat}(ho:o.op=.fieldAddr t x f){K:PV->Option R}
  (hk:(Fe (Vd P t f) fun q=>Ay (Nat.ble 1 (Bx P q.2)) (Yz (C4 s.tm x) q.1 K))=some r):∃v,K v=some r∧F6 P a w o Y β s v [] []:=by
 obtain ⟨q,hq,hk⟩:=Dy hk;obtain ⟨hs,hk⟩:=A8 hk;obtain ⟨fs,g,hu,hg,rfl⟩:=Adl hq;have hs:1<=Bx P g.type:=Nat.le_of_ble_eq_true hs;have hsz:=A1r (P:=P) (t:=g.type) rfl (by omega)
 refine Ab0 h hk fun ad hax=>?_
 unfold execOp;rw [ho];have hne:¬Bx P g.type=0:=by omega
 simp [Instr.fieldAt,run_underlying hu,hg,Instr.sureAddr,hax,fieldPlace,Nq hsz,hne]
end
open Go.RowKit
section
variable {R:Type} {r:R} {P:Program} {N:Nat} {w0:World} {X0:Jx} {Y:Nat->Prop} {β β':Bt} {s:St} {a:Act} {w w':World} {o:Oper} {A:Nat->Prop}
theorem Ajm (h:D4 N w0 X0 Y β s a w){t:TypeId}{cs:List PV}{vs:List Value}{off:Nat}{K:PV->Option R}{x:Operand}(hx:C4 s.tm x=.agg cs)(hv:B8 (C5 w (D7 s.hp β Y) β) cs vs)
  (hk:Ay (Lf P t) (Ud (J3 P t) cs off fun c=>mkV (Da P t) c K)=some r)
  (hrun:∀val,(part t ⟨vs⟩ off).run P w=.ok val w->(execOp a.eval o).run P w=.ok (.value val) w):∃v,K v=some r∧F6 P a w o Y β s v [] []:=by
 obtain ⟨hok,hk⟩:=A8 hk;obtain ⟨⟨d,hd⟩,hl,hi⟩:=Vt hok;obtain ⟨qs,hk,hql,hna,hq⟩:=Yh hk;have hxr:=Gb h x;rw [hx] at hxr
 have hcell:∀(j:Nat) q,qs[j]?=some q->∃v,vs[off+j]?=some v∧C5 w (D7 s.hp β Y) β q v:=by
  intro j q hj;obtain ⟨p,hp,_,_,hpv⟩:=hq j q hj;obtain ⟨v,hv',hc⟩:=hv.get hp;exact ⟨v,hv',(hpv _ _ _ _ hc).1⟩
 have hrefs:∀q∈qs,∀i∈Bd q,s.hp i≠none:=by
  intro q hqm i hi;obtain ⟨j,hj⟩:=List.mem_iff_getElem?.1 hqm;obtain ⟨p,hp,_,hpr,_⟩:=hq j q hj;exact hxr i (List.mem_flatMap.2 ⟨p,List.mem_of_getElem? hp,hpr i hi⟩)
 rcases Ap9 hk with ⟨hagg,hk2⟩|⟨hagg,q,rfl,hk2⟩
 ·have hle:Bx P t=0∨off+Bx P t<=vs.length:=by
   rcases Nat.eq_zero_or_pos (Bx P t) with h0|h0
   ·exact .inl h0
   ·obtain ⟨v,hv',_⟩:=hcell (Bx P t-1) _ (List.getElem?_eq_getElem (by omega))
    have:off+(Bx P t-1)<vs.length:=by
     rcases Nat.lt_or_ge (off+(Bx P t-1)) vs.length with h|h
     ·exact h
     ·rw [List.getElem?_eq_none h] at hv';cases hv'
    exact .inr (by omega)
  refine ⟨_,hk2,Cx (hrun (.agg ⟨(vs.drop off).take (Bx P t)⟩) ?_) ⟨(vs.drop off).take (Bx P t),rfl,?_⟩ fun i hi=>?_⟩
  ·simp only [part,Sem.run_bind,U6 hd,hagg,Result.andThen_ok,if_true,Nq hi];simp [List.extract_eq_take_drop]
  ·refine B8.of_at ?_ fun i c u hc hu=>?_
   ·simp only [List.length_take,List.length_drop];omega
   ·obtain ⟨v,hv',hcv⟩:=hcell i c hc
    have hlt:i<Bx P t:=by
     rcases Nat.lt_or_ge i qs.length with h|h
     ·omega
     ·rw [List.getElem?_eq_none h] at hc;cases hc
    rw [List.getElem?_take_of_lt hlt,List.getElem?_drop,hv'] at hu;cases hu;exact hcv
  ·obtain ⟨q,hqm,hi⟩:=List.mem_flatMap.1 (show i∈qs.flatMap Bd from hi)
   exact hrefs q hqm i hi
 ·obtain ⟨v,hv',hcv⟩:=hcell 0 q rfl;have hn:=hna q (by simp)
  refine ⟨_,hk2,Cx (hrun v ?_) ((Wg hn.2).2 ((Ac7 hn.1).2 hcv)) fun i hi=>?_⟩
  ·simp only [part,Sem.run_bind,U6 hd,hagg,Result.andThen_ok];rw [Nat.add_zero] at hv';simp [hv']
  ·rw [Avn hn.1 hn.2] at hi;exact hrefs q (by simp) i hi
theorem Ar2 (h:D4 N w0 X0 Y β s a w){t:TypeId}{x:Operand}{f:Nat}(ho:o.op=.field t x f){K:PV->Option R}
  (hk:(Fe (Vd P t f) fun q=>Ay (Lf P q.2)<|C3 (C4 s.tm x) fun cs=>Ud (J3 P q.2) cs q.1 fun c=>mkV (Da P q.2) c K)=some r):∃v,K v=some r∧F6 P a w o Y β s v [] []:=by
 obtain ⟨q,hq,hk⟩:=Dy hk;obtain ⟨hok,hk⟩:=A8 hk;obtain ⟨cs,hx,hk⟩:=Ja hk;obtain ⟨fs,g,hu,hg,rfl⟩:=Adl hq;have hxv:=D0 h x;rw [hx] at hxv;obtain ⟨vs,hax,hv⟩:=hxv;refine Ajm (t:=g.type) (off:=g.offset) h hx hv (by rw [show Lf P g.type=true from hok];exact hk) fun val hp=>?_
 unfold execOp;rw [ho];simp [Instr.field,run_underlying hu,hg,asAgg,hax,hp]
theorem Al2 (h:D4 N w0 X0 Y β s a w){x:Operand}{i:Nat}(ho:o.op=.extract x i){K:PV->Option R}
  (hk:(match C4 s.tm x with | .tup vs=>Fe vs[i]? K|_=>none)=some r):∃v,K v=some r∧F6 P a w o Y β s v [] []:=by
 have hx:=D0 h x;have hxr:=Gb h x;split at hk
 ·rename_i ps e;rw [e] at hx hxr;obtain ⟨p,hp,hk⟩:=Dy hk;obtain ⟨vs,hax,hv⟩:=hx;obtain ⟨v,hv',hpv⟩:=hv.get hp
  have hntup:∀y,p ≠ .tup y:=by
   rintro y rfl
   have hpv':Bu _ _ (.tup y) v:=hpv;cases hpv'
  refine ⟨p,hk,Cx (val:=v) ?_ ((Wg hntup).2 hpv) fun id hid=>hxr id ?_⟩
  ·unfold execOp;rw [ho];simp [Instr.extract,hax,hv']
  ·refine List.mem_flatMap.2 ⟨p,List.mem_of_getElem? hp,?_⟩;cases p<;>first|exact hid|exact absurd rfl (hntup _)
 ·cases hk
theorem Jf {es:Nat}{p:PV}{z:Bool}{n:Nat}{c:List PV}{v:Value}(hp:p=.lst z es n c∨(p=.sc (.slice none 0 0)∧z=true∧n=0∧c=[])) (hv:Fw w A β p v):
  (v=.slice none 0 0∧n=0∧c=[])∨(∃ad cap,v=.slice (some ad) n cap∧z=false∧n<=cap∧ad.spot=none∧ad.block<w.heap.size∧¬A ad.block∧RdT w A ad c)∨∃ad cap,v=.slice (some ad) 0 cap∧z=false∧n=0∧c=[]:=by
 have hv':C5 w A β p v:=by rcases hp with rfl|⟨rfl,_⟩<;>exact hv
 have ht:=Acs hp hv';cases ht with
 |lnil=>exact .inl ⟨rfl,rfl,rfl⟩
 |lst _ _ _ ad cap f hs hb hA hn hc h1 hr=>exact .inr (.inl ⟨ad,cap,rfl,rfl,hn,hs,hb,hA,fun j q hj=>⟨f j,hc j q hj,h1 j q hj,hr j q hj⟩⟩)
 |lemp _ ad cap=>exact .inr (.inr ⟨ad,cap,rfl,rfl,rfl,rfl⟩)
theorem Aif (h:D4 N w0 X0 Y β s a w){t:TypeId}{x i:Operand}(ho:o.op=.indexAddr t x i){K:PV->Option R}
  (hk:(Ek (C4 s.tm i) fun _ n=>Nw P t (C4 s.tm x) n K)=some r):∃v,K v=some r∧F6 P a w o Y β s v [] []:=by
 obtain ⟨ik,n,hi,hk⟩:=Ef hk;have hai:=Di h hi;have hx:=D0 h x;have hxr:=Gb h x;unfold Nw at hk;split at hk
 ·rename_i len e hu;obtain ⟨hz,hk⟩:=A8 hk;obtain ⟨hb,hk⟩:=A8 hk;simp only [Bool.and_eq_true,decide_eq_true_eq] at hb;obtain ⟨inf,hinf⟩:=Option.isSome_iff_exists.1 hz;refine Ab0 h hk fun ad hax=>?_
  unfold execOp;rw [ho];simp [Instr.indexAt,asIntOf,hai,hax,run_underlying hu,Instr.sureAddr,hb.1,hb.2,sizeOf,typeInfo,hinf,Bx]
 ·rename_i e hu;obtain ⟨hz,hk⟩:=A8 hk;obtain ⟨inf,hinf⟩:=Option.isSome_iff_exists.1 hz;have hsz:Bx P e=inf.size:=by simp [Bx,hinf]
  split at hk
  ·rename_i id es off n' e';rw [e'] at hx hxr;obtain ⟨hes,hk⟩:=A8 hk;have hes:=Nat.eq_of_beq_eq_true hes;subst hes;obtain ⟨hb,hk⟩:=A8 hk;simp only [Bool.and_eq_true,decide_eq_true_eq] at hb;rcases hx with ⟨_,_,rfl,_⟩|⟨b,ob,y,cap,hβ,hax,hy,_⟩
   ·omega
   ·have hy:y=ob+off:=by rcases hy with hy|⟨rfl,_⟩<;>omega
    subst hy;refine ⟨_,hk,Cx (val:=.pointer (some ⟨b,ob+(off+n.toNat*Bx P e),none⟩)) ?_ ⟨b,ob,hβ,rfl⟩ hxr⟩;unfold execOp;rw [ho];simp [Instr.indexAt,asIntOf,hai,hax,run_underlying hu,hb.1,hb.2,sizeOf,typeInfo,hinf,hsz,F7,Nat.add_assoc]
  ·obtain ⟨z,n',c,hk,hp⟩:=He hk;obtain ⟨hb,hk⟩:=A8 hk;simp only [Bool.and_eq_true,decide_eq_true_eq] at hb;rcases Jf hp hx with ⟨_,rfl,_⟩|⟨ad,cap,hax,_,_,h1,h2,h3,h4⟩|⟨_,_,_,_,rfl,_⟩
   ·omega
   rotate_left
   ·omega
   ·refine ⟨_,hk,Cx (val:=.pointer (some (ad.add (n.toNat*Bx P e)))) ?_ ⟨ad,rfl,h1,h2,h3,h4⟩ (by intro i hi;cases hi)⟩
    unfold execOp;rw [ho];simp [Instr.indexAt,asIntOf,hai,hax,run_underlying hu,hb.1,hb.2,sizeOf,typeInfo,hinf,hsz]
 ·cases hk
theorem Atr (h:D4 N w0 X0 Y β s a w){t:TypeId}{x i:Operand}(ho:o.op=.index t x i){K:PV->Option R}
  (hk:(Ek (C4 s.tm i) fun _ n=>
   match P.underlying t with
   |some .string=>Cn (C4 s.tm x) fun s=>Ay (decide (0<=n)) (Fe (s.data.toList[n.toNat]?) fun b=>K (.sc (.int .u8 b.toNat)))
   |some (.array len e)=>C3 (C4 s.tm x) fun cs=>Ay (decide (0<=n)&&decide (n<len)&&Lf P e) (Ud (J3 P e) cs (n.toNat*Bx P e) fun c=>mkV (Da P e) c K)
   |_=>none)=some r):∃v,K v=some r∧F6 P a w o Y β s v [] []:=by
 obtain ⟨ik,n,hi,hk⟩:=Ef hk;have hai:=Di h hi;split at hk
 ·rename_i hu;obtain ⟨sb,hx,hk⟩:=Gu hk;have hax:=Di h hx;obtain ⟨h0,hk⟩:=A8 hk;obtain ⟨b,hb,hk⟩:=Dy hk;have h0:=of_decide_eq_true h0;refine ⟨_,hk,Dr ?_⟩
  have hlt:n.toNat<sb.size:=by
   rcases Nat.lt_or_ge n.toNat sb.data.toList.length with h|h
   ·simpa using h
   ·rw [List.getElem?_eq_none h] at hb;cases hb
  have hb':sb[n.toNat]=b:=by
   have:sb.data.toList[n.toNat]?=some sb[n.toNat]:=by
    rw [List.getElem?_eq_getElem (by simpa using hlt)]
    rfl
   rw [hb] at this;injection this with this;exact this.symm
  unfold execOp;rw [ho];simp [Instr.index,asIntOf,hai,hax,run_underlying hu,h0,hlt,hb']
 ·rename_i len e hu;obtain ⟨cs,hx,hk⟩:=Ja hk;obtain ⟨hb,hk⟩:=A8 hk;simp only [Bool.and_eq_true,decide_eq_true_eq] at hb;have hxv:=D0 h x;rw [hx] at hxv;obtain ⟨vs,hax,hv⟩:=hxv;obtain ⟨_,_,hsz⟩:=Vt hb.2;refine Ajm (t:=e) (off:=n.toNat*Bx P e) h hx hv (by rw [hb.2];exact hk) fun val hp=>?_
  unfold execOp;rw [ho];simp [Instr.index,asIntOf,hai,hax,run_underlying hu,hb.1.1,hb.1.2,Nq hsz,hp]
 ·cases hk
end
open Go.RowKit
section
variable {R:Type} {r:R} {P:Program} {N:Nat} {w0:World} {X0:Jx} {Y:Nat->Prop} {β β':Bt} {s:St} {a:Act} {w w':World} {o:Oper} {A:Nat->Prop}
theorem Jc (h:D4 N w0 X0 Y β s a w){x:Option Operand}{dflt:Nat}{K:Nat->Option R}(hk:Pg (x.map (C4 s.tm)) dflt K=some r):
  ∃l,K l=some r∧((x=none∧l=dflt)∨∃y k,x=some y∧a.eval y=.int k (l:Int)):=by
 cases x with
 |none=>exact ⟨dflt,hk,.inl ⟨rfl,rfl⟩⟩
 |some y=>
  obtain ⟨k,i,hi,hk⟩:=Ef (show Ek (C4 s.tm y) _=some r from hk)
  obtain ⟨h0,hk⟩:=A8 hk;have h0:=of_decide_eq_true h0;exact ⟨i.toNat,hk,.inr ⟨y,k,rfl,by rw [Di h hi,Int.toNat_of_nonneg h0]⟩⟩
theorem Kq {lo hi:Option Operand}{isS:Bool}{len cap l u:Nat}(hl:(lo=none∧l=0)∨∃y k,lo=some y∧a.eval y=.int k (l:Int))
  (hu:(hi=none∧u=len)∨∃y k,hi=some y∧a.eval y=.int k (u:Int)) (h1:l<=u)(h2:u<=cap):
  (Instr.sliceBounds isS len cap (lo.map a.eval) (hi.map a.eval) none).run P w=.ok (l,u,cap) w:=by
 rcases hl with ⟨rfl,rfl⟩|⟨y,k,rfl,hy⟩<;>rcases hu with ⟨rfl,rfl⟩|⟨y',k',rfl,hy'⟩
 ·simp [Instr.sliceBounds]
 ·simp [Instr.sliceBounds,Instr.sliceBound,asIntOf,hy',h2]
 ·simp [Instr.sliceBounds,Instr.sliceBound,asIntOf,hy,h1]
 ·simp [Instr.sliceBounds,Instr.sliceBound,asIntOf,hy,hy',h1,h2]
theorem E9 {e:TypeId}(h:(P.info? e).isSome=true) (w:World):(sizeOf e).run P w=.ok (Bx P e) w:=by
 obtain ⟨i,hi⟩:=Option.isSome_iff_exists.1 h;exact Nq (by simp [Bx,hi]) w
theorem Ak1 {b j:Nat}{v:Value}(h:w.cell? ⟨b,j,none⟩=some v):j<bsz w b:=by
 unfold World.cell? at h;unfold bsz;split at h
 ·rename_i c e fz hb;simp only at hb;rw [hb];simp only [Option.isSome_none,Bool.false_eq_true,if_false] at h;rcases Nat.lt_or_ge j c.size with hlt|hge
  ·exact hlt
  ·rw [Array.getElem?_eq_none hge] at h;cases h
 ·cases h
theorem Asc (h:D4 N w0 X0 Y β s a w){t:TypeId}{x:Operand}{lo hi:Option Operand}(ho:o.op=.slice t x lo hi none){K:PV->Option R}
  (hk:Af3 P (rd s.hp) t (C4 s.tm x) (lo.map (C4 s.tm)) (hi.map (C4 s.tm)) K=some r):∃v,K v=some r∧F6 P a w o Y β s v [] []:=by
 have hx:=D0 h x;have hxr:=Gb h x;unfold Af3 at hk;split at hk
 ·rename_i hu;obtain ⟨sb,hxs,hk⟩:=Gu hk;have hax:=Di h hxs;obtain ⟨l,hk,hl⟩:=Jc h hk;obtain ⟨u,hk,hu'⟩:=Jc h hk;obtain ⟨hb,hk⟩:=A8 hk;simp only [Bool.and_eq_true,decide_eq_true_eq] at hb;refine ⟨_,hk,Dr ?_⟩;unfold execOp;rw [ho];simp [Instr.sliceAt,Instr.slice,run_underlying hu,hax,Kq hl hu' hb.1 hb.2]
 ·rename_i e hu;obtain ⟨hinf,hk⟩:=A8 hk;split at hk
  ·rename_i id es off n e';rw [e'] at hx hxr;obtain ⟨hes,hk⟩:=A8 hk;have hes:=Nat.eq_of_beq_eq_true hes;subst hes;obtain ⟨l,hk,hl⟩:=Jc h hk;obtain ⟨u,hk,hu'⟩:=Jc h hk;obtain ⟨hb,hk⟩:=A8 hk;simp only [Bool.and_eq_true,decide_eq_true_eq] at hb;rcases hx with ⟨hβ,rfl,rfl,hax⟩|⟨b,ob,y,cap,hβ,hax,hy,hn,hcap,hlt⟩
   ·have hu0:u=0:=by omega
    have hl0:l=0:=by omega
    subst hu0 hl0;refine ⟨_,hk,Cx (val:=.slice none 0 0) ?_ (.inl ⟨hβ,by simp,rfl,rfl⟩) hxr⟩
    unfold execOp;rw [ho];simp [Instr.sliceAt,Instr.slice,run_underlying hu,hax,Kq hl hu' (Nat.le_refl 0) (Nat.le_refl 0),E9 hinf]
   ·have hrun:(execOp a.eval o).run P w=.ok (.value (.slice (some (if cap=l then ⟨b,y,none⟩ else ⟨b,y+l*Bx P e,none⟩)) (u-l) (cap-l))) w:=by
     unfold execOp;rw [ho];have hbr:=Kq (P:=P) (w:=w) (isS:=true) hl hu' hb.1 (Nat.le_trans hb.2 hn);simp [Instr.sliceAt,Instr.slice,run_underlying hu,hax,hbr,E9 hinf,F7];split<;>rfl
    refine ⟨_,hk,Cx hrun (.inr ?_) hxr⟩;by_cases hc:cap=l
    ·rw [if_pos hc];refine ⟨b,ob,y,cap-l,hβ,rfl,?_,by omega,by rw [hc,Nat.sub_self];omega,hlt⟩
     by_cases h0:l*Bx P e=0
     ·rw [h0,Nat.add_zero];rcases hy with hy|⟨hn0,hoff⟩
      ·exact .inl hy
      ·exact .inr ⟨by omega,hoff⟩
     ·exact .inr ⟨by omega,by omega⟩
    ·rw [if_neg hc];refine ⟨b,ob,y+l*Bx P e,cap-l,hβ,rfl,?_,by omega,?_,hlt⟩
     ·rcases hy with hy|⟨hn0,hoff⟩
      ·exact .inl (by omega)
      ·exact .inr ⟨by omega,by omega⟩
     ·have:l*Bx P e+(cap-l)*Bx P e=cap*Bx P e:=by
       rw [←Nat.add_mul]
       congr 1
       omega
      omega
  ·obtain ⟨z,n,c,hk,hp⟩:=He hk;obtain ⟨l,hk,hl⟩:=Jc h hk;obtain ⟨u,hk,hu'⟩:=Jc h hk;obtain ⟨hb,hk⟩:=A8 hk;simp only [Bool.and_eq_true,decide_eq_true_eq] at hb;rcases Jf hp hx with ⟨hax,rfl,rfl⟩|⟨ad,cap,hax,rfl,hn,h1,h2,h3,h4⟩|⟨ad,cap,hax,rfl,rfl,rfl⟩
   rotate_right
   ·have hu0:u=0:=by omega
    have hl0:l=0:=by omega
    subst hu0 hl0;refine ⟨_,hk,Cx (val:=.slice (some (if cap=0 then ad else ad.add (0*Bx P e))) (0-0) (cap-0)) ?_ ?_ (by intro i hi;cases hi)⟩
    ·unfold execOp;rw [ho];have hbr:=Kq (P:=P) (w:=w) (isS:=true) hl hu' (Nat.le_refl 0) (Nat.zero_le cap);simp [Instr.sliceAt,Instr.slice,run_underlying hu,hax,hbr,E9 hinf];split<;>rfl
    ·have:((([]:List PV).drop (0*Bx P e)).take ((0-0)*Bx P e))=[]:=by simp
     rw [this];exact Bu.lemp _ _ _
   ·have hu0:u=0:=by omega
    have hl0:l=0:=by omega
    subst hu0 hl0;refine ⟨_,hk,Cx (val:=.slice none 0 0) ?_ ?_ (by intro i hi;cases hi)⟩
    ·unfold execOp;rw [ho];simp [Instr.sliceAt,Instr.slice,run_underlying hu,hax,Kq hl hu' (Nat.le_refl 0) (Nat.le_refl 0),E9 hinf]
    ·have:((([]:List PV).drop (0*Bx P e)).take ((0-0)*Bx P e))=[]:=by simp
     rw [this];exact Bu.lnil z _
   ·have hrun:(execOp a.eval o).run P w=.ok (.value (.slice (some (if cap=l then ad else ad.add (l*Bx P e))) (u-l) (cap-l))) w:=by
     unfold execOp;rw [ho];have hbr:=Kq (P:=P) (w:=w) (isS:=true) hl hu' hb.1 (Nat.le_trans hb.2 hn);simp [Instr.sliceAt,Instr.slice,run_underlying hu,hax,hbr,E9 hinf];split<;>rfl
    refine ⟨_,hk,Cx hrun ?_ (by intro i hi;cases hi)⟩
    by_cases hc:cap=l
    ·rw [if_pos hc];have:u-l=0:=by omega
     rw [this];simp only [Nat.zero_mul,List.take_zero];exact Bu.lst _ _ [] ad _ (fun _=>undef) h1 h2 h3 (by omega) (by simp) (by simp) (by simp)
    ·rw [if_neg hc]
     have hcell:∀(j:Nat) q,((c.drop (l*Bx P e)).take ((u-l)*Bx P e))[j]?=some q->c[l*Bx P e+j]?=some q:=by
      intro j q hq;rw [List.getElem?_take] at hq;split at hq
      ·rw [List.getElem?_drop] at hq;exact hq
      ·cases hq
     refine Bu.lst _ _ _ (ad.add (l*Bx P e)) _ (fun j=>(w.cell? (ad.add (l*Bx P e+j))).getD undef) (A27 h1 _) (by rw [Hp];exact h2) (by rw [Hp];exact h3) (by omega) (fun j q hq=>?_) (fun j q hq=>?_) (fun j q hq=>?_)
     ·obtain ⟨v,hv,_⟩:=h4 _ q (hcell j q hq);rw [add_add,hv];rfl
     ·obtain ⟨v,hv,h5,_⟩:=h4 _ q (hcell j q hq);rw [hv];exact h5
     ·obtain ⟨v,hv,_,ht⟩:=h4 _ q (hcell j q hq);rw [hv];exact ht
 ·rename_i n e hu;obtain ⟨hinf,hk⟩:=A8 hk;split at hk
  ·rename_i id off e';rw [e'] at hx hxr;obtain ⟨c,hrc,hk⟩:=Dy hk;obtain ⟨hlen,hk⟩:=A8 hk;simp only [Bool.and_eq_true,decide_eq_true_eq] at hlen;obtain ⟨l,hk,hl⟩:=Jc h hk;obtain ⟨u,hk,hu'⟩:=Jc h hk;obtain ⟨hb,hk⟩:=A8 hk;simp only [Bool.and_eq_true,decide_eq_true_eq] at hb;obtain ⟨b,ob,hβ,hax⟩:=hx
   have hbs:ob+off+n*Bx P e<=bsz w b:=by
    obtain ⟨v,hv,_⟩:=Ak8 h hrc hβ (j:=off+n*Bx P e-1) (List.getElem?_eq_getElem (by omega))
    have:=Ak1 hv;omega
   have hlt:b<w.heap.size:=h.blt id b ob (hxr id (by simp [Cv,Dg,Bd])) hβ
   have hrun:(execOp a.eval o).run P w=.ok (.value (.slice (some (if n=l then ⟨b,ob+off,none⟩ else ⟨b,ob+off+l*Bx P e,none⟩)) (u-l) (n-l))) w:=by
    unfold execOp;rw [ho];have hbr:=Kq (P:=P) (w:=w) (isS:=false) hl hu' hb.1 hb.2;simp [Instr.sliceAt,Instr.sureAddr,run_underlying hu,hax,hbr,E9 hinf,F7]
   refine ⟨_,hk,Cx hrun (.inr ?_) hxr⟩;by_cases hc:n=l
   ·rw [if_pos hc];refine ⟨b,ob,ob+off,n-l,hβ,rfl,?_,by omega,by rw [hc,Nat.sub_self];omega,hlt⟩
    by_cases h0:l*Bx P e=0
    ·rw [h0,Nat.add_zero];exact .inl rfl
    ·exact .inr ⟨by omega,by omega⟩
   ·rw [if_neg hc];refine ⟨b,ob,ob+off+l*Bx P e,n-l,hβ,rfl,.inl (by omega),by omega,?_,hlt⟩
    have:l*Bx P e+(n-l)*Bx P e=n*Bx P e:=by
     rw [←Nat.add_mul]
     congr 1
     omega
    omega
  ·cases hk
 ·cases hk
end
open Go.RowKit
section
variable {R:Type} {r:R} {P:Program} {N:Nat} {w0:World} {X0:Jx} {Y:Nat->Prop} {β β':Bt} {s:St} {a:Act} {w w':World} {o:Oper} {A:Nat->Prop}
theorem Ay1 (h:D4 N w0 X0 Y β s a w){c:Call}(ho:o.op=.call c)(hc:c.callee=.builtin .len){K:PV->Option R}
  (hk:(Ab c.args.toList fun x _=>Ab c.argTypes.toList fun t _=>Ayd P t (C4 s.tm x) fun n=>K (.sc (.int .i64 n)))=some r):∃v,K v=some r∧F6 P a w o Y β s v [] []:=by
 obtain ⟨x,xs,hxs,hk⟩:=Bs hk;obtain ⟨t,ts,hts,hk⟩:=Bs hk;have hx:=D0 h x;have hargs:c.args=(x::xs).toArray:=by rw [←hxs]
 have htys:c.argTypes=(t::ts).toArray:=by rw [←hts]
 have hrun:∀n:Nat,(Builtin.len_ c.argTypes o.type (c.args.map a.eval)).run P w=.ok (.int .i64 n) w->(execOp a.eval o).run P w=.ok (.value (.int .i64 n)) w:=by
  intro n hl;unfold execOp;rw [ho];simp only [resolve,hc,invoke,builtin,Sem.run_bind,Sem.run_pure,Result.andThen_ok,hl]
 unfold Ayd at hk;split at hk
 ·rename_i hu;obtain ⟨sb,hxs',hk⟩:=Gu hk;have hax:=Di h hxs';refine ⟨_,hk,Dr (hrun _ ?_)⟩;simp [Builtin.len_,hargs,htys,run_underlying hu,hax,goInt]
 ·rename_i n e hu;refine ⟨_,hk,Dr (hrun _ ?_)⟩;simp [Builtin.len_,hargs,htys,run_underlying hu,goInt]
 ·rename_i e hu;split at hk
  ·rename_i id es off n e';rw [e'] at hx;obtain ⟨_,hk⟩:=A8 hk;refine ⟨_,hk,Dr (hrun _ ?_)⟩;rcases hx with ⟨_,_,rfl,hax⟩|⟨b,ob,y,cap,_,hax,_⟩<;>simp [Builtin.len_,hargs,htys,run_underlying hu,hax,goInt]
  ·obtain ⟨z,n,cc,hk,hp⟩:=He hk;refine ⟨_,hk,Dr (hrun _ ?_)⟩;rcases Jf hp hx with ⟨hax,rfl,_⟩|⟨ad,cap,hax,_⟩|⟨ad,cap,hax,_,rfl,_⟩<;>simp [Builtin.len_,hargs,htys,run_underlying hu,hax,goInt]
 ·cases hk
theorem Ayx (h:D4 N w0 X0 Y β s a w){c:Call}(ho:o.op=.call c)(hc:c.callee=.builtin .cap){K:PV->Option R}
  (hk:(Ab c.args.toList fun x _=>Ab c.argTypes.toList fun t _=>A0g P t (C4 s.tm x) fun n=>K (.sc (.int .i64 n)))=some r):∃v,K v=some r∧F6 P a w o Y β s v [] []:=by
 obtain ⟨x,xs,hxs,hk⟩:=Bs hk;obtain ⟨t,ts,hts,hk⟩:=Bs hk;have hx:=D0 h x;have hargs:c.args=(x::xs).toArray:=by rw [←hxs]
 have htys:c.argTypes=(t::ts).toArray:=by rw [←hts]
 have hrun:∀n:Nat,(Builtin.cap_ c.argTypes o.type (c.args.map a.eval)).run P w=.ok (.int .i64 n) w->(execOp a.eval o).run P w=.ok (.value (.int .i64 n)) w:=by
  intro n hl;unfold execOp;rw [ho];simp only [resolve,hc,invoke,builtin,Sem.run_bind,Sem.run_pure,Result.andThen_ok,hl]
 unfold A0g at hk;split at hk
 ·rename_i e hu;obtain ⟨z,n,cc,hk,hp⟩:=He hk;obtain ⟨hz,hk⟩:=A8 hk;refine ⟨_,hk,Dr (hrun _ ?_)⟩;rcases Jf hp hx with ⟨hax,rfl,_⟩|⟨ad,cap,hax,hzf,_⟩|⟨ad,cap,hax,hzf,_,_⟩
  ·simp [Builtin.cap_,hargs,htys,run_underlying hu,hax,goInt]
  ·rw [hz] at hzf;cases hzf
  ·rw [hz] at hzf;cases hzf
 ·cases hk
theorem Ayq (h:D4 N w0 X0 Y β s a w){c:Call}(ho:o.op=.call c)(hc:c.callee=.builtin .min){K:PV->Option R}
  (hk:(Ab c.args.toList fun x r=>Ab r fun y r'=>Ac r' (A4l (C4 s.tm x) (C4 s.tm y) K))=some r):∃v,K v=some r∧F6 P a w o Y β s v [] []:=by
 obtain ⟨x,xs,hxs,hk⟩:=Bs hk;obtain ⟨y,ys,rfl,hk⟩:=Bs hk;obtain ⟨rfl,hk⟩:=Eh hk;obtain ⟨k,n,hx,hk⟩:=Ef hk;obtain ⟨m,hy,hk⟩:=Je hk
 have hargs:c.args = #[x,y]:=by
  have:c.args=([x,y]:List Operand).toArray:=by rw [←hxs]
  exact this
 refine ⟨_,hk,Dr ?_⟩;unfold execOp;rw [ho];simp [resolve,hc,invoke,builtin,hargs,Builtin.min_,Builtin.min2,Di h hx,Di h hy]
theorem Ay4 (h:D4 N w0 X0 Y β s a w){c:Call}(ho:o.op=.call c)(hc:c.callee=.builtin .max){K:PV->Option R}
  (hk:(Ab c.args.toList fun x r=>Ab r fun y r'=>Ac r' (A5q (C4 s.tm x) (C4 s.tm y) K))=some r):∃v,K v=some r∧F6 P a w o Y β s v [] []:=by
 obtain ⟨x,xs,hxs,hk⟩:=Bs hk;obtain ⟨y,ys,rfl,hk⟩:=Bs hk;obtain ⟨rfl,hk⟩:=Eh hk;obtain ⟨k,n,hx,hk⟩:=Ef hk;obtain ⟨m,hy,hk⟩:=Je hk
 have hargs:c.args = #[x,y]:=by
  have:c.args=([x,y]:List Operand).toArray:=by rw [←hxs]
  exact this
 refine ⟨_,hk,Dr ?_⟩;unfold execOp;rw [ho];simp [resolve,hc,invoke,builtin,hargs,Builtin.max_,Builtin.max2,Di h hx,Di h hy]
theorem Aud (h:D4 N w0 X0 Y β s a w){op:UnOp}{t:TypeId}{x:Operand}(ho:o.op=.unOp op t x){K:PV->Option R}(hk:unK op (C4 s.tm x) K=some r):
  ∃v,K v=some r∧F6 P a w o Y β s v [] []:=by
 unfold unK at hk;split at hk
 ·obtain ⟨b,hb,hk⟩:=Hu hk;refine ⟨_,hk,Dr ?_⟩;unfold execOp;rw [ho];simp [Op.unary,Di h hb]
 ·obtain ⟨k,n,hb,hk⟩:=Ef hk;refine ⟨_,hk,Dr ?_⟩;unfold execOp;rw [ho];simp [Op.unary,Op.intArith,Di h hb]
 ·obtain ⟨k,n,hb,hk⟩:=Ef hk;refine ⟨_,hk,Dr ?_⟩;unfold execOp;rw [ho];simp [Op.unary,Op.intBits,Di h hb,A8v]
 ·cases hk
theorem Aya {op:BinOp}{k:IntKind}{m n:Int}{t:TypeId}{x y:Operand}{K:PV->Option R}(hs1:op ≠ .shl)(hs2:op ≠ .shr)(hk:Ak3 op k m n K=some r):
  ∃v,K (.sc v)=some r∧(do eqGuard op t x y (.int k m) (.int k n);binOp op t (.int k m) (.int k n)).run P w=.ok v w:=by
 cases op<;>first
  |exact absurd rfl hs1
  |exact absurd rfl hs2
  |(obtain ⟨hb,hk⟩:=A8 hk;have hb:=of_decide_eq_true hb;exact ⟨_,hk,by simp [eqGuard,binOp,Op.intDiv,hb]⟩)
  |exact ⟨_,hk,by simp [eqGuard,binOp,-BitVec.toNat_and,-BitVec.toNat_or,-BitVec.toNat_xor,-gt_iff_lt,-ge_iff_le]<;>rfl⟩
theorem A0b {op:BinOp}{m n:ByteArray}{t:TypeId}{x y:Operand}{K:PV->Option R}(hk:Ajr op m n K=some r):
  ∃v,K (.sc v)=some r∧(do eqGuard op t x y (.string m) (.string n);binOp op t (.string m) (.string n)).run P w=.ok v w:=by
 cases op<;>first
  |cases hk
  |(obtain ⟨hb,hk⟩:=A8 hk;have hb:=of_decide_eq_true hb;exact ⟨_,hk,by
    have hb':¬(((m.size+n.size:Nat):Int)>IntKind.i64.max):=by
     have:IntKind.i64.max=9223372036854775807:=rfl;rw [this];omega
    simp only [eqGuard,binOp,Op.stringOp,if_neg hb'];rfl⟩)
  |exact ⟨_,hk,by simp only [eqGuard,binOp,Op.stringOp,ByteArray.toList_eq];rfl⟩
end
open Go.RowKit
section
variable {R:Type} {r:R} {P:Program} {N:Nat} {w0:World} {X0:Jx} {Y:Nat->Prop} {β β':Bt} {s:St} {a:Act} {w w':World} {o:Oper} {A:Nat->Prop}
theorem Akx {t:TypeId}(hu:P.underlying t=some .bool)(x y:Bool):(Op.equal t (.bool x) (.bool y)).run P w=.ok (x==y) w:=by
 have h:∀d,(Op.equalIn (d+1) t (.bool x) (.bool y)).run P w=.ok (x==y) w:=fun d=>by simp [Op.equalIn,run_underlying hu]
 exact h 9999
theorem Aaf {t e:TypeId}(hu:P.underlying t=some (.slice e)) (x:Option Addr)(n c:Nat):(Op.equal t (.slice x n c) (.slice none 0 0)).run P w=.ok x.isNone w:=by
 have h:∀d,(Op.equalIn (d+1) t (.slice x n c) (.slice none 0 0)).run P w=.ok x.isNone w:=fun d=>by
  cases x<;>simp [Op.equalIn,run_underlying hu]
 exact h 9999
theorem Zp {t:TypeId}(d:Nat){v u:Value}(hv:(∃k m n,P.underlying t=some (.int k)∧v=.int k m∧u=.int k n)∨(∃m n,P.underlying t=some .bool∧v=.bool m∧u=.bool n)∨∃m n,P.underlying t=some .string∧v=.string m∧u=.string n) {b:Bool}
  (hb:∀k m n,v=.int k m->u=.int k n->b=(m==n)) (hb':∀m n,v=.bool m->u=.bool n->b=(m==n)) (hb'':∀m n,v=.string m->u=.string n->b=(m==n)):(Op.equalIn (d+1) t v u).run P w=.ok b w:=by
 rcases hv with ⟨k,m,n,hu,rfl,rfl⟩|⟨m,n,hu,rfl,rfl⟩|⟨m,n,hu,rfl,rfl⟩
 ·rw [hb k m n rfl rfl];simp [Op.equalIn,run_underlying hu]
 ·rw [hb' m n rfl rfl];simp [Op.equalIn,run_underlying hu]
 ·rw [hb'' m n rfl rfl];simp [Op.equalIn,run_underlying hu]
theorem Ajk {t:TypeId}{dsc:TypeDesc}(hu:P.underlying t=some dsc)(hd:Da P t=false){xs:Array Value}{i:Nat}{v:Value}(hv:xs[i]?=some v):(part t xs i).run P w=.ok v w:=by
 simp only [part,Sem.run_bind,U6 hu,hd,Result.andThen_ok];simp [hv]
theorem Axf (d : Nat) : ∀ (fs : List Field) (i : Nat) (xs ys : Array Value) (ps qs : List PV) (K : Bool -> Option R), Ajo P fs i = true -> Alo (fs.map (fty P)) ps qs K = some r ->
    (∀ (j : Nat) p, ps[j]? = some p -> ∃ v, xs[i + j]? = some v ∧ C5 w A β p v) -> (∀ (j : Nat) p, qs[j]? = some p -> ∃ v, ys[i + j]? = some v ∧ C5 w A β p v) ->
    ∃ b, K b = some r ∧ (forIn fs ((none, ()) : Option Bool × Unit) fun (f : Field) (_ : Option Bool × Unit) =>
            if f.name = "_" then pure (ForInStep.yield ((none, ()) : Option Bool × Unit))
            else do
              let x ← part f.type xs f.offset
              let y ← part f.type ys f.offset
              let e ← Op.equalIn (d + 1) f.type x y
              if e = false then pure (ForInStep.done ((some false, ()) : Option Bool × Unit)) else pure (ForInStep.yield ((none, ()) : Option Bool × Unit)) : Sem (Option Bool × Unit)).run P w = .ok (if b then (none, ()) else (some false, ())) w
  | [], i, xs, ys, ps, qs, K, _, hk, _, _ => by
    cases ps with
    | nil => cases qs with
      | nil => exact ⟨true, hk, by simp⟩
      | cons q qs => cases hk
    | cons p ps => cases hk
  | f :: fs, i, xs, ys, ps, qs, K, hfl, hk, hp, hq => by
    simp only [Ajo, Bool.and_eq_true] at hfl
    obtain ⟨⟨⟨hoff, hname⟩, hty⟩, hrest⟩ := hfl
    have hoff := Nat.eq_of_beq_eq_true hoff
    have hname' : f.name ≠ "_" := by simpa using hname
    cases ps with
    | nil =>
      simp only [List.map_cons] at hk
      cases hfty : fty P f <;> rw [hfty] at hk <;> cases hk
    | cons p ps =>
      cases qs with
      | nil =>
        simp only [List.map_cons] at hk
        cases hfty : fty P f <;> rw [hfty] at hk <;> cases hk
      | cons q qs =>
        obtain ⟨v, hv, hpv⟩ := hp 0 p rfl
        obtain ⟨u, hu, hqu⟩ := hq 0 q rfl
        rw [Nat.add_zero] at hv hu
        have main : ∃ b0 dsc, P.underlying f.type = some dsc ∧ Da P f.type = false ∧ (Op.equalIn (d + 1) f.type v u).run P w = .ok b0 w ∧ Alo (fs.map (fty P)) ps qs (fun r => K (b0 && r)) = some r := by
          simp only [List.map_cons] at hk
          unfold fty at hk
          split at hk
          · rename_i k hun
            obtain ⟨m, hpm, hk1⟩ := Je (show Af k p _ = some r from hk)
            obtain ⟨n, hqn, hk2⟩ := Je hk1
            subst hpm hqn
            have hv' : v = .int k m := Bu.val (w := w) (A := A) hpv
            have hu' : u = .int k n := Bu.val (w := w) (A := A) hqu
            subst hv' hu'
            refine ⟨m == n, _, hun, by simp [Da, hun], Zp d (.inl ⟨k, m, n, hun, rfl, rfl⟩) ?_ ?_ ?_, hk2⟩
            · intro k' m' n' h1 h2; injection h1 with _ h1; injection h2 with _ h2; rw [h1, h2]
            · intro m' n' h1; cases h1
            · intro m' n' h1; cases h1
          · rename_i hun
            obtain ⟨m, hpm, hk1⟩ := Hu (show Bw p _ = some r from hk)
            obtain ⟨n, hqn, hk2⟩ := Hu hk1
            subst hpm hqn
            have hv' : v = .bool m := Bu.val (w := w) (A := A) hpv
            have hu' : u = .bool n := Bu.val (w := w) (A := A) hqu
            subst hv' hu'
            refine ⟨m == n, _, hun, by simp [Da, hun], Zp d (.inr (.inl ⟨m, n, hun, rfl, rfl⟩)) ?_ ?_ ?_, hk2⟩
            · intro k' m' n' h1; cases h1
            · intro m' n' h1 h2; injection h1 with h1; injection h2 with h2; rw [h1, h2]
            · intro m' n' h1; cases h1
          · rename_i hun
            obtain ⟨m, hpm, hk1⟩ := Gu (show Cn p _ = some r from hk)
            obtain ⟨n, hqn, hk2⟩ := Gu hk1
            subst hpm hqn
            have hv' : v = .string m := Bu.val (w := w) (A := A) hpv
            have hu' : u = .string n := Bu.val (w := w) (A := A) hqu
            subst hv' hu'
            refine ⟨m == n, _, hun, by simp [Da, hun], Zp d (.inr (.inr ⟨m, n, hun, rfl, rfl⟩)) ?_ ?_ ?_, hk2⟩
            · intro k' m' n' h1; cases h1
            · intro m' n' h1; cases h1
            · intro m' n' h1 h2; injection h1 with h1; injection h2 with h2; rw [h1, h2]
          · cases hk
        obtain ⟨b0, dsc, hun, hagg, he, hk⟩ := main
        obtain ⟨b, hkb, hrun⟩ := Axf d fs (i + 1) xs ys ps qs _ hrest hk (fun j p' hj => by have := hp (j + 1) p' hj; rwa [Nat.add_assoc, Nat.add_comm 1 j]) (fun j p' hj => by have := hq (j + 1) p' hj; rwa [Nat.add_assoc, Nat.add_comm 1 j])
        refine ⟨b0 && b, hkb, ?_⟩
        have hpx : (part f.type xs f.offset).run P w = .ok v w := Ajk hun hagg (by rw [hoff]; exact hv)
        have hpy : (part f.type ys f.offset).run P w = .ok u w := Ajk hun hagg (by rw [hoff]; exact hu)
        cases b0
        · simp [List.forIn_cons, hname', hpx, hpy, he]
        · simp only [Bool.true_and]
          rw [← hrun]
          simp [List.forIn_cons, hname', hpx, hpy, he]
theorem Ak9 (d:Nat){t:TypeId}{fs:Array Field}(hu:P.underlying t=some (.struct fs)) (hst:P.stoodInHeld t=false)(hfl:Ajo P fs.toList 0=true){xs ys:List PV}{vx vy:List Value}
  (hvx:B8 (C5 w A β) xs vx) (hvy:B8 (C5 w A β) ys vy) {K:Bool->Option R}(hk:Alo (fs.toList.map (fty P)) xs ys K=some r):
  ∃b,K b=some r∧(Op.equalIn (d+2) t (.agg ⟨vx⟩) (.agg ⟨vy⟩)).run P w=.ok b w:=by
 obtain ⟨b,hkb,hrun⟩:=Axf (P:=P) (w:=w) (A:=A) (β:=β) d fs.toList 0 ⟨vx⟩ ⟨vy⟩ xs ys K hfl hk (fun j p hj=>by
   obtain ⟨v,hv,hc⟩:=hvx.get hj;exact ⟨v,by simpa using hv,hc⟩) (fun j p hj=>by
   obtain ⟨v,hv,hc⟩:=hvy.get hj;exact ⟨v,by simpa using hv,hc⟩)
 refine ⟨b,hkb,?_⟩;rw [Array.forIn_toList] at hrun;rw [Op.equalIn];simp [run_underlying hu,hst];rw [hrun];cases b<;>simp
theorem Aoe (h:D4 N w0 X0 Y β s a w){t:TypeId}{fs:Array Field}{x y:Operand}{op:BinOp}(hop:op=.eql∨op=.neq)(hu:P.underlying t=some (.struct fs)) (hfl:Aqi P t fs=true){xs ys:List PV}
  (hx:C4 s.tm x=.agg xs)(hy:C4 s.tm y=.agg ys){K:Bool->Option R}(hk:Alo (fs.toList.map (fty P)) xs ys K=some r):
  ∃b,K b=some r∧(do eqGuard op t x y (a.eval x) (a.eval y);binOp op t (a.eval x) (a.eval y)).run P w=.ok (.bool (if op=.eql then b else !b)) w:=by
 have hxv:=D0 h x;have hyv:=D0 h y;rw [hx] at hxv;rw [hy] at hyv;obtain ⟨vx,hax,hvx⟩:=hxv;obtain ⟨vy,hay,hvy⟩:=hyv;simp only [Aqi,Bool.and_eq_true,Bool.not_eq_true'] at hfl;obtain ⟨⟨hfl,hst⟩,heg⟩:=hfl;obtain ⟨b,hkb,heq⟩:=Ak9 9998 hu hst hfl hvx hvy hk;have heq:(Op.equal t (.agg ⟨vx⟩) (.agg ⟨vy⟩)).run P w=.ok b w:=heq;refine ⟨b,hkb,?_⟩;rw [hax,hay];rcases hop with rfl|rfl
 ·simp [eqGuard,binOp,heq,heg]
 ·simp [eqGuard,binOp,heq,heg]
theorem Arf (h:D4 N w0 X0 Y β s a w){op:BinOp}{t ty:TypeId}{x y:Operand}(ho:o.op=.binOp op t x y ty){K:PV->Option R}
  (hk:Zu P op t (C4 s.tm x) (C4 s.tm y) K=some r):∃v,K v=some r∧F6 P a w o Y β s v [] []:=by
 have hrun:∀v,(do eqGuard op t x y (a.eval x) (a.eval y);binOp op t (a.eval x) (a.eval y)).run P w=.ok v w->(execOp a.eval o).run P w=.ok (.value v) w:=by
  intro v hv;unfold execOp;rw [ho];simp only [Sem.run_bind] at hv ⊢;rw [hv];rfl
 unfold Zu at hk;split at hk
 ·rename_i fs hu;split at hk
  ·obtain ⟨hfl,hk⟩:=A8 hk;obtain ⟨xs,hx,hk⟩:=Ja hk;obtain ⟨ys,hy,hk⟩:=Ja hk;obtain ⟨b,hk,hr⟩:=Aoe h (.inl rfl) hu hfl hx hy hk;exact ⟨_,hk,Dr (hrun _ (by rw [hr];rfl))⟩
  ·obtain ⟨hfl,hk⟩:=A8 hk;obtain ⟨xs,hx,hk⟩:=Ja hk;obtain ⟨ys,hy,hk⟩:=Ja hk;obtain ⟨b,hk,hr⟩:=Aoe h (.inr rfl) hu hfl hx hy hk;exact ⟨_,hk,Dr (hrun _ (by rw [hr];rfl))⟩
  ·cases hk
 ·unfold A02 at hk;split at hk
  ·rename_i k hu;split at hk
   ·obtain ⟨m,hx,hk⟩:=Je hk;obtain ⟨k2,n,hy,hk⟩:=Ef hk;obtain ⟨hb,hk⟩:=A8 hk;have hb:=of_decide_eq_true hb;refine ⟨_,hk,Dr (hrun _ ?_)⟩;have:¬n<0:=by omega
    simp [eqGuard,binOp,Op.shift,Di h hx,Di h hy,this]
   ·obtain ⟨m,hx,hk⟩:=Je hk;obtain ⟨k2,n,hy,hk⟩:=Ef hk;obtain ⟨hb,hk⟩:=A8 hk;have hb:=of_decide_eq_true hb;refine ⟨_,hk,Dr (hrun _ ?_)⟩;have:¬n<0:=by omega
    simp [eqGuard,binOp,Op.shift,Di h hx,Di h hy,this]
   ·rename_i hs1 hs2;obtain ⟨m,hx,hk⟩:=Je hk;obtain ⟨n,hy,hk⟩:=Je hk;obtain ⟨v,hk,hr⟩:=Aya (P:=P) (w:=w) (t:=t) (x:=x) (y:=y) hs1 hs2 hk;exact ⟨_,hk,Dr (hrun _ (by rw [Di h hx,Di h hy];exact hr))⟩
  ·rename_i hu;obtain ⟨m,hx,hk⟩:=Gu hk;obtain ⟨n,hy,hk⟩:=Gu hk;obtain ⟨v,hk,hr⟩:=A0b (P:=P) (w:=w) (t:=t) (x:=x) (y:=y) hk;exact ⟨_,hk,Dr (hrun _ (by rw [Di h hx,Di h hy];exact hr))⟩
  ·rename_i hu;split at hk
   ·obtain ⟨m,hx,hk⟩:=Hu hk;obtain ⟨n,hy,hk⟩:=Hu hk;refine ⟨_,hk,Dr (hrun _ ?_)⟩;simp [eqGuard,binOp,Di h hx,Di h hy,Akx hu]
   ·obtain ⟨m,hx,hk⟩:=Hu hk;obtain ⟨n,hy,hk⟩:=Hu hk;refine ⟨_,hk,Dr (hrun _ ?_)⟩;simp [eqGuard,binOp,Di h hx,Di h hy,Akx hu]
   ·cases hk
  ·rename_i e hu;have hx:=D0 h x
   have nilQ:∀{e:Bool} {K':PV->Option R},Ai8 e (C4 s.tm x) K'=some r->∃q ad n c,K' q=some r∧a.eval x=.slice ad n c∧(q=.sc (.bool (if ad.isNone then e else !e))∨q=.ub):=by
    intro e K' hq;unfold Ai8 at hq;split at hq
    ·rename_i e';exact ⟨_,none,0,0,hq,Di h e',.inl rfl⟩
    ·rename_i z es n c e';rcases Jf (.inl e') hx with ⟨hax,rfl,_⟩|⟨ad,cap,hax,rfl,_⟩|⟨ad,cap,hax,rfl,rfl,_⟩
     ·rcases Qv hq with ⟨_,hq⟩|⟨_,hq⟩
      ·exact ⟨_,none,0,0,hq,hax,.inl rfl⟩
      ·rcases Qv hq with ⟨hb,_⟩|⟨_,hq⟩
       ·exact absurd (of_decide_eq_true hb) (by omega)
       ·exact ⟨_,none,0,0,hq,hax,.inr rfl⟩
     ·rcases Qv hq with ⟨hz,_⟩|⟨_,hq⟩
      ·cases hz
      ·rcases Qv hq with ⟨_,hq⟩|⟨_,hq⟩
       ·exact ⟨_,some ad,n,cap,hq,hax,.inl rfl⟩
       ·exact ⟨_,some ad,n,cap,hq,hax,.inr rfl⟩
     ·rcases Qv hq with ⟨hz,_⟩|⟨_,hq⟩
      ·cases hz
      ·rcases Qv hq with ⟨hb,_⟩|⟨_,hq⟩
       ·exact absurd (of_decide_eq_true hb) (by omega)
       ·exact ⟨_,some ad,0,cap,hq,hax,.inr rfl⟩
    ·rename_i id es off n e';rw [e'] at hx;rcases hx with ⟨_,_,rfl,hax⟩|⟨b,ob,y',cap,_,hax,_⟩
     ·rcases Qv hq with ⟨hb,_⟩|⟨_,hq⟩
      ·exact absurd (of_decide_eq_true hb) (by omega)
      ·exact ⟨_,none,0,0,hq,hax,.inr rfl⟩
     ·rcases Qv hq with ⟨_,hq⟩|⟨_,hq⟩
      ·exact ⟨_,_,n,cap,hq,hax,.inl rfl⟩
      ·exact ⟨_,_,n,cap,hq,hax,.inr rfl⟩
    ·cases hq
   split at hk
   ·rename_i hy;obtain ⟨q,ad,n,c,hk,hax,hb⟩:=nilQ hk;rcases hb with rfl|rfl
    ·refine ⟨_,hk,Dr (hrun _ ?_)⟩;cases ad<;>simp [eqGuard,binOp,hax,Di h hy,Aaf hu]
    ·refine ⟨_,hk,Cx (val:=.bool ad.isNone) (hrun _ ?_) (Bu.ub _) (by intro i hi;cases hi)⟩
     simp [eqGuard,binOp,hax,Di h hy,Aaf hu]
   ·rename_i hy;obtain ⟨q,ad,n,c,hk,hax,hb⟩:=nilQ hk;rcases hb with rfl|rfl
    ·refine ⟨_,hk,Dr (hrun _ ?_)⟩;cases ad<;>simp [eqGuard,binOp,hax,Di h hy,Aaf hu]
    ·refine ⟨_,hk,Cx (val:=.bool !ad.isNone) (hrun _ ?_) (Bu.ub _) (by intro i hi;cases hi)⟩
     simp [eqGuard,binOp,hax,Di h hy,Aaf hu]
   ·cases hk
  ·cases hk
end
open Go.RowKit
section
variable {R:Type} {r:R} {P:Program} {N:Nat} {w0:World} {X0:Jx} {Y:Nat->Prop} {β β':Bt} {s:St} {a:Act} {w w':World} {o:Oper} {A:Nat->Prop}
theorem Zl:∀{c:List PV}{l:List UInt8},bytesOf c=some l->∃ns:List Int,c=ns.map (fun n=>.sc (.int .u8 n))∧l=ns.map fun n=>n.toNat.toUInt8
 |[],l,h=>⟨[],rfl,by simp [bytesOf] at h;subst h;rfl⟩
 |p::c,l,h=>by
  unfold bytesOf at h;split at h
  ·rename_i e;cases e
  ·rename_i n r e;cases e;cases hr:bytesOf c with
   |none=>rw [hr] at h;cases h
   |some l'=>
    rw [hr] at h;simp at h;obtain ⟨ns,rfl,rfl⟩:=Zl hr;exact ⟨n::ns,rfl,h.symm⟩
  ·cases h
theorem W8:∀(ns:List Int)(b:ByteArray),ns.foldl (fun r n=>r.push (UInt8.ofNat n.toNat)) b=⟨b.data++(ns.map fun n=>n.toNat.toUInt8).toArray⟩
 |[],b=>by simp
 |n::ns,b=>by
  simp only [List.foldl_cons];rw [W8 ns];simp [ByteArray.push]
theorem Asj (h:D4 N w0 X0 Y β s a w){es:Nat}{x:Operand}{K:Nat->List PV->Option R}(hk:Auc (My s.hp) es (C4 s.tm x) K=some r):
  ∃n c,K n c=some r∧((a.eval x=.slice none 0 0∧n=0∧c=[])∨∃ad cap,a.eval x=.slice (some ad) n cap∧n<=cap∧(c=[]∨ad.block<w.heap.size)∧RdT w (D7 s.hp β Y) ad c):=by
 have hx:=D0 h x;have hxr:=Gb h x;unfold Auc at hk;split at hk
 ·rename_i id es' off n e;rw [e] at hx hxr;cases hb:Nat.beq es' es
  ·rw [hb] at hk;cases hk
  ·rw [hb] at hk;obtain ⟨c,hc,hk⟩:=Dy (show Fe _ _=some r from hk)
   obtain ⟨hl,hk⟩:=A8 hk;have hl:=of_decide_eq_true hl;obtain ⟨f,hbox⟩:=Apa hc;refine ⟨_,_,hk,?_⟩;rcases hx with ⟨_,rfl,rfl,hax⟩|⟨b,ob,y,cap,hβ,hax,hy,hn,_,hlt⟩
   ·exact .inl ⟨hax,rfl,by simp⟩
   ·refine .inr ⟨_,cap,hax,hn,.inr hlt,fun j p hj=>?_⟩
    have hpos:0<n*es:=by
     rcases Nat.eq_zero_or_pos (n*es) with h0|h0
     ·rw [h0] at hj;simp at hj
     ·exact h0
    have hn0:n≠0:=by rintro rfl;simp at hpos
    have hy:y=ob+off:=by rcases hy with hy|⟨h0,_⟩<;>omega
    subst hy;rw [List.getElem?_take] at hj;split at hj
    ·rw [List.getElem?_drop] at hj;rcases h.box id _ hbox with ⟨h1,_⟩|⟨b',o',h1,h2,_⟩
     ·rw [hβ] at h1;cases h1
     ·rw [hβ] at h1;simp at h1;obtain ⟨rfl,rfl⟩:=h1
      obtain ⟨v,hv,h3,ht⟩:=h2 (off+j) p hj;rw [F7] at hv;exact ⟨v,by rw [F7,Nat.add_assoc];exact hv,h3,ht⟩
    ·cases hj
 ·obtain ⟨z,n,c,hk,hp⟩:=He hk;refine ⟨n,c,hk,?_⟩;rcases Jf hp hx with h1|⟨ad,cap,hax,_,hn,h1,h2,_,h4⟩|⟨ad,cap,hax,_,rfl,rfl⟩
  ·exact .inl h1
  ·exact .inr ⟨ad,cap,hax,hn,.inr h2,h4⟩
  ·exact .inr ⟨ad,cap,hax,Nat.zero_le _,.inl rfl,fun j c hj=>by simp at hj⟩
theorem Ax5 (b:ByteArray)(j:Nat)(p:PV)(h:(Ct b)[j]?=some p):∃x,b.data[j]?=some x∧p=.sc (.int .u8 x.toNat):=by
 unfold Ct at h;rw [List.getElem?_map] at h;cases hx:b.data.toList[j]? with
 |none=>rw [hx] at h;cases h
 |some x=>
  rw [hx] at h;simp at h;exact ⟨x,by simpa using hx,h.symm⟩
theorem Avg (h:D4 N w0 X0 Y β s a w){src dst:TypeId}{x:Operand}(ho:o.op=.convert src dst x){d:Nat}{K:PV->List (Nat × Cp)->Option R}
  (hk:Aj4 P (My s.hp) d src dst (C4 s.tm x) K=some r):∃v nw,K v nw=some r∧F6 P a w o Y β s v [] nw:=by
 have hrun:∀v w',(convert src dst (a.eval x)).run P w=.ok v w'->(execOp a.eval o).run P w=.ok (.value v) w':=by
  intro v w' hv;unfold execOp;rw [ho];simp [hv]
 unfold Aj4 at hk;split at hk
 ·rename_i k hu;obtain ⟨hs,hk⟩:=A8 hk;obtain ⟨k',n,hx,hk⟩:=Ef hk;exact ⟨_,_,hk,Dr (hrun _ _ (by rw [Di h hx];obtain ⟨ds,hds⟩:=Option.isSome_iff_exists.1 hs;cases ds<;>simp [convert,run_underlying hds,run_underlying hu,Conv.intToInt]))⟩
 ·rename_i hu;split at hk
  ·rename_i hs;obtain ⟨b,hx,hk⟩:=Gu hk;exact ⟨_,_,hk,Dr (hrun _ _ (by rw [Di h hx];simp [convert,run_underlying hs,run_underlying hu]))⟩
  ·rename_i e hs;split at hk
   ·rename_i he;obtain ⟨n,c,hk,hc⟩:=Asj h hk;obtain ⟨hl,hk⟩:=A8 hk;have hl:=of_decide_eq_true hl;obtain ⟨l,hb,hk⟩:=Dy hk;obtain ⟨ns,rfl,rfl⟩:=Zl hb;refine ⟨_,_,hk,Dr (hrun _ _ ?_)⟩;rcases hc with ⟨hax,rfl,hn⟩|⟨ad,cap,hax,_,_,hrd⟩
    ·have:ns=[]:=by simpa using hn
     subst this;rw [hax,run_convert_bytes_string w src dst e none 0 0 hs he hu];rfl
    ·rw [hax,run_convert_bytes_string w src dst e _ _ _ hs he hu]
     have hld:(loadCells ad n).run P w=.ok (ns.map (Value.int .u8)).toArray w:=by
      have:=run_loadCells_list (P:=P) w ad (ns.map (Value.int .u8)) (fun j v hj=>by
       rw [List.getElem?_map] at hj;cases hn:ns[j]? with
       |none=>rw [hn] at hj;cases hj
       |some m=>
        rw [hn] at hj;simp at hj;subst hj;obtain ⟨v,hv,_,ht⟩:=hrd j (.sc (.int .u8 m)) (by rw [List.getElem?_map,hn];rfl)
        rw [ht.val] at hv;exact hv)
      simp only [List.length_map] at this hl;rw [hl] at this;exact this
     rw [run_bytesToString w ad n cap ns hld,W8];simp
   ·cases hk
  ·cases hk
 ·rename_i e hu;split at hk
  ·rename_i he hs;obtain ⟨b,hx,hk⟩:=Gu hk;obtain ⟨hsz,hk⟩:=A8 hk;have hr:=run_bytes_of_string (P:=P) w src dst e b hs hu he;rw [←Di h hx] at hr
   have hcap:b.size<=grownCap w b.size 0 e:=by
    unfold grownCap;simp [Question.cut]
   have hsize:(bytesRow b (grownCap w b.size 0 e)).size=grownCap w b.size 0 e:=by
    simp only [bytesRow,Array.size_append,Array.size_map,Array.size_replicate];have:b.data.size=b.size:=rfl;omega
   refine ⟨_,_,hk,Ul (c:=bytesRow b (grownCap w b.size 0 e)) (e:=e) (by simp) (hrun _ _ hr) ?_ (fun j p hj=>?_) (.inr ⟨1,b.size,grownCap w b.size 0 e,rfl,rfl,hcap,by rw [hsize];omega⟩)⟩
   ·exact ⟨rfl,rfl,rfl,fun i hi=>Below.heap_alloc w.drew _ i hi,by show (w.heap.push _).size=_;simp,_,by show (w.heap.push _)[w.heap.size]?=_;simp;rfl,.inr (Nat.le_refl _)⟩
   ·obtain ⟨y,hy,rfl⟩:=Ax5 b j p hj;refine ⟨.int .u8 y.toNat,?_,rfl,Bu.sc _⟩
    have hlt:j<b.data.size:=by
     rcases Nat.lt_or_ge j b.data.size with h|h
     ·exact h
     ·rw [Array.getElem?_eq_none h] at hy;cases hy
    simp only [bytesRow];rw [Array.getElem?_append_left (by simpa using hlt),Array.getElem?_map,hy]
    rfl
  ·cases hk
 ·cases hk
end
open Go.RowKit
section
variable {R:Type} {r:R} {P:Program} {N:Nat} {w0:World} {X0:Jx} {Y:Nat->Prop} {β β':Bt} {s:St} {a:Act} {w w':World} {o:Oper} {A:Nat->Prop}
theorem Aet:∀{n:Nat}{l:List PV}{j:Nat}{c:PV},(Xj n l)[j]?=some c->j<n*l.length∧l[j % l.length]?=some c
 |0,l,j,c,h=>by simp [Xj] at h
 |n+1,l,j,c,h=>by
  have e:Xj (n+1) l=l++Xj n l:=by simp [Xj,List.replicate_succ]
  rw [e] at h;by_cases hj:j<l.length
  ·rw [List.getElem?_append_left hj] at h;refine ⟨by rw [Nat.add_mul];omega,?_⟩
   rw [Nat.mod_eq_of_lt hj];exact h
  ·rw [List.getElem?_append_right (by omega)] at h
   obtain ⟨h1,h2⟩:=Aet h;refine ⟨by rw [Nat.add_mul];omega,?_⟩
   rw [Nat.mod_eq_sub_mod (by omega)];exact h2
theorem Aso (n:Nat)(l:List PV):(Xj n l).length=n*l.length:=by
 induction n with
 |zero=>simp [Xj]
 |succ n ih=>
  have e:Xj (n+1) l=l++Xj n l:=by simp [Xj,List.replicate_succ]
  rw [e,List.length_append,ih,Nat.add_mul];omega
theorem Arw {z:Array Value}{n j:Nat}(hj:j<n){v:Value}(hv:z[j % z.size]?=some v):(madeCells z n)[j]?=some v:=by
 unfold madeCells;rw [Array.getElem?_map,Array.getElem?_range,if_pos hj];simp only [Option.map_some];rw [getElem!_def,hv]
theorem Au0 (h:D4 N w0 X0 Y β s a w){t:TypeId}{x y:Operand}(ho:o.op=.makeSlice t x y){d:Nat}{K:PV->List Nat->List (Nat × Cp)->Option R}
  (hk:(match P.underlying t with
   |some (.slice e)=>Ek (C4 s.tm x) fun _ n=>Ek (C4 s.tm y) fun _ m=>
     Ay (decide (0<=n)&&decide (n<=m)&&decide (m*((P.info? e).map (·.bytes)).getD 0<=1099511627776)&&decide (m<=1099511627776))
      (Iw P e fun z=>K (.view d (Bx P e) 0 n.toNat) [] [(d,.ar false (Xj n.toNat z))])
   |_=>none)=some r):∃v fz nw,K v fz nw=some r∧F6 P a w o Y β s v fz nw:=by
 split at hk
 ·rename_i e hu;obtain ⟨k1,n,hx,hk⟩:=Ef hk;obtain ⟨k2,m,hy,hk⟩:=Ef hk;obtain ⟨hb,hk⟩:=A8 hk;simp only [Bool.and_eq_true,decide_eq_true_eq] at hb;obtain ⟨⟨⟨h0,hnm⟩,hbytes⟩,hm⟩:=hb;obtain ⟨z,cs,hk,hz,hct,hl,hsz,hc⟩:=Sz hk
  have hzc:∃i,P.info? e=some i∧i.zero=some z:=by
   unfold Ac1 at hz;cases hi:P.info? e with
   |none=>rw [hi] at hz;cases hz
   |some i=>rw [hi] at hz;exact ⟨i,rfl,hz⟩
  obtain ⟨i,hi,hzi⟩:=hzc;have hisz:Bx P e=i.size:=by simp [Bx,hi]
  simp only [hi,Option.map_some,Option.getD_some] at hbytes;have hr:=run_make (P:=P) w t e i z hu hi hzi k1 k2 n m h0 hnm (by rw [Int.mul_comm];omega) (by omega)
  have hrun:(execOp a.eval o).run P w=.ok (.value (.slice (some ⟨w.heap.size,0,none⟩) n.toNat m.toNat)) (w.alloc (.cells (madeCells z.cells (m.toNat*i.size)) e)):=by
   unfold execOp;rw [ho];simp [Di h hx,Di h hy,hr]
  have hzl:z.cells.size=Bx P e:=by
   have:z.cells.toList.length=z.cells.size:=by simp
   omega
  refine ⟨_,_,_,hk,Ul (c:=madeCells z.cells (m.toNat*i.size)) (e:=e) (by simp) hrun (H3.alloc w _ e) (fun j p hj=>?_) (.inr ⟨Bx P e,n.toNat,m.toNat,rfl,rfl,by omega,by rw [size_madeCells,hisz];exact Nat.le_refl _⟩)⟩
  obtain ⟨h1,h2⟩:=Aet hj;obtain ⟨hT,u,hu',h1',hv⟩:=hc _ p h2;refine ⟨u,Arw ?_ ?_,h1',hv _ _⟩
  ·have:n.toNat*cs.length<=m.toNat*i.size:=by
    rw [hsz,hisz];exact Nat.mul_le_mul_right _ (by omega)
   omega
  ·rw [hzl,←hsz]
   simpa using hu'
 ·cases hk
theorem Ax0 {p:PV}{v:Value}(hp:okP p=true)(hv:Fw w A β p v):B8 (C5 w A β) (cellsOf p) v.cells.toList:=by
 have one:v.oneCell'=true->C5 w A β p v->(∀x,p ≠ .agg x)->B8 (C5 w A β) (cellsOf p) v.cells.toList:=by
  intro h1 h2 h3;have:cellsOf p=[p]:=by cases p<;>first|rfl|exact absurd rfl (h3 _)
  rw [this,Q2 h1];exact ⟨h2,trivial⟩
 unfold okP at hp;split at hp
 ·obtain ⟨vs,rfl,h2⟩:=hv;exact h2
 ·refine one ?_ hv (by simp)
  have hv':Bu w A _ v:=hv;cases hv'<;>rfl
 ·refine one ?_ hv (by simp)
  rcases hv with ⟨_,_,_,rfl⟩|⟨_,_,_,_,_,rfl,_⟩<;>rfl
 ·have:=Agg hv;subst this;exact one rfl hv (by simp)
 ·have:=Agg hv;subst this;exact one rfl hv (by simp)
 ·have:=Agg hv;subst this;exact one rfl hv (by simp)
 ·have:=Agg hv;subst this;exact one rfl hv (by simp)
 ·cases hp
theorem Awv:∀(vs:List Value)(k off:Nat)(cells:Array Value),off+k+vs.length<=cells.size ->
  ((vs.zipIdx k).foldl (fun cs (q:Value × Nat)=>cs.setIfInBounds (off+q.2) q.1) cells).toList=cells.toList.take (off+k)++vs++cells.toList.drop (off+k+vs.length)
 |[],k,off,cells,_=>by simp
 |v::vs,k,off,cells,h=>by
  simp only [List.zipIdx_cons,List.foldl_cons,List.length_cons] at h ⊢;rw [Awv vs (k+1) off _ (by simp;omega)]
  have hlt:off+k<cells.toList.length:=by simp;omega
  simp only [Array.toList_setIfInBounds];rw [show off+(k+1)=off+k+1 from by omega,List.take_succ_eq_append_getElem (by simpa using hlt)]
  rw [List.getElem_set_self,List.take_set_of_le (Nat.le_refl _),List.drop_set_of_lt (by omega)]
  simp only [List.append_assoc,List.cons_append,List.nil_append];rw [show off+k+1+vs.length=off+k+(vs.length+1) from by omega]
theorem Ajc (h:D4 N w0 X0 Y β s a w){Iu:Nat->Option (Nat × Nat)}:∀{parts:List (Nat × Operand)} {pc:List PV}{vc:Array Value}{K:List PV->Option R},
  Zn Iu (parts.map fun q=>(q.1,C4 s.tm q.2)) pc K=some r->B8 (C5 w (D7 s.hp β Y) β) pc vc.toList->(∀c∈pc,∀id∈Bd c,s.hp id≠none) ->
  ∃pc' vc',K pc'=some r∧Instr.fill Iu vc (parts.map fun q=>(q.1,a.eval q.2))=some vc'∧B8 (C5 w (D7 s.hp β Y) β) pc' vc'.toList∧pc'.length=pc.length∧∀c∈pc',∀id∈Bd c,s.hp id≠none
 |[],pc,vc,K,hk,hv,hr=>⟨pc,vc,hk,rfl,hv,rfl,hr⟩
 |(i,x)::parts,pc,vc,K,hk,hv,hr=>by
  simp only [List.map_cons] at hk;unfold Zn at hk;obtain ⟨⟨off,size⟩,hpl,hk⟩:=Dy hk;obtain ⟨hb,hk⟩:=A8 hk;simp only [Bool.and_eq_true] at hb;obtain ⟨⟨hok,hsz⟩,hle⟩:=hb;have hsz:(cellsOf (C4 s.tm x)).length=size:=Nat.eq_of_beq_eq_true hsz;have hle:off+size<=pc.length:=Nat.le_of_ble_eq_true hle;have hxc:=Ax0 hok (D0 h x);have hxl:=hxc.len;have hvl:=hv.len;have hvs:vc.toList.length=vc.size:=by simp
  have hcs:(a.eval x).cells.toList.length=(a.eval x).cells.size:=by simp
  have hset:=Awv (a.eval x).cells.toList 0 off vc (by omega)
  simp only [Nat.add_zero] at hset
  have hset':((a.eval x).cells.zipIdx.foldl (fun cs (q:Value × Nat)=>cs.setIfInBounds (off+q.2) q.1) vc).toList=vc.toList.take off++(a.eval x).cells.toList++vc.toList.drop (off+(a.eval x).cells.toList.length):=by
   rw [←hset,←Array.foldl_toList];simp
  obtain ⟨pc',vc',hk,hf,h2,hl,hr'⟩:=Ajc h (pc:=Cb pc (cellsOf (C4 s.tm x)) off) (vc:=(a.eval x).cells.zipIdx.foldl (fun cs (q:Value × Nat)=>cs.setIfInBounds (off+q.2) q.1) vc) hk (by
    rw [hset',←hxl];exact (((hv.take off).app hxc).app (hv.drop _))) (by
    intro c hc id hid;unfold Cb at hc;rcases List.mem_append.1 hc with hc|hc
    ·rcases List.mem_append.1 hc with hc|hc
     ·exact hr c (List.mem_of_mem_take hc) id hid
     ·refine Gb h x id ?_;cases hp:C4 s.tm x with
      |agg cs=>rw [hp] at hc;exact List.mem_flatMap.2 ⟨c,hc,hid⟩
      |tup cs=>rw [hp] at hc;simp [cellsOf] at hc;subst hc;cases hid
      |_=>rw [hp] at hc;simp [cellsOf] at hc;subst hc;exact hid
    ·exact hr c (List.mem_of_mem_drop hc) id hid)
  refine ⟨pc',vc',hk,?_,h2,?_,hr'⟩
  ·simp only [List.map_cons,Instr.fill,hpl];rw [if_neg (by simp;omega)]
   exact hf
  ·rw [hl];simp [Cb];omega
theorem Arm {t:TypeId}{z:Value}{cs:List PV}(hl:cs.length=z.cells.toList.length)(hc:∀(j:Nat) c,cs[j]?=some c->isT c∧∃u,z.cells.toList[j]?=some u∧u.oneCell'=true∧∀(w:World)(A:Nat->Prop),Bu w A c u) (_ht:Ac1 P t=some z):
  B8 (C5 w A β) cs z.cells.toList∧∀c∈cs,Bd c=[]:=by
 refine ⟨B8.of_at hl fun i c u hci hu=>?_,fun c hcm=>?_⟩
 ·obtain ⟨hT,u',hu',_,hv⟩:=hc i c hci;rw [hu] at hu';cases hu';exact (Rl hT).2 (hv _ _)
 ·obtain ⟨j,hj⟩:=List.mem_iff_getElem?.1 hcm;exact Lr (hc j c hj).1
theorem Ake:∀{fs:List Field},(fs.all fun f=>Ajy P f.type)=true->fs.mapM (fun f=>(P.info? f.type).map fun i=>(f.offset,i.size))=some (fs.map fun f=>(f.offset,Bx P f.type))
 |[],_=>rfl
 |f::fs,h=>by
  simp only [List.all_cons,Bool.and_eq_true] at h;obtain ⟨i,hi⟩:=Option.isSome_iff_exists.1 h.1;simp [List.mapM_cons,hi,Ake h.2,Bx]
theorem Aco {p q:Nat->Option (Nat × Nat)} (h:∀i,p i=q i)(cells:Array Value)(parts:List (Nat × Value)):Instr.fill p cells parts=Instr.fill q cells parts:=by
 have:p=q:=funext h;rw [this]
theorem Atj (h:D4 N w0 X0 Y β s a w){t:TypeId}{ps:Array (Nat × Operand)} (ho:o.op=.build t ps){K:PV->Option R}
  (hk:(Ay (Ut P t&&Da P t)<|Iw P t fun z=>Zn (Wa P t) (ps.toList.map fun q=>(q.1,C4 s.tm q.2)) z fun cs=>Ud (J3 P t) cs 0 fun cs'=>K (.agg cs'))=some r):∃v,K v=some r∧F6 P a w o Y β s v [] []:=by
 obtain ⟨hpl,hk⟩:=A8 hk;simp only [Bool.and_eq_true] at hpl;obtain ⟨hpl,hagg⟩:=hpl;obtain ⟨z,cs,hk,hz,hct,hl,hsz,hc⟩:=Sz hk;obtain ⟨hzr,hzf⟩:=Arm (w:=w) (A:=D7 s.hp β Y) (β:=β) hl hc hz;obtain ⟨pc',vc',hk,hf,h2,hl',hr'⟩:=Ajc h hk hzr (fun c hcm id hid=>by rw [hzf c hcm] at hid;cases hid)
 obtain ⟨qs,hk,hql,hna,hq⟩:=Yh hk
 have hbuilt:P.built t (ps.toList.map fun q=>(q.1,a.eval q.2))=some vc':=by
  have hzi:∃i,P.info? t=some i∧i.zero=some z:=by
   unfold Ac1 at hz;cases hi:P.info? t with
   |none=>rw [hi] at hz;cases hz
   |some i=>rw [hi] at hz;exact ⟨i,rfl,hz⟩
  obtain ⟨i,hi,hzi⟩:=hzi;unfold Ut at hpl;unfold Program.built;split at hpl
  ·rename_i fs hu
   have hf':Instr.fill (((fs.toList.map fun f=>(f.offset,Bx P f.type)).toArray)[·]?) z.cells (ps.toList.map fun q=>(q.1,a.eval q.2))=some vc':=by
    rw [←hf];refine Aco (fun j=>?_) _ _
    simp [Wa,hu]
   simp only [hi,hu,hzi,Ake hpl];exact hf'
  ·rename_i n e hu;obtain ⟨ie,hie⟩:=Option.isSome_iff_exists.1 hpl
   have hf':Instr.fill (fun j=>some (j*ie.size,ie.size)) z.cells (ps.toList.map fun q=>(q.1,a.eval q.2))=some vc':=by
    rw [←hf];refine Aco (fun j=>?_) _ _
    simp [Wa,hu,Bx,hie]
   simp only [hi,hu,hzi,hie];exact hf'
  ·rename_i e hu;simp [Da,hu] at hagg
  ·cases hpl
 refine ⟨_,hk,Cx (val:=.agg vc') ?_ ⟨vc'.toList,rfl,?_⟩ ?_⟩
 ·unfold execOp;rw [ho];have:=run_build (P:=P) w t (ps.map fun q=>(q.1,a.eval q.2)) vc' (by simpa using hbuilt)
  simp [this]
 ·refine B8.of_at (by have:=h2.len;omega) fun j c u hcj hu=>?_
  obtain ⟨p,hp,_,_,hpv⟩:=hq j c hcj;rw [Nat.zero_add] at hp;exact (hpv _ _ _ _ (h2.at_ hp hu)).1
 ·intro id hid;obtain ⟨c,hcm,hid⟩:=List.mem_flatMap.1 (show id∈qs.flatMap Bd from hid)
  obtain ⟨j,hj⟩:=List.mem_iff_getElem?.1 hcm;obtain ⟨p,hp,_,hpr,_⟩:=hq j c hj;rw [Nat.zero_add] at hp;exact hr' p (List.mem_of_getElem? hp) id (hpr id hid)
end
open Go.RowKit
section
variable {R:Type} {r:R} {P:Program} {N:Nat} {w0:World} {X0:Jx} {Y:Nat->Prop} {β β':Bt} {s:St} {a:Act} {w w':World} {o:Oper} {A:Nat->Prop}
theorem Aur (h:D4 N w0 X0 Y β s a w){fz:List Nat}(hfz:∀id∈fz,∃f c,s.hp id=some (.ar f c)) {id:Nat}(hm:id∈fz){f:Bool}{c:List PV}(hb:s.hp id=some (.ar f c)) {b ob:Nat}(hβ:β id=some (b,ob)):
  ¬D7 (Aw s.hp fz) β Y b∧RdT w (D7 (Aw s.hp fz) β Y) ⟨b,ob,none⟩ c∧b<w.heap.size:=by
 have hf:=h.freeze hfz;have he:Aw s.hp fz id=some (.ar true c):=by rw [Cu,if_pos hm,hb];rfl
 rcases hf.box id _ he with ⟨h1,_⟩|⟨b',o',h1,h2,_,h4⟩
 ·rw [hβ] at h1;cases h1
 ·rw [hβ] at h1;simp at h1;obtain ⟨rfl,rfl⟩:=h1;exact ⟨h4 rfl,h2,h.blt id b ob (by rw [hb];simp) hβ⟩
theorem Az4 (h:D4 N w0 X0 Y β s a w){fz:List Nat}(hfz:∀id∈fz,∃f c,s.hp id=some (.ar f c)) {id es off n:Nat}(hm:id∈fz){f:Bool}{c:List PV}(hb:s.hp id=some (.ar f c)) {v:Value}
  (hv:C5 w (D7 s.hp β Y) β (.view id es off n) v):Bu w (D7 (Aw s.hp fz) β Y) (.lst false es n ((c.drop off).take (n*es))) v:=by
 rcases hv with ⟨_,rfl,rfl,rfl⟩|⟨b,ob,y,cap,hβ,rfl,hy,hn,_,hlt⟩
 ·simp only [Nat.zero_mul,List.take_zero];exact Bu.lnil false es
 ·obtain ⟨h1,h2,_⟩:=Aur h hfz hm hb hβ;by_cases hn0:n*es=0
  ·rw [hn0,List.take_zero];exact Bu.lst es n [] ⟨b,y,none⟩ cap (fun _=>undef) rfl hlt h1 hn (by simp) (by simp) (by simp)
  ·have hy:y=ob+off:=by
    rcases hy with hy|⟨h0,_⟩
    ·exact hy
    ·rw [h0] at hn0;simp at hn0
   subst hy
   have hcell:∀(j:Nat) q,((c.drop off).take (n*es))[j]?=some q->c[off+j]?=some q:=by
    intro j q hq;rw [List.getElem?_take] at hq;split at hq
    ·rw [List.getElem?_drop] at hq;exact hq
    ·cases hq
   refine Bu.lst es n _ ⟨b,ob+off,none⟩ cap (fun j=>(w.cell? ⟨b,ob+off+j,none⟩).getD undef) rfl hlt h1 hn (fun j q hq=>?_) (fun j q hq=>?_) (fun j q hq=>?_)
   ·obtain ⟨v,hv,_⟩:=h2 _ q (hcell j q hq);rw [F7,←Nat.add_assoc] at hv;rw [F7,hv];rfl
   ·obtain ⟨v,hv,h3,_⟩:=h2 _ q (hcell j q hq);rw [F7,←Nat.add_assoc] at hv;rw [hv];exact h3
   ·obtain ⟨v,hv,_,ht⟩:=h2 _ q (hcell j q hq);rw [F7,←Nat.add_assoc] at hv;rw [hv];exact ht
theorem Bu.zf {A:Nat->Prop}{z:Bool}{es n:Nat}{c:List PV}{v:Value}(h:Bu w A (.lst z es n c) v):Bu w A (.lst false es n c) v:=by
 cases h with
 |lnil=>exact .lnil _ _
 |lemp=>exact .lemp _ _ _
 |lst _ _ _ a cap f hs hb hA hn hc h1 hr=>exact .lst _ _ _ a cap f hs hb hA hn hc h1 hr
theorem Ajd (h:D4 N w0 X0 Y β s a w){t:CT}{p:PV}{K:PV->List Nat->Option R}(hk:Sn (My s.hp) t p K=some r):
  ∃c m,K c m=some r∧isT c∧isF p∧(∀id∈m,∃f cc,s.hp id=some (.ar f cc))∧∀fz:List Nat,(∀id∈m,id∈fz)->(∀id∈fz,∃f cc,s.hp id=some (.ar f cc))->∀v,C5 w (D7 s.hp β Y) β p v->Bu w (D7 (Aw s.hp fz) β Y) c v∧v.oneCell'=true:=by
 have tree:∀t',(tcK t' p fun c=>K c [])=some r->∃c m,K c m=some r∧isT c∧isF p∧(∀id∈m,∃f cc,s.hp id=some (.ar f cc))∧∀fz:List Nat,(∀id∈m,id∈fz)->(∀id∈fz,∃f cc,s.hp id=some (.ar f cc))->∀v,C5 w (D7 s.hp β Y) β p v->Bu w (D7 (Aw s.hp fz) β Y) c v∧v.oneCell'=true:=by
  intro t' hk;obtain ⟨c,hk,hT,hpT,hv⟩:=Qh hk;refine ⟨c,[],hk,hT,Z7 hpT,by simp,fun fz _ hfz v hpv=>?_⟩
  obtain ⟨h1,h2⟩:=hv _ _ _ _ hpv;exact ⟨h1.step (C1.refl _ _) (fun b _ hb=>hb.imp Up id),h2⟩
 cases t with
 |sl es=>
  unfold Sn at hk;dsimp only at hk;split at hk
  ·rename_i id es' off n;cases hb:Nat.beq es' es
   ·rw [hb] at hk;cases hk
   ·rw [hb] at hk;have:=Nat.eq_of_beq_eq_true hb;subst this;obtain ⟨c,hc,hk⟩:=Dy (show Fe _ _=some r from hk)
    obtain ⟨_,hk⟩:=A8 hk;obtain ⟨f,hbx⟩:=Apa hc;refine ⟨_,[id],hk,trivial,trivial,?_,fun fz hm hfz v hv=>⟨Az4 h hfz (hm id (by simp)) hbx hv,?_⟩⟩
    ·intro i hi;simp at hi;subst hi;exact ⟨f,c,hbx⟩
    ·rcases hv with ⟨_,_,_,rfl⟩|⟨_,_,_,_,_,rfl,_⟩<;>rfl
  ·obtain ⟨z,n,c,hk,hp⟩:=He hk;refine ⟨_,[],hk,trivial,?_,by simp,fun fz _ hfz v hpv=>?_⟩
   ·rcases hp with rfl|⟨rfl,_⟩<;>trivial
   ·have ht:=Acs hp hpv;refine ⟨Bu.zf (ht.step (C1.refl _ _) (fun b _ hb=>hb.imp Up id)),?_⟩
    cases ht<;>rfl
 |int k=>exact tree (.int k) hk
 |bool=>exact tree .bool hk
 |str=>exact tree .str hk
 |any=>exact tree .any hk
theorem Uz (h:D4 N w0 X0 Y β s a w):∀{ts:List CT}{ps:List PV}{K:List PV->List Nat->Option R},Ru (My s.hp) ts ps K=some r ->
  ∃cs m,K cs m=some r∧cs.length=ts.length∧ps.length=ts.length∧(∀c∈cs,isT c)∧(∀p∈ps,isF p)∧(∀id∈m,∃f cc,s.hp id=some (.ar f cc)) ∧
   ∀fz:List Nat,(∀id∈m,id∈fz)->(∀id∈fz,∃f cc,s.hp id=some (.ar f cc))->∀vs,B8 (C5 w (D7 s.hp β Y) β) ps vs->B8 (Bu w (D7 (Aw s.hp fz) β Y)) cs vs∧∀v∈vs,v.oneCell'=true
 |[],[],K,hk=>⟨[],[],hk,rfl,rfl,by simp,by simp,by simp,fun fz _ _ vs hv=>by
   cases vs with
   |nil=>exact ⟨trivial,by simp⟩
   |cons v vs=>exact hv.elim⟩
 |[],_::_,K,hk=>by cases hk
 |_::_,[],K,hk=>by cases hk
 |t::ts,p::ps,K,hk=>by
  unfold Ru at hk;obtain ⟨c,m,hk,hT,hF,hm,hv⟩:=Ajd h hk;obtain ⟨cs,ms,hk,hl,hl',hTs,hFs,hms,hvs⟩:=Uz h hk;refine ⟨c::cs,m++ms,hk,by simp [hl],by simp [hl'],?_,?_,?_,fun fz hfm hfz vs h2=>?_⟩
  ·intro x hx;rcases List.mem_cons.1 hx with rfl|hx
   ·exact hT
   ·exact hTs x hx
  ·intro x hx;rcases List.mem_cons.1 hx with rfl|hx
   ·exact hF
   ·exact hFs x hx
  ·intro x hx;rcases List.mem_append.1 hx with hx|hx
   ·exact hm x hx
   ·exact hms x hx
  ·cases vs with
   |nil=>exact h2.elim
   |cons v vs=>
    obtain ⟨h3,h4⟩:=hv fz (fun i hi=>hfm i (by simp [hi])) hfz v h2.1
    obtain ⟨h5,h6⟩:=hvs fz (fun i hi=>hfm i (by simp [hi])) hfz vs h2.2
    refine ⟨⟨h3,h5⟩,?_⟩;intro x hx;rcases List.mem_cons.1 hx with rfl|hx
    ·exact h4
    ·exact h6 x hx
theorem Ax9 {R':PV->Value->Prop}{cs:List PV}{z:Array Value}(h:B8 R' cs z.toList)(n:Nat):B8 R' (Xj n cs) (madeCells z (n*cs.length)).toList:=by
 have hzl:z.size=cs.length:=by have:=h.len;simp at this;exact this.symm
 refine B8.of_at ?_ fun j c v hc hv=>?_
 ·rw [Aso];simp [size_madeCells]
 ·obtain ⟨h1,h2⟩:=Aet hc
  have hlt:j % cs.length<cs.length:=by
   rcases Nat.lt_or_ge (j % cs.length) cs.length with h|h
   ·exact h
   ·rw [List.getElem?_eq_none h] at h2;cases h2
  obtain ⟨u,hu,hcu⟩:=h.get h2;have:(madeCells z (n*cs.length))[j]?=some u:=Arw h1 (by rw [hzl];simpa using hu)
  have hv':(madeCells z (n*cs.length))[j]?=some v:=by simpa using hv
  rw [this] at hv';cases hv';exact hcu
theorem Agq (h:D4 N w0 X0 Y β s a w){t:TypeId}{n:Nat}{ps:Array (Nat × Operand)} (ho:o.op=.buildSlice t n ps){d:Nat}{K:PV->List Nat->List (Nat × Cp)->Option R}
  (hk:(match P.underlying t with
   |some (.slice e)=>Ay (Ut P t&&Nat.ble (n*Bx P e) 16777216) (Iw P e fun z=>Zn (Wa P t) (ps.toList.map fun q=>(q.1,C4 s.tm q.2)) (Xj n z) fun cs=>
     Ru (My s.hp) (List.replicate n (J3 P e)).flatten cs fun cs' m=>K (.view d (Bx P e) 0 n) m [(d,.ar false cs')])
   |_=>none)=some r):∃v fz nw,K v fz nw=some r∧F6 P a w o Y β s v fz nw:=by
 split at hk
 ·rename_i e hu;obtain ⟨hb,hk⟩:=A8 hk;simp only [Bool.and_eq_true] at hb;have hle:n*Bx P e<=16777216:=Nat.le_of_ble_eq_true hb.2;have hinf:(P.info? e).isSome=true:=by have:=hb.1;unfold Ut at this;rw [hu] at this;exact this
  obtain ⟨z,cs,hk,hz,hct,hl,hsz,hc⟩:=Sz hk;obtain ⟨hzr,hzf⟩:=Arm (w:=w) (A:=D7 s.hp β Y) (β:=β) hl hc hz;have hrep:=Ax9 hzr n
  obtain ⟨pc',vc',hk,hf,h2,hl',hr'⟩:=Ajc h hk hrep (fun c hcm id hid=>by
   obtain ⟨j,hj⟩:=List.mem_iff_getElem?.1 hcm;obtain ⟨_,hg⟩:=Aet hj;rw [hzf c (List.mem_of_getElem? hg)] at hid;cases hid)
  obtain ⟨qs,m,hk,hql,hpl,hqT,_,hm,hqv⟩:=Uz h hk;obtain ⟨h3,h3'⟩:=hqv m (fun _ hi=>hi) hm _ h2
  have hf':Instr.fill (fun i=>some (i*Bx P e,Bx P e)) (madeCells z.cells (n*cs.length)) (ps.toList.map fun q=>(q.1,a.eval q.2))=some vc':=by
   rw [←hf];refine Aco (fun i=>?_) _ _
   simp [Wa,hu]
  have hvl:vc'.size=n*Bx P e:=by
   have h4:=h2.len;rw [hl',Aso] at h4;simp at h4;rw [←h4,hsz]
  have hrun:(execOp a.eval o).run P w=.ok (.value (.slice (some ⟨w.heap.size,0,none⟩) n n)) (w.alloc (.cells vc' e)):=by
   unfold execOp;rw [ho];have hle':¬(n*Bx P e>2 ^ 24):=by omega
   rw [hsz] at hf';by_cases hn0:n*Bx P e=0
   ·simp only [Instr.buildSlice,Sem.run_bind,run_underlying hu,Result.andThen_ok,E9 hinf,if_neg hle',hn0];rw [hn0] at hf';have e0:madeCells z.cells 0=(Array.range 0).map (fun _=>default):=by simp [madeCells]
    rw [e0] at hf';simp [hf',newRow]
   ·simp only [Instr.buildSlice,Sem.run_bind,run_underlying hu,Result.andThen_ok,E9 hinf,if_neg hle',if_neg hn0,Abc hz];unfold madeCells at hf';simp [hf',newRow]
  refine ⟨_,_,_,hk,Ul (c:=vc') (e:=e) hm hrun (H3.alloc w vc' e) (fun j p hj=>?_) (.inr ⟨Bx P e,n,n,rfl,rfl,Nat.le_refl _,by rw [hvl];exact Nat.le_refl _⟩)⟩
  obtain ⟨u,hu',hp⟩:=h3.get hj;exact ⟨u,by simpa using hu',h3' u (List.mem_of_getElem? hu'),hp⟩
 ·cases hk
end
end
end Go.Proofs.YtgfgmbpmghgbkaaGreatDoor.Pv
