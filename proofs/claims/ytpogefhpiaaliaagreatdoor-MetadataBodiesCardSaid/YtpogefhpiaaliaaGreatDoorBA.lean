/-
  The proof of MetadataBodies, part 1.
-/
import Derived.Orders
import Derived.LoopN
import Derived.Below
import Derived.Lib.ValidU
import Derived.Lib.Bytealg
import Derived.IntWalk
import Derived.WalkKit
import Derived.WalkLawsBesides
import Derived.Laws.IdiomStrings
import Derived.Laws.MakeOwn
import Derived.Laws.Tables
set_option linter.unusedSimpArgs false
set_option linter.unusedVariables false
namespace Go.Proofs.YtpogefhpiaaliaaGreatDoor.Pv
section
inductive PV where
 |sc (v:Value)
 |lst (z:Bool) (es n:Nat) (cells:List PV)
 |own (es n:Nat) (cells:List PV)
 |view (id es off n:Nat)
 |ptr (id off:Nat)
 |iptr (cells:List PV) (off:Nat)
 |pbox (cells:List PV)
 |agg (cells:List PV)
 |tup (vs:List PV)
 |top
 |ub
inductive Cb where
 |st (cells:List PV)
 |ar (fz:Bool) (cells:List PV)
 |mv
structure St where
 tm:Nat->PV
 hp:Nat->Option Cb
structure A4 where
 vals:List PV
 outs:List (List PV)
structure Kf where
 shr:FuncId->Bool
 mvd:FuncId->Nat->Bool
 lnd:FuncId->Nat->Bool
 kz:FuncId->Bool
 ext:FuncId->Option (List PV->Option A4)
def Kf.core (C:Kf):Kf:={ C with ext:=fun _=>none }
def Ds {α:Type}(f:Nat->α)(i:Nat)(v:α):Nat->α:=fun j=>bif Nat.beq j i then v else f j
def rd (hp:Nat->Option Cb)(id:Nat):Option (List PV):=
 match hp id with
 |some (.st c)=>some c
 |some (.ar _ c)=>some c
 |_=>none
def Oz (hp:Nat->Option Cb)(id:Nat):Option (List PV):=
 match hp id with
 |some (.ar _ c)=>some c
 |_=>none
inductive CT where
 |int (k:IntKind)
 |bool
 |str
 |sl (es:Nat)
 |any
def Bz (P:Program)(t:TypeId):Nat:=((P.info? t).map (·.size)).getD 0
def C6 (P:Program)(t:TypeId):Bool:=
 match P.underlying t with
 |some (.struct _)=>true
 |some (.array _ _)=>true
 |_=>false
def A4o (P:Program):Nat->TypeId->List CT
 |0,_=>[]
 |d+1,t=>
  match P.underlying t with
  |some (.int k)=>[.int k]
  |some .bool=>[.bool]
  |some .string=>[.str]
  |some (.slice e)=>[.sl (Bz P e)]
  |some (.struct fs)=>fs.toList.flatMap fun f=>A4o P d f.type
  |some (.array n e)=>(List.replicate n (A4o P d e)).flatten
  |_=>[.any]
abbrev L8 (P:Program)(t:TypeId):List CT:=A4o P 9 t
def Np (P:Program)(t:TypeId):Bool:=(P.underlying t).isSome&&Nat.beq (L8 P t).length (Bz P t)
abbrev Wo (k:IntKind)(a b:Int):Int:=k.wrap (BitVec.ofInt k.bits a &&& BitVec.ofInt k.bits b).toNat
abbrev ior (k:IntKind)(a b:Int):Int:=k.wrap (BitVec.ofInt k.bits a ||| BitVec.ofInt k.bits b).toNat
abbrev Fg (k:IntKind)(a b:Int):Int:=k.wrap (BitVec.ofInt k.bits a ^^^ BitVec.ofInt k.bits b).toNat
abbrev Azb (k:IntKind)(a b:Int):Int:=k.wrap (BitVec.ofInt k.bits a &&& ~~~BitVec.ofInt k.bits b).toNat
abbrev Jf (k:IntKind)(a b:Int):Int:=k.wrap (a*2 ^ (min b.toNat k.bits))
abbrev Ft (k:IntKind)(a b:Int):Int:=a.fdiv (2 ^ (min b.toNat k.bits))
abbrev A7e (k:IntKind)(n:Int):Int:=k.wrap (BitVec.ofInt k.bits (if k.signed then -1 else k.max) ^^^ BitVec.ofInt k.bits n).toNat
section
variable {R:Type}
def Ae (k:IntKind)(p:PV)(K:Int->Option R):Option R:=
 match p with
 |.sc (.int k' n)=>if k'=k then K n else none
 |_=>none
def B3 (p:PV)(K:Bool->Option R):Option R:=
 match p with
 |.sc (.bool b)=>K b
 |_=>none
def Fk (p:PV)(K:ByteArray->Option R):Option R:=
 match p with
 |.sc (.string s)=>K s
 |_=>none
def Fa (es:Nat)(p:PV)(K:Bool->Nat->List PV->Option R):Option R:=
 match p with
 |.lst z es' n c=>bif Nat.beq es' es then K z n c else none
 |.sc (.slice none 0 0)=>K true 0 []
 |_=>none
def fsK (es:Nat)(p:PV)(K:PV->Option R):Option R:=
 match p with
 |.view id es' off n=>bif Nat.beq es' es then K (.view id es off n) else none
 |p=>Fa es p fun z n c=>K (.lst z es n c)
def F5 (es:Nat)(p:PV)(K:Nat->List PV->Option R):Option R:=
 match p with
 |.own es' n c=>bif Nat.beq es' es then K n c else none
 |_=>none
def Aw (b:Bool)(K:Option R):Option R:=bif b then K else none
abbrev Aa {α:Type}(x:α)(K:α->Option R):Option R:=K x
def XZ (b:Bool)(x y:Option R):Option R:=bif b then x else y
abbrev A98 (x:Nat)(K:Nat->Option R):Option R:=K x
def Av1 (x:List (List Nat)) (K:List (List Nat)->Option R):Option R:=K x
def Bm (b:Bool)(x y:Option R):Option R:=bif b then x else y
def F6 {α:Type}(o:Option α)(K:α->Option R):Option R:=
 match o with
 |some a=>K a
 |none=>none
def Ab {α:Type}(l:List α)(K:α->List α->Option R):Option R:=
 match l with
 |a::r=>K a r
 |[]=>none
def Ac {α:Type}(l:List α)(K:Option R):Option R:=
 match l with
 |[]=>K
 |_::_=>none
def Ef (p:PV)(K:List PV->Option R):Option R:=
 match p with
 |.agg c=>K c
 |_=>none
def FP (p:PV)(K:List PV->Option R):Option R:=
 match p with
 |.pbox c=>K c
 |_=>none
def Aj (r:Option A4)(K:List PV->List (List PV)->Option R):Option R:=
 match r with
 |some ⟨v,o⟩=>K v o
 |none=>none
def fnK (p:PV)(K:Value->Option R):Option R:=
 match p with
 |.sc (.func f a b)=>K (.func f a b)
 |_=>none
def fvK (p:PV)(K:FuncId->Option R):Option R:=
 match p with
 |.sc (.func (.func f) a b)=>bif a.isEmpty&&b.isEmpty then K f else none
 |_=>none
def NI (t:CT)(p:PV)(K:PV->Option R):Option R:=
 match t with
 |.int k=>Ae k p fun n=>K (.sc (.int k n))
 |.bool=>B3 p fun b=>K (.sc (.bool b))
 |.str=>Fk p fun s=>K (.sc (.string s))
 |.sl es=>Fa es p fun z n c=>K (.lst z es n c)
 |.any=>fnK p fun v=>K (.sc v)
def fcK (t:CT)(p:PV)(K:PV->Option R):Option R:=
 match t with
 |.sl es=>fsK es p K
 |t=>NI t p K
def BX:List CT->List PV->Nat->(List PV->Option R)->Option R
 |[],_,_,K=>K []
 |t::ts,cells,off,K=>NI t (cells.getD off .top) fun c=>BX ts cells (off+1) fun r=>K (c::r)
def Vr:List CT->List PV->Nat->(List PV->Option R)->Option R
 |[],_,_,K=>K []
 |t::ts,cells,off,K=>fcK t (cells.getD off .top) fun c=>Vr ts cells (off+1) fun r=>K (c::r)
def mkV (agg:Bool)(cells:List PV)(K:PV->Option R):Option R:=
 bif agg then K (.agg cells) else Ab cells fun c r=>Ac r (K c)
def cellsOf:PV->List PV
 |.agg c=>c
 |p=>[p]
def cvK (P:Program)(t:TypeId)(v:Value)(K:PV->Option R):Option R:=
 match v with
 |.agg cs=>Aw (Nat.beq cs.toList.length (L8 P t).length) (BX (L8 P t) (cs.toList.map .sc) 0 fun c=>K (.agg c))
 |.slice none 0 0=>
  match P.underlying t with
  |some (.slice e)=>K (.lst true (Bz P e) 0 [])
  |_=>none
 |v=>K (.sc v)
end
def C8 (tm:Nat->PV):Operand->PV
 |.tmp t=>tm t
 |.const (.agg cs)=>.agg (cs.toList.map .sc)
 |.const v=>.sc v
 |.func f=>.sc (.func (.func f) #[] #[])
 |.global g=>.sc (.pointer (some ⟨g,0,none⟩))
section
variable {R:Type}
def E9 (p:PV)(K:IntKind->Int->Option R):Option R:=
 match p with
 |.sc (.int k n)=>K k n
 |_=>none
def Akl (rdf:Nat->Option (List PV)) (es:Nat)(p:PV)(K:Nat->List PV->Option R):Option R:=
 match p with
 |.view id es' off n=>bif Nat.beq es' es then F6 (rdf id) fun c=>Aw (decide (off+n*es<=c.length)) (K n ((c.drop off).take (n*es))) else none
 |p=>Fa es p fun _ n c=>K n c
def Ug (rdf:Nat->Option (List PV)) (t:CT)(p:PV)(K:PV->List Nat->Option R):Option R:=
 match t with
 |.sl es=>
  match p with
  |.view id es' off n=>bif Nat.beq es' es then F6 (rdf id) fun c=>Aw (decide (off+n*es<=c.length)) (K (.lst false es n ((c.drop off).take (n*es))) [id]) else none
  |p=>Fa es p fun _ n c=>K (.lst false es n c) []
 |t=>NI t p fun c=>K c []
def Tz (rdf:Nat->Option (List PV)):List CT->List PV->(List PV->List Nat->Option R)->Option R
 |[],[],K=>K [] []
 |t::ts,p::ps,K=>Ug rdf t p fun c m=>Tz rdf ts ps fun cs ms=>K (c::cs) (m++ms)
 |_,_,_=>none
def Ai5 (P:Program)(rdf:Nat->Option (List PV)) (t:TypeId)(p:PV)(K:PV->List Nat->Option R):Option R:=
 bif C6 P t then Ef p fun ps=>Tz rdf (L8 P t) ps fun cs m=>K (.agg cs) m
 else Tz rdf (L8 P t) [p] fun cs m=>Ab cs fun c r=>Ac r (K c m)
def XA (P:Program)(rdf:Nat->Option (List PV)):List TypeId->List PV->(List PV->List Nat->Option R)->Option R
 |[],[],K=>K [] []
 |t::ts,p::ps,K=>Ai5 P rdf t p fun v m=>XA P rdf ts ps fun vs ms=>K (v::vs) (m++ms)
 |_,_,_=>none
def As1 (shr:Bool)(id:Nat)(t:CT)(p:PV)(K:PV->List (Nat × Cb)->Option R):Option R:=
 match t with
 |.sl es=>bif shr then Fa es p fun _ n c=>K (.lst false es n c) [] else F5 es p fun n c=>K (.view id es 0 n) [(id,.ar false c)]
 |t=>NI t p fun c=>K c []
def Xk (shr:Bool)(N:Nat):Nat->List CT->List PV->(List PV->List (Nat × Cb)->Option R)->Option R
 |_,[],ps,K=>Ac ps (K [] [])
 |id,t::ts,ps,K=>Ab ps fun p ps=>As1 shr id t p fun c b=>Xk shr N (id+N) ts ps fun cs bs=>K (c::cs) (b++bs)
def JE (P:Program)(t:TypeId):Option TypeId:=
 match P.underlying t with
 |some (.pointer e)=>some e
 |_=>none
def Aet (P:Program)(t:TypeId):Nat:=
 match JE P t with
 |some e=>1+(L8 P e).length
 |none=>(L8 P t).length
def Aop (P:Program)(shr:Bool)(N:Nat)(id:Nat)(t:TypeId)(p:PV)(K:PV->List (Nat × Cb)->Option R):Option R:=
 match JE P t with
 |some e=>FP p fun ps=>Xk shr N (id+N) (L8 P e) ps fun cs bs=>K (.ptr id 0) ((id,.st cs)::bs)
 |none=>
 bif C6 P t then Ef p fun ps=>Xk shr N id (L8 P t) ps fun cs bs=>K (.agg cs) bs
 else Xk shr N id (L8 P t) [p] fun cs bs=>Ab cs fun c r=>Ac r (K c bs)
def PP (P:Program)(shr:Bool)(N:Nat):Nat->List TypeId->List PV->(List PV->List (Nat × Cb)->Option R)->Option R
 |_,[],ps,K=>Ac ps (K [] [])
 |id,t::ts,ps,K=>Ab ps fun p ps=>Aop P shr N id t p fun v bs=>PP P shr N (id+N*Aet P t) ts ps fun vs bs'=>K (v::vs) (bs++bs')
def Tp (P:Program)(t:TypeId):List TypeId:=
 match P.underlying t with
 |some (.tuple ts)=>ts.toList
 |_=>[t]
def Ud (vs:List PV)(t:Bool):PV:=bif t then .tup vs else vs.headD .top
def Vh (P:Program)(t:TypeId):Bool:=
 match P.underlying t with
 |some (.tuple _)=>true
 |_=>false
def Ay0 (op:BinOp)(a b:Int)(K:Bool->Option R):Option R:=
 match op with
 |.eql=>K (a==b)
 |.neq=>K (a != b)
 |.lss=>K (decide (a<b))
 |.leq=>K (decide (a<=b))
 |.gtr=>K (decide (a>b))
 |.geq=>K (decide (a>=b))
 |_=>none
def VA (op:BinOp)(k:IntKind)(a b:Int)(K:PV->Option R):Option R:=
 match op with
 |.add=>Aa ((k.wrap (a+b))) fun n=>K (.sc (.int k n))
 |.sub=>Aa ((k.wrap (a-b))) fun n=>K (.sc (.int k n))
 |.mul=>Aa ((k.wrap (a*b))) fun n=>K (.sc (.int k n))
 |.quo=>Aw (decide (b≠0)) (Aa ((k.wrap (a.tdiv b))) fun n=>K (.sc (.int k n)))
 |.rem=>Aw (decide (b≠0)) (Aa ((a.tmod b)) fun n=>K (.sc (.int k n)))
 |.and=>Aa (Wo k a b) fun n=>K (.sc (.int k n))
 |.or=>Aa (ior k a b) fun n=>K (.sc (.int k n))
 |.xor=>Aa (Fg k a b) fun n=>K (.sc (.int k n))
 |.andNot=>Aa (Azb k a b) fun n=>K (.sc (.int k n))
 |op=>Ay0 op a b fun r=>K (.sc (.bool r))
def WJ (op:BinOp)(x y:ByteArray)(K:PV->Option R):Option R:=
 match op with
 |.add=>Aw (decide (x.size+y.size<=9223372036854775807)) (Aa (x++y) fun s=>K (.sc (.string s)))
 |.eql=>K (.sc (.bool (x.data.toList==y.data.toList)))
 |.neq=>K (.sc (.bool !(x.data.toList==y.data.toList)))
 |.lss=>K (.sc (.bool (Op.bytesLess x.data.toList y.data.toList)))
 |.leq=>K (.sc (.bool (Op.bytesLess x.data.toList y.data.toList||x.data.toList==y.data.toList)))
 |.gtr=>K (.sc (.bool !(Op.bytesLess x.data.toList y.data.toList||x.data.toList==y.data.toList)))
 |.geq=>K (.sc (.bool !(Op.bytesLess x.data.toList y.data.toList)))
 |_=>none
def UY (e:Bool)(p:PV)(K:PV->Option R):Option R:=
 match p with
 |.sc (.slice none 0 0)=>K (.sc (.bool e))
 |.lst z _ n _=>Bm z (K (.sc (.bool e))) (Bm (decide (0<n)) (K (.sc (.bool !e))) (K .ub))
 |.view _ _ _ n=>Bm (decide (0<n)) (K (.sc (.bool !e))) (K .ub)
 |_=>none
def Ahd (P:Program):List Field->Nat->Bool
 |[],_=>true
 |f::r,i=>Nat.beq f.offset i&&(f.name != "_")&&(match P.underlying f.type with|some (.int _)=>true|some .bool=>true|some .string=>true|_=>false)&&Ahd P r (i+1)
def Ty (P:Program):List Field->Nat->Bool
  |[],_=>true
  |f::r,i=>Nat.beq f.offset i&&(f.name != "_") &&
    (match P.underlying f.type with
     |some (.int _)=>Ty P r (i+1)
     |some .bool=>Ty P r (i+1)
     |some .string=>Ty P r (i+1)
     |some (.struct gs)=>Ahd P gs.toList 0 && !P.stoodInHeld f.type&&(P.info? f.type).isSome&&Nat.beq (Bz P f.type) gs.size&&Ty P r (i+gs.size)
     |_=>false)
def Ack (P:Program)(t:TypeId)(fs:Array Field):Bool:=Ty P fs.toList 0 && !P.stoodInHeld t && !P.eqGuardType P.depth t
def fty (P:Program)(f:Field):CT:=
 match P.underlying f.type with
 |some (.int k)=>.int k
 |some .bool=>.bool
 |some .string=>.str
 |_=>.any
def Afr (P:Program)(f:Field):List CT:=
 match P.underlying f.type with
 |some (.struct gs)=>gs.toList.map (fty P)
 |_=>[fty P f]
def FU (P:Program):List Field->List CT
 |[]=>[]
 |f::r=>Afr P f++FU P r
def Qp:List CT->List PV->List PV->(Bool->Option R)->Option R
 |[],[],[],K=>K true
 |.int k::ts,p::ps,q::qs,K=>Ae k p fun a=>Ae k q fun b=>Qp ts ps qs fun r=>K ((a==b)&&r)
 |.bool::ts,p::ps,q::qs,K=>B3 p fun a=>B3 q fun b=>Qp ts ps qs fun r=>K ((a==b)&&r)
 |.str::ts,p::ps,q::qs,K=>Fk p fun a=>Fk q fun b=>Qp ts ps qs fun r=>K ((a==b)&&r)
 |_,_,_,_=>none
def Aqt (P:Program)(op:BinOp)(t:TypeId)(x y:PV)(K:PV->Option R):Option R:=
 match P.underlying t with
 |some (.int k)=>
  match op with
  |.shl=>Ae k x fun a=>E9 y fun _ b=>Aw (decide (0<=b)) (Aa (Jf k a b) fun n=>K (.sc (.int k n)))
  |.shr=>Ae k x fun a=>E9 y fun _ b=>Aw (decide (0<=b)) (Aa (Ft k a b) fun n=>K (.sc (.int k n)))
  |op=>Ae k x fun a=>Ae k y fun b=>VA op k a b K
 |some .string=>Fk x fun a=>Fk y fun b=>WJ op a b K
 |some .bool=>
  match op with
  |.eql=>B3 x fun a=>B3 y fun b=>K (.sc (.bool (a==b)))
  |.neq=>B3 x fun a=>B3 y fun b=>K (.sc (.bool !(a==b)))
  |_=>none
 |some (.slice _)=>
  match op,y with
  |.eql,.sc (.slice none 0 0)=>UY true x K
  |.neq,.sc (.slice none 0 0)=>UY false x K
  |_,_=>none
 |_=>none
def DZ (P:Program)(op:BinOp)(t:TypeId)(x y:PV)(K:PV->Option R):Option R:=
 match P.underlying t with
 |some (.struct fs)=>
  match op with
  |.eql=>Aw (Ack P t fs) (Ef x fun xs=>Ef y fun ys=>Qp (FU P fs.toList) xs ys fun b=>K (.sc (.bool b)))
  |.neq=>Aw (Ack P t fs) (Ef x fun xs=>Ef y fun ys=>Qp (FU P fs.toList) xs ys fun b=>K (.sc (.bool !b)))
  |_=>none
 |_=>Aqt P op t x y K
def unK (op:UnOp)(x:PV)(K:PV->Option R):Option R:=
 match op with
 |.not=>B3 x fun b=>K (.sc (.bool !b))
 |.neg=>E9 x fun k n=>Aa (k.wrap (0-n)) fun n=>K (.sc (.int k n))
 |.xor=>E9 x fun k n=>Aa (A7e k n) fun n=>K (.sc (.int k n))
 |_=>none
def bytesOf:List PV->Option (List UInt8)
 |[]=>some []
 |.sc (.int .u8 n)::r=>(bytesOf r).map (n.toNat.toUInt8 :: ·)
 |_::_=>none
def Ew (s:ByteArray):List PV:=s.data.toList.map fun b=>.sc (.int .u8 b.toNat)
def UX (P:Program)(rdf:Nat->Option (List PV)) (d:Nat)(src dst:TypeId)(x:PV)(K:PV->List (Nat × Cb)->Option R):Option R:=
 match P.underlying dst with
 |some (.int k)=>Aw (P.underlying src).isSome (E9 x fun _ n=>Aa (k.wrap n) fun n=>K (.sc (.int k n)) [])
 |some .string=>
  match P.underlying src with
  |some .string=>Fk x fun s=>K (.sc (.string s)) []
  |some (.slice e)=>
   match P.underlying e with
   |some (.int .u8)=>Akl rdf 1 x fun n c=>Aw (decide (c.length=n)) (F6 (bytesOf c) fun b=>K (.sc (.string ⟨b.toArray⟩)) [])
   |_=>none
  |_=>none
 |some (.slice e)=>
  match P.underlying e,P.underlying src with
  |some (.int .u8),some .string=>Fk x fun s=>Aw (decide (s.size<=1099511627776)) (K (.view d 1 0 s.size) [(d,.ar false (Ew s))])
  |_,_=>none
 |_=>none
def Kb (p:Option PV)(dflt:Nat)(K:Nat->Option R):Option R:=
 match p with
 |none=>K dflt
 |some p=>E9 p fun _ i=>Aw (decide (0<=i)) (K i.toNat)
def OA (P:Program)(rdf:Nat->Option (List PV)) (t:TypeId)(x:PV)(lo hi:Option PV)(K:PV->Option R):Option R:=
 match P.underlying t with
 |some .string=>Fk x fun s=>Kb lo 0 fun l=>Kb hi s.size fun h=>Aw (decide (l<=h)&&decide (h<=s.size)) (Aa (s.extract l h) fun s=>K (.sc (.string s)))
 |some (.slice e)=>Aw (P.info? e).isSome (
  match x with
  |.view id es off n=>Aw (Nat.beq es (Bz P e)) (Kb lo 0 fun l=>Kb hi n fun h=>Aw (decide (l<=h)&&decide (h<=n)) (Aa (off+l*es) fun o=>Aa (h-l) fun n=>K (.view id es o n)))
  |x=>Fa (Bz P e) x fun z n c=>Kb lo 0 fun l=>Kb hi n fun h=>Aw (decide (l<=h)&&decide (h<=n)) (Aa (h-l) fun n=>Aa ((c.drop (l*Bz P e)).take (n*Bz P e)) fun c=>K (.lst z (Bz P e) n c)))
 |some (.array n e)=>Aw (P.info? e).isSome (
  match x with
  |.ptr id off=>F6 (rdf id) fun c=>Aw (decide (1<=n*Bz P e)&&decide (off+n*Bz P e<=c.length))<|Kb lo 0 fun l=>Kb hi n fun h=>Aw (decide (l<=h)&&decide (h<=n)) (Aa (off+l*Bz P e) fun o=>Aa (h-l) fun n=>K (.view id (Bz P e) o n))
  |_=>none)
 |_=>none
def DO (P:Program)(d:Nat)(t:TypeId)(x:PV)(lo hi mx:Option PV)(K:PV->List (Nat × Cb)->Option R):Option R:=
 match P.underlying t with
 |some (.slice e)=>Aw ((P.info? e).isSome&&hi.isSome) (
  match x with
  |.view _ es _ n=>Aw (Nat.beq es (Bz P e)) (Kb lo 0 fun l=>Kb hi n fun h=>Kb mx n fun m=>Aw (Nat.beq l m&&Nat.beq h m&&decide (m<=n)) (K (.view d (Bz P e) 0 0) [(d,.ar false [])]))
  |x=>Fa (Bz P e) x fun _ n _=>Kb lo 0 fun l=>Kb hi n fun h=>Kb mx n fun m=>Aw (Nat.beq l m&&Nat.beq h m&&decide (m<=n)) (K (.view d (Bz P e) 0 0) [(d,.ar false [])]))
 |_=>none
def CR (x:PV)(d:Nat)(K:PV->Option R):Option R:=
 match x with
 |.ptr id off=>K (.ptr id (off+d))
 |.iptr c off=>K (.iptr c (off+d))
 |_=>none
def UK (P:Program)(e:TypeId):Bool:=(P.info? e).isSome
def Xj (P:Program)(t:TypeId)(f:Nat):Option (Nat × TypeId):=
 match P.underlying t with
 |some (.struct fs)=>(fs[f]?).map fun g=>(g.offset,g.type)
 |_=>none
def P0 (P:Program)(t:TypeId)(x:PV)(i:Int)(K:PV->Option R):Option R:=
 match P.underlying t with
 |some (.array n e)=>Aw (UK P e) (Aw (decide (0<=i)&&decide (i<n)) (CR x (i.toNat*Bz P e) K))
 |some (.slice e)=>Aw (UK P e) (
  match x with
  |.view id es off n=>Aw (Nat.beq es (Bz P e)) (Aw (decide (0<=i)&&decide (i<n)) (K (.ptr id (off+i.toNat*es))))
  |x=>Fa (Bz P e) x fun _ n c=>Aw (decide (0<=i)&&decide (i<n)) (K (.iptr c (i.toNat*Bz P e))))
 |_=>none
def UU (P:Program)(rdf:Nat->Option (List PV)) (t:TypeId)(x:PV)(K:PV->Option R):Option R:=
 match x with
 |.ptr id off=>Aw (Np P t) (F6 (rdf id) fun c=>Vr (L8 P t) c off fun cs=>mkV (C6 P t) cs K)
 |.iptr c off=>Aw (Np P t) (BX (L8 P t) c off fun cs=>mkV (C6 P t) cs K)
 |_=>none
def Ace:PV->PV
 |.lst _ es n c=>.lst false es n c
 |p=>p
def Anf:PV->PV
 |.agg cs=>.agg (cs.map Ace)
 |p=>Ace p
def KN (P:Program)(rdf rdaf:Nat->Option (List PV)) (t:TypeId)(x:PV)(K:PV->Option R):Option R:=
 match x with
 |.ptr id off=>Aw (Np P t) (
  match rdaf id with
  |some c=>BX (L8 P t) c off fun cs=>mkV (C6 P t) cs fun v=>K (Anf v)
  |none=>F6 (rdf id) fun c=>Vr (L8 P t) c off fun cs=>mkV (C6 P t) cs K)
 |.iptr c off=>Aw (Np P t) (BX (L8 P t) c off fun cs=>mkV (C6 P t) cs fun v=>K (Anf v))
 |_=>none
def B4 (cells new:List PV)(off:Nat):List PV:=cells.take off++new++cells.drop (off+new.length)
def okP:PV->Bool
 |.agg _=>true
 |.lst _ _ _ _=>true
 |.view _ _ _ _=>true
 |.sc (.int _ _)=>true
 |.sc (.bool _)=>true
 |.sc (.string _)=>true
 |.sc (.slice none 0 0)=>true
 |_=>false
def AQ (Kk:Nat->Option (Nat × Nat)):List (Nat × PV)->List PV->(List PV->Option R)->Option R
 |[],cells,K=>K cells
 |(i,p)::r,cells,K=>F6 (Kk i) fun q=>Aw (okP p&&Nat.beq (cellsOf p).length q.2&&Nat.ble (q.1+q.2) cells.length) (Aa (B4 cells (cellsOf p) q.1) fun cells=>AQ Kk r cells K)
def Zc (P:Program)(t:TypeId)(i:Nat):Option (Nat × Nat):=
 match P.underlying t with
 |some (.struct fs)=>(fs[i]?).map fun f=>(f.offset,Bz P f.type)
 |some (.array _ e)=>some (i*Bz P e,Bz P e)
 |some (.slice e)=>some (i*Bz P e,Bz P e)
 |_=>none
def Wi (P:Program)(t:TypeId):Bool:=
 match P.underlying t with
 |some (.struct fs)=>fs.toList.all fun f=>UK P f.type
 |some (.array _ e)=>UK P e
 |some (.slice e)=>UK P e
 |_=>false
def HQ (P:Program)(t:TypeId):Option Value:=(P.info? t).bind (·.zero)
def Kr (P:Program)(t:TypeId)(K:List PV->Option R):Option R:=
 F6 (HQ P t) fun v=>Aw (Nat.beq v.cells.toList.length (L8 P t).length&&Np P t) (BX (L8 P t) (v.cells.toList.map .sc) 0 K)
def CC (P:Program)(t:TypeId):Bool:=
 match P.underlying t with
 |some (.array _ _)=>true
 |_=>false
def Arj (P:Program)(t:TypeId)(cells:List PV):Cb:=bif CC P t then .ar false cells else .st cells
def Wr (n:Nat)(l:List PV):List PV:=(List.replicate n l).flatten
def Ay5 (a b:PV)(K:PV->Option R):Option R:=E9 a fun k x=>Ae k b fun y=>Aa (if y<x then y else x) fun n=>K (.sc (.int k n))
def Ax8 (a b:PV)(K:PV->Option R):Option R:=E9 a fun k x=>Ae k b fun y=>Aa (if x<y then y else x) fun n=>K (.sc (.int k n))
def Apw (P:Program)(t:TypeId)(x:PV)(K:Nat->Option R):Option R:=
 match P.underlying t with
 |some .string=>Fk x fun s=>K s.size
 |some (.array n _)=>K n
 |some (.slice e)=>
  match x with
  |.view _ es _ n=>Aw (Nat.beq es (Bz P e)) (K n)
  |x=>Fa (Bz P e) x fun _ n _=>K n
 |_=>none
end
abbrev Ah:=FuncId->List PV->Option A4
section
variable {R:Type}
def Oq (P:Program)(ts:List TypeId):Bool:=ts.any fun t=>(JE P t).isSome||(L8 P t).any fun c=>match c with | .sl _=>true|_=>false
def MZ (P:Program)(t:TypeId)(tm:Nat->PV)(x:Operand)(K:PV->Option R):Option R:=
 match x with
 |.const v=>cvK P t v K
 |x=>K (C8 tm x)
def Adl (P:Program)(e:TypeId):Bool:=
 match P.info? e with
 |some i=>(match i.zero with|some z=>Nat.beq z.cells.size i.size|none=>false)
 |none=>false
def Aj3 (P:Program)(rdaf:Nat->Option (List PV)) (es:Nat)(t:TypeId)(x:PV)(K:Nat->List PV->Option R):Option R:=
 match P.underlying t with
 |some .string=>Aw (Nat.beq es 1) (Fk x fun b=>K b.size (Ew b))
 |some (.slice _)=>Akl rdaf es x K
 |_=>none
abbrev Aic (P:Program)(s:St)(es:Nat)(t:TypeId)(x:PV)(K:Nat->List PV->Option R):Option R:=Aj3 P (Oz s.hp) es t x K
def JD (c:Call):Bool:=
 match c.args.toList with
 |.const (.slice none 0 0)::_=>true
 |_=>false
def DS (P:Program)(rdaf:Nat->Option (List PV)) (d:Nat)(t tx:TypeId)(x:PV)(K:PV->List (Nat × Cb)->Option R):Option R:=
 match P.underlying t with
 |some (.slice e)=>Aw (Adl P e) <|
  Aj3 P rdaf (Bz P e) tx x fun m new=>
   Aw (decide (new.length=m*Bz P e)&&decide (m*((P.info? e).map (·.bytes)).getD 0<=1099511627776)&&decide (m<=1099511627776)) (K (.view d (Bz P e) 0 m) [(d,.ar false new)])
 |_=>none
def N8 (k:Bool):List Operand->List PV->List PV
  |x::xs,p::ps=>
    (match x,p with
     |.const (.slice none 0 0),.lst z es 0 []=>.lst (k||z) es 0 []
     |_,p=>p)::N8 k xs ps
  |_,ps=>ps
def Ao3 (P:Program)(t:TypeId)(x:PV)(K:Nat->Option R):Option R:=
 match P.underlying t with
 |some (.slice e)=>Fa (Bz P e) x fun z _ _=>Aw z (K 0)
 |_=>none
def TJ (P:Program)(f:FuncId)(c:Call):List TypeId:=
 match P.funcs[f]? with
 |some fn=>fn.params.toList
 |none=>c.argTypes.toList
def SW (C:Kf)(P:Program)(N:Nat)(call:Ah)(tm:Nat->PV)(rdaf:Nat->Option (List PV)) (o:Oper)(c:Call)(f:FuncId)(K:PV->List Nat->List (Nat × Cb)->Option R):Option R:=
 XA P rdaf (TJ P f c) (c.args.toList.map (C8 tm)) fun vs m=>
  Aj (call f (N8 (C.kz f) c.args.toList vs)) fun rv ro=>Ac ro (Aw (Nat.blt 0 N)<|PP P (C.shr f) N (o.dst.getD 0) (Tp P o.type) rv fun ws bs=>
   Aw (bif Vh P o.type then !Nat.beq ws.length 1 else Nat.beq ws.length 1)<|K (Ud ws (Vh P o.type)) (bif Oq P (Tp P o.type) then m else []) bs)
def WD (C:Kf)(P:Program)(N:Nat)(call:Ah)(tm:Nat->PV)(rdf rdaf:Nat->Option (List PV)) (o:Oper)(K:PV->List Nat->List (Nat × Cb)->Option R):Option R:=
  match o.op with
  |.move x=>MZ P o.type tm x fun p=>K p [] []
  |.assign x=>MZ P o.type tm x fun p=>K p [] []
  |.pick c a b=>B3 (C8 tm c) fun t=>Bm t (K (C8 tm a) [] []) (K (C8 tm b) [] [])
  |.alloc t=>F6 o.dst fun d=>Kr P t fun cs=>K (.ptr d 0) [] [(d,Arj P t cs)]
  |.box t x=>F6 o.dst fun d=>Aw (Np P t&&Nat.beq (cellsOf (C8 tm x)).length (L8 P t).length)
      (bif CC P t then BX (L8 P t) (cellsOf (C8 tm x)) 0 fun cs=>K (.ptr d 0) [] [(d,.ar false cs)]
       else Vr (L8 P t) (cellsOf (C8 tm x)) 0 fun cs=>K (.ptr d 0) [] [(d,.st cs)])
  |.build t ps=>Aw (Wi P t&&C6 P t)<|Kr P t fun z=>AQ (Zc P t) (ps.toList.map fun q=>(q.1,C8 tm q.2)) z fun cs=>Vr (L8 P t) cs 0 fun cs'=>K (.agg cs') [] []
  |.buildSlice t n ps=>F6 o.dst fun d=>
      match P.underlying t with
      |some (.slice e)=>Aw (Wi P t&&Nat.ble (n*Bz P e) 16777216) (Kr P e fun z=>AQ (Zc P t) (ps.toList.map fun q=>(q.1,C8 tm q.2)) (Wr n z) fun cs=>
          Tz rdaf (List.replicate n (L8 P e)).flatten cs fun cs' m=>K (.view d (Bz P e) 0 n) m [(d,.ar false cs')])
      |_=>none
  |.load t a=>KN P rdf rdaf t (C8 tm a) fun v=>K v [] []
  |.nilCheck x=>CR (C8 tm x) 0 fun p=>K p [] []
  |.binOp op t x y _=>
      DZ P op t (C8 tm x) (C8 tm y) fun v=>K v [] []
  |.unOp op _ x=>unK op (C8 tm x) fun v=>K v [] []
  |.convert src dst x=>UX P rdaf (o.dst.getD 0) src dst (C8 tm x) fun v b=>F6 o.dst fun _=>K v [] b
  |.makeSlice t l c=>F6 o.dst fun d=>
      match P.underlying t with
      |some (.slice e)=>E9 (C8 tm l) fun _ n=>E9 (C8 tm c) fun _ m=>
          Aw (decide (0<=n)&&decide (n<=m)&&decide (m*((P.info? e).map (·.bytes)).getD 0<=1099511627776)&&decide (m<=1099511627776))
            (Kr P e fun z=>K (.view d (Bz P e) 0 n.toNat) [] [(d,.ar false (Wr n.toNat z))])
      |_=>none
  |.slice t x lo hi mx=>
      match mx with
      |none=>OA P rdf t (C8 tm x) (lo.map (C8 tm)) (hi.map (C8 tm)) fun v=>K v [] []
      |some m=>F6 o.dst fun d=>DO P d t (C8 tm x) (lo.map (C8 tm)) (hi.map (C8 tm)) (some (C8 tm m)) fun v nw=>K v [] nw
  |.fieldAddr t x f=>F6 (Xj P t f) fun q=>Aw (Nat.ble 1 (Bz P q.2)) (CR (C8 tm x) q.1 fun p=>K p [] [])
  |.field t x f=>F6 (Xj P t f) fun q=>Aw (Np P q.2)<|Ef (C8 tm x) fun cs=>Vr (L8 P q.2) cs q.1 fun c=>mkV (C6 P q.2) c fun v=>K v [] []
  |.indexAddr t x i=>E9 (C8 tm i) fun _ n=>P0 P t (C8 tm x) n fun p=>K p [] []
  |.index t x i=>E9 (C8 tm i) fun _ n=>
      match P.underlying t with
      |some .string=>Fk (C8 tm x) fun s=>Aw (decide (0<=n)) (F6 (s.data.toList[n.toNat]?) fun b=>K (.sc (.int .u8 b.toNat)) [] [])
      |some (.array len e)=>Ef (C8 tm x) fun cs=>Aw (decide (0<=n)&&decide (n<len)&&Np P e) (Vr (L8 P e) cs (n.toNat*Bz P e) fun c=>mkV (C6 P e) c fun v=>K v [] [])
      |_=>none
  |.extract x i=>
      match C8 tm x with
      |.tup vs=>F6 vs[i]? fun p=>K p [] []
      |_=>none
  |.call c=>
      match c.callee with
      |.builtin .len=>Ab c.args.toList fun x _=>Ab c.argTypes.toList fun t _=>Apw P t (C8 tm x) fun n=>K (.sc (.int .i64 n)) [] []
      |.builtin .cap=>Ab c.args.toList fun x _=>Ab c.argTypes.toList fun t _=>Ao3 P t (C8 tm x) fun n=>K (.sc (.int .i64 n)) [] []
      |.builtin .min=>Ab c.args.toList fun x r=>Ab r fun y r'=>Ac r' (Ay5 (C8 tm x) (C8 tm y) fun v=>K v [] [])
      |.builtin .max=>Ab c.args.toList fun x r=>Ab r fun y r'=>Ac r' (Ax8 (C8 tm x) (C8 tm y) fun v=>K v [] [])
      |.builtin .append=>Aw (JD c) (F6 o.dst fun d=>Ab c.args.toList fun _ r=>Ab r fun x r'=>Ac r' (Ab c.argTypes.toList fun t u=>Ab u fun tx _=>DS P rdaf d t tx (C8 tm x) fun v nw=>K v [] nw))
      |.value (.func f)=>SW C P N call tm rdaf o c f K
      |.value (.tmp t)=>fvK (tm t) fun f=>SW C P N call tm rdaf o c f K
      |_=>none
  |_=>none
def Zd (C:Kf)(P:Program)(o:Op):Bool:=
 match o with
 |.store .. =>true
 |.call c=>
  match c.callee with
  |.builtin .append=> !JD c
  |.builtin .copy=>true
  |.builtin _=>false
  |.value (.func f)=>((TJ P f c).any fun t=>(JE P t).isSome)||((TJ P f c).zipIdx.any fun q=>C.mvd f q.2||C.lnd f q.2)
  |_=>false
 |_=>false
def AX (b:Cb):Cb:=
 match b with
 |.ar _ c=>.ar true c
 |b=>b
def Ak (hp:Nat->Option Cb)(ids:List Nat):Nat->Option Cb:=fun i=>bif ids.any (Nat.beq i) then (hp i).map AX else hp i
def Bc (hp:Nat->Option Cb):List (Nat × Cb)->Nat->Option Cb
 |[]=>hp
 |(i,b)::r=>Bc (Ds hp i (some b)) r
def Cx (hp:Nat->Option Cb):List (Nat × Cb)->Bool
 |[]=>true
 |(i,_)::r=>(hp i).isNone && !(r.any fun q=>Nat.beq q.1 i)&&Cx hp r
def Cn (tm:Nat->PV)(d:Option Tmp)(v:PV):Nat->PV:=
 match d with
 |some i=>Ds tm i v
 |none=>tm
def Jh (N:Nat)(d:Option Tmp):Bool:=
 match d with
 |some i=>Nat.blt i N
 |none=>true
def MF (N:Nat)(s:St)(d:Option Tmp)(v:PV)(fz:List Nat)(nw:List (Nat × Cb)) (K:St->Option R):Option R:=
 Aw (Jh N d&&Cx s.hp nw) (K ⟨Cn s.tm d v,Bc (Ak s.hp fz) nw⟩)
def NX (P:Program)(s:St)(t:TypeId)(a x:PV)(K:St->Option R):Option R:=
 match a with
 |.ptr id off=>
  match s.hp id with
  |some (.st c)=>Aw (Np P t&&Nat.beq (cellsOf x).length (L8 P t).length&&decide (off+(L8 P t).length<=c.length)) (Vr (L8 P t) (cellsOf x) 0 fun cs=>Aa (B4 c cs off) fun c=>K ⟨s.tm,Ds s.hp id (some (.st c))⟩)
  |some (.ar false c)=>Aw (Np P t&&decide (off+(L8 P t).length<=c.length)) (Tz (Oz s.hp) (L8 P t) (cellsOf x) fun cs m=>Aw (!m.any (Nat.beq id)) (Aa (B4 c cs off) fun c=>K ⟨s.tm,Ds (Ak s.hp m) id (some (.ar false c))⟩))
  |_=>none
 |_=>none
def LR (P:Program)(t:TypeId):Bool:=
 match P.underlying t with
 |some (.int _)=>true
 |_=>false
def BC (P:Program)(N:Nat)(s:St)(d:Nat)(e:TypeId)(b x:PV)(K:St->Option R):Option R:=
 E9 x fun _ n=>Fa (Bz P e) b fun z _ _=>
  Aw (z&&Nat.blt d N&&(s.hp d).isNone&&decide (0<=n)&&decide (n.toNat*((P.info? e).map (·.bytes)).getD 0<=1099511627776)&&decide (n<=1099511627776))
   (K ⟨Ds s.tm d (.view d (Bz P e) 0 n.toNat),Ds s.hp d (some (.ar false []))⟩)
def Un (P:Program)(N:Nat)(s:St)(d:Nat)(t tx:TypeId)(b x:PV)(K:St->Option R):Option R:=
 match P.underlying t with
 |some (.slice e)=>Aw (Adl P e) <|
  bif LR P tx then BC P N s d e b x K else
  Aic P s (Bz P e) tx x fun m new=>
  match b with
  |.view id es off n=>
   match s.hp id with
   |some (.ar false c)=>
    Aw (Nat.beq es (Bz P e)&&Nat.beq off 0&&Nat.blt d N&&(s.hp d).isNone&&decide (n*es<=c.length)&&decide (new.length=m*es)
     && decide ((n+m)*((P.info? e).map (·.bytes)).getD 0<=1099511627776)&&decide (n+m<=1099511627776))
     (Aa (n+m) fun n'=>Aa (c.take (n*es)++new) fun c=>K ⟨Ds s.tm d (.view d es 0 n'),Ds (Ds s.hp id (some .mv)) d (some (.ar false c))⟩)
   |_=>none
  |b=>Fa (Bz P e) b fun z _ _=>
    Aw (z&&Nat.blt d N&&(s.hp d).isNone&&decide (new.length=m*Bz P e)&&decide (m*((P.info? e).map (·.bytes)).getD 0<=1099511627776)&&decide (m<=1099511627776))
     (K ⟨Ds s.tm d (.view d (Bz P e) 0 m),Ds s.hp d (some (.ar false new))⟩)
 |_=>none
def ZV (P:Program)(N:Nat)(s:St)(d:Option Tmp)(t tx:TypeId)(b x:PV)(K:St->Option R):Option R:=
 match P.underlying t with
 |some (.slice e)=>Aw (UK P e&&Jh N d) <|
  Aic P s (Bz P e) tx x fun m new=>
  match b with
  |.view id es off n=>
   match s.hp id with
   |some (.ar false c)=>Aw (Nat.beq es (Bz P e)&&decide (off+n*es<=c.length)&&decide (new.length=m*es))
     (Aa (min m n) fun k=>Aa (B4 c (new.take (k*es)) off) fun c=>K ⟨Cn s.tm d (.sc (.int .i64 k)),Ds s.hp id (some (.ar false c))⟩)
   |_=>none
  |_=>none
 |_=>none
def Ans (mv:Bool)(hp:Nat->Option Cb)(t:CT)(p:PV)(K:PV->List Nat->List Nat->Option R):Option R:=
 match t with
 |.sl es=>
  bif mv then
   match p with
   |.view id es' off n=>
    match hp id with
    |some (.ar false c)=>
     bif Nat.beq es' es&&Nat.beq off 0 then Aw (decide (n*es<=c.length)) (K (.own es n (c.take (n*es))) [] [id])
     else Ug (Oz hp) (.sl es) (.view id es' off n) fun c m=>K c m []
    |_=>Ug (Oz hp) (.sl es) (.view id es' off n) fun c m=>K c m []
   |p=>Fa es p fun z n c=>bif z then K (.own es 0 []) [] [] else K (.lst false es n c) [] []
  else Ug (Oz hp) (.sl es) p fun c m=>K c m []
 |t=>NI t p fun c=>K c [] []
def OE (mv:Bool)(hp:Nat->Option Cb):List CT->List PV->(List PV->List Nat->List Nat->Option R)->Option R
 |[],[],K=>K [] [] []
 |t::ts,p::ps,K=>Ans mv hp t p fun c m x=>OE mv hp ts ps fun cs ms xs=>K (c::cs) (m++ms) (x++xs)
 |_,_,_=>none
inductive J9 where
 |var (id off:Nat) (cts:List CT) (ws:List PV)
 |row (id:Nat)
 |none
def J9.ids:J9->List Nat
 |.var id _ _ _=>[id]
 |.row id=>[id]
 |.none=>[]
def A6y (P:Program)(t:TypeId):Option TypeId:=
 match P.underlying t with
 |some (.slice e)=>some e
 |_=>none
def Ar9 (hp:Nat->Option Cb)(es:Nat)(p:PV)(K:PV->List J9->Option R):Option R:=
 match p with
 |.view id es' off n=>
  match hp id with
  |some (.ar false c)=>Aw (Nat.beq es' es&&Nat.beq off 0) (K (.tup [.own es n c]) [.row id])
  |_=>none
 |p=>Fa es p fun z _ _=>Aw z (K (.tup [.own es 0 []]) [.none])
def NW (C:Kf)(P:Program)(f:FuncId)(hp:Nat->Option Cb)(i:Nat)(t:TypeId)(p:PV)(K:PV->List Nat->List Nat->List J9->Option R):Option R:=
 match JE P t with
 |some e=>
  match p with
  |.ptr id off=>
   match hp id with
   |some (.st c)=>Aw (Np P e&&decide (off+(L8 P e).length<=c.length)) (OE (C.mvd f i) hp (L8 P e) ((c.drop off).take (L8 P e).length) fun cs m x=>K (.pbox cs) m x [.var id off (L8 P e) cs])
   |_=>none
  |_=>none
 |none=>
  bif C.lnd f i then F6 (A6y P t) fun e=>Ar9 hp (Bz P e) p fun v l=>K v [] [] l
  else bif C6 P t then Ef p fun ps=>OE (C.mvd f i) hp (L8 P t) ps fun cs m x=>K (.agg cs) m x []
  else OE (C.mvd f i) hp (L8 P t) [p] fun cs m x=>Ab cs fun c r=>Ac r (K c m x [])
def Abn (C:Kf)(P:Program)(f:FuncId)(hp:Nat->Option Cb):Nat->List TypeId->List PV->(List PV->List Nat->List Nat->List J9->Option R)->Option R
 |_,[],[],K=>K [] [] [] []
 |i,t::ts,p::ps,K=>NW C P f hp i t p fun v m x l=>Abn C P f hp (i+1) ts ps fun vs ms xs ls=>K (v::vs) (m++ms) (x++xs) (l++ls)
 |_,_,_,_=>none
def CN (hp:Nat->Option Cb)(ids:List Nat):Nat->Option Cb:=fun i=>bif ids.any (Nat.beq i) then (hp i).map (fun _=>Cb.mv) else hp i
def nid (N t:Nat):Nat:=N*(1000+t)
def Aga (N:Nat)(hp:Nat->Option Cb):Nat->Nat->Nat
 |0,t=>t
 |k+1,t=>bif (hp (nid N t)).isNone then t else Aga N hp k (t+1)
def Ani (N t:Nat)(ct:CT)(was p:PV)(K:Nat->PV->List (Nat × Cb)->Option R):Option R:=
 match ct with
 |.sl es=>
  match was with
  |.own _ _ _=>F5 es p fun n c=>K (t+1) (.view (nid N t) es 0 n) [(nid N t,.ar false c)]
  |_=>Fa es p fun _ n c=>K t (.lst false es n c) []
 |ct=>NI ct p fun c=>K t c []
def ZI (N:Nat):Nat->List CT->List PV->List PV->(Nat->List PV->List (Nat × Cb)->Option R)->Option R
 |t,[],[],ps,K=>Ac ps (K t [] [])
 |t,ct::cts,w::ws,ps,K=>Ab ps fun p ps=>Ani N t ct w p fun t' c b=>ZI N t' cts ws ps fun t'' cs bs=>K t'' (c::cs) (b++bs)
 |_,_,_,_,_=>none
def HW (N:Nat):Nat->List J9->List (List PV)->(Nat->Option Cb)->((Nat->Option Cb)->List (Nat × Cb)->Option R)->Option R
 |_,[],ro,hp,K=>Ac ro (K hp [])
 |t,.var id off cts ws::l,ro,hp,K=>Ab ro fun cs ro=>ZI N t cts ws cs fun t' cs' bs=>
   match hp id with
   |some (.st c)=>Aa (B4 c cs' off) fun c=>HW N t' l ro (Ds hp id (some (.st c))) fun Di bs'=>K Di (bs++bs')
   |_=>none
 |t,.row id::l,ro,hp,K=>Ab ro fun cs ro=>HW N t l ro (Ds hp id (some (.ar false cs))) K
 |t,.none::l,ro,hp,K=>Ab ro fun _ ro=>HW N t l ro hp K
def F7:List Nat->Bool
 |[]=>true
 |a::r=> !(r.any (Nat.beq a))&&F7 r
def MK (C:Kf)(P:Program)(N:Nat)(call:Ah)(s:St)(o:Oper)(f:FuncId)(c:Call)(K:St->Option R):Option R:=
 Abn C P f s.hp 0 (TJ P f c) (c.args.toList.map (C8 s.tm)) fun vs m x l=>
  Aw (F7 (l.flatMap J9.ids++x)&&m.all (fun i=> !((l.flatMap J9.ids++x).any (Nat.beq i)))&&Nat.blt 0 N&&Jh N o.dst) <|
  Aj (call f (N8 (C.kz f) c.args.toList vs)) fun rv ro=>
   PP P (C.shr f) N (o.dst.getD N) (Tp P o.type) rv fun ws bs=>
    Aw (bif Vh P o.type then !Nat.beq ws.length 1 else Nat.beq ws.length 1) <|
    A98 (Aga N s.hp 100 0) fun t0=>HW N t0 l ro (CN (Ak s.hp m) x) fun Di bs'=>
     Aw (Cx Di (bs++bs')) (K ⟨Cn s.tm o.dst (Ud ws (Vh P o.type)),Bc Di (bs++bs')⟩)
def ER (C:Kf)(P:Program)(N:Nat)(call:Ah)(s:St)(o:Oper)(K:St->Option R):Option R:=
 match o.op with
 |.store t a x=>Aw (o.dst.isNone) (NX P s t (C8 s.tm a) (C8 s.tm x) K)
 |.call c=>
  match c.callee with
  |.builtin .append=>F6 o.dst fun d=>Ab c.args.toList fun b r=>Ab r fun x r'=>Ac r' (Ab c.argTypes.toList fun t u=>Ab u fun tx _=>Un P N s d t tx (C8 s.tm b) (C8 s.tm x) K)
  |.builtin .copy=>Ab c.args.toList fun b r=>Ab r fun x r'=>Ac r' (Ab c.argTypes.toList fun t u=>Ab u fun tx _=>ZV P N s o.dst t tx (C8 s.tm b) (C8 s.tm x) K)
  |.value (.func f)=>MK C P N call s o f c K
  |_=>none
 |_=>none
def Af5 (C:Kf)(P:Program)(N:Nat)(call:Ah)(o:Oper)(s:St)(K:St->Option R):Option R:=
 bif Zd C P o.op then ER C P N call s o K
 else WD C P N call s.tm (rd s.hp) (Oz s.hp) o fun v fz nw=>MF N s o.dst v fz nw K
def Es (C:Kf)(P:Program)(N:Nat)(call:Ah)(ops:Array Oper)(o:Oper)(s:St)(K:St->Option R):Option R:=
 match o.guard with
 |none=>Af5 C P N call o s K
 |some (j,want)=>
  match (ops[j]?).bind (·.dst) with
  |none=>none
  |some d=>
   match s.tm d with
   |.sc (.bool b)=>
    Bm b (bif want then Af5 C P N call o ⟨Ds s.tm d (.sc (.bool true)),s.hp⟩ K else Aw (Jh N o.dst) (K ⟨Cn (Ds s.tm d (.sc (.bool true))) o.dst (.sc undef),s.hp⟩))
     (bif want then Aw (Jh N o.dst) (K ⟨Cn (Ds s.tm d (.sc (.bool false))) o.dst (.sc undef),s.hp⟩) else Af5 C P N call o ⟨Ds s.tm d (.sc (.bool false)),s.hp⟩ K)
   |.sc (.tuple _)=>Aw (Jh N o.dst) (K ⟨Cn s.tm o.dst (.sc undef),s.hp⟩)
   |_=>none
def S7 (C:Kf)(P:Program)(N:Nat)(call:Ah)(ops:Array Oper):List Oper->St->(St->Option R)->Option R
 |[],s,K=>K s
 |o::r,s,K=>Es C P N call ops o s fun s'=>S7 C P N call ops r s' K
noncomputable def Zf (x y:Option R):Option R:=open Classical in if x=y then x else none
noncomputable def Akr (ops:Array Oper)(o:Oper)(s:St)(F:St->Option R):Option R:=
 match o.guard with
 |none=>F s
 |some (j,_)=>
  match (ops[j]?).bind (·.dst) with
  |none=>F s
  |some d=>
   match s.tm d with
   |.ub=>Zf (F ⟨Ds s.tm d (.sc (.bool true)),s.hp⟩) (F ⟨Ds s.tm d (.sc (.bool false)),s.hp⟩)
   |_=>F s
noncomputable def L7 (C:Kf)(P:Program)(N:Nat)(call:Ah)(ops:Array Oper):List Oper->St->(St->Option R)->Option R
 |[],s,K=>K s
 |o::r,s,K=>Akr ops o s fun s1=>Es C P N call ops o s1 fun s'=>L7 C P N call ops r s' K
end
def Atn (o:Oper):List Nat:=o.op.operands.toList.filterMap fun x=>match x with | .tmp t=>some t|_=>none
def looks (ops:Array Oper)(o:Oper):List Nat:=
 Atn o++(match o.guard with|some (g,_)=>((ops[g]?).bind (·.dst)).toList|none=>[])
def Lo (P:Program)(o:Op):Bool:=
 match o with
 |.slice t .. =>match P.underlying t with|some (.array _ _)=>true|_=>false
 |.buildSlice t _ _=>match P.underlying t with|some (.slice e)=>Oq P [e]|_=>true
 |.convert _ dst _=>match P.underlying dst with|some .string=>true|_=>false
 |.alloc _ | .box .. | .makeSlice .. =>false
 |.move _ | .assign _ | .pick .. | .build .. | .binOp .. | .unOp .. | .fieldAddr .. | .field .. | .index .. | .indexAddr .. | .extract .. | .nilCheck _=>false
 |.call c=>match c.callee with | .builtin .len=>false | .builtin .min=>false | .builtin .max=>false|_=>true
 |_=>true
def WY (C:Kf)(P:Program)(ops:Array Oper)(x y:Oper):Bool:=
 (match x.dst with|some d=>(looks ops y).any (Nat.beq d)||(match y.dst with|some e=>Nat.beq d e|none=>false)|none=>false) ||
 (match y.dst with|some e=>(looks ops x).any (Nat.beq e)|none=>false) ||
 (Zd C P x.op&&Lo P y.op)||(Zd C P y.op&&Lo P x.op)
def Mp (ops:List Oper):List Nat->List Nat
 |acc=>match ops with
  |[]=>acc
  |o::r=>Mp r (acc++[o.after.toList.foldl (fun s e=>bif Region.binds .any e then s ||| 2 ^ e.on ||| acc.getD e.on 0 else s) 0])
def SE (C:Kf)(P:Program)(ops:Array Oper)(bs:List Nat):List Oper->Nat->Bool
 |[],_=>true
 |o::r,i=>(ops.toList.zipIdx.all fun q=> !Nat.blt q.2 i || !WY C P ops q.1 o||(bs.getD i 0).testBit q.2)&&SE C P ops bs r (i+1)
def SO (C:Kf)(P:Program)(ops:Array Oper):Bool:=
 ops.toList.zipIdx.all (fun q=>q.1.after.toList.all fun e=> !Region.binds .any e||Nat.blt e.on q.2)&&SE C P ops (Mp ops.toList []) ops.toList 0
def A7:PV->List Nat
 |.view id _ _ _=>[id]
 |.ptr id _=>[id]
 |_=>[]
def Cw:PV->List Nat
 |.agg cs=>cs.flatMap A7
 |p=>A7 p
def Cm:PV->List Nat
 |.tup ps=>ps.flatMap Cw
 |p=>Cw p
def BJ (P:Program)(o:Op):Bool:=
 match o with
 |.load .. =>true
 |.convert _ dst _=>(match P.underlying dst with|some .string=>true|_=>false)
 |_=>false
def Tf (o:Op):Bool:=
 match o with
 |.call c=>(match c.callee with | .builtin .append=> !JD c|_=>false)
 |_=>false
def Aq2 (ops:Array Oper)(x y:Oper):Bool:=
 (match x.dst with|some d=>(looks ops y).any (Nat.beq d)||(match y.dst with|some e=>Nat.beq d e|none=>false)|none=>false) ||
 (match y.dst with|some e=>(looks ops x).any (Nat.beq e)|none=>false)
def Y2 (C:Kf)(P:Program)(x y:Oper):Bool:=(Zd C P x.op&&Lo P y.op)||(Zd C P y.op&&Lo P x.op)
def Pf (C:Kf)(P:Program)(x y:Oper):Bool:=(Zd C P x.op&&BJ P y.op)||(Zd C P y.op&&BJ P x.op)||(Tf x.op&&Tf y.op)
def Ar5 (C:Kf)(P:Program)(ops:Array Oper)(x y:Oper):Bool:=Aq2 ops x y||(Y2 C P x y && !Pf C P x y)
def KG (C:Kf)(P:Program)(ops:Array Oper)(bs:List Nat):List Oper->Nat->Bool
 |[],_=>true
 |o::r,i=>(ops.toList.zipIdx.all fun q=> !Nat.blt q.2 i || !Ar5 C P ops q.1 o||(bs.getD i 0).testBit q.2)&&KG C P ops bs r (i+1)
def SJ (C:Kf)(P:Program)(ops:Array Oper):Bool:=
 ops.toList.zipIdx.all (fun q=>q.1.after.toList.all fun e=> !Region.binds .any e||Nat.blt e.on q.2)&&KG C P ops (Mp ops.toList []) ops.toList 0
def Rt (C:Kf)(P:Program)(s:St)(o:Oper):List Nat:=
 let l:=o.op.operands.toList.flatMap fun y=>Cm (C8 s.tm y)
 bif Zd C P o.op && !Tf o.op then l++l.flatMap (fun i=>match s.hp i with|some (.st c)=>c.flatMap A7|_=>[])
 else bif BJ P o.op||Tf o.op then l else []
def Am2 (a b:List Nat):Bool:=a.all fun i=> !b.any (Nat.beq i)
def JQ (C:Kf)(P:Program)(ops:Array Oper)(bs:List Nat)(i:Nat)(o:Oper):List Nat:=
 (ops.toList.zipIdx.filter fun q=>Pf C P q.1 o && !(Nat.blt q.2 i&&(bs.getD i 0).testBit q.2) && !(Nat.blt i q.2&&(bs.getD q.2 0).testBit i)).map (·.2)
def PA (C:Kf)(P:Program)(ops:Array Oper)(bs:List Nat):List (List Nat):=ops.toList.zipIdx.map fun q=>JQ C P ops bs q.2 q.1
def QO (C:Kf)(P:Program)(sm:List (List Nat)) (s:St)(i:Nat)(o:Oper):List Nat:=
 match sm.getD i [] with
 |[]=>[]
 |_::_=>Rt C P s o
def YI (C:Kf)(P:Program)(sm:List (List Nat)) (s:St)(i:Nat)(o:Oper)(q:Nat × Oper × List Nat):Bool:=
 !((sm.getD i []).any (Nat.beq q.1))||Am2 q.2.2 (QO C P sm s i o)
def L6 {R:Type}(C:Kf)(P:Program)(N:Nat)(call:Ah)(ops:Array Oper)(sm:List (List Nat)):List (Nat × Oper × List Nat)->List Nat->St->(St->Option R)->Option R
 |_,[],s,K=>K s
 |dn,i::l,s,K=>F6 ops[i]? fun o=>Aw (dn.all (YI C P sm s i o)&&(QO C P sm s i o).all (fun k=>(s.hp k).isSome)) (Es C P N call ops o s fun s'=>L6 C P N call ops sm ((i,o,QO C P sm s i o)::dn) l s' K)
def Att (m i:Nat):Nat:=m ||| 2 ^ i
def Bcv (m i:Nat):Nat:=bif m.testBit i then m ^^^ 2 ^ i else m
def Ak3 (ops:Array Oper):List Oper->Nat->Nat
 |[],m=>m
 |o::r,m=>
  let m1:=Ak3 ops r m
  let m2:=match o.dst with|some d=>Bcv m1 d|none=>m1
  (looks ops o).foldl Att m2
def Ui:Code->Nat->(Nat->Nat)->Nat->Nat
 |.skip,ln,_,_=>ln
 |.region _ ops _,ln,_,_=>Ak3 ops ops.toList ln
 |.seq a b,ln,lx,lr=>Ui a (Ui b ln lx lr) lx lr
 |.cond c a b,ln,lx,lr=>let m:=Ui a ln lx lr ||| Ui b ln lx lr;match c with | .tmp d=>Att m d|_=>m
 |.block id c,ln,lx,lr=>Ui c ln (fun j=>bif Nat.beq j id then ln else lx j) lr
 |.loop c,_,lx,lr=>Ui c (Ui c 0 lx lr) lx lr
 |.exit id,_,lx,_=>lx id
 |.ret,_,_,lr=>lr
 |_,_,_,_=>0
def Avh (ops:List Oper):List Nat:=(ops.filterMap fun o=>o.guard.map (·.1)).eraseDups
def Tq:Code->Nat
 |.region _ _ _=>1
 |.seq a b=>Tq a+Tq b
 |.cond _ a b=>Tq a+Tq b
 |.block _ c=>Tq c
 |.loop c=>Tq c
 |_=>0
def QU:Code->Nat
 |.skip=>1
 |.region _ ops _=>2 ^ min 6 (Avh ops.toList).length
 |.seq a b=>bif (Nat.ble 7 (QU a)&&Nat.ble 6 (Tq b))||(Nat.ble 5 (QU a)&&Nat.ble 9 (Tq b)) then QU b else min 1000 (QU a*QU b)
 |.cond _ a b=>QU a+QU b
 |.block _ c=>QU c
 |.loop _=>1
 |.exit _=>1
 |_=>0
def Az8 (P:Program)(o:Oper):Bool:=
 match o.op with
 |.load t _=>CC P t&&Nat.ble 8 (Bz P t)
 |.store t _ _=>CC P t&&Nat.ble 8 (Bz P t)
 |_=>false
def Ahi (P:Program):Code->Bool
 |.region _ ops _=>ops.toList.any (Az8 P)
 |.seq a _=>Ahi P a
 |_=>false
def Amm (P:Program):Code->Bool
 |.region _ ops _=>ops.toList.any (Az8 P)
 |.seq _ b=>Amm P b
 |_=>false
def Avz (x y:Code):Bool:=(Nat.beq (QU x) 4&&Nat.beq (Tq x) 7&&(Nat.beq (Tq y) 3||Nat.beq (Tq y) 1))||(Nat.beq (QU x) 9&&Nat.beq (Tq x) 5&&Nat.beq (Tq y) 5)
def JK (a b:Code):Bool:=Avz a b||(match b with | .seq x y=>Avz x y|_=>false)
def Alb (P:Program)(a b:Code):Bool:=(Nat.ble 7 (QU a)&&Nat.ble 6 (Tq b))||(Nat.ble 5 (QU a)&&Nat.ble 9 (Tq b))||JK a b||Ahi P b||Amm P a
def Rf (m:Nat):Nat->List Nat
 |0=>[]
 |n+1=>Rf m n++(bif m.testBit n then [n] else [])
def lk (l:List (Nat × PV)) (i:Nat):PV:=
 match l with
 |[]=>.top
 |(j,p)::r=>bif Nat.beq i j then p else lk r i
def B7 (l:List (Nat × Cb)) (i:Nat):Option Cb:=
 match l with
 |[]=>none
 |(j,b)::r=>bif Nat.beq i j then some b else B7 r i
def EX (l:List (Nat × Nat)) (i:Nat):Option Nat:=
 match l with
 |[]=>none
 |(j,b)::r=>bif Nat.beq i j then some b else EX r i
def RX (N:Nat)(s:St)(i:Nat):St:=
 match s.tm i with
 |.lst true es 0 []=>
  bif (s.hp i).isNone then ⟨Ds s.tm i (.view i es 0 0),Ds s.hp i (some (.ar false []))⟩
  else bif (s.hp (i+N*3000)).isNone then ⟨Ds s.tm i (.view (i+N*3000) es 0 0),Ds s.hp (i+N*3000) (some (.ar false []))⟩
  else s
 |_=>s
def Ac4 (N:Nat)(id:Nat)(s:St)(j:Nat):St:=
 match s.hp id with
 |some (.st c)=>
  match c[j]? with
  |some (.lst true es 0 [])=>bif (s.hp (id+N*(j+1))).isNone then ⟨s.tm,Ds (Ds s.hp id (some (.st (c.set j (.view (id+N*(j+1)) es 0 0))))) (id+N*(j+1)) (some (.ar false []))⟩ else s
  |_=>s
 |_=>s
def Adq (N:Nat)(s:St)(i:Nat):St:=
 match s.tm i with
 |.ptr id _=>
  match s.hp id with
  |some (.st c)=>(List.range c.length).foldl (Ac4 N id) s
  |_=>s
 |_=>s
def Aaa (m:List (Nat × Nat)) (old new:Nat):List (Nat × Nat):=
 match EX m old with
 |some _=>m
 |none=>m++[(old,new)]
def Yp (N new:Nat):List PV->Nat->List (Nat × Nat)->List (Nat × Nat)
 |[],_,m=>m
 |.view id _ _ _::r,j,m=>Yp N new r (j+1) (Aaa m id (new+N*(j+1)))
 |_::r,j,m=>Yp N new r (j+1) m
def RR (N:Nat)(s:St)(m:List (Nat × Nat)) (i:Nat):List (Nat × Nat):=
 match s.tm i with
 |.view id _ _ _=>Aaa m id i
 |.ptr id _=>
  match EX m id with
  |some _=>m
  |none=>
   match s.hp id with
   |some (.st c)=>Yp N i c 0 (Aaa m id i)
   |_=>Aaa m id i
 |.agg c=>Yp N i c 0 m
 |_=>m
def Ako (m:List (Nat × Nat)):PV->PV
 |.view id es off n=>match EX m id with|some j=>.view j es off n|none=>.top
 |.ptr id off=>match EX m id with|some j=>.ptr j off|none=>.top
 |.sc v=>.sc v
 |.lst z es n c=>.lst z es n c
 |.iptr c off=>.iptr c off
 |_=>.top
def Am1 (m:List (Nat × Nat)):PV->PV
 |.agg c=>.agg (c.map (Ako m))
 |p=>Ako m p
def Ayi (m:List (Nat × Nat)):Cb->Cb
 |.st c=>.st (c.map (Ako m))
 |b=>b
def D0 (N i:Nat):Nat:=i+N*2000
def Agj (N:Nat)(hp:Nat->Option Cb):Nat->List (Nat × Nat)
 |0=>[]
 |i+1=>bif (hp (D0 N i)).isSome then Agj N hp i++[(D0 N i,D0 N i)] else Agj N hp i
def BP (N:Nat)(hp:Nat->Option Cb):Nat->List (Nat × Nat)->List (Nat × Nat)
 |0,m=>m
 |i+1,m=>
  match hp (D0 N i) with
  |some (.st c)=>Yp N (D0 N i) c 0 (BP N hp i m)
  |_=>BP N hp i m
def Bbx (N:Nat)(hp:Nat->Option Cb)(k:Nat):List (Nat × Nat):=BP N hp k (Agj N hp k)
def Rx (m:List (Nat × Nat)) (hp:Nat->Option Cb):List (Nat × Nat)->List (Nat × Cb)
 |[]=>[]
 |(old,new)::r=>match hp old with
  |some b=>(new,Ayi m b)::Rx m hp r
  |none=>Rx m hp r
section
variable {R:Type}
def Alx (N:Nat)(ls:List Nat)(q:Bool)(s:St)(K:St->Option R):Option R:=
 let s2:=bif q then s else ls.foldl (Adq N) (ls.foldl (RX N) s)
 let m:=ls.foldl (RR N s2) (Bbx N s2.hp 8)
 Aw (F7 (m.map (·.1))&&F7 (m.map (·.2))) (K ⟨lk (ls.map fun i=>(i,Am1 m (s2.tm i))),B7 (Rx m s2.hp m)⟩)
def Jz (N L:Nat)(s:St)(K:St->Option R):Option R:=Alx N (Rf L N) false s K
def Agz (N L:Nat)(s:St)(K:St->Option R):Option R:=Alx N (Rf L N) true s K
def XT (F:(St->Option R)->St->Option R) (nm:St->(St->Option R)->Option R):Nat->St->Option R
 |0,_=>none
 |n+1,s=>F (fun s'=>nm s' (XT F nm n)) s
def WH (n:Nat)(F:St->Option R)(s:St):Option R:=
 match n with
 |0=>none
 |_+1=>F s
noncomputable def Aul (s:St)(c:Operand)(kt kf:St->Option R):Option R:=
 match c with
 |.tmp d=>
  match s.tm d with
  |.sc (.bool b)=>Bm b (kt ⟨Ds s.tm d (.sc (.bool true)),s.hp⟩) (kf ⟨Ds s.tm d (.sc (.bool false)),s.hp⟩)
  |.ub=>Zf (kt s) (kf s)
  |_=>none
 |.const (.bool true)=>kt s
 |.const (.bool false)=>kf s
 |_=>none
noncomputable def Oj (C:Kf)(P:Program)(fu N:Nat)(call:Ah):Code->Nat->(Nat->Nat)->Nat->(St->Option R)->(Nat->St->Option R)->(St->Option R)->St->Option R
 |.skip,_,_,_,kn,_,_,s=>kn s
 |.region _ ops draw,_,_,_,kn,_,_,s=>XZ (draw && !SO C P ops) (Aw (SJ C P ops) (Av1 (PA C P ops (Mp ops.toList [])) fun sm=>L6 C P N call ops sm [] (List.range ops.size) s kn)) (XZ draw (S7 C P N call ops ops.toList s kn) (L7 C P N call ops ops.toList s kn))
 |.seq a b,ln,lx,lr,kn,kx,kr,s=>Oj C P fu N call a (Ui b ln lx lr) lx lr (fun s'=>XZ (Alb P a b) (XZ (JK a b) (Agz N (Ui b ln lx lr) s' (WH fu fun s''=>Oj C P fu N call b ln lx lr kn kx kr s'')) (Jz N (Ui b ln lx lr) s' (WH fu fun s''=>Oj C P fu N call b ln lx lr kn kx kr s''))) (Oj C P fu N call b ln lx lr kn kx kr s')) kx kr s
 |.cond c a b,ln,lx,lr,kn,kx,kr,s=>Aul s c (Oj C P fu N call a ln lx lr kn kx kr) (Oj C P fu N call b ln lx lr kn kx kr)
 |.block id c,ln,lx,lr,kn,kx,kr,s=>Oj C P fu N call c ln (fun j=>bif Nat.beq j id then ln else lx j) lr kn (fun j s'=>bif Nat.beq j id then kn s' else kx j s') kr s
 |.loop c,ln,lx,lr,_,kx,kr,s=>
  Jz N (Ui (.loop c) ln lx lr) s (XT (fun k s'=>Oj C P fu N call c (Ui (.loop c) ln lx lr) lx lr k kx kr s') (Jz N (Ui (.loop c) ln lx lr)) fu)
 |.exit id,_,_,_,_,kx,_,s=>kx id s
 |.ret,_,_,_,_,_,kr,s=>kr s
 |_,_,_,_,_,_,_,_=>none
def Avn (id:Nat)(t:CT)(p:PV)(K:PV->List (Nat × Cb)->Option R):Option R:=
 match t with
 |.sl es=>
  match p with
  |.own es' n c=>bif Nat.beq es' es then K (.view id es 0 n) [(id,.ar false c)] else none
  |p=>Fa es p fun z n c=>K (.lst z es n c) []
 |t=>NI t p fun c=>K c []
def OC (N:Nat):Nat->List CT->List PV->(List PV->List (Nat × Cb)->Option R)->Option R
 |_,[],ps,K=>Ac ps (K [] [])
 |id,t::ts,ps,K=>Ab ps fun p ps=>Avn id t p fun c b=>OC N (id+N) ts ps fun cs bs=>K (c::cs) (b++bs)
def inK (P:Program)(N i:Nat)(t:TypeId)(p:PV)(K:PV->List (Nat × Cb)->Option R):Option R:=
 match JE P t with
 |some e=>FP p fun ps=>Aw (Nat.blt i 8) (OC N (D0 N i+N) (L8 P e) ps fun cs bs=>K (.ptr (D0 N i) 0) ((D0 N i,.st cs)::bs))
 |none=>
  match p with
  |.tup ps=>F6 (A6y P t) fun e=>Aw (Nat.blt i 8) (Ab ps fun q r=>Ac r (F5 (Bz P e) q fun n c=>K (.view (D0 N i) (Bz P e) 0 n) [(D0 N i,.ar false c)]))
  |p=>
   bif C6 P t then Ef p fun ps=>OC N (i+N) (L8 P t) ps fun cs bs=>K (.agg cs) bs
   else OC N (i+N) (L8 P t) [p] fun cs bs=>Ab cs fun c r=>Ac r (K c bs)
def Ais (P:Program)(N:Nat):Nat->List TypeId->List PV->(List (Nat × PV)->List (Nat × Cb)->Option R)->Option R
 |_,[],ps,K=>Ac ps (K [] [])
 |i,t::ts,ps,K=>Ab ps fun p ps=>inK P N i t p fun v bs=>Ais P N (i+1) ts ps fun vs bs'=>K ((i,v)::vs) (bs++bs')
def A0z (hp:Nat->Option Cb)(t:CT)(p:PV)(K:PV->List Nat->List Nat->Option R):Option R:=
  match t with
  |.sl es=>
    match p with
    |.view id es' off n=>bif Nat.beq es' es&&Nat.beq off 0 then
        (match hp id with
         |some (.ar false c)=>Aw (decide (n*es<=c.length)) (K (.own es n (c.take (n*es))) [id] [])
         |_=>none) else none
    |p=>Fa es p fun z _ _=>Aw z (K (.own es 0 []) [] [])
  |t=>NI t p fun c=>K c [] []
def Amo (shr:Bool)(hp:Nat->Option Cb)(t:CT)(p:PV)(K:PV->List Nat->List Nat->Option R):Option R:=
 bif shr then Ug (Oz hp) t p fun c m=>K c [] m else A0z hp t p K
def MM (shr:Bool)(hp:Nat->Option Cb):List CT->List PV->(List PV->List Nat->List Nat->Option R)->Option R
 |[],[],K=>K [] [] []
 |t::ts,p::ps,K=>Amo shr hp t p fun c m z=>MM shr hp ts ps fun cs ms zs=>K (c::cs) (m++ms) (z++zs)
 |_,_,_=>none
def Avs (P:Program)(shr:Bool)(hp:Nat->Option Cb)(t:TypeId)(p:PV)(K:PV->List Nat->List Nat->Option R):Option R:=
 match JE P t with
 |some e=>
  match p with
  |.ptr id off=>
   match hp id with
   |some (.st c)=>Aw (Nat.beq off 0) (MM shr hp (L8 P e) c fun cs m z=>K (.pbox cs) (id::m) z)
   |_=>none
  |_=>none
 |none=>
  bif C6 P t then Ef p fun ps=>MM shr hp (L8 P t) ps fun cs m z=>K (.agg cs) m z
  else MM shr hp (L8 P t) [p] fun cs m z=>Ab cs fun c r=>Ac r (K c m z)
def Au3 (P:Program)(s:St)(r:ResultVar)(K:PV->Option R):Option R:=
 match r with
 |.tmp t=>K (s.tm t)
 |.cell a t=>KN P (rd s.hp) (Oz s.hp) t (s.tm a) K
def Ab5 (P:Program)(shr:Bool)(s:St):List ResultVar->List TypeId->(List PV->List Nat->List Nat->Option R)->Option R
 |[],[],K=>K [] [] []
 |r::rs,t::ts,K=>Au3 P s r fun p=>Avs P shr s.hp t p fun v m z=>Ab5 P shr s rs ts fun vs ms zs=>K (v::vs) (m++ms) (z++zs)
 |_,_,_=>none
def SD (hp:Nat->Option Cb):List CT->List PV->List PV->(List PV->List Nat->List Nat->Option R)->Option R
 |[],[],[],K=>K [] [] []
 |t::ts,w::ws,p::ps,K=>Amo (match w with | .own _ _ _=>false|_=>true) hp t p fun c m z=>SD hp ts ws ps fun cs ms zs=>K (c::cs) (m++ms) (z++zs)
 |_,_,_,_=>none
def NT (P:Program)(N:Nat)(hp:Nat->Option Cb):Nat->List TypeId->List PV->(List (List PV)->List Nat->List Nat->List Nat->Option R)->Option R
 |_,[],ps,K=>Ac ps (K [] [] [] [])
 |i,t::ts,ps,K=>Ab ps fun p ps=>
  match p with
  |.pbox ws=>F6 (JE P t) fun e=>
    match hp (D0 N i) with
    |some (.st c)=>SD hp (L8 P e) ws c fun cs m z=>NT P N hp (i+1) ts ps fun r m' z' q=>K (cs::r) (m++m') (z++z') (D0 N i::q)
    |_=>none
  |.tup _=>
    match hp (D0 N i) with
    |some (.ar false c)=>NT P N hp (i+1) ts ps fun r m' z' q=>K (c::r) m' z' (D0 N i::q)
    |_=>none
  |_=>NT P N hp (i+1) ts ps K
def Alh (rs:List ResultVar):Nat:=rs.foldl (fun m r=>match r with | .tmp t=>Att m t | .cell a _=>Att m a) 0
end
def VQ (P:Program):Nat->List TypeId->Nat->Nat
 |_,[],m=>m
 |i,t::ts,m=>VQ P (i+1) ts (match P.underlying t with|some (.pointer _)=>Att m i|_=>m)
def Aeq (C:Kf)(P:Program)(f:FuncId)(fn:Func)(args:List PV)(s:St):Option A4:=
 Ab5 P (C.shr f) s fn.results.toList fn.resultTypes.toList fun vs m z=>NT P fn.ntmps s.hp 0 fn.params.toList args fun os m' z' q=>
  Aw (F7 ((m++m')++q)&&(z++z').all (fun i=> !(((m++m')++q).any (Nat.beq i)))) (some ⟨vs,os⟩)
noncomputable def Aw0 (C:Kf)(P:Program)(fu:Nat)(call:Ah)(f:FuncId)(fn:Func)(c:Code)(args:List PV):Option A4:=
  Ais P fn.ntmps 0 fn.params.toList args fun tms bs=>Aw (Nat.ble args.length fn.ntmps&&Cx (fun _=>none) bs)
    (let lr:=VQ P 0 fn.params.toList (Alh fn.results.toList)
     Oj C P fu fn.ntmps call c lr (fun _=>0) lr (Aeq C P f fn args) (fun _ _=>none) (Aeq C P f fn args) ⟨lk tms,B7 bs⟩)
noncomputable def Ad (C:Kf)(P:Program)(fu:Nat):Nat->FuncId->List PV->Option A4
 |0,_,_=>none
 |d+1,f,args=>
  match C.ext f with
  |some g=>g args
  |none=>
   match P.funcs[f]? with
   |none=>none
   |some fn=>match fn.body with
    |none=>none
    |some c=>Aw0 C.core P fu (Ad C P fu d) f fn c args
inductive Dir where
 |l
 |r
 |i (m:Nat)
section
variable {R:Type}
noncomputable def HO (C:Kf)(P:Program)(fu N:Nat)(call:Ah):List Dir->Code->Nat->(Nat->Nat)->Nat->(St->Option R)->(Nat->St->Option R)->(St->Option R)->Nat->St->Option R
 |[],.seq _ b,ln,lx,lr,kn,kx,kr,n,s=>WH n (fun s''=>Oj C P fu N call b ln lx lr kn kx kr s'') s
 |[],.loop c,ln,lx,lr,_,kx,kr,n,s=>XT (fun k s'=>Oj C P fu N call c (Ui (.loop c) ln lx lr) lx lr k kx kr s') (Jz N (Ui (.loop c) ln lx lr)) n s
 |.l::p,.seq a b,ln,lx,lr,kn,kx,kr,n,s=>HO C P fu N call p a (Ui b ln lx lr) lx lr (fun s'=>XZ (Alb P a b) (XZ (JK a b) (Agz N (Ui b ln lx lr) s' (WH fu fun s''=>Oj C P fu N call b ln lx lr kn kx kr s'')) (Jz N (Ui b ln lx lr) s' (WH fu fun s''=>Oj C P fu N call b ln lx lr kn kx kr s''))) (Oj C P fu N call b ln lx lr kn kx kr s')) kx kr n s
 |.r::p,.seq _ b,ln,lx,lr,kn,kx,kr,n,s=>HO C P fu N call p b ln lx lr kn kx kr n s
 |.l::p,.cond _ a _,ln,lx,lr,kn,kx,kr,n,s=>HO C P fu N call p a ln lx lr kn kx kr n s
 |.r::p,.cond _ _ b,ln,lx,lr,kn,kx,kr,n,s=>HO C P fu N call p b ln lx lr kn kx kr n s
 |.l::p,.block id c,ln,lx,lr,kn,kx,kr,n,s=>HO C P fu N call p c ln (fun j=>bif Nat.beq j id then ln else lx j) lr kn (fun j s'=>bif Nat.beq j id then kn s' else kx j s') kr n s
 |.i m::p,.loop c,ln,lx,lr,_,kx,kr,n,s=>
  HO C P fu N call p c (Ui (.loop c) ln lx lr) lx lr
   (fun s'=>Jz N (Ui (.loop c) ln lx lr) s' (XT (fun k s'=>Oj C P fu N call c (Ui (.loop c) ln lx lr) lx lr k kx kr s') (Jz N (Ui (.loop c) ln lx lr)) m)) kx kr n s
 |_,_,_,_,_,_,_,_,_,_=>none
end
noncomputable def Dd (C:Kf)(P:Program)(fu:Nat)(call:Ah)(f:FuncId)(fn:Func)(c:Code)(args:List PV)(p:List Dir)(n:Nat)(s:St):Option A4:=
 let lr:=VQ P 0 fn.params.toList (Alh fn.results.toList)
 HO C P fu fn.ntmps call p c lr (fun _=>0) lr (Aeq C P f fn args) (fun _ _=>none) (Aeq C P f fn args) n s
def Azl:List Nat:=[
 1000000]
def A5b:List Nat:=[
 10,
 36,
 11,
 16,
 26,
 48,
 91,
 27,
 52,
 37,
 71,
 72,
 12,
 43,
 83,
 28,
 1000000]
def A2a:List Nat:=[
 1000000]
def A2g:List Nat:=[
 108,
 133,
 106,
 87,
 142,
 122,
 123,
 144,
 132,
 88,
 121,
 117,
 138,
 1000000]
def WO (args:List PV):Option A4:=
 match args with
 |[.sc (.string s)]=>bif decide (s.size<=9223372036854775807) then some ⟨[.sc (.bool (Lib.validD s.data.toList))],[]⟩ else none
 |_=>none
def CI (args:List PV):Option A4:=
  match args with
  |[.lst _ 1 n c,.lst _ 1 m c']=>bif Nat.beq c.length n&&Nat.beq c'.length m then
      (match bytesOf c,bytesOf c' with
       |some a,some b=>some ⟨[.sc (.int .i64 (Lib.compareBytes a b))],[]⟩
       |_,_=>none) else none
  |_=>none
def KT:List Nat:=[
 147,
 86,
 135,
 136,
 134,
 109,
 66,
 137,
 128,
 103,
 61,
 33,
 85,
 79,
 120,
 110,
 111,
 115,
 75,
 112,
 114,
 69,
 67,
 68,
 92,
 76,
 129,
 125,
 46,
 49,
 40,
 71,
 72,
 37,
 52,
 1000000]
def CB:Kf:=⟨fun f=>A5b.any (Nat.beq f),fun f i=>Nat.beq i 0&&A2g.any (Nat.beq f),fun f i=>Nat.beq i 0&&A2a.any (Nat.beq f),fun f=>Azl.any (Nat.beq f),fun _=>none⟩
def CX (xs:FuncId->Option (List PV->Option A4)):Kf:={ CB with ext:=fun f=>bif KT.any (Nat.beq f) then none else xs f }
def B9 (f:Func):Code:=match f.body with|some c=>c|none=>.skip
section
variable {R:Type} {r:Option R}
theorem Ar {k:IntKind}{p:PV}{K:Int->Option R}{n:Int}(h:p=.sc (.int k n)) (hk:K n=r):Ae k p K=r:=by
 subst h;unfold Ae;simp[hk]
theorem Bdk {p:PV}{K:IntKind->Int->Option R}{k:IntKind}{n:Int}(h:p=.sc (.int k n)) (hk:K k n=r):E9 p K=r:=by
 subst h;exact hk
theorem Az {p:PV}{K:Bool->Option R}{b:Bool}(h:p=.sc (.bool b)) (hk:K b=r):B3 p K=r:=by
 subst h;exact hk
theorem Be {p:PV}{K:ByteArray->Option R}{s:ByteArray}(h:p=.sc (.string s)) (hk:K s=r):Fk p K=r:=by
 subst h;exact hk
theorem Bg {es:Nat}{p:PV}{K:Bool->Nat->List PV->Option R}{z:Bool}{n:Nat}{c:List PV}(h:p=.lst z es n c)(hk:K z n c=r):Fa es p K=r:=by
 subst h;unfold Fa;simp[Nat.beq_refl,hk]
theorem Bo {es:Nat}{p:PV}{K:Nat->List PV->Option R}{n:Nat}{c:List PV}(h:p=.own es n c)(hk:K n c=r):F5 es p K=r:=by
 subst h;unfold F5;simp[Nat.beq_refl,hk]
theorem Au {b:Bool}{K:Option R}(h:b=true)(hk:K=r):Aw b K=r:=by
 subst h;exact hk
theorem Aqz {b:Bool}{x y:Option R}(hx:b=true->x=r)(hy:b=false->y=r):Bm b x y=r:=by
 cases b
 ·exact hy rfl
 ·exact hx rfl
theorem At {b:Bool}{x y:Option R}(h:b=true)(hx:x=r):Bm b x y=r:=by
 subst h;exact hx
theorem Av {b:Bool}{x y:Option R}(h:b=false)(hx:y=r):Bm b x y=r:=by
 subst h;exact hx
theorem NE {α:Type}{o:Option α}{K:α->Option R}{a:α}(h:o=some a)(hk:K a=r):F6 o K=r:=by
 subst h;exact hk
theorem Ao {α:Type}{l:List α}{K:α->List α->Option R}{a:α}{t:List α}(h:l=a::t)(hk:K a t=r):Ab l K=r:=by
 subst h;exact hk
theorem As {α:Type}{l:List α}{K:Option R}(h:l=[]) (hk:K=r):Ac l K=r:=by
 subst h;exact hk
theorem A9 {p:PV}{K:List PV->Option R}{c:List PV}(h:p=.agg c)(hk:K c=r):Ef p K=r:=by
 subst h;exact hk
theorem Ak0 {p:PV}{K:List PV->Option R}{c:List PV}(h:p=.pbox c)(hk:K c=r):FP p K=r:=by
 subst h;exact hk
theorem Am {o:Option A4}{K:List PV->List (List PV)->Option R} {v:List PV}{q:List (List PV)} (h:o=some ⟨v,q⟩)(hk:K v q=r):Aj o K=r:=by
 subst h;exact hk
theorem Ad5 {x y:Option R}(hx:x=r)(hy:y=r):Zf x y=r:=by subst hx;subst hy;unfold Zf;simp
end
theorem QG (a b:Int):(a != b)=decide (a≠b):=by by_cases h:a=b<;>simp[h,bne]
theorem Aov (a b:Int):(a==b)=decide (a=b):=by by_cases h:a=b<;>simp[h]
section
variable {R:Type}
theorem Al8 (v:List PV)(o:List (List PV)) (K:List PV->List (List PV)->Option R):Aj (some ⟨v,o⟩) K=K v o:=by exact id rfl
theorem Arb {α:Type}(K:Option R):Ac ([]:List α) K=K:=by exact id rfl
theorem Ama {α:Type}(a:α)(r:List α)(K:α->List α->Option R):Ab (a::r) K=K a r:=by exact id rfl
theorem Al7 (b:Bool)(K:Bool->Option R):B3 (.sc (.bool b)) K=K b:=by exact id rfl
theorem As3 (s:ByteArray)(K:ByteArray->Option R):Fk (.sc (.string s)) K=K s:=by exact id rfl
theorem Aby (k:IntKind)(n:Int)(K:Int->Option R):Ae k (.sc (.int k n)) K=K n:=by unfold Ae;simp
theorem Auc (k:IntKind)(n:Int)(K:IntKind->Int->Option R):E9 (.sc (.int k n)) K=K k n:=by exact id rfl
theorem A03 (z:Bool)(es n:Nat)(c:List PV)(K:Bool->Nat->List PV->Option R):Fa es (.lst z es n c) K=K z n c:=by unfold Fa;simp
theorem Azz (es n:Nat)(c:List PV)(K:Nat->List PV->Option R):F5 es (.own es n c) K=K n c:=by unfold F5;simp
theorem At9 (c:List PV)(K:List PV->Option R):Ef (.agg c) K=K c:=by exact id rfl
theorem Ali (c:List PV)(K:List PV->Option R):FP (.pbox c) K=K c:=by exact id rfl
theorem Atc {α:Type}(a:α)(K:α->Option R):F6 (some a) K=K a:=by exact id rfl
theorem Jy {α:Type}(a:α)(K:α->Option R):Aa a K=K a:=by exact id rfl
theorem At6 (K:Option R):Aw true K=K:=by exact id rfl
theorem Acg (p:Prop) [Decidable p] (K:Option R)(h:p):Aw (decide p) K=K:=by simp[Aw,h]
theorem Ak2 (b c:Bool)(K:Option R):Aw (b&&c) K=Aw b (Aw c K):=by cases b<;>rfl
theorem Ar6 (x y:Option R):Bm true x y=x:=by exact id rfl
theorem Aqq (x y:Option R):Bm false x y=y:=by exact id rfl
theorem HJ (p:Prop) [Decidable p] (x y:Option R)(h:p):Bm (decide p) x y=x:=by simp[Bm,h]
theorem Eh (p:Prop) [Decidable p] (x y:Option R)(h:¬p):Bm (decide p) x y=y:=by simp[Bm,h]
theorem MV (p:Prop) [Decidable p] (x y:Option R):Bm (decide p) x y=if p then x else y:=by by_cases h:p<;>simp[Bm,h]
theorem Hb (a b:Int)(x y:Option R):Bm (a==b) x y=if a=b then x else y:=by
 rw[Aov,MV]
theorem G7 (a b:Int)(x y:Option R):Bm (a != b) x y=if a=b then y else x:=by
 rw[QG,MV];by_cases h:a=b<;>simp[h]
theorem RW (x:Option R):Zf x x=x:=by unfold Zf;simp
end
theorem Ap {x:Int}(h1: -9223372036854775808<=x)(h2:x<=9223372036854775807):IntKind.wrap .i64 x=x:=by
 have:=IntWalk.i64_in x (by omega)
 exact this
theorem C3 {x:Int}(h1:0<=x)(h2:x<=18446744073709551615):IntKind.wrap .u64 x=x:=by
 simp only[IntKind.wrap,IntKind.signed,IntKind.bits];simp;omega
theorem Hx {x:Int}(h1:0<=x)(h2:x<=255):IntKind.wrap .u8 x=x:=by
 simp only[IntKind.wrap,IntKind.signed,IntKind.bits];simp;omega
theorem Kv (x:Int):0<=IntKind.wrap .u64 x∧IntKind.wrap .u64 x<=18446744073709551615:=by
 simp only[IntKind.wrap,IntKind.signed,IntKind.bits];simp;omega
theorem Dk {α:Type}{l r:List α}{x:α}{i:Nat}(h:l.drop i=x::r):i<l.length∧l[i]?=some x∧l.drop (i+1)=r:=by
 have h1:i<l.length:=by
  rcases Nat.lt_or_ge i l.length with h1|h1
  ·exact h1
  ·rw[List.drop_of_length_le h1] at h;cases h
 rw[List.drop_eq_getElem_cons h1] at h;injection h with h2 h3;exact⟨h1,by rw[List.getElem?_eq_getElem h1,h2],h3⟩
theorem drop_nil {α:Type}{l:List α}{i:Nat}(h:l.drop i=[]):l.length<=i:=by
 have:=congrArg List.length h;simp at this;omega
section
variable {α:Type} {f:α->List PV} {k:Nat}
theorem V7 (hf:∀x,(f x).length=k):∀(l:List α),(l.flatMap f).length=l.length*k
 |[]=>by simp
 |x::l=>by simp[hf x,V7 hf l,Nat.succ_mul];omega
theorem Adk (hf:∀x,(f x).length=k):∀(l:List α)(i:Nat),(l.flatMap f).drop (i*k)=(l.drop i).flatMap f
 |l,0=>by simp
 |[],i+1=>by simp
 |x::l,i+1=>by
  rw[List.flatMap_cons,Nat.succ_mul,Nat.add_comm,←List.drop_drop,List.drop_append_of_le_length (by rw[hf x];omega)]
  rw[show (f x).drop k=[] from List.drop_of_length_le (by rw[hf x];omega),List.nil_append]
  exact Adk hf l i
theorem Amh (hf:∀x,(f x).length=k):∀(l:List α)(i:Nat),(l.flatMap f).take (i*k)=(l.take i).flatMap f
 |l,0=>by simp
 |[],i+1=>by simp
 |x::l,i+1=>by
  rw[List.flatMap_cons,Nat.succ_mul,Nat.add_comm,List.take_succ_cons,List.flatMap_cons,←Amh hf l i];rw[show k+i*k=(f x).length+i*k by rw[hf x],List.take_length_add_append]
theorem Io (hf:∀x,(f x).length=k) {l:List α}{i:Nat}{x:α}(h:l[i]?=some x) {j:Nat}(hj:j<k):(l.flatMap f).getD (i*k+j) .top=(f x).getD j .top:=by
 have h1:((l.flatMap f).drop (i*k))[j]?=(l.flatMap f)[i*k+j]?:=List.getElem?_drop;rw[Adk hf] at h1
 have h2:i<l.length:=by
  rcases Nat.lt_or_ge i l.length with h1|h1
  ·exact h1
  ·rw[List.getElem?_eq_none h1] at h;cases h
 rw[List.drop_eq_getElem_cons h2,List.flatMap_cons] at h1;have h3:l[i]=x:=by rw[List.getElem?_eq_getElem h2] at h;injection h
 rw[h3,List.getElem?_append_left (by rw[hf x];exact hj)] at h1
 simp only[List.getD_eq_getElem?_getD,←h1]
theorem Hv {c:List PV}{p:PV}{i:Nat}(h:i<c.length):B4 c [p] i=c.set i p:=by
 unfold B4;rw[List.set_eq_take_append_cons_drop,if_pos h];simp
end
theorem A25 {α:Type}{l:List α}{i:Nat}{x:α}(h:l[i]?=some x):i<l.length:=by
 rcases Nat.lt_or_ge i l.length with h1|h1
 ·exact h1
 ·rw[List.getElem?_eq_none h1] at h;cases h
abbrev A2q (k:IntKind)(n:Int):List PV:=[.sc (.int k n)]
abbrev Af (k:IntKind)(l:List Int):List PV:=l.flatMap (A2q k)
theorem LQ (k:IntKind)(n:Int):(A2q k n).length=1:=rfl
theorem HL {k:IntKind}{l:List Int}{i:Nat}{n:Int}(h:l[i]?=some n):(Af k l).getD i .top=.sc (.int k n):=by
 have:=Io (LQ k) h (j:=0) (by omega)
 simpa using this
theorem Aq (k:IntKind)(l:List Int):(Af k l).length=l.length:=by rw[V7 (LQ k)];omega
theorem Ig (k:IntKind)(l:List Int)(n:Int):Af k l++[.sc (.int k n)]=Af k (l++[n]):=by simp
theorem Nv (k:IntKind)(l:List Int):List.take l.length (Af k l)=Af k l:=List.take_of_length_le (by rw[Aq];omega)
theorem Cd:type_of% @Al8∧type_of% @Arb∧type_of% @Ama∧type_of% @Al7∧type_of% @As3∧type_of% @Aby∧type_of% @Auc∧type_of% @A03∧type_of% @Azz∧type_of% @At9∧type_of% @Ali∧type_of% @Atc∧type_of% @Jy∧type_of% @At6∧type_of% @Acg∧type_of% @Ak2∧type_of% @Ar6∧type_of% @Aqq∧type_of% @HJ∧type_of% @Eh∧type_of% @RW∧type_of% @Bool.not_true∧type_of% @Bool.not_false∧type_of% @Bool.false_eq_true∧type_of% @if_true.{1}∧type_of% @if_false.{1}∧type_of% @Bool.true_and∧type_of% @Bool.and_true∧type_of% @Bool.false_and∧type_of% @Bool.and_false∧type_of% @decide_true∧type_of% @decide_false:=
 ⟨@Al8,@Arb,@Ama,@Al7,@As3,@Aby,@Auc,@A03,@Azz,@At9,@Ali,@Atc,@Jy,@At6,@Acg,@Ak2,@Ar6,@Aqq,@HJ,@Eh,@RW,@Bool.not_true,@Bool.not_false,@Bool.false_eq_true,@if_true.{1},@if_false.{1},@Bool.true_and,@Bool.and_true,@Bool.false_and,@Bool.and_false,@decide_true,@decide_false⟩
theorem gT:type_of% @Bool.and_eq_true∧type_of% @decide_eq_true_eq∧type_of% @beq_iff_eq.{0}∧type_of% @bne_iff_ne.{0}∧type_of% @ne_eq.{1}∧type_of% @Bool.not_eq_true'∧type_of% @true_and∧type_of% @and_true:=
 ⟨@Bool.and_eq_true,@decide_eq_true_eq,@beq_iff_eq.{0},@bne_iff_ne.{0},@ne_eq.{1},@Bool.not_eq_true',@true_and,@and_true⟩
theorem gF:type_of% @decide_eq_false_iff_not∧type_of% @beq_eq_false_iff_ne.{0}∧type_of% @bne_eq_false_iff_eq.{0}∧type_of% @ne_eq.{1}∧type_of% @Bool.not_eq_false':=
 ⟨@decide_eq_false_iff_not,@beq_eq_false_iff_ne.{0},@bne_eq_false_iff_eq.{0},@ne_eq.{1},@Bool.not_eq_false'⟩
end
section
open Go.RowKit
def B8 {α β:Type}(R:α->β->Prop):List α->List β->Prop
 |[],[]=>True
 |a::zs,b::bs=>R a b∧B8 R zs bs
 |_,_=>False
section
variable {α β γ:Type} {R S:α->β->Prop}
theorem B8.len:∀{zs:List α}{bs:List β},B8 R zs bs->zs.length=bs.length
 |[],[],_=>rfl
 |_::_,_::_,h=>by simp[B8.len h.2]
 |[],_::_,h=>h.elim
 |_::_,[],h=>h.elim
theorem B8.at_:∀{zs:List α}{bs:List β},B8 R zs bs->∀{i:Nat} {a b},zs[i]?=some a->bs[i]?=some b->R a b
 |[],[],_,i,a,b,h,_=>by simp at h
 |_::_,_::_,h,0,a,b,ha,hb=>by simp at ha hb;subst ha;subst hb;exact h.1
 |_::_,_::_,h,i+1,a,b,ha,hb=>by simp at ha hb;exact B8.at_ h.2 ha hb
 |[],_::_,h,_,_,_,_,_=>h.elim
 |_::_,[],h,_,_,_,_,_=>h.elim
theorem B8.of_at:∀{zs:List α}{bs:List β},zs.length=bs.length->(∀(i:Nat) a b,zs[i]?=some a->bs[i]?=some b->R a b)->B8 R zs bs
 |[],[],_,_=>trivial
 |a::zs,b::bs,hl,h=>⟨h 0 a b rfl rfl,B8.of_at (by simpa using hl) fun i x y hx hy=>h (i+1) x y hx hy⟩
 |[],_::_,hl,_=>by simp at hl
 |_::_,[],hl,_=>by simp at hl
theorem B8.mono (hRS:∀a b,R a b->S a b):∀{zs:List α}{bs:List β},B8 R zs bs->B8 S zs bs
 |[],[],_=>trivial
 |_::_,_::_,h=>⟨hRS _ _ h.1,B8.mono hRS h.2⟩
 |[],_::_,h=>h.elim
 |_::_,[],h=>h.elim
theorem B8.mono_mem:∀{zs:List α}{bs:List β},(∀a∈zs,∀b,R a b->S a b)->B8 R zs bs->B8 S zs bs
 |[],[],_,_=>trivial
 |a::_,_::_,hRS,h=>⟨hRS a (by simp) _ h.1,B8.mono_mem (fun x hx=>hRS x (by simp[hx])) h.2⟩
 |[],_::_,_,h=>h.elim
 |_::_,[],_,h=>h.elim
theorem B8.app:∀{zs:List α}{bs:List β}{as':List α}{bs':List β},B8 R zs bs->B8 R as' bs'->B8 R (zs++as') (bs++bs')
 |[],[],_,_,_,h'=>h'
 |_::_,_::_,_,_,h,h'=>⟨h.1,B8.app h.2 h'⟩
 |[],_::_,_,_,h,_=>h.elim
 |_::_,[],_,_,h,_=>h.elim
theorem B8.take:∀(n:Nat){zs:List α}{bs:List β},B8 R zs bs->B8 R (zs.take n) (bs.take n)
 |0,_,_,_=>by simp[B8]
 |_+1,[],[],_=>trivial
 |n+1,_::_,_::_,h=>⟨h.1,B8.take n h.2⟩
 |_+1,[],_::_,h=>h.elim
 |_+1,_::_,[],h=>h.elim
theorem B8.drop:∀(n:Nat){zs:List α}{bs:List β},B8 R zs bs->B8 R (zs.drop n) (bs.drop n)
 |0,_,_,h=>h
 |_+1,[],[],_=>trivial
 |n+1,_::_,_::_,h=>B8.drop n h.2
 |_+1,[],_::_,h=>h.elim
 |_+1,_::_,[],h=>h.elim
end
inductive A8 (w:World) (A:Nat->Prop):PV->Value->Prop where
 |sc (v:Value):A8 w A (.sc v) v
 |top (v:Value):A8 w A .top v
 |ub (b:Bool):A8 w A .ub (.bool b)
 |lnil (z:Bool) (es:Nat):A8 w A (.lst z es 0 []) (.slice none 0 0)
 |lemp (es:Nat) (a:Addr) (cap:Nat):A8 w A (.lst false es 0 []) (.slice (some a) 0 cap)
 |lst (es n:Nat) (cells:List PV) (a:Addr) (cap:Nat) (f:Nat->Value) (hs:a.spot=none) (hb:a.block<w.heap.size) (hA:¬A a.block) (hn:n<=cap)
   (hc:∀j c,cells[j]?=some c->w.cell? (a.add j)=some (f j)) (h1:∀j c,cells[j]?=some c->(f j).oneCell'=true) (hr:∀j c,cells[j]?=some c->A8 w A c (f j)):A8 w A (.lst false es n cells) (.slice (some a) n cap)
def bsz (w:World)(b:Nat):Nat:=
 match w.heap[b]? with
 |some (.cells c _ _)=>c.size
 |_=>0
def XP (w:World)(A:Nat->Prop)(a:Addr)(cells:List PV):Prop:=∀j c,cells[j]?=some c->∃v,w.cell? (a.add j)=some v∧v.oneCell'=true∧A8 w A c v
def Cu (w:World)(A:Nat->Prop)(β:Nat->Option (Nat × Nat)) (p:PV)(v:Value):Prop:=
 match p with
 |.view id es off n=>(β id=none∧off=0∧n=0∧∃ad,v=.slice ad 0 0) ∨
   ∃b o x cap,β id=some (b,o)∧v=.slice (some ⟨b,x,none⟩) n cap∧(x=o+off∨(n=0∧off≠0))∧n<=cap∧x+cap*es<=bsz w b∧b<w.heap.size
 |.ptr id off=>∃b o,β id=some (b,o)∧v=.pointer (some ⟨b,o+off,none⟩)
 |.iptr c off=>∃a:Addr,v=.pointer (some (a.add off))∧a.spot=none∧a.block<w.heap.size∧¬A a.block∧XP w A a c
 |p=>A8 w A p v
def I7 (w:World)(A:Nat->Prop)(β:Nat->Option (Nat × Nat)) (p:PV)(v:Value):Prop:=
 match p with
 |.agg cs=>∃vs,v=.agg ⟨vs⟩∧B8 (Cu w A β) cs vs
 |p=>Cu w A β p v
def Et (w:World)(A:Nat->Prop)(β:Nat->Option (Nat × Nat)) (p:PV)(v:Value):Prop:=
 match p with
 |.tup ps=>∃vs,v=.tuple ⟨vs⟩∧B8 (I7 w A β) ps vs
 |p=>I7 w A β p v
structure C2 (A:Nat->Prop) (w w':World):Prop where
 size:w.heap.size<=w'.heap.size
 keep:∀b,b<w.heap.size->¬A b->w'.heap[b]?=w.heap[b]?
 bs:∀b,b<w.heap.size->bsz w b<=bsz w' b
theorem H6 (a:Addr)(j:Nat):(a.add j).block=a.block:=by unfold Addr.add;split<;>rfl
theorem add_add (a:Addr)(i j:Nat):(a.add i).add j=a.add (i+j):=by
 unfold Addr.add;by_cases hi:i=0<;>by_cases hj:j=0<;>simp[hi,hj,Nat.add_assoc]
theorem Fn (b o j:Nat):(⟨b,o,none⟩:Addr).add j=⟨b,o+j,none⟩:=by
 unfold Addr.add;by_cases hj:j=0<;>simp[hj]
theorem Ate {a:Addr}(h:a.spot=none)(j:Nat):(a.add j).spot=none:=by unfold Addr.add;split<;>simp[h]
section
variable {w w':World} {A A':Nat->Prop} {β β':Nat->Option (Nat × Nat)}
theorem C2.cell (h:C2 A w w'){a:Addr}(hb:a.block<w.heap.size)(hA:¬A a.block):w'.cell? a=w.cell? a:=
 World.cell?_of_block (h.keep a.block hb hA)
theorem A8.step (h:C2 A w w')(hA:∀b,b<w.heap.size->A' b->A b){p:PV}{v:Value}(t:A8 w A p v):A8 w' A' p v:=by
 induction t with
 |sc v=>exact .sc v
 |top v=>exact .top v
 |ub b=>exact .ub b
 |lnil z es=>exact .lnil z es
 |lemp es a cap=>exact .lemp es a cap
 |lst es n cells a cap f hs hb hA1 hn hc h1 hr ih=>
  refine .lst es n cells a cap f hs (Nat.lt_of_lt_of_le hb h.size) (fun x=>hA1 (hA _ hb x)) hn (fun j c hj=>?_) h1 (fun j c hj=>ih j c hj)
  rw[h.cell (by rw[H6];exact hb) (by rw[H6];exact hA1)]
  exact hc j c hj
theorem XP.step (h:C2 A w w')(hA:∀b,b<w.heap.size->A' b->A b){a:Addr}(hb:a.block<w.heap.size)(hn:¬A a.block){cells:List PV}(t:XP w A a cells):XP w' A' a cells:=by
 intro j c hj;obtain⟨v,hv,h1,ht⟩:=t j c hj;exact⟨v,by rw[h.cell (by rw[H6];exact hb) (by rw[H6];exact hn)];exact hv,h1,ht.step h hA⟩
theorem Cu.step (h:C2 A w w')(hA:∀b,b<w.heap.size->A' b->A b){p:PV}{v:Value}(hβ:∀id∈A7 p,β' id=β id)(t:Cu w A β p v):Cu w' A' β' p v:=by
 cases p with
 |view id es off n=>
  have e:=hβ id (by simp[A7])
  rcases t with⟨h1,h2,h3,h4⟩|⟨b,o,x,cap,h1,h2,hx,h3,h4,h5⟩
  ·exact .inl ⟨by rw[e];exact h1,h2,h3,h4⟩
  ·exact .inr ⟨b,o,x,cap,by rw[e];exact h1,h2,hx,h3,Nat.le_trans h4 (h.bs b h5),Nat.lt_of_lt_of_le h5 h.size⟩
 |ptr id off=>
  have e:=hβ id (by simp[A7])
  obtain⟨b,o,h1,h2⟩:=t;exact⟨b,o,by rw[e];exact h1,h2⟩
 |iptr c off=>
  obtain⟨a,h1,h2,h3,h4,h5⟩:=t;exact⟨a,h1,h2,Nat.lt_of_lt_of_le h3 h.size,fun x=>h4 (hA _ h3 x),h5.step h hA h3 h4⟩
 |sc v=>exact A8.step h hA t
 |lst z es n c=>exact A8.step h hA t
 |own es n c=>exact A8.step h hA t
 |pbox c=>exact A8.step h hA t
 |agg c=>exact A8.step h hA t
 |tup c=>exact A8.step h hA t
 |top=>exact A8.step h hA t
 |ub=>exact A8.step h hA t
theorem I7.step (h:C2 A w w')(hA:∀b,b<w.heap.size->A' b->A b){p:PV}{v:Value}(hβ:∀id∈Cw p,β' id=β id)(t:I7 w A β p v):I7 w' A' β' p v:=by
 cases p with
 |agg cs=>
  obtain⟨vs,rfl,h2⟩:=t;exact⟨vs,rfl,h2.mono_mem fun c hc v hv=>hv.step h hA fun id B6=>hβ id (by simp only[Cw,List.mem_flatMap];exact⟨c,hc,B6⟩)⟩
 |sc x=>exact Cu.step (p:=.sc x) h hA hβ t
 |lst x y z u=>exact Cu.step (p:=.lst x y z u) h hA hβ t
 |own x y z=>exact Cu.step (p:=.own x y z) h hA hβ t
 |view x y z u=>exact Cu.step (p:=.view x y z u) h hA hβ t
 |ptr x y=>exact Cu.step (p:=.ptr x y) h hA hβ t
 |iptr x y=>exact Cu.step (p:=.iptr x y) h hA hβ t
 |pbox x=>exact Cu.step (p:=.pbox x) h hA hβ t
 |tup x=>exact Cu.step (p:=.tup x) h hA hβ t
 |top=>exact Cu.step (p:=.top) h hA hβ t
 |ub=>exact Cu.step (p:=.ub) h hA hβ t
theorem Et.step (h:C2 A w w')(hA:∀b,b<w.heap.size->A' b->A b){p:PV}{v:Value}(hβ:∀id∈Cm p,β' id=β id)(t:Et w A β p v):Et w' A' β' p v:=by
 cases p with
 |tup cs=>
  obtain⟨vs,rfl,h2⟩:=t;exact⟨vs,rfl,h2.mono_mem fun c hc v hv=>hv.step h hA fun id B6=>hβ id (by simp only[Cm,List.mem_flatMap];exact⟨c,hc,B6⟩)⟩
 |sc x=>exact I7.step (p:=.sc x) h hA hβ t
 |lst x y z u=>exact I7.step (p:=.lst x y z u) h hA hβ t
 |own x y z=>exact I7.step (p:=.own x y z) h hA hβ t
 |view x y z u=>exact I7.step (p:=.view x y z u) h hA hβ t
 |ptr x y=>exact I7.step (p:=.ptr x y) h hA hβ t
 |iptr x y=>exact I7.step (p:=.iptr x y) h hA hβ t
 |pbox x=>exact I7.step (p:=.pbox x) h hA hβ t
 |top=>exact I7.step (p:=.top) h hA hβ t
 |ub=>exact I7.step (p:=.ub) h hA hβ t
 |agg x=>exact I7.step (p:=.agg x) h hA hβ t
theorem C2.refl (A:Nat->Prop)(w:World):C2 A w w:=⟨Nat.le_refl _,fun _ _ _=>rfl,fun _ _=>Nat.le_refl _⟩
theorem XP.weak (hA:∀b,b<w.heap.size->A' b->A b){a:Addr}{cells:List PV}(t:XP w A a cells):XP w A' a cells:=by
 intro j c hj;obtain⟨v,hv,h1,ht⟩:=t j c hj;exact⟨v,hv,h1,ht.step (C2.refl A w) hA⟩
theorem C2.trans {w'':World}(h:C2 A w w')(h':C2 A' w' w'')(hA:∀b,b<w.heap.size->A' b->A b):C2 A w w'':=
  ⟨Nat.le_trans h.size h'.size,fun b hb hn=>(h'.keep b (Nat.lt_of_lt_of_le hb h.size) (fun x=>hn (hA b hb x))).trans (h.keep b hb hn),
   fun b hb=>Nat.le_trans (h.bs b hb) (h'.bs b (Nat.lt_of_lt_of_le hb h.size))⟩
theorem C2.weaken (h:C2 A w w')(hA:∀b,b<w.heap.size->A b->A' b):C2 A' w w':=⟨h.size,fun b hb hn=>h.keep b hb (fun x=>hn (hA b hb x)),h.bs⟩
end
section
variable {R:Type} {r:R}
theorem Gv {k:IntKind}{p:PV}{K:Int->Option R}(h:Ae k p K=some r):∃n,p=.sc (.int k n)∧K n=some r:=by
 unfold Ae at h;split at h
 ·split at h
  ·rename_i hk;subst hk;exact⟨_,rfl,h⟩
  ·cases h
 ·cases h
theorem Fi {p:PV}{K:Bool->Option R}(h:B3 p K=some r):∃b,p=.sc (.bool b)∧K b=some r:=by
 unfold B3 at h;split at h
 ·exact⟨_,rfl,h⟩
 ·cases h
theorem Ff {p:PV}{K:ByteArray->Option R}(h:Fk p K=some r):∃b,p=.sc (.string b)∧K b=some r:=by
 unfold Fk at h;split at h
 ·exact⟨_,rfl,h⟩
 ·cases h
theorem Eo {p:PV}{K:IntKind->Int->Option R}(h:E9 p K=some r):∃k n,p=.sc (.int k n)∧K k n=some r:=by
 unfold E9 at h;split at h
 ·exact⟨_,_,rfl,h⟩
 ·cases h
theorem A3 {b:Bool}{K:Option R}(h:Aw b K=some r):b=true∧K=some r:=by
 unfold Aw at h;cases b
 ·cases h
 ·exact⟨rfl,h⟩
theorem D7 {α:Type}{o:Option α}{K:α->Option R}(h:F6 o K=some r):∃a,o=some a∧K a=some r:=by
 unfold F6 at h;split at h
 ·exact⟨_,rfl,h⟩
 ·cases h
theorem Bw {α:Type}{l:List α}{K:α->List α->Option R}(h:Ab l K=some r):∃a t,l=a::t∧K a t=some r:=by
 unfold Ab at h;split at h
 ·exact⟨_,_,rfl,h⟩
 ·cases h
theorem Ex {α:Type}{l:List α}{K:Option R}(h:Ac l K=some r):l=[]∧K=some r:=by
 unfold Ac at h;split at h
 ·exact⟨rfl,h⟩
 ·cases h
theorem Kz {p:PV}{K:List PV->Option R}(h:Ef p K=some r):∃c,p=.agg c∧K c=some r:=by
 unfold Ef at h;split at h
 ·exact⟨_,rfl,h⟩
 ·cases h
theorem Aa3 {p:PV}{K:List PV->Option R}(h:FP p K=some r):∃c,p=.pbox c∧K c=some r:=by
 unfold FP at h;split at h
 ·exact⟨_,rfl,h⟩
 ·cases h
theorem Adw {p:PV}{K:Value->Option R}(h:fnK p K=some r):∃f a b,p=.sc (.func f a b)∧K (.func f a b)=some r:=by
 unfold fnK at h;split at h
 ·exact⟨_,_,_,rfl,h⟩
 ·cases h
theorem Ays {p:PV}{K:FuncId->Option R}(h:fvK p K=some r):∃f,p=.sc (.func (.func f) #[] #[])∧K f=some r:=by
 unfold fvK at h;split at h
 ·rename_i f a b;cases hb:(a.isEmpty&&b.isEmpty)<;>rw[hb] at h
  ·cases h
  ·simp only[Bool.and_eq_true,Array.isEmpty_iff] at hb;rw[hb.1,hb.2];exact⟨f,rfl,h⟩
 ·cases h
theorem Aax {o:Option A4}{K:List PV->List (List PV)->Option R} (h:Aj o K=some r):∃v x,o=some ⟨v,x⟩∧K v x=some r:=by
 unfold Aj at h;split at h
 ·exact⟨_,_,rfl,h⟩
 ·cases h
theorem Sn {b:Bool}{x y:Option R}(h:Bm b x y=some r):(b=true∧x=some r)∨(b=false∧y=some r):=by
 unfold Bm at h;cases b
 ·exact .inr ⟨rfl,h⟩
 ·exact .inl ⟨rfl,h⟩
theorem Ik {es:Nat}{p:PV}{K:Bool->Nat->List PV->Option R}(h:Fa es p K=some r):
  ∃z n c,K z n c=some r∧(p=.lst z es n c∨(p=.sc (.slice none 0 0)∧z=true∧n=0∧c=[])):=by
 unfold Fa at h;split at h
 ·rename_i z es' n c;cases hb:Nat.beq es' es
  ·rw[hb] at h;cases h
  ·rw[hb] at h;have:=Nat.eq_of_beq_eq_true hb;subst this;exact⟨z,n,c,h,.inl rfl⟩
 ·exact⟨true,0,[],h,.inr ⟨rfl,rfl,rfl,rfl⟩⟩
 ·cases h
def FJ:PV->Prop
 |.sc _=>True
 |.lst _ _ _ _=>True
 |_=>False
def XN:PV->Prop
 |.sc _=>True
 |.lst _ _ _ _=>True
 |.view _ _ _ _=>True
 |_=>False
theorem Y6 {c:PV}(h:FJ c):XN c:=by
 cases c<;>first|trivial|exact h.elim
theorem Ll {c:PV}(h:FJ c):A7 c=[]:=by
 cases c<;>first|rfl|exact h.elim
variable {w:World} {A:Nat->Prop} {β:Nat->Option (Nat × Nat)}
theorem Qq {c:PV}{v:Value}(h:FJ c):Cu w A β c v↔A8 w A c v:=by
 cases c<;>first|exact Iff.rfl|exact h.elim
theorem Yq {c:PV}{v:Value}(h:∀cs,c ≠ .agg cs):I7 w A β c v↔Cu w A β c v:=by
 cases c<;>first|exact Iff.rfl|exact absurd rfl (h _)
theorem Si {c:PV}{v:Value}(h:∀cs,c ≠ .tup cs):Et w A β c v↔I7 w A β c v:=by
 cases c<;>first|exact Iff.rfl|exact absurd rfl (h _)
theorem JU {c:PV}(h:FJ c)(cs:List PV):c ≠ .agg cs:=by rintro rfl;exact h
theorem Ald {c:PV}(h:FJ c)(cs:List PV):c ≠ .tup cs:=by rintro rfl;exact h
theorem A8.val {v u:Value}(h:A8 w A (.sc v) u):u=v:=by cases h;rfl
theorem GP {es n:Nat}{z:Bool}{c:List PV}{p:PV}{v:Value}(h:p=.lst z es n c∨(p=.sc (.slice none 0 0)∧z=true∧n=0∧c=[])) (hv:Cu w A β p v):A8 w A (.lst z es n c) v:=by
 rcases h with rfl|⟨rfl,rfl,rfl,rfl⟩
 ·exact hv
 ·have:=A8.val (w:=w) (A:=A) hv;subst this;exact .lnil true es
theorem R8 {t:CT}{p:PV}{K:PV->Option R}(h:NI t p K=some r):
  ∃c,K c=some r∧FJ c∧FJ p∧∀(w:World) (A:Nat->Prop) (β:Nat->Option (Nat × Nat)) (v:Value),Cu w A β p v->A8 w A c v∧v.oneCell'=true:=by
 cases t with
 |int k=>obtain⟨n,rfl,h2⟩:=Gv h;exact⟨_,h2,trivial,trivial,fun w A β v hv=>⟨hv,by have:=A8.val (w:=w) (A:=A) hv;subst this;rfl⟩⟩
 |bool=>obtain⟨n,rfl,h⟩:=Fi h;exact⟨_,h,trivial,trivial,fun w A β v hv=>⟨hv,by have:=A8.val (w:=w) (A:=A) hv;subst this;rfl⟩⟩
 |str=>obtain⟨n,rfl,h⟩:=Ff h;exact⟨_,h,trivial,trivial,fun w A β v hv=>⟨hv,by have:=A8.val (w:=w) (A:=A) hv;subst this;rfl⟩⟩
 |sl es=>
  obtain⟨z,n,c,h,hp⟩:=Ik h;refine⟨_,h,trivial,?_,fun w A β v hv=>⟨GP hp hv,?_⟩⟩
  ·rcases hp with rfl|⟨rfl,_⟩<;>trivial
  ·have ht:=GP hp hv;cases ht<;>rfl
 |any=>
  obtain⟨f,a,b,rfl,h2⟩:=Adw (show fnK p (fun v=>K (.sc v))=some r from h)
  exact⟨_,h2,trivial,trivial,fun w A β v hv=>⟨hv,by have:=A8.val (w:=w) (A:=A) hv;subst this;rfl⟩⟩
theorem Axf {t:CT}{p:PV}{K:PV->Option R}(h:fcK t p K=some r):
  ∃c,K c=some r∧(FJ c∨c=p)∧XN p∧p ≠ .top∧(∀cs,c ≠ .agg cs)∧(∀cs,c ≠ .tup cs)∧(∀id,id∈A7 c->id∈A7 p)∧∀(w:World) (A:Nat->Prop) (β:Nat->Option (Nat × Nat)) (v:Value),Cu w A β p v->Cu w A β c v∧v.oneCell'=true:=by
 have tree:∀t',NI t' p K=some r->∃c,K c=some r∧(FJ c∨c=p)∧XN p∧p ≠ .top∧(∀cs,c ≠ .agg cs)∧(∀cs,c ≠ .tup cs)∧(∀id,id∈A7 c->id∈A7 p)∧∀(w:World) (A:Nat->Prop) (β:Nat->Option (Nat × Nat)) (v:Value),Cu w A β p v->Cu w A β c v∧v.oneCell'=true:=by
  intro t' h;obtain⟨c,h,hc,hp,hv⟩:=R8 h;exact⟨c,h,.inl hc,Y6 hp,by rintro rfl;exact hp,JU hc,Ald hc,by rw[Ll hc];simp,fun w A β v h=>⟨(Qq hc).2 (hv w A β v h).1,(hv w A β v h).2⟩⟩
 cases t with
 |sl es=>
  unfold fcK fsK at h;dsimp only at h;split at h
  ·rename_i id es' off n;cases hb:Nat.beq es' es
   ·rw[hb] at h;cases h
   ·rw[hb] at h;have:=Nat.eq_of_beq_eq_true hb;subst this;exact⟨_,h,.inr rfl,trivial,by simp,by simp,by simp,fun _ h=>h,fun _ _ _ _ h=>⟨h,by rcases h with⟨_,_,_,_,rfl⟩|⟨_,_,_,_,_,rfl,_⟩<;>rfl⟩⟩
  ·exact tree (.sl es) h
 |int k=>exact tree (.int k) h
 |bool=>exact tree (.bool) h
 |str=>exact tree (.str) h
 |any=>exact tree (.any) h
theorem OG {cells:List PV}{i:Nat}{p:PV}(h:cells.getD i .top=p)(hp:p ≠ .top):cells[i]?=some p:=by
 rw[List.getD_eq_getElem?_getD] at h;cases hc:cells[i]? with
 |none=>rw[hc] at h;exact absurd h.symm hp
 |some q=>rw[hc] at h;simp at h;rw[h]
theorem CE:∀{ts:List CT}{cells:List PV}{off:Nat}{K:List PV->Option R},BX ts cells off K=some r ->
  ∃cs,K cs=some r∧cs.length=ts.length∧∀j c,cs[j]?=some c->FJ c∧∃p,cells[off+j]?=some p∧FJ p ∧
   ∀(w:World) (A:Nat->Prop) (β:Nat->Option (Nat × Nat)) (v:Value),Cu w A β p v->A8 w A c v∧v.oneCell'=true
 |[],_,_,_,h=>⟨[],h,rfl,fun j c hj=>by simp at hj⟩
 |t::ts,cells,off,K,h=>by
  unfold BX at h;obtain⟨c,h,hc,hp,hv⟩:=R8 h;obtain⟨cs,h,hl,hcs⟩:=CE h;refine⟨c::cs,h,by simp[hl],fun j c' hj=>?_⟩
  cases j with
  |zero=>
   simp at hj;subst hj;refine⟨hc,cells.getD off .top,OG rfl ?_,hp,hv⟩;intro e;rw[e] at hp;exact hp
  |succ j=>
   simp at hj;have:=hcs j c' hj
   rwa [Nat.add_right_comm,Nat.add_assoc] at this
theorem CH:∀{ts:List CT}{cells:List PV}{off:Nat}{K:List PV->Option R},Vr ts cells off K=some r ->
  ∃cs,K cs=some r∧cs.length=ts.length∧(∀c∈cs,(∀x,c ≠ .agg x)∧(∀x,c ≠ .tup x))∧∀j c,cs[j]?=some c->∃p,cells[off+j]?=some p∧XN p∧(∀id,id∈A7 c->id∈A7 p) ∧
   ∀(w:World) (A:Nat->Prop) (β:Nat->Option (Nat × Nat)) (v:Value),Cu w A β p v->Cu w A β c v∧v.oneCell'=true
 |[],_,_,_,h=>⟨[],h,rfl,by simp,fun j c hj=>by simp at hj⟩
 |t::ts,cells,off,K,h=>by
  unfold Vr at h;obtain⟨c,h,hc,hf,hp,ha,ht,hr,hv⟩:=Axf h;obtain⟨cs,h,hl,MP,hcs⟩:=CH h;refine⟨c::cs,h,by simp[hl],?_,fun j c' hj=>?_⟩
  ·intro x hx;rcases List.mem_cons.1 hx with rfl|hx
   ·exact⟨ha,ht⟩
   ·exact MP x hx
  ·cases j with
   |zero=>
    simp at hj;subst hj;exact⟨cells.getD off .top,OG rfl hp,hf,hr,hv⟩
   |succ j=>
    simp at hj;have:=hcs j c' hj
    rwa [Nat.add_right_comm,Nat.add_assoc] at this
theorem Adx {agg:Bool}{cells:List PV}{K:PV->Option R}(h:mkV agg cells K=some r):
  (agg=true∧K (.agg cells)=some r)∨(agg=false∧∃c,cells=[c]∧K c=some r):=by
 unfold mkV at h;cases agg
 ·obtain⟨c,t,rfl,h⟩:=Bw h;obtain⟨rfl,h⟩:=Ex h;exact .inr ⟨rfl,c,rfl,h⟩
 ·exact .inl ⟨rfl,h⟩
end
open Go.RowKit
def C5 (b:Option Cb):Prop:=
 match b with
 |some (.st _)=>True
 |some (.ar false _)=>True
 |_=>False
abbrev Bt:=Nat->Option (Nat × Nat)
def HZ (hp:Nat->Option Cb)(β:Bt)(b:Nat):Prop:=∃id o,C5 (hp id)∧β id=some (b,o)
def Du (hp:Nat->Option Cb)(β:Bt)(Y:Nat->Prop)(b:Nat):Prop:=HZ hp β b∨Y b
def Wx (w:World)(A:Nat->Prop)(β:Bt)(id:Nat)(bx:Cb):Prop:=
 match bx with
 |.st cells=>∃b o,β id=some (b,o)∧(∀j c,cells[j]?=some c->∃v,w.cell? ⟨b,o+j,none⟩=some v∧Cu w A β c v)∧∀j,j<cells.length->w.frozen? ⟨b,o+j,none⟩=false
 |.ar fz cells=>(β id=none∧cells=[])∨∃b o,β id=some (b,o)∧XP w A ⟨b,o,none⟩ cells∧(fz=false->∀j,o<=j->j<bsz w b->w.frozen? ⟨b,j,none⟩=false)∧(fz=true->¬A b)
 |.mv=>True
structure Gg where
 X:Nat->Prop
 L:Nat->Nat->Prop
 pn:Nat->Prop
 pt:Nat->Option (Nat × Nat)
 p8:∀i,pn i->i<8
def BR (bx:Cb)(o j:Nat):Prop:=
 match bx with
 |.st c=>o<=j∧j<o+c.length
 |.ar _ _=>o<=j
 |.mv=>False
structure Fr (X0:Gg) (w0 w:World):Prop where
 os:w.os=w0.os
 tape:w.tape=w0.tape
 output:w.output=w0.output
 step:C2 X0.X w0 w
 rng:∀b j,b<w0.heap.size->¬X0.L b j->w.cell? ⟨b,j,none⟩=w0.cell? ⟨b,j,none⟩∧w.frozen? ⟨b,j,none⟩=w0.frozen? ⟨b,j,none⟩
structure Ch (N:Nat) (w0:World) (X0:Gg) (Y:Nat->Prop) (β:Bt) (s:St) (a:Act) (w:World):Prop where
 dfr:a.defers=[]
 tsz:a.tmps.size=N
 tmo:∀i,N<=i->s.tm i=.top
 tms:∀i,i<N->Et w (Du s.hp β Y) β (s.tm i) (a.tmps.getD i undef)
 box:∀id b,s.hp id=some b->Wx w (Du s.hp β Y) β id b
 inj:∀id id' b o o',C5 (s.hp id)->C5 (s.hp id')->β id=some (b,o)->β id'=some (b,o')->id=id'
 blt:∀id b o,s.hp id≠none->β id=some (b,o)->b<w.heap.size
 wfT:∀i,i<N->∀id∈Cm (s.tm i),s.hp id≠none
 wfB:∀id cells,s.hp id=some (.st cells)->∀c∈cells,∀id'∈A7 c,s.hp id'≠none
 ownd:∀b,HZ s.hp β b->X0.X b∨w0.heap.size<=b
 rngB:∀id bx b o,s.hp id=some bx->C5 (some bx)->β id=some (b,o)->b<w0.heap.size->∀j,BR bx o j->X0.L b j
 pin:∀i,X0.pn i->s.hp (D0 N i)≠none∧β (D0 N i)=X0.pt i
 stp:∀id c b o,s.hp id=some (.st c)->β id=some (b,o)->b<w0.heap.size->∃i,id=D0 N i∧X0.pn i
 Yx:∀b,Y b->¬HZ s.hp β b
 Ylt:∀b,Y b->b<w0.heap.size
 fr:Fr X0 w0 w
theorem Dy {b:Option Cb}(h:C5 b):b≠none:=by rintro rfl;exact h
theorem A5 {α:Type}(f:Nat->α)(i:Nat)(v:α):Ds f i v i=v:=by simp[Ds,Nat.beq_refl]
theorem Ax {α:Type}(f:Nat->α){i j:Nat}(v:α)(h:j≠i):Ds f i v j=f j:=by
 have:Nat.beq j i=false:=by
  cases hb:Nat.beq j i
  ·rfl
  ·exact absurd (Nat.eq_of_beq_eq_true hb) h
 simp[Ds,this]
theorem IQ {α:Type}(f:Nat->α){i:Nat}{v:α}(h:f i=v):Ds f i v=f:=by
 funext j
 by_cases e:j=i
 ·subst e;rw[A5];exact h.symm
 ·exact Ax f v e
theorem Ae5 {α:Type}(f:Nat->α){i j:Nat}(u v:α)(h:i≠j):Ds (Ds f i u) j v=Ds (Ds f j v) i u:=by
 funext k
 by_cases e:k=j
 ·subst e;rw[A5,Ax _ _ (Ne.symm h),A5]
 ·rw[Ax _ _ e];by_cases e':k=i
  ·subst e';rw[A5,A5]
  ·rw[Ax _ _ e',Ax _ _ e',Ax _ _ e]
theorem YE {a:Act}{d:Nat}{v:Value}(h:d<a.tmps.size):(a.put (some d) v).tmps.getD d undef=v:=by
 simp[Act.put,h]
theorem WG {a:Act}{d i:Nat}{v:Value}(h:i≠d):(a.put (some d) v).tmps.getD i undef=a.tmps.getD i undef:=by
 have h':d≠i:=fun e=>h e.symm
 simp[Act.put,Array.getElem?_setIfInBounds_ne h']
section
variable {N:Nat} {w0:World} {X0:Gg} {Y:Nat->Prop} {β β':Bt} {s:St} {a:Act} {w w':World}
theorem Ih (d:Option Tmp)(v:Value):(a.put d v).tmps.size=a.tmps.size:=by cases d<;>simp[Act.put]
theorem K4 (d:Option Tmp)(v:Value):(a.put d v).defers=a.defers:=by cases d<;>rfl
theorem Xa {d:Option Tmp}(h:Jh N d=true){i:Nat}(e:d=some i):i<N:=by
 subst e;exact Nat.lt_of_succ_le (Nat.le_of_ble_eq_true h)
theorem Vo {Q:Nat->PV->Value->Prop}{tm:Nat->PV}{d:Option Tmp}{v:PV}{val:Value}(hN:a.tmps.size=N)(hd:Jh N d=true)
  (h:∀i,i<N->Q i (tm i) (a.tmps.getD i undef)) (hv:∀i,Q i v val):∀i,i<N->Q i (Cn tm d v i) ((a.put d val).tmps.getD i undef):=by
 intro i hi;cases d with
 |none=>exact h i hi
 |some d=>
  have Cq:=Xa hd rfl;by_cases e:i=d
  ·subst e;show Q i (Ds tm i v i) _;rw[A5,YE (by omega)]
   exact hv i
  ·show Q i (Ds tm d v i) _;rw[Ax _ _ e,WG e];exact h i hi
theorem Ac7 {tm:Nat->PV}{d:Option Tmp}{v:PV}(hd:Jh N d=true)(h:∀i,N<=i->tm i=.top):∀i,N<=i->Cn tm d v i=.top:=by
 intro i hi;cases d with
 |none=>exact h i hi
 |some d=>
  have:=Xa hd rfl;show Ds tm d v i=_;rw[Ax _ _ (by omega)]
  exact h i hi
theorem Ch.put (h:Ch N w0 X0 Y β s a w){d:Option Tmp}{v:PV}{val:Value}(hd:Jh N d=true)(hv:Et w (Du s.hp β Y) β v val) (hr:∀id∈Cm v,s.hp id≠none):
  Ch N w0 X0 Y β ⟨Cn s.tm d v,s.hp⟩ (a.put d val) w where
 dfr:=by rw[K4];exact h.dfr
 tsz:=by rw[Ih];exact h.tsz
 tmo:=Ac7 hd h.tmo
 tms:=Vo (Q:=fun _ p u=>Et w (Du s.hp β Y) β p u) h.tsz hd h.tms (fun _=>hv)
 box:=h.box
 inj:=h.inj
 blt:=h.blt
 wfT:=by
  have:=Vo (Q:=fun _ p _=>∀id∈Cm p,s.hp id≠none) (val:=val) h.tsz hd h.wfT (fun _=>hr)
  exact this
 wfB:=h.wfB
 ownd:=h.ownd
 rngB:=h.rngB
 pin:=h.pin
 stp:=h.stp
 Yx:=h.Yx
 Ylt:=h.Ylt
 fr:=h.fr
theorem Cz (hp:Nat->Option Cb)(ids:List Nat)(i:Nat):Ak hp ids i=if i∈ids then (hp i).map AX else hp i:=by
 unfold Ak;by_cases hi:i∈ids
 ·have:ids.any (Nat.beq i)=true:=List.any_eq_true.2 ⟨i,hi,Nat.beq_refl i⟩;rw[this,if_pos hi];rfl
 ·have:ids.any (Nat.beq i)=false:=by
   cases hb:ids.any (Nat.beq i)
   ·rfl
   ·obtain⟨j,hj,e⟩:=List.any_eq_true.1 hb;exact absurd (Nat.eq_of_beq_eq_true e ▸ hj) hi
  rw[this,if_neg hi];rfl
theorem F3 {hp:Nat->Option Cb}{ids:List Nat}{i:Nat}:Ak hp ids i=none↔hp i=none:=by
 rw[Cz];split<;>simp
theorem Ut {hp:Nat->Option Cb}{ids:List Nat}{i:Nat}(h:C5 (Ak hp ids i)):C5 (hp i):=by
 rw[Cz] at h;split at h
 ·cases hb:hp i with
  |none=>rw[hb] at h;exact h
  |some b=>cases b with
   |st c=>trivial
   |ar fz c=>rw[hb] at h;exact h.elim
   |mv=>rw[hb] at h;exact h
 ·exact h
theorem Nm {hp:Nat->Option Cb}{ids:List Nat}{i:Nat}{bx:Cb}(h:Ak hp ids i=some bx)(hl:C5 (some bx)):hp i=some bx:=by
 rw[Cz] at h;split at h
 ·cases hb:hp i with
  |none=>rw[hb] at h;cases h
  |some b=>
   rw[hb] at h;cases b with
   |st c=>exact h
   |ar fz c=>simp only[Option.map_some,AX,Option.some.injEq] at h;subst h;exact hl.elim
   |mv=>simp only[Option.map_some,AX,Option.some.injEq] at h;subst h;exact hl.elim
 ·exact h
theorem Xg {hp:Nat->Option Cb}{ids:List Nat}{b:Nat}(h:HZ (Ak hp ids) β b):HZ hp β b:=by
 obtain⟨id,o,hl,hb⟩:=h;exact⟨id,o,Ut hl,hb⟩
theorem Wx.step' {A A':Nat->Prop}{id:Nat}{bx:Cb}(hA:∀b,A' b->A b)(h:Wx w A β id bx):Wx w A' β id bx:=by
 have hs:=C2.refl A w;cases bx with
 |st c=>
  obtain⟨b,o,h1,h2,h3⟩:=h;exact⟨b,o,h1,fun j c hj=>let ⟨v,hv,hc⟩:=h2 j c hj;⟨v,hv,hc.step hs (fun b _=>hA b) (fun _ _=>rfl)⟩,h3⟩
 |ar fz c=>
  rcases h with h|⟨b,o,h1,h2,h3,h4⟩
  ·exact .inl h
  ·exact .inr ⟨b,o,h1,h2.weak (fun b _=>hA b),h3,fun e x=>h4 e (hA b x)⟩
 |mv=>trivial
theorem Ch.freeze (h:Ch N w0 X0 Y β s a w){fz:List Nat}(NL:∀id∈fz,∃f c,s.hp id=some (.ar f c)):Ch N w0 X0 Y β ⟨s.tm,Ak s.hp fz⟩ a w:=by
 have hA:∀b,Du (Ak s.hp fz) β Y b->Du s.hp β Y b:=fun b hb=>hb.imp Xg id
 refine⟨h.dfr,h.tsz,h.tmo,fun i hi=>(h.tms i hi).step (C2.refl _ _) (fun b _=>hA b) (fun _ _=>rfl),fun id b hb=>?_,fun id id' b o o' h1 h2=>h.inj id id' b o o' (Ut h1) (Ut h2),
  fun id b o hn=>h.blt id b o (fun e=>hn (F3.2 e)),fun i hi id B6 e=>h.wfT i hi id B6 (F3.1 e),fun id cells hc c hcm id' B6 e=>?_,fun b hb=>h.ownd b (Xg hb),
  fun id bx b o hb hl=>h.rngB id bx b o (Nm hb hl) hl,fun i hi=>⟨fun e=>(h.pin i hi).1 (F3.1 e),(h.pin i hi).2⟩,fun id c b o hc=>h.stp id c b o (Nm hc trivial),fun b hb x=>h.Yx b hb (Xg x),h.Ylt,h.fr⟩
 ·simp only at hb;rw[Cz] at hb;split at hb
  ·rename_i hm;obtain⟨f,c,hc⟩:=NL id hm;rw[hc] at hb;simp only[Option.map_some,AX,Option.some.injEq] at hb;subst hb;have Ow:=h.box id _ hc;rcases Ow with Ow|⟨b,o,h1,h2,h3,h4⟩
   ·exact .inl Ow
   ·refine .inr ⟨b,o,h1,h2.weak (fun b _=>hA b),(fun e=>by cases e),fun _ hb=>?_⟩
    rcases hb with⟨id',o',hl,hb⟩|hY
    ·have X1:=Ut hl;cases f with
     |true=>exact h4 rfl (.inl ⟨id',o',X1,hb⟩)
     |false=>
      have e:=h.inj id' id b o' o X1 (by rw[hc];trivial) hb h1
      subst e;simp only at hl;rw[Cz,if_pos hm,hc] at hl;exact hl
    ·cases f with
     |true=>exact h4 rfl (.inr hY)
     |false=>exact h.Yx b hY ⟨id,o,by rw[hc];trivial,h1⟩
  ·exact (h.box id b hb).step' hA
 ·simp only at hc;rw[Cz] at hc;refine h.wfB id cells ?_ c hcm id' B6 (F3.1 e);split at hc
  ·rename_i hm;obtain⟨f,c,X4⟩:=NL id hm;rw[X4] at hc;cases hc
  ·exact hc
theorem Ck:∀{nw:List (Nat × Cb)} {hp:Nat->Option Cb},Cx hp nw=true ->
  (∀id bx,(id,bx)∈nw->hp id=none)∧(∀id bx bx',(id,bx)∈nw->(id,bx')∈nw->bx=bx')
 |[],_,_=>⟨by simp,by simp⟩
 |(i,b)::r,hp,h=>by
  simp only[Cx,Bool.and_eq_true,Option.isNone_iff_eq_none,Bool.not_eq_true'] at h;obtain⟨⟨h1,h2⟩,h3⟩:=h;obtain⟨h4,h5⟩:=Ck h3
  have Fu:∀bx,(i,bx) ∉ r:=by
   intro bx hm;have:r.any (fun q=>Nat.beq q.1 i)=true:=List.any_eq_true.2 ⟨_,hm,Nat.beq_refl i⟩
   rw[this] at h2;cases h2
  refine⟨fun id bx hm=>?_,fun id bx bx' hm Sm=>?_⟩
  ·rcases List.mem_cons.1 hm with e|hm
   ·cases e;exact h1
   ·exact h4 id bx hm
  ·rcases List.mem_cons.1 hm with e|hm
   ·cases e;rcases List.mem_cons.1 Sm with e|Sm
    ·cases e;rfl
    ·exact absurd Sm (Fu _)
   ·rcases List.mem_cons.1 Sm with e|Sm
    ·cases e;exact absurd hm (Fu _)
    ·exact h5 id bx bx' hm Sm
theorem Gp:∀{nw:List (Nat × Cb)} {hp:Nat->Option Cb},(∀id bx bx',(id,bx)∈nw->(id,bx')∈nw->bx=bx') ->
  (∀id bx,(id,bx)∈nw->Bc hp nw id=some bx)∧(∀id,(∀bx,(id,bx) ∉ nw)->Bc hp nw id=hp id)
 |[],_,_=>⟨by simp,fun _ _=>rfl⟩
 |(i,b)::r,hp,h=>by
  obtain⟨h1,h2⟩:=Gp (nw:=r) (hp:=Ds hp i (some b)) (fun id bx bx' hm Sm=>h id bx bx' (by simp[hm]) (by simp[Sm]))
  refine⟨fun id bx hm=>?_,fun id hn=>?_⟩
  ·by_cases hr:∃bx',(id,bx')∈r
   ·obtain⟨bx',hr⟩:=hr;have:=h id bx bx' hm (by simp[hr])
    subst this;exact h1 id bx hr
   ·rcases List.mem_cons.1 hm with e|hm
    ·cases e;show Bc (Ds hp i (some b)) r i=_;rw[h2 i (fun bx' hb=>hr ⟨bx',hb⟩),A5]
    ·exact absurd ⟨bx,hm⟩ hr
  ·show Bc (Ds hp i (some b)) r id=_;rw[h2 id (fun bx hb=>hn bx (by simp[hb])),Ax]
   rintro rfl
   exact hn b (by simp)
structure Abo (Y:Nat->Prop) (β:Bt) (s:St) (w:World) (v:PV) (nw:List (Nat × Cb)) (val:Value) (w':World) (β':Bt):Prop where
 os:w'.os=w.os
 tape:w'.tape=w.tape
 output:w'.output=w.output
 ext:C2 (fun _=>False) w w'
 old:∀id,s.hp id≠none->β' id=β id
 nlive:∀id bx,(id,bx)∈nw->C5 (some bx)
 nbox:∀id bx,(id,bx)∈nw->Wx w' (Du (Bc s.hp nw) β' Y) β' id bx
 nblk:∀id bx b o,(id,bx)∈nw->β' id=some (b,o)->w.heap.size<=b∧b<w'.heap.size
 ninj:∀id bx id' bx' b o o',(id,bx)∈nw->(id',bx')∈nw->β' id=some (b,o)->β' id'=some (b,o')->id=id'
 nwf:∀id cells,(id,.st cells)∈nw->∀c∈cells,∀id'∈A7 c,s.hp id'≠none∨∃bx,(id',bx)∈nw
 val:Et w' (Du (Bc s.hp nw) β' Y) β' v val
 vwf:∀id∈Cm v,s.hp id≠none∨∃bx,(id,bx)∈nw
theorem Ch.stepR (h:Ch N w0 X0 Y β s a w){d:Option Tmp}{v:PV}{nw:List (Nat × Cb)} {val:Value}(hd:Jh N d=true)(V8:Cx s.hp nw=true)
  (st:Abo Y β s w v nw val w' β'):Ch N w0 X0 Y β' ⟨Cn s.tm d v,Bc s.hp nw⟩ (a.put d val) w':=by
 obtain⟨ha1,ha2⟩:=Ck V8;obtain⟨hg1,hg2⟩:=Gp (hp:=s.hp) ha2
 have K0:∀id,(∃bx,(id,bx)∈nw)∨Bc s.hp nw id=s.hp id:=fun id=>by
  by_cases hx:∃bx,(id,bx)∈nw
  ·exact .inl hx
  ·exact .inr (hg2 id fun bx hb=>hx ⟨bx,hb⟩)
 have A8e:∀id,s.hp id≠none->Bc s.hp nw id=s.hp id:=fun id hn=>by
  rcases K0 id with⟨bx,hx⟩|e
  ·exact absurd (ha1 id bx hx) hn
  ·exact e
 have O6:∀id,(s.hp id≠none∨∃bx,(id,bx)∈nw)->Bc s.hp nw id≠none:=by
  rintro id (hn|⟨bx,hx⟩)
  ·rw[A8e id hn];exact hn
  ·rw[hg1 id bx hx];simp
 have Azt:∀b,b<w.heap.size->HZ (Bc s.hp nw) β' b->HZ s.hp β b:=by
  rintro b hb ⟨id,o,hl,hβ⟩
  rcases K0 id with⟨bx,hx⟩|e
  ·have:=(st.nblk id bx b o hx hβ).1;omega
  ·rw[e] at hl;exact⟨id,o,hl,by rw[←st.old id (Dy hl)];exact hβ⟩
 have Amv:∀b,b<w.heap.size->Du (Bc s.hp nw) β' Y b->Du s.hp β Y b:=fun b hb hA=>hA.imp (Azt b hb) id
 have Avo:C2 (Du s.hp β Y) w w':=st.ext.weaken (fun _ _ x=>x.elim)
 refine⟨by rw[K4];exact h.dfr,by rw[Ih];exact h.tsz,Ac7 hd h.tmo,?_,?_,?_,?_,?_,?_,?_,?_,?_,?_,?_,h.Ylt,?_⟩
 ·refine Vo (Q:=fun _ p u=>Et w' (Du (Bc s.hp nw) β' Y) β' p u) h.tsz hd (fun i hi=>?_) (fun _=>st.val)
  exact (h.tms i hi).step Avo Amv fun id B6=>st.old id (h.wfT i hi id B6)
 ·intro id b hb;simp only at hb;rcases K0 id with⟨bx,hx⟩|e
  ·rw[hg1 id bx hx] at hb;cases hb;exact st.nbox id _ hx
  ·rw[e] at hb;have hβ:=st.old id (by rw[hb];simp)
   have Ow:=h.box id b hb;have Cq:=h.blt id;have Fu:s.hp id≠none:=by rw[hb];simp
   cases b with
   |st c=>
    obtain⟨b,o,h1,h2,h3⟩:=Ow;have J0:=Cq b o Fu h1;have IE:=st.ext.keep b J0 (fun x=>x)
    refine⟨b,o,by rw[hβ];exact h1,fun j c hj=>?_,fun j hj=>?_⟩
    ·obtain⟨v,hv,hc⟩:=h2 j c hj;refine⟨v,by rw[World.cell?_of_block (w:=w) IE];exact hv,hc.step Avo Amv fun id' B6=>st.old id' ?_⟩
     exact h.wfB id _ hb c (List.mem_of_getElem? hj) id' B6
    ·rw[World.frozen?_of_block (w:=w) IE];exact h3 j hj
   |ar fz c=>
    rcases Ow with⟨h1,h2⟩|⟨b,o,h1,h2,h3,h4⟩
    ·exact .inl ⟨by rw[hβ];exact h1,h2⟩
    ·have J0:=Cq b o Fu h1;have IE:=st.ext.keep b J0 (fun x=>x)
     have UL:bsz w' b=bsz w b:=by unfold bsz;rw[IE]
     refine .inr ⟨b,o,by rw[hβ];exact h1,fun j c hj=>?_,fun e j hj AE=>?_,fun e x=>h4 e (Amv b J0 x)⟩
     ·obtain⟨v,hv,h5,hc⟩:=h2 j c hj;exact⟨v,by rw[World.cell?_of_block (w:=w) (by rw[H6];exact IE)];exact hv,h5,hc.step Avo Amv⟩
     ·rw[World.frozen?_of_block (w:=w) IE];exact h3 e j hj (by rw[←UL];exact AE)
   |mv=>trivial
 ·intro id id' b o o' hl Pn hb J0;simp only at hl Pn;rcases K0 id with⟨bx,hx⟩|e
  ·rcases K0 id' with⟨bx',FI⟩|e'
   ·exact st.ninj id bx id' bx' b o o' hx FI hb J0
   ·rw[e'] at Pn;have h1:=(st.nblk id bx b o hx hb).1;have h2:=h.blt id' b o' (Dy Pn) (by rw[←st.old id' (Dy Pn)];exact J0)
    omega
  ·rw[e] at hl;rcases K0 id' with⟨bx',FI⟩|e'
   ·have h1:=(st.nblk id' bx' b o' FI J0).1;have h2:=h.blt id b o (Dy hl) (by rw[←st.old id (Dy hl)];exact hb)
    omega
   ·rw[e'] at Pn;exact h.inj id id' b o o' hl Pn (by rw[←st.old id (Dy hl)];exact hb) (by rw[←st.old id' (Dy Pn)];exact J0)
 ·intro id b o hn hb;simp only at hn;rcases K0 id with⟨bx,hx⟩|e
  ·exact (st.nblk id bx b o hx hb).2
  ·rw[e] at hn;exact Nat.lt_of_lt_of_le (h.blt id b o hn (by rw[←st.old id hn];exact hb)) st.ext.size
 ·have:=Vo (Q:=fun _ p _=>∀id∈Cm p,Bc s.hp nw id≠none) (val:=val) (d:=d) (v:=v) h.tsz hd (fun i hi id B6=>O6 id (.inl (h.wfT i hi id B6))) (fun _ id B6=>O6 id (st.vwf id B6))
  exact this
 ·intro id cells hc c hcm id' B6;simp only at hc;rcases K0 id with⟨bx,hx⟩|e
  ·rw[hg1 id bx hx] at hc;cases hc;exact O6 id' (st.nwf id _ hx c hcm id' B6)
  ·rw[e] at hc;exact O6 id' (.inl (h.wfB id cells hc c hcm id' B6))
 ·rintro b ⟨id,o,hl,hb⟩
  simp only at hl;rcases K0 id with⟨bx,hx⟩|e
  ·exact .inr (Nat.le_trans h.fr.step.size (st.nblk id bx b o hx hb).1)
  ·rw[e] at hl;exact h.ownd b ⟨id,o,hl,by rw[←st.old id (Dy hl)];exact hb⟩
 ·intro id bx b o hb hl hβ Cq;simp only at hb;rcases K0 id with⟨bx',hx⟩|e
  ·have:=(st.nblk id bx' b o hx hβ).1;have:=h.fr.step.size;omega
  ·rw[e] at hb;exact h.rngB id bx b o hb hl (by rw[←st.old id (by rw[hb];simp)];exact hβ) Cq
 ·intro i hi;obtain⟨h1,h2⟩:=h.pin i hi;exact⟨O6 _ (.inl h1),by rw[st.old _ h1];exact h2⟩
 ·intro id c b o hb hβ Cq;simp only at hb;rcases K0 id with⟨bx',hx⟩|e
  ·have:=(st.nblk id bx' b o hx hβ).1;have:=h.fr.step.size;omega
  ·rw[e] at hb;exact h.stp id c b o hb (by rw[←st.old id (by rw[hb];simp)];exact hβ) Cq
 ·rintro b hY hX
  have hb:b<w.heap.size:=Nat.lt_of_lt_of_le (h.Ylt b hY) h.fr.step.size;exact h.Yx b hY (Azt b hb hX)
 ·refine⟨st.os.trans h.fr.os,st.tape.trans h.fr.tape,st.output.trans h.fr.output,h.fr.step.trans st.ext (fun _ _ x=>x.elim),fun b j hb hL=>?_⟩
  have IE:=st.ext.keep b (Nat.lt_of_lt_of_le hb h.fr.step.size) (fun x=>x)
  have hc:w'.cell? ⟨b,j,none⟩=w.cell? ⟨b,j,none⟩:=World.cell?_of_block (w:=w) IE;have hf:w'.frozen? ⟨b,j,none⟩=w.frozen? ⟨b,j,none⟩:=World.frozen?_of_block (w:=w) IE;rw[hc,hf];exact h.fr.rng b j hb hL
end
open Go.RowKit
section
variable {P:Program} {N:Nat} {w0:World} {X0:Gg} {Y:Nat->Prop} {β β':Bt} {s:St} {a:Act} {w w':World} {o:Oper}
theorem Afs (cs:List Value)(A:Nat->Prop):B8 (Cu w A β) (cs.map PV.sc) cs:=by
 induction cs with
 |nil=>trivial
 |cons v r ih=>exact⟨A8.sc v,ih⟩
theorem Aiw (cs:List Value):(cs.map PV.sc).flatMap A7=[]:=by
 induction cs with
 |nil=>rfl
 |cons v r ih=>exact ih
theorem Ec (h:Ch N w0 X0 Y β s a w)(x:Operand):Et w (Du s.hp β Y) β (C8 s.tm x) (a.eval x):=by
 cases x with
 |tmp t=>
  show Et _ _ _ (s.tm t) (a.tmps.getD t undef);by_cases ht:t<N
  ·exact h.tms t ht
  ·rw[h.tmo t (Nat.le_of_not_lt ht)];exact A8.top _
 |const v=>
  cases v with
  |agg cs=>exact⟨cs.toList,by simp[Act.eval],Afs cs.toList _⟩
  |_=>exact A8.sc _
 |func f=>exact A8.sc _
 |global g=>exact A8.sc _
theorem Hp (h:Ch N w0 X0 Y β s a w)(x:Operand):∀id∈Cm (C8 s.tm x),s.hp id≠none:=by
 cases x with
 |tmp t=>
  show ∀id∈Cm (s.tm t),_;by_cases ht:t<N
  ·exact h.wfT t ht
  ·rw[h.tmo t (Nat.le_of_not_lt ht)];intro id B6;cases B6
 |const v=>
  cases v with
  |agg cs=>
   intro id B6;have:Cm (.agg (cs.toList.map .sc))=[]:=Aiw cs.toList;simp only[C8] at B6;rw[this] at B6;cases B6
  |_=>intro id B6;cases B6
 |func f=>intro id B6;cases B6
 |global g=>intro id B6;cases B6
theorem Mw {A:Nat->Prop}{v u:Value}(h:Et w A β (.sc v) u):u=v:=A8.val h
theorem Dv (h:Ch N w0 X0 Y β s a w){x:Operand}{v:Value}(e:C8 s.tm x=.sc v):a.eval x=v:=by
 have:=Ec h x;rw[e] at this;exact Mw this
def Gu (P:Program)(a:Act)(w:World)(o:Oper)(Y:Nat->Prop)(β:Bt)(s:St)(v:PV)(fz:List Nat)(nw:List (Nat × Cb)):Prop:=
 (∀id∈fz,∃f c,s.hp id=some (.ar f c))∧∃val w',(execOp a.eval o).run P w=.ok (.value val) w'∧(Cx s.hp nw=true->∃β',Abo Y β ⟨s.tm,Ak s.hp fz⟩ w v nw val w' β')
theorem Aj7 {v:PV}{val:Value}(hv:Et w (Du s.hp β Y) β v val) (hr:∀id∈Cm v,s.hp id≠none):Abo Y β s w v [] val w β:=
 ⟨rfl,rfl,rfl,C2.refl _ _,fun _ _=>rfl,by simp,by simp,by simp,by simp,by simp,hv,fun id B6=>.inl (hr id B6)⟩
theorem De {v:PV}{val:Value}(D5:(execOp a.eval o).run P w=.ok (.value val) w) (hv:Et w (Du s.hp β Y) β v val) (hr:∀id∈Cm v,s.hp id≠none):Gu P a w o Y β s v [] []:=
 ⟨by simp,val,w,D5,fun _=>⟨β,Aj7 (s:=⟨s.tm,Ak s.hp []⟩) hv hr⟩⟩
theorem D2 {v:Value}(D5:(execOp a.eval o).run P w=.ok (.value v) w):Gu P a w o Y β s (.sc v) [] []:=De D5 (A8.sc v) (by intro id B6;cases B6)
structure Jk (w w':World) (c:Array Value) (e:TypeId):Prop where
 os:w'.os=w.os
 tape:w'.tape=w.tape
 output:w'.output=w.output
 old:∀b,b<w.heap.size->w'.heap[b]?=w.heap[b]?
 size:w'.heap.size=w.heap.size+1
 new:∃fz:Nat × Nat,w'.heap[w.heap.size]?=some (.cells c e fz)∧(fz.1=fz.2∨c.size<=fz.1)
theorem Jk.alloc (w:World)(c:Array Value)(e:TypeId):Jk w (w.alloc (.cells c e)) c e:=
 ⟨rfl,rfl,rfl,fun b hb=>Below.heap_alloc w _ b hb,by show (w.heap.push _).size=_;simp,(0,0),by show (w.heap.push _)[w.heap.size]?=_;simp,.inl rfl⟩
theorem Jk.drew {c:Array Value}{e:TypeId}(h:Jk w w' c e):Jk w w'.drew c e:=⟨h.os,h.tape,h.output,h.old,h.size,h.new⟩
section
variable {c:Array Value} {e:TypeId}
theorem Jk.step (h:Jk w w' c e):C2 (fun _=>False) w w':=
 ⟨by rw[h.size];omega,fun b hb _=>h.old b hb,fun b hb=>by unfold bsz;rw[h.old b hb];exact Nat.le_refl _⟩
theorem Jk.cell (h:Jk w w' c e)(j:Nat):w'.cell? ⟨w.heap.size,j,none⟩=c[j]?:=by
 obtain⟨fz,hn,_⟩:=h.new;simp[World.cell?,hn]
theorem Jk.frozen (h:Jk w w' c e){j:Nat}(hj:j<c.size):w'.frozen? ⟨w.heap.size,j,none⟩=false:=by
 obtain⟨fz,hn,hf⟩:=h.new;simp only[World.frozen?,hn];rcases hf with hf|hf<;>simp<;>omega
theorem Jk.bsz (h:Jk w w' c e):bsz w' w.heap.size=c.size:=by
 obtain⟨fz,hn,_⟩:=h.new;simp[Pv.bsz,hn]
end
theorem Wg {c:Array Value}{e:TypeId}{d:Nat}{bx:Cb}{v:PV}{val:Value}(hg:Jk w w' c e)(hd:s.hp d=none)(hl:C5 (some bx))
  (Ow:Wx w' (Du (Ds s.hp d (some bx)) (Ds β d (some (w.heap.size,0))) Y) (Ds β d (some (w.heap.size,0))) d bx)
  (hcw:∀cells,bx=.st cells->∀x∈cells,∀id'∈A7 x,s.hp id'≠none)
  (hv:Et w' (Du (Ds s.hp d (some bx)) (Ds β d (some (w.heap.size,0))) Y) (Ds β d (some (w.heap.size,0))) v val)
  (hvr:∀id∈Cm v,s.hp id≠none∨id=d):Abo Y β s w v [(d,bx)] val w' (Ds β d (some (w.heap.size,0))) where
 os:=hg.os
 tape:=hg.tape
 output:=hg.output
 ext:=hg.step
 old:=fun id hn=>Ax _ _ (by rintro rfl;exact hn hd)
 nlive:=by intro id b hm;simp at hm;obtain⟨rfl,rfl⟩:=hm;exact hl
 nbox:=by intro id b hm;simp at hm;obtain⟨rfl,rfl⟩:=hm;exact Ow
 nblk:=by
  intro id b x y hm hb;simp at hm;obtain⟨rfl,rfl⟩:=hm;rw[A5] at hb;simp at hb;have:=hg.size;omega
 ninj:=by intro id b id' b' x y z hm Sm _ _;simp at hm Sm;rw[hm.1,Sm.1]
 nwf:=by intro id cells hm x hx id' B6;simp at hm;exact .inl (hcw cells hm.2.symm x hx id' B6)
 val:=hv
 vwf:=by
  intro id B6;rcases hvr id B6 with h|rfl
  ·exact .inl h
  ·exact .inr ⟨bx,by simp⟩
theorem Amg {c:Array Value}{e:TypeId}(hg:Jk w w' c e){A A':Nat->Prop}(hA:∀b,b<w.heap.size->A' b->A b){cells:List PV}
  (h:∀(j:Nat) p,cells[j]?=some p->∃v,c[j]?=some v∧v.oneCell'=true∧A8 w A p v):XP w' A' ⟨w.heap.size,0,none⟩ cells:=by
 intro j p hj;obtain⟨v,hv,h1,ht⟩:=h j p hj;exact⟨v,by rw[Fn,Nat.zero_add,hg.cell];exact hv,h1,ht.step (hg.step.weaken (fun _ _ x=>x.elim)) hA⟩
theorem Alo {d:Nat}{bx:Cb}(hwf:s.hp d=none):∀b,b<w.heap.size->Du (Ds s.hp d (some bx)) (Ds β d (some (w.heap.size,0))) Y b->Du s.hp β Y b:=by
 intro b hb hA;rcases hA with⟨id,o,hl,hβ⟩|hY
 ·by_cases e:id=d
  ·subst e;rw[A5] at hβ;simp at hβ;omega
  ·rw[Ax _ _ e] at hl hβ;exact .inl ⟨id,o,hl,hβ⟩
 ·exact .inr hY
theorem Xb {c:Array Value}{e:TypeId}{d:Nat}{cells:List PV}{fz:List Nat}{v:PV}{val:Value}
  (NL:∀id∈fz,∃f c,s.hp id=some (.ar f c))
  (D5:(execOp a.eval o).run P w=.ok (.value val) w') (hg:Jk w w' c e)
  (hc:∀(j:Nat) p,cells[j]?=some p->∃u,c[j]?=some u∧u.oneCell'=true∧A8 w (Du (Ak s.hp fz) β Y) p u)
  (hv:(v=.ptr d 0∧val=.pointer (some ⟨w.heap.size,0,none⟩))∨∃es n cap,v=.view d es 0 n∧val=.slice (some ⟨w.heap.size,0,none⟩) n cap∧n<=cap∧cap*es<=c.size):
  Gu P a w o Y β s v fz [(d,.ar false cells)]:=by
 refine⟨NL,val,w',D5,fun V8=>⟨Ds β d (some (w.heap.size,0)),?_⟩⟩
 have hd:s.hp d=none:=(Ck V8).1 d (.ar false cells) (by simp)
 have hd':Ak s.hp fz d=none:=F3.2 hd;refine Wg (s:=⟨s.tm,Ak s.hp fz⟩) hg hd' trivial ?_ (fun cells hx=>by cases hx) ?_ ?_
 ·refine .inr ⟨w.heap.size,0,A5 _ _ _,?_,fun _ j _ hj=>?_,(fun x=>by cases x)⟩
  ·exact Amg hg (Alo (s:=⟨s.tm,Ak s.hp fz⟩) hd') hc
  ·rw[hg.bsz] at hj;exact hg.frozen hj
 ·rcases hv with⟨rfl,rfl⟩|⟨es,n,cap,rfl,rfl,hn,RM⟩
  ·exact⟨w.heap.size,0,A5 _ _ _,rfl⟩
  ·exact .inr ⟨w.heap.size,0,0,cap,A5 _ _ _,rfl,.inl rfl,hn,by rw[hg.bsz];omega,by rw[hg.size];omega⟩
 ·intro id B6;rcases hv with⟨rfl,_⟩|⟨es,n,cap,rfl,_⟩<;>(simp[Cm,Cw,A7] at B6;exact .inr B6)
theorem Aap {c:Array Value}{e:TypeId}{d:Nat}{cells:List PV}
  (D5:(execOp a.eval o).run P w=.ok (.value (.pointer (some ⟨w.heap.size,0,none⟩))) w') (hg:Jk w w' c e)
  (hc:∀(j:Nat) p,cells[j]?=some p->∃u,c[j]?=some u∧Cu w (Du s.hp β Y) β p u) (hr:∀x∈cells,∀id∈A7 x,s.hp id≠none):
  Gu P a w o Y β s (.ptr d 0) [] [(d,.st cells)]:=by
 refine⟨by simp,_,w',D5,fun V8=>⟨Ds β d (some (w.heap.size,0)),?_⟩⟩
 have hd:s.hp d=none:=(Ck V8).1 d (.st cells) (by simp)
 refine Wg (s:=⟨s.tm,Ak s.hp []⟩) hg hd trivial ?_ (fun cs hx x hxm id B6=>?_) ?_ ?_
 ·refine⟨w.heap.size,0,A5 _ _ _,fun j p hj=>?_,fun j hj=>?_⟩
  ·obtain⟨u,hu,hp⟩:=hc j p hj;refine⟨u,by rw[Nat.zero_add,hg.cell];exact hu,hp.step (hg.step.weaken (fun _ _ x=>x.elim)) (Alo (s:=⟨s.tm,Ak s.hp []⟩) hd) fun id B6=>Ax _ _ ?_⟩
   rintro rfl
   exact hr p (List.mem_of_getElem? hj) id B6 hd
  ·rw[Nat.zero_add];obtain⟨u,hu,_⟩:=hc j _ (List.getElem?_eq_getElem hj)
   exact hg.frozen (by
    rcases Nat.lt_or_ge j c.size with h|h
    ·exact h
    ·rw[Array.getElem?_eq_none h] at hu;cases hu)
 ·injection hx with hx;subst hx;exact hr x hxm id B6
 ·exact⟨w.heap.size,0,A5 _ _ _,rfl⟩
 ·intro id B6;simp[Cm,Cw,A7] at B6;exact .inr B6
end
open Go.RowKit
section
variable {R:Type} {r:R} {P:Program} {N:Nat} {w0:World} {X0:Gg} {Y:Nat->Prop} {β β':Bt} {s:St} {a:Act} {w w':World} {o:Oper}
theorem P8 {t:TypeId}{n:Nat}(h:(P.info? t).map (·.size)=some n) (w:World):(sizeOf t).run P w=.ok n w:=by
 cases hi:P.info? t with
 |none=>rw[hi] at h;cases h
 |some i=>rw[hi] at h;simp at h;simp[sizeOf,typeInfo,hi,h]
theorem As4 {t:TypeId}{n:Nat}(h:Bz P t=n)(hn:0<n):(P.info? t).map (·.size)=some n:=by
 unfold Bz at h;cases hi:(P.info? t).map (·.size) with
 |none=>rw[hi] at h;simp at h;omega
 |some i=>rw[hi] at h;simp at h;rw[h]
theorem Sr {t:TypeId}{d:TypeDesc}(h:P.underlying t=some d)(w:World):(isAgg t).run P w=.ok (C6 P t) w:=by
 unfold isAgg C6;rw[h];simp only[Sem.run_bind,run_underlying h,Result.andThen_ok];cases d<;>rfl
theorem Ayo {t:TypeId}{v:Value}{K:PV->Option R}(h:cvK P t v K=some r):∃p,K p=some r∧Cm p=[]∧∀(w:World)(A:Nat->Prop)(β:Bt),Et w A β p v:=by
 have sc:∀v:Value,K (.sc v)=some r->∃p,K p=some r∧Cm p=[]∧∀(w:World) (A:Nat->Prop) (β:Bt),Et w A β p v:=fun v h=>⟨_,h,rfl,fun w A β=>A8.sc v⟩
 unfold cvK at h;split at h
 ·rename_i cs;obtain⟨hl,h⟩:=A3 h;obtain⟨xs,h,hxl,hx⟩:=CE h;have hl:=Nat.eq_of_beq_eq_true hl;refine⟨_,h,?_,fun w A β=>⟨cs.toList,by simp,?_⟩⟩
  ·show xs.flatMap A7=[];rw[List.flatMap_eq_nil_iff];intro c hc;obtain⟨j,hj⟩:=List.mem_iff_getElem?.1 hc;exact Ll (hx j c hj).1
  ·refine B8.of_at (by rw[hxl,hl]) fun i c u hc hu=>?_
   obtain⟨hT,p,hp,_,HM⟩:=hx i c hc;refine (Qq hT).2 (HM w A β u ?_).1;rw[Nat.zero_add,List.getElem?_map,hu] at hp;simp at hp;subst hp;exact A8.sc u
 ·split at h
  ·exact⟨_,h,rfl,fun w A β=>A8.lnil true _⟩
  ·cases h
 ·exact sc _ h
theorem JR (h:Ch N w0 X0 Y β s a w){x:Operand}(D5:(execOp a.eval o).run P w=.ok (.value (a.eval x)) w) {K:PV->Option R}(hk:MZ P o.type s.tm x K=some r):
  ∃v,K v=some r∧Gu P a w o Y β s v [] []:=by
 have dflt:K (C8 s.tm x)=some r->∃v,K v=some r∧Gu P a w o Y β s v [] []:=fun hk=>⟨_,hk,De D5 (Ec h x) (Hp h x)⟩
 cases x with
 |const v=>
  obtain⟨p,hk,hr,hv⟩:=Ayo hk;exact⟨p,hk,De D5 (hv _ _ _) (by rw[hr];simp)⟩
 |tmp t=>exact dflt hk
 |func f=>exact dflt hk
 |global g=>exact dflt hk
theorem Anb {x:Operand}(ho:o.op=.move x):(execOp a.eval o).run P w=.ok (.value (a.eval x)) w:=by unfold execOp;rw[ho];rfl
theorem Afv {x:Operand}(ho:o.op=.assign x):(execOp a.eval o).run P w=.ok (.value (a.eval x)) w:=by unfold execOp;rw[ho];rfl
theorem Aiz (h:Ch N w0 X0 Y β s a w){c x y:Operand}(ho:o.op=.pick c x y){K:PV->Option R}(hk:(B3 (C8 s.tm c) fun t=>Bm t (K (C8 s.tm x)) (K (C8 s.tm y)))=some r):
  ∃v,K v=some r∧Gu P a w o Y β s v [] []:=by
 obtain⟨b,hb,hk⟩:=Fi hk;have hc:=Dv h hb;rcases Sn hk with⟨rfl,hk⟩|⟨rfl,hk⟩
 ·exact⟨_,hk,De (by unfold execOp;rw[ho];simp[asBool,hc]) (Ec h x) (Hp h x)⟩
 ·exact⟨_,hk,De (by unfold execOp;rw[ho];simp[asBool,hc]) (Ec h y) (Hp h y)⟩
theorem Uy {t:TypeId}{K:List PV->Option R}(h:Kr P t K=some r):∃(v:Value)(cs:List PV),K cs=some r∧HQ P t=some v∧cs.length=(L8 P t).length∧cs.length=v.cells.toList.length∧cs.length=Bz P t ∧
  ∀(j:Nat) c,cs[j]?=some c->FJ c∧∃u,v.cells.toList[j]?=some u∧u.oneCell'=true∧∀(w:World) (A:Nat->Prop),A8 w A c u:=by
 unfold Kr at h;obtain⟨v,hz,h⟩:=D7 h;obtain⟨hl,h⟩:=A3 h;obtain⟨cs,h,AK,hc⟩:=CE h;simp only[Bool.and_eq_true] at hl;have LW:=Nat.eq_of_beq_eq_true hl.1
 have QN:(L8 P t).length=Bz P t:=by
  have:=hl.2;simp only[Np,Bool.and_eq_true] at this;exact Nat.eq_of_beq_eq_true this.2
 refine⟨v,cs,h,hz,AK,by rw[AK,LW],by rw[AK,QN],fun j c hj=>?_⟩
 obtain⟨hT,p,hp,_,HM⟩:=hc j c hj;rw[Nat.zero_add,List.getElem?_map] at hp;cases hu:v.cells.toList[j]? with
 |none=>rw[hu] at hp;cases hp
 |some u=>
  rw[hu] at hp;simp at hp;subst hp;exact⟨hT,u,rfl,(HM default (fun _=>False) (fun _=>none) u (A8.sc u)).2,fun w A=>(HM w A (fun _=>none) u (A8.sc u)).1⟩
theorem FX {t:TypeId}{v:Value}(h:HQ P t=some v)(w:World):(zeroValue t).run P w=.ok v w:=by
 unfold HQ at h;cases hi:P.info? t with
 |none=>rw[hi] at h;cases h
 |some i=>rw[hi] at h;simp at h;simp[zeroValue,typeInfo,hi,h]
theorem Agw {t:TypeId}(ho:o.op=.alloc t){d:Nat}{K:PV->List Nat->List (Nat × Cb)->Option R}
  (hk:(Kr P t fun cs=>K (.ptr d 0) [] [(d,Arj P t cs)])=some r):∃v fz nw,K v fz nw=some r∧Gu P a w o Y β s v fz nw:=by
 obtain⟨z,cs,hk,hz,_,hl,_,hc⟩:=Uy hk
 have D5:(execOp a.eval o).run P w=.ok (.value (.pointer (some ⟨w.heap.size,0,none⟩))) (w.alloc (.cells z.cells t)):=by
  unfold execOp;rw[ho];simp[Instr.alloc,FX hz,newVar,newRow]
 have hg:=Jk.alloc w z.cells t;refine⟨_,_,_,hk,?_⟩;unfold Arj;cases CC P t
 ·refine Aap D5 hg (fun j p hj=>?_) fun x hx id B6=>?_
  ·obtain⟨hT,u,hu,_,hv⟩:=hc j p hj;exact⟨u,by simpa using hu,(Qq hT).2 (hv _ _)⟩
  ·obtain⟨j,hj⟩:=List.mem_iff_getElem?.1 hx;rw[Ll (hc j x hj).1] at B6;cases B6
 ·refine Xb (by simp) D5 hg (fun j p hj=>?_) (.inl ⟨rfl,rfl⟩)
  obtain⟨hT,u,hu,h1,hv⟩:=hc j p hj;exact⟨u,by simpa using hu,h1,hv _ _⟩
end
open Go.RowKit
section
variable {R:Type} {r:R} {P:Program} {N:Nat} {w0:World} {X0:Gg} {Y:Nat->Prop} {β β':Bt} {s:St} {a:Act} {w w':World} {o:Oper} {A:Nat->Prop}
theorem Wm {t:TypeId}(h:Np P t=true):(∃d,P.underlying t=some d)∧(L8 P t).length=Bz P t∧(P.info? t).map (·.size)=some (Bz P t):=by
 simp only[Np,Bool.and_eq_true] at h;refine⟨Option.isSome_iff_exists.1 h.1,Nat.eq_of_beq_eq_true h.2,?_⟩;unfold Bz;cases hi:P.info? t with
 |none=>unfold Program.underlying at h;rw[hi] at h;cases h.1
 |some i=>simp
theorem Ss {v:Value}(h:v.oneCell'=true):v.cells = #[v]:=by cases v<;>first|rfl|cases h
theorem Alj {p:PV}{v:Value}{ts:List CT}{K:List PV->Option R}(hv:Et w A β p v)(hl:(cellsOf p).length=ts.length) (h:Vr ts (cellsOf p) 0 K=some r):
  ∃cs,K cs=some r∧cs.length=ts.length∧B8 (Cu w A β) cs v.cells.toList∧(∀u∈v.cells.toList,u.oneCell'=true)∧(∀c∈cs,∀id∈A7 c,id∈Cm p)∧∀c∈cs,(∀x,c ≠ .agg x)∧(∀x,c ≠ .tup x):=by
 obtain⟨cs,h,AK,MP,hc⟩:=CH h;refine⟨cs,h,AK,?_⟩
 have single:(∀x,p ≠ .agg x)->cellsOf p=[p]:=by
  intro hp;cases p<;>first|rfl|exact absurd rfl (hp _)
 by_cases Jc:∃x,p=.agg x
 ·obtain⟨x,rfl⟩:=Jc;obtain⟨vs,rfl,h2⟩:=hv;have Hw:cs.length=vs.length:=by rw[AK,←hl];exact h2.len
  have key:∀(i:Nat) c u,cs[i]?=some c->vs[i]?=some u->Cu w A β c u∧u.oneCell'=true:=by
   intro i c u X4 hu;obtain⟨q,hq,_,_,hqv⟩:=hc i c X4;rw[Nat.zero_add] at hq;exact hqv w A β u (h2.at_ hq hu)
  refine⟨B8.of_at Hw fun i c u X4 hu=>(key i c u X4 hu).1,?_,?_,MP⟩
  ·intro u hu;obtain⟨i,hi⟩:=List.mem_iff_getElem?.1 (show u∈vs from hu)
   have Cq:i<vs.length:=by
    rcases Nat.lt_or_ge i vs.length with h|h
    ·exact h
    ·rw[List.getElem?_eq_none h] at hi;cases hi
   exact (key i _ u (List.getElem?_eq_getElem (by omega)) hi).2
  ·intro c hcm id B6;obtain⟨i,hi⟩:=List.mem_iff_getElem?.1 hcm;obtain⟨q,hq,_,hr,_⟩:=hc i c hi;rw[Nat.zero_add] at hq;show id∈x.flatMap A7;exact List.mem_flatMap.2 ⟨q,List.mem_of_getElem? hq,hr id B6⟩
 ·have hp:∀x,p ≠ .agg x:=fun x e=>Jc ⟨x,e⟩
  rw[single hp] at hl hc;have LW:cs.length=1:=by rw[AK,←hl];rfl
  match cs,LW with
  |[c],_=>
   obtain⟨q,hq,hf,hr,hqv⟩:=hc 0 c rfl;simp at hq;subst hq;have Xd:∀x,p ≠ .tup x:=by rintro x rfl;exact hf
   have U5:Cu w A β p v:=(Yq hp).1 ((Si Xd).1 hv);obtain⟨h5,h6⟩:=hqv w A β v U5;rw[Ss h6];refine⟨⟨h5,trivial⟩,?_,?_,MP⟩
   ·intro u hu;simp at hu;subst hu;exact h6
   ·intro c' X4 id B6;simp at X4;subst X4;have:=hr id B6;cases p<;>first|exact this|exact absurd rfl (hp _)|exact absurd rfl (Xd _)
end
open Go.RowKit
section
variable {R:Type} {r:R} {P:Program} {N:Nat} {w0:World} {X0:Gg} {Y:Nat->Prop} {β β':Bt} {s:St} {a:Act} {w w':World} {o:Oper} {A:Nat->Prop}
theorem B8.get {α β':Type}{R':α->β'->Prop}{zs:List α}{bs:List β'}(h:B8 R' zs bs){i:Nat}{x:α}(hx:zs[i]?=some x):∃y,bs[i]?=some y∧R' x y:=by
 have Cq:i<zs.length:=by
  rcases Nat.lt_or_ge i zs.length with h|h
  ·exact h
  ·rw[List.getElem?_eq_none h] at hx;cases hx
 have hb:bs[i]?=some (bs[i]'(by rw[←h.len];exact Cq)):=List.getElem?_eq_getElem _
 exact⟨_,hb,h.at_ hx hb⟩
theorem Awv {p:PV}{v:Value}{ts:List CT}{K:List PV->Option R}(hv:Et w A β p v)(hl:(cellsOf p).length=ts.length) (h:BX ts (cellsOf p) 0 K=some r):
  ∃cs,K cs=some r∧cs.length=ts.length∧B8 (A8 w A) cs v.cells.toList∧∀u∈v.cells.toList,u.oneCell'=true:=by
 obtain⟨cs,h,AK,hc⟩:=CE h;refine⟨cs,h,AK,?_⟩;by_cases Jc:∃x,p=.agg x
 ·obtain⟨x,rfl⟩:=Jc;obtain⟨vs,rfl,h2⟩:=hv;have Hw:cs.length=vs.length:=by rw[AK,←hl];exact h2.len
  have key:∀(i:Nat) c u,cs[i]?=some c->vs[i]?=some u->A8 w A c u∧u.oneCell'=true:=by
   intro i c u X4 hu;obtain⟨_,q,hq,_,hqv⟩:=hc i c X4;rw[Nat.zero_add] at hq;exact hqv w A β u (h2.at_ hq hu)
  refine⟨B8.of_at Hw fun i c u X4 hu=>(key i c u X4 hu).1,?_⟩
  intro u hu;obtain⟨i,hi⟩:=List.mem_iff_getElem?.1 (show u∈vs from hu)
  have Cq:i<vs.length:=by
   rcases Nat.lt_or_ge i vs.length with h|h
   ·exact h
   ·rw[List.getElem?_eq_none h] at hi;cases hi
  exact (key i _ u (List.getElem?_eq_getElem (by omega)) hi).2
 ·have hp:∀x,p ≠ .agg x:=fun x e=>Jc ⟨x,e⟩
  have single:cellsOf p=[p]:=by cases p<;>first|rfl|exact absurd rfl (hp _)
  rw[single] at hl hc;have LW:cs.length=1:=by rw[AK,←hl];rfl
  match cs,LW with
  |[c],_=>
   obtain⟨_,q,hq,hf,hqv⟩:=hc 0 c rfl;simp at hq;subst hq;have Xd:∀x,p ≠ .tup x:=by rintro x rfl;exact hf
   have U5:Cu w A β p v:=(Yq hp).1 ((Si Xd).1 hv);obtain⟨h5,h6⟩:=hqv w A β v U5;rw[Ss h6];exact⟨⟨h5,trivial⟩,fun u hu=>by simp at hu;subst hu;exact h6⟩
theorem Aoy (h:Ch N w0 X0 Y β s a w){t:TypeId}{x:Operand}(ho:o.op=.box t x){d:Nat}{K:PV->List Nat->List (Nat × Cb)->Option R}
    (hk:(Aw (Np P t&&Nat.beq (cellsOf (C8 s.tm x)).length (L8 P t).length)
      (bif CC P t then BX (L8 P t) (cellsOf (C8 s.tm x)) 0 fun cs=>K (.ptr d 0) [] [(d,.ar false cs)]
       else Vr (L8 P t) (cellsOf (C8 s.tm x)) 0 fun cs=>K (.ptr d 0) [] [(d,.st cs)]))=some r):∃v fz nw,K v fz nw=some r∧Gu P a w o Y β s v fz nw:=by
  obtain⟨hl,hk⟩:=A3 hk
  simp only[Bool.and_eq_true] at hl
  have hl:=Nat.eq_of_beq_eq_true hl.2
  have D5:(execOp a.eval o).run P w=.ok (.value (.pointer (some ⟨w.heap.size,0,none⟩))) (w.alloc (.cells (a.eval x).cells t)):=by
    unfold execOp
    rw[ho]
    simp[Instr.box,newVar,newRow]
  have hg:=Jk.alloc w (a.eval x).cells t
  cases ha:CC P t
  · rw[ha] at hk
    obtain⟨cs,hk,_,h2,_,hr,_⟩:=Alj (Ec h x) hl hk
    refine⟨_,_,_,hk,Aap D5 hg (fun j p hj=>?_) fun c hc id B6=>Hp h x id (hr c hc id B6)⟩
    obtain⟨u,hu,hp⟩:=h2.get hj
    exact⟨u,by simpa using hu,hp⟩
  · rw[ha] at hk
    obtain⟨cs,hk,_,h2,h1⟩:=Awv (Ec h x) hl hk
    refine⟨_,_,_,hk,Xb (by simp) D5 hg (fun j p hj=>?_) (.inl ⟨rfl,rfl⟩)⟩
    obtain⟨u,hu,hp⟩:=h2.get hj
    exact⟨u,by simpa using hu,h1 u (List.mem_of_getElem? hu),hp⟩
theorem Ai3 {c:PV}(h1:∀x,c ≠ .agg x)(h2:∀x,c ≠ .tup x):Cm c=A7 c:=by
 cases c<;>first|rfl|exact absurd rfl (h1 _)|exact absurd rfl (h2 _)
theorem KQ {t:TypeId}{ad:Addr}{cs:List PV}{p:PV}(hok:Np P t=true)(Hw:cs.length=(L8 P t).length)
  (MP:∀c∈cs,(∀x,c ≠ .agg x)∧(∀x,c ≠ .tup x))
  (hc:∀(j:Nat) c,cs[j]?=some c->∃v,w.cell? (ad.add j)=some v∧Cu w A β c v)
  (hp:(C6 P t=true∧p=.agg cs)∨(C6 P t=false∧cs=[p])):∃val,(loadVar t ad).run P w=.ok val w∧Et w A β p val:=by
 obtain⟨⟨d,hd⟩,hl,hi⟩:=Wm hok;rcases hp with⟨Jc,rfl⟩|⟨Jc,rfl⟩
 ·have hf:∀j,j<Bz P t->w.cell? (ad.add j)=some ((w.cell? (ad.add j)).getD undef):=by
   intro j hj;obtain⟨v,hv,_⟩:=hc j _ (List.getElem?_eq_getElem (by omega))
   rw[hv];rfl
  refine⟨_,?_,(List.range (Bz P t)).map (fun j=>(w.cell? (ad.add j)).getD undef),rfl,?_⟩
  ·simp only[loadVar,Sem.run_bind,Sr hd,Jc,Result.andThen_ok,if_true,P8 hi,run_loadCells w ad (Bz P t) _ hf];simp
  ·refine B8.of_at (by simp;omega) fun i c u X4 hu=>?_
   obtain⟨v,hv,PG⟩:=hc i c X4
   have Cq:i<Bz P t:=by
    rcases Nat.lt_or_ge i cs.length with h|h
    ·omega
    ·rw[List.getElem?_eq_none h] at X4;cases X4
   rw[List.getElem?_map,List.getElem?_range Cq] at hu;simp[hv] at hu;subst hu;exact PG
 ·obtain⟨v,hv,PG⟩:=hc 0 p rfl;have hn:=MP p (by simp)
  have h0:ad.add 0=ad:=by simp[Addr.add]
  rw[h0] at hv;refine⟨v,?_,(Si hn.2).2 ((Yq hn.1).2 PG)⟩;simp only[loadVar,Sem.run_bind,Sr hd,Jc,Result.andThen_ok];simp[hv]
theorem Asj {hp:Nat->Option Cb}{id:Nat}{c:List PV}(h:rd hp id=some c):hp id=some (.st c)∨∃f,hp id=some (.ar f c):=by
 unfold rd at h;split at h
 ·rename_i e;simp at h;subst h;exact .inl e
 ·rename_i f _ e;simp at h;subst h;exact .inr ⟨_,e⟩
 ·cases h
theorem Ad7 {hp:Nat->Option Cb}{id:Nat}{c:List PV}(h:Oz hp id=some c):∃f,hp id=some (.ar f c):=by
 unfold Oz at h;split at h
 ·rename_i e;simp at h;subst h;exact⟨_,e⟩
 ·cases h
theorem TW (h:Ch N w0 X0 Y β s a w){id:Nat}{c:List PV}(hr:rd s.hp id=some c){b ob:Nat}(hβ:β id=some (b,ob)) {j:Nat}{p:PV}(hj:c[j]?=some p):
  ∃v,w.cell? ⟨b,ob+j,none⟩=some v∧Cu w (Du s.hp β Y) β p v:=by
 rcases Asj hr with hb|⟨f,hb⟩
 ·obtain⟨b',o',h1,h2,_⟩:=h.box id _ hb;rw[hβ] at h1;simp at h1;obtain⟨rfl,rfl⟩:=h1;exact h2 j p hj
 ·rcases h.box id _ hb with⟨h1,_⟩|⟨b',o',h1,h2,_⟩
  ·rw[hβ] at h1;cases h1
  ·rw[hβ] at h1;simp at h1;obtain⟨rfl,rfl⟩:=h1
   obtain⟨v,hv,_,ht⟩:=h2 j p hj;rw[Fn] at hv;refine⟨v,hv,?_⟩;cases ht with
   |sc=>exact A8.sc _
   |top=>exact A8.top _
   |ub=>exact A8.ub _
   |lnil=>exact A8.lnil _ _
   |lemp=>exact A8.lemp _ _ _
   |lst es n cells a cap f hs hb hA hn hc h1 hr=>exact A8.lst es n cells a cap f hs hb hA hn hc h1 hr
theorem P1:∀{ts:List CT}{cells:List PV}{off:Nat}{K:List PV->Option R},BX ts cells off K=some r->Vr ts cells off K=some r
 |[],_,_,_,h=>h
 |.int k::ts,cells,off,K,h=>by
  obtain⟨n,hp,h⟩:=Gv (show Ae k (cells.getD off .top) _=some r from h)
  show Ae k _ _=_;rw[hp];simp only[Ae,if_true];exact P1 h
 |.bool::ts,cells,off,K,h=>by
  obtain⟨n,hp,h⟩:=Fi (show B3 (cells.getD off .top) _=some r from h)
  show B3 _ _=_;rw[hp];exact P1 h
 |.str::ts,cells,off,K,h=>by
  obtain⟨n,hp,h⟩:=Ff (show Fk (cells.getD off .top) _=some r from h)
  show Fk _ _=_;rw[hp];exact P1 h
 |.sl es::ts,cells,off,K,h=>by
  obtain⟨z,n,c,h,hp⟩:=Ik (show Fa es (cells.getD off .top) _=some r from h)
  change fcK (.sl es) (cells.getD off .top) (fun c=>Vr ts cells (off+1) fun r=>K (c::r))=some r
  unfold fcK;dsimp only;unfold fsK;rcases hp with hp|⟨hp,rfl,rfl,rfl⟩
  ·rw[hp];simp only[Fa,Nat.beq_refl,cond_true];exact P1 h
  ·rw[hp];exact P1 h
 |.any::ts,cells,off,K,h=>by
  obtain⟨f,a,b,hp,h⟩:=Adw (show fnK (cells.getD off .top) (fun v=>BX ts cells (off+1) fun r=>K (.sc v::r))=some r from h)
  show fnK (cells.getD off .top) (fun v=>Vr ts cells (off+1) fun r=>K (.sc v::r))=some r
  rw[hp];exact P1 h
theorem A8.unz {w:World}{A:Nat->Prop}{z:Bool}{es n:Nat}{c:List PV}{u:Value}(h:A8 w A (.lst z es n c) u):A8 w A (.lst false es n c) u:=by
 cases h with
 |lnil z es=>exact .lnil false es
 |lemp es a cap=>exact .lemp es a cap
 |lst es n c a cap f h1 h2 h3 h4 h5 h6 h7=>exact .lst es n c a cap f h1 h2 h3 h4 h5 h6 h7
theorem And {w:World}{A:Nat->Prop}{β:Bt}{p:PV}{u:Value}(h:Cu w A β p u):Cu w A β (Ace p) u:=by
 cases p with
 |lst z es n c=>exact A8.unz h
 |_=>exact h
theorem Ai6 (p:PV):A7 (Ace p)=A7 p:=by cases p<;>rfl
theorem ZU {w:World}{A:Nat->Prop}{β:Bt}:∀{cs:List PV}{vs:List Value},B8 (Cu w A β) cs vs->B8 (Cu w A β) (cs.map Ace) vs
 |[],[],_=>trivial
 |_::_,_::_,h=>⟨And h.1,ZU h.2⟩
 |[],_::_,h=>h.elim
 |_::_,[],h=>h.elim
theorem Ana {w:World}{A:Nat->Prop}{β:Bt}{p:PV}{u:Value}(h:Et w A β p u):Et w A β (Anf p) u:=by
 cases p with
 |agg cs=>
  obtain⟨vs,h1,h2⟩:=(show I7 w A β (.agg cs) u from h)
  exact⟨vs,h1,ZU h2⟩
 |lst z es n c=>exact A8.unz (show A8 w A (.lst z es n c) u from h)
 |_=>exact h
theorem Aoh (p:PV):Cm (Anf p)=Cm p:=by
 cases p with
 |agg cs=>
  show (cs.map Ace).flatMap A7=cs.flatMap A7
  induction cs with
  |nil=>rfl
  |cons a l ih=>rw[List.map_cons,List.flatMap_cons,List.flatMap_cons,ih,Ai6]
 |_=>rfl
theorem Aya {hp:Nat->Option Cb}{t:TypeId}{x:PV}{K:PV->Option R}(h:KN P (rd hp) (Oz hp) t x K=some r):
  UU P (rd hp) t x K=some r∨UU P (rd hp) t x (fun v=>K (Anf v))=some r:=by
 unfold KN at h;unfold UU;split at h
 ·rename_i id off;obtain⟨hb,h⟩:=A3 h;rw[hb];show F6 _ _=_∨F6 _ _=_;split at h
  ·rename_i c hc;obtain⟨f,Ow⟩:=Ad7 hc;have:rd hp id=some c:=by unfold rd;rw[Ow]
   rw[this];exact .inr (P1 h)
  ·exact .inl h
 ·exact .inr h
 ·cases h
theorem Abx (h:Ch N w0 X0 Y β s a w){t:TypeId}{x:PV}{u:Value}(hx:Et w (Du s.hp β Y) β x u) {K:PV->Option R}(hk:UU P (rd s.hp) t x K=some r):
  ∃v ad val,K v=some r∧u=.pointer (some ad)∧(loadVar t ad).run P w=.ok val w∧Et w (Du s.hp β Y) β v val∧∀i∈Cm v,s.hp i≠none:=by
 unfold UU at hk;split at hk
 ·rename_i id off;obtain⟨hok,hk⟩:=A3 hk;obtain⟨c,hr,hk⟩:=D7 hk;obtain⟨cs,hk,hl,MP,hc⟩:=CH hk;obtain⟨b,ob,hβ,El⟩:=hx
  have hcell:∀(j:Nat) q,cs[j]?=some q->∃v,w.cell? ((⟨b,ob+off,none⟩:Addr).add j)=some v∧Cu w (Du s.hp β Y) β q v:=by
   intro j q hq;obtain⟨p,hp,_,_,HM⟩:=hc j q hq;obtain⟨v,hv,PG⟩:=TW h hr hβ hp;exact⟨v,by rw[Fn,Nat.add_assoc];exact hv,(HM _ _ _ _ PG).1⟩
  have FZ:∀q∈cs,∀i∈A7 q,s.hp i≠none:=by
   intro q hq i hi;obtain⟨j,hj⟩:=List.mem_iff_getElem?.1 hq;obtain⟨p,hp,_,hpr,_⟩:=hc j q hj;rcases Asj hr with hb|⟨f,hb⟩
   ·exact h.wfB id c hb p (List.mem_of_getElem? hp) i (hpr i hi)
   ·obtain⟨v,hv,PG⟩:=TW h hr hβ hp;exfalso;have Di:=hpr i hi;rcases h.box id _ hb with⟨_,rfl⟩|⟨b',o',h1,h2,_⟩
    ·simp at hp
    ·obtain⟨v',_,_,ht⟩:=h2 _ p hp;cases ht<;>cases Di
  rcases Adx hk with⟨Jc,Ha⟩|⟨Jc,q,rfl,Ha⟩
  ·obtain⟨val,KU,hv⟩:=KQ hok hl MP hcell (.inl ⟨Jc,rfl⟩);refine⟨_,_,val,Ha,El,KU,hv,fun i hi=>?_⟩
   obtain⟨q,hq,hi⟩:=List.mem_flatMap.1 (show i∈cs.flatMap A7 from hi)
   exact FZ q hq i hi
  ·obtain⟨val,KU,hv⟩:=KQ hok hl MP hcell (.inr ⟨Jc,rfl⟩);refine⟨_,_,val,Ha,El,KU,hv,fun i hi=>FZ q (by simp) i ?_⟩
   have hn:=MP q (by simp)
   rw[Ai3 hn.1 hn.2] at hi;exact hi
 ·rename_i c off;obtain⟨hok,hk⟩:=A3 hk;obtain⟨cs,hk,hl,hc⟩:=CE hk;obtain⟨ad,El,hs,hb,hA,hrd⟩:=hx
  have MP:∀q∈cs,(∀x,q ≠ .agg x)∧(∀x,q ≠ .tup x):=by
   intro q hq;obtain⟨j,hj⟩:=List.mem_iff_getElem?.1 hq;exact⟨JU (hc j q hj).1,Ald (hc j q hj).1⟩
  have hcell:∀(j:Nat) q,cs[j]?=some q->∃v,w.cell? ((ad.add off).add j)=some v∧Cu w (Du s.hp β Y) β q v:=by
   intro j q hq;obtain⟨hT,p,hp,SK,HM⟩:=hc j q hq;obtain⟨v,hv,_,ht⟩:=hrd (off+j) p hp;exact⟨v,by rw[add_add];exact hv,(Qq hT).2 (HM w (Du s.hp β Y) β v ((Qq SK).2 ht)).1⟩
  have FZ:∀q∈cs,A7 q=[]:=by
   intro q hq;obtain⟨j,hj⟩:=List.mem_iff_getElem?.1 hq;exact Ll (hc j q hj).1
  rcases Adx hk with⟨Jc,Ha⟩|⟨Jc,q,rfl,Ha⟩
  ·obtain⟨val,KU,hv⟩:=KQ hok hl MP hcell (.inl ⟨Jc,rfl⟩);refine⟨_,_,val,Ha,El,KU,hv,fun i hi=>?_⟩
   obtain⟨q,hq,hi⟩:=List.mem_flatMap.1 (show i∈cs.flatMap A7 from hi)
   rw[FZ q hq] at hi;cases hi
  ·obtain⟨val,KU,hv⟩:=KQ hok hl MP hcell (.inr ⟨Jc,rfl⟩);refine⟨_,_,val,Ha,El,KU,hv,fun i hi=>?_⟩
   have hn:=MP q (by simp)
   rw[Ai3 hn.1 hn.2,FZ q (by simp)] at hi
   cases hi
 ·cases hk
theorem Ae6 (h:Ch N w0 X0 Y β s a w){t:TypeId}{x:PV}{u:Value}(hx:Et w (Du s.hp β Y) β x u) {K:PV->Option R}(hk:KN P (rd s.hp) (Oz s.hp) t x K=some r):
  ∃v ad val,K v=some r∧u=.pointer (some ad)∧(loadVar t ad).run P w=.ok val w∧Et w (Du s.hp β Y) β v val∧∀i∈Cm v,s.hp i≠none:=by
 rcases Aya hk with hk|hk
 ·exact Abx h hx hk
 ·obtain⟨v,ad,val,h1,h2,h3,h4,h5⟩:=Abx h hx hk;exact⟨Anf v,ad,val,h1,h2,h3,Ana h4,by rw[Aoh];exact h5⟩
theorem Aja (h:Ch N w0 X0 Y β s a w){t:TypeId}{x:Operand}(ho:o.op=.load t x){K:PV->Option R}(hk:KN P (rd s.hp) (Oz s.hp) t (C8 s.tm x) K=some r):
  ∃v,K v=some r∧Gu P a w o Y β s v [] []:=by
 obtain⟨v,ad,val,Em,El,hl,hv,hr⟩:=Ae6 h (Ec h x) hk;refine⟨v,Em,De ?_ hv hr⟩;unfold execOp;rw[ho];simp[Instr.loadAt,Instr.sureAddr,El,hl]
theorem Ap1 {x:PV}{d:Nat}{K:PV->Option R}(h:CR x d K=some r):(∃id off,x=.ptr id off∧K (.ptr id (off+d))=some r)∨∃c off,x=.iptr c off∧K (.iptr c (off+d))=some r:=by
 unfold CR at h;split at h
 ·exact .inl ⟨_,_,rfl,h⟩
 ·exact .inr ⟨_,_,rfl,h⟩
 ·cases h
theorem GW (h:Ch N w0 X0 Y β s a w){x:Operand}{d:Nat}{K:PV->Option R}(hk:CR (C8 s.tm x) d K=some r)
  (D5:∀ad:Addr,a.eval x=.pointer (some ad)->(execOp a.eval o).run P w=.ok (.value (.pointer (some (ad.add d)))) w):∃v,K v=some r∧Gu P a w o Y β s v [] []:=by
 have hx:=Ec h x;have XI:=Hp h x;rcases Ap1 hk with⟨id,off,e,hk⟩|⟨c,off,e,hk⟩
 ·rw[e] at hx XI;obtain⟨b,ob,hβ,El⟩:=hx;refine⟨_,hk,De (D5 _ El) ⟨b,ob,hβ,by rw[Fn,Nat.add_assoc]⟩ XI⟩
 ·rw[e] at hx;obtain⟨ad,El,h1,h2,h3,h4⟩:=hx;exact⟨_,hk,De (D5 _ El) ⟨ad,by rw[add_add],h1,h2,h3,h4⟩ (by intro i hi;cases hi)⟩
theorem UB (h:Ch N w0 X0 Y β s a w){x:Operand}(ho:o.op=.nilCheck x){K:PV->Option R}(hk:CR (C8 s.tm x) 0 K=some r):∃v,K v=some r∧Gu P a w o Y β s v [] []:=by
 refine GW h hk fun ad El=>?_
 unfold execOp;rw[ho];simp[El,Addr.add]
theorem KE {t:TypeId}{f:Nat}{q:Nat × TypeId}(h:Xj P t f=some q):∃fs g,P.underlying t=some (.struct fs)∧fs[f]?=some g∧q=(g.offset,g.type):=by
 unfold Xj at h;split at h
 ·rename_i fs e;cases hg:fs[f]? with
  |none=>rw[hg] at h;cases h
  |some g=>rw[hg] at h;simp at h;exact⟨fs,g,e,hg,h.symm⟩
 ·cases h
theorem RL (h:Ch N w0 X0 Y β s a w){t:TypeId}{x:Operand}{f:Nat}(ho:o.op=.fieldAddr t x f){K:PV->Option R}
  (hk:(F6 (Xj P t f) fun q=>Aw (Nat.ble 1 (Bz P q.2)) (CR (C8 s.tm x) q.1 K))=some r):∃v,K v=some r∧Gu P a w o Y β s v [] []:=by
 obtain⟨q,hq,hk⟩:=D7 hk;obtain⟨hs,hk⟩:=A3 hk;obtain⟨fs,g,hu,hg,rfl⟩:=KE hq;have hs:1<=Bz P g.type:=Nat.le_of_ble_eq_true hs;have Mo:=As4 (P:=P) (t:=g.type) rfl (by omega)
 refine GW h hk fun ad El=>?_
 unfold execOp;rw[ho];have Fu:¬Bz P g.type=0:=by omega
 simp[Instr.fieldAt,run_underlying hu,hg,Instr.sureAddr,El,fieldPlace,P8 Mo,Fu]
end
open Go.RowKit
section
variable {R:Type} {r:R} {P:Program} {N:Nat} {w0:World} {X0:Gg} {Y:Nat->Prop} {β β':Bt} {s:St} {a:Act} {w w':World} {o:Oper} {A:Nat->Prop}
theorem VM (h:Ch N w0 X0 Y β s a w){t:TypeId}{cs:List PV}{vs:List Value}{off:Nat}{K:PV->Option R}{x:Operand}(hx:C8 s.tm x=.agg cs)(hv:B8 (Cu w (Du s.hp β Y) β) cs vs)
  (hk:Aw (Np P t) (Vr (L8 P t) cs off fun c=>mkV (C6 P t) c K)=some r)
  (D5:∀val,(part t ⟨vs⟩ off).run P w=.ok val w->(execOp a.eval o).run P w=.ok (.value val) w):∃v,K v=some r∧Gu P a w o Y β s v [] []:=by
 obtain⟨hok,hk⟩:=A3 hk;obtain⟨⟨d,hd⟩,hl,hi⟩:=Wm hok;obtain⟨qs,hk,hql,MP,hq⟩:=CH hk;have XI:=Hp h x;rw[hx] at XI
 have hcell:∀(j:Nat) q,qs[j]?=some q->∃v,vs[off+j]?=some v∧Cu w (Du s.hp β Y) β q v:=by
  intro j q hj;obtain⟨p,hp,_,_,HM⟩:=hq j q hj;obtain⟨v,U5,hc⟩:=hv.get hp;exact⟨v,U5,(HM _ _ _ _ hc).1⟩
 have FZ:∀q∈qs,∀i∈A7 q,s.hp i≠none:=by
  intro q hqm i hi;obtain⟨j,hj⟩:=List.mem_iff_getElem?.1 hqm;obtain⟨p,hp,_,hpr,_⟩:=hq j q hj;exact XI i (List.mem_flatMap.2 ⟨p,List.mem_of_getElem? hp,hpr i hi⟩)
 rcases Adx hk with⟨Jc,Ha⟩|⟨Jc,q,rfl,Ha⟩
 ·have EU:Bz P t=0∨off+Bz P t<=vs.length:=by
   rcases Nat.eq_zero_or_pos (Bz P t) with h0|h0
   ·exact .inl h0
   ·obtain⟨v,U5,_⟩:=hcell (Bz P t-1) _ (List.getElem?_eq_getElem (by omega))
    have:off+(Bz P t-1)<vs.length:=by
     rcases Nat.lt_or_ge (off+(Bz P t-1)) vs.length with h|h
     ·exact h
     ·rw[List.getElem?_eq_none h] at U5;cases U5
    exact .inr (by omega)
  refine⟨_,Ha,De (D5 (.agg ⟨(vs.drop off).take (Bz P t)⟩) ?_) ⟨(vs.drop off).take (Bz P t),rfl,?_⟩ fun i hi=>?_⟩
  ·simp only[part,Sem.run_bind,Sr hd,Jc,Result.andThen_ok,if_true,P8 hi];simp[List.extract_eq_take_drop]
  ·refine B8.of_at ?_ fun i c u hc hu=>?_
   ·simp only[List.length_take,List.length_drop];omega
   ·obtain⟨v,U5,PG⟩:=hcell i c hc
    have Cq:i<Bz P t:=by
     rcases Nat.lt_or_ge i qs.length with h|h
     ·omega
     ·rw[List.getElem?_eq_none h] at hc;cases hc
    rw[List.getElem?_take_of_lt Cq,List.getElem?_drop,U5] at hu;cases hu;exact PG
  ·obtain⟨q,hqm,hi⟩:=List.mem_flatMap.1 (show i∈qs.flatMap A7 from hi)
   exact FZ q hqm i hi
 ·obtain⟨v,U5,PG⟩:=hcell 0 q rfl;have hn:=MP q (by simp)
  refine⟨_,Ha,De (D5 v ?_) ((Si hn.2).2 ((Yq hn.1).2 PG)) fun i hi=>?_⟩
  ·simp only[part,Sem.run_bind,Sr hd,Jc,Result.andThen_ok];rw[Nat.add_zero] at U5;simp[U5]
  ·rw[Ai3 hn.1 hn.2] at hi;exact FZ q (by simp) i hi
theorem Ahh (h:Ch N w0 X0 Y β s a w){t:TypeId}{x:Operand}{f:Nat}(ho:o.op=.field t x f){K:PV->Option R}
  (hk:(F6 (Xj P t f) fun q=>Aw (Np P q.2)<|Ef (C8 s.tm x) fun cs=>Vr (L8 P q.2) cs q.1 fun c=>mkV (C6 P q.2) c K)=some r):∃v,K v=some r∧Gu P a w o Y β s v [] []:=by
 obtain⟨q,hq,hk⟩:=D7 hk;obtain⟨hok,hk⟩:=A3 hk;obtain⟨cs,hx,hk⟩:=Kz hk;obtain⟨fs,g,hu,hg,rfl⟩:=KE hq;have hxv:=Ec h x;rw[hx] at hxv;obtain⟨vs,El,hv⟩:=hxv;refine VM (t:=g.type) (off:=g.offset) h hx hv (by rw[show Np P g.type=true from hok];exact hk) fun val hp=>?_
 unfold execOp;rw[ho];simp[Instr.field,run_underlying hu,hg,asAgg,El,hp]
theorem YO (h:Ch N w0 X0 Y β s a w){x:Operand}{i:Nat}(ho:o.op=.extract x i){K:PV->Option R}
  (hk:(match C8 s.tm x with | .tup vs=>F6 vs[i]? K|_=>none)=some r):∃v,K v=some r∧Gu P a w o Y β s v [] []:=by
 have hx:=Ec h x;have XI:=Hp h x;split at hk
 ·rename_i ps e;rw[e] at hx XI;obtain⟨p,hp,hk⟩:=D7 hk;obtain⟨vs,El,hv⟩:=hx;obtain⟨v,U5,HM⟩:=hv.get hp
  have A0y:∀y,p ≠ .tup y:=by
   rintro y rfl
   have Bap:A8 _ _ (.tup y) v:=HM;cases Bap
  refine⟨p,hk,De (val:=v) ?_ ((Si A0y).2 HM) fun id B6=>XI id ?_⟩
  ·unfold execOp;rw[ho];simp[Instr.extract,El,U5]
  ·refine List.mem_flatMap.2 ⟨p,List.mem_of_getElem? hp,?_⟩;cases p<;>first|exact B6|exact absurd rfl (A0y _)
 ·cases hk
theorem slice_form {es:Nat}{p:PV}{z:Bool}{n:Nat}{c:List PV}{v:Value}(hp:p=.lst z es n c∨(p=.sc (.slice none 0 0)∧z=true∧n=0∧c=[])) (hv:Et w A β p v):
  (v=.slice none 0 0∧n=0∧c=[])∨(∃ad cap,v=.slice (some ad) n cap∧z=false∧n<=cap∧ad.spot=none∧ad.block<w.heap.size∧¬A ad.block∧XP w A ad c)∨∃ad cap,v=.slice (some ad) 0 cap∧z=false∧n=0∧c=[]:=by
 have U5:Cu w A β p v:=by rcases hp with rfl|⟨rfl,_⟩<;>exact hv
 have ht:=GP hp U5;cases ht with
 |lnil=>exact .inl ⟨rfl,rfl,rfl⟩
 |lst _ _ _ ad cap f hs hb hA hn hc h1 hr=>exact .inr (.inl ⟨ad,cap,rfl,rfl,hn,hs,hb,hA,fun j q hj=>⟨f j,hc j q hj,h1 j q hj,hr j q hj⟩⟩)
 |lemp _ ad cap=>exact .inr (.inr ⟨ad,cap,rfl,rfl,rfl,rfl⟩)
theorem QR (h:Ch N w0 X0 Y β s a w){t:TypeId}{x i:Operand}(ho:o.op=.indexAddr t x i){K:PV->Option R}
  (hk:(E9 (C8 s.tm i) fun _ n=>P0 P t (C8 s.tm x) n K)=some r):∃v,K v=some r∧Gu P a w o Y β s v [] []:=by
 obtain⟨ik,n,hi,hk⟩:=Eo hk;have hai:=Dv h hi;have hx:=Ec h x;have XI:=Hp h x;unfold P0 at hk;split at hk
 ·rename_i len e hu;obtain⟨hz,hk⟩:=A3 hk;obtain⟨hb,hk⟩:=A3 hk;simp only[Bool.and_eq_true,decide_eq_true_eq] at hb;obtain⟨inf,Vu⟩:=Option.isSome_iff_exists.1 hz;refine GW h hk fun ad El=>?_
  unfold execOp;rw[ho];simp[Instr.indexAt,asIntOf,hai,El,run_underlying hu,Instr.sureAddr,hb.1,hb.2,sizeOf,typeInfo,Vu,Bz]
 ·rename_i e hu;obtain⟨hz,hk⟩:=A3 hk;obtain⟨inf,Vu⟩:=Option.isSome_iff_exists.1 hz;have Mo:Bz P e=inf.size:=by simp[Bz,Vu]
  split at hk
  ·rename_i id es off n' e';rw[e'] at hx XI;obtain⟨ON,hk⟩:=A3 hk;have ON:=Nat.eq_of_beq_eq_true ON;subst ON;obtain⟨hb,hk⟩:=A3 hk;simp only[Bool.and_eq_true,decide_eq_true_eq] at hb;rcases hx with⟨_,_,rfl,_⟩|⟨b,ob,y,cap,hβ,El,hy,_⟩
   ·omega
   ·have hy:y=ob+off:=by rcases hy with hy|⟨rfl,_⟩<;>omega
    subst hy;refine⟨_,hk,De (val:=.pointer (some ⟨b,ob+(off+n.toNat*Bz P e),none⟩)) ?_ ⟨b,ob,hβ,rfl⟩ XI⟩;unfold execOp;rw[ho];simp[Instr.indexAt,asIntOf,hai,El,run_underlying hu,hb.1,hb.2,sizeOf,typeInfo,Vu,Mo,Fn,Nat.add_assoc]
  ·obtain⟨z,n',c,hk,hp⟩:=Ik hk;obtain⟨hb,hk⟩:=A3 hk;simp only[Bool.and_eq_true,decide_eq_true_eq] at hb;rcases slice_form hp hx with⟨_,rfl,_⟩|⟨ad,cap,El,_,_,h1,h2,h3,h4⟩|⟨_,_,_,_,rfl,_⟩
   ·omega
   rotate_left
   ·omega
   ·refine⟨_,hk,De (val:=.pointer (some (ad.add (n.toNat*Bz P e)))) ?_ ⟨ad,rfl,h1,h2,h3,h4⟩ (by intro i hi;cases hi)⟩
    unfold execOp;rw[ho];simp[Instr.indexAt,asIntOf,hai,El,run_underlying hu,hb.1,hb.2,sizeOf,typeInfo,Vu,Mo]
 ·cases hk
theorem Afl (h:Ch N w0 X0 Y β s a w){t:TypeId}{x i:Operand}(ho:o.op=.index t x i){K:PV->Option R}
  (hk:(E9 (C8 s.tm i) fun _ n=>
   match P.underlying t with
   |some .string=>Fk (C8 s.tm x) fun s=>Aw (decide (0<=n)) (F6 (s.data.toList[n.toNat]?) fun b=>K (.sc (.int .u8 b.toNat)))
   |some (.array len e)=>Ef (C8 s.tm x) fun cs=>Aw (decide (0<=n)&&decide (n<len)&&Np P e) (Vr (L8 P e) cs (n.toNat*Bz P e) fun c=>mkV (C6 P e) c K)
   |_=>none)=some r):∃v,K v=some r∧Gu P a w o Y β s v [] []:=by
 obtain⟨ik,n,hi,hk⟩:=Eo hk;have hai:=Dv h hi;split at hk
 ·rename_i hu;obtain⟨sb,hx,hk⟩:=Ff hk;have El:=Dv h hx;obtain⟨h0,hk⟩:=A3 hk;obtain⟨b,hb,hk⟩:=D7 hk;have h0:=of_decide_eq_true h0;refine⟨_,hk,D2 ?_⟩
  have Cq:n.toNat<sb.size:=by
   rcases Nat.lt_or_ge n.toNat sb.data.toList.length with h|h
   ·simpa using h
   ·rw[List.getElem?_eq_none h] at hb;cases hb
  have J0:sb[n.toNat]=b:=by
   have:sb.data.toList[n.toNat]?=some sb[n.toNat]:=by
    rw[List.getElem?_eq_getElem (by simpa using Cq)]
    rfl
   rw[hb] at this;injection this with this;exact this.symm
  unfold execOp;rw[ho];simp[Instr.index,asIntOf,hai,El,run_underlying hu,h0,Cq,J0]
 ·rename_i len e hu;obtain⟨cs,hx,hk⟩:=Kz hk;obtain⟨hb,hk⟩:=A3 hk;simp only[Bool.and_eq_true,decide_eq_true_eq] at hb;have hxv:=Ec h x;rw[hx] at hxv;obtain⟨vs,El,hv⟩:=hxv;obtain⟨_,_,Mo⟩:=Wm hb.2;refine VM (t:=e) (off:=n.toNat*Bz P e) h hx hv (by rw[hb.2];exact hk) fun val hp=>?_
  unfold execOp;rw[ho];simp[Instr.index,asIntOf,hai,El,run_underlying hu,hb.1.1,hb.1.2,P8 Mo,hp]
 ·cases hk
end
open Go.RowKit
section
variable {R:Type} {r:R} {P:Program} {N:Nat} {w0:World} {X0:Gg} {Y:Nat->Prop} {β β':Bt} {s:St} {a:Act} {w w':World} {o:Oper} {A:Nat->Prop}
theorem Fy (h:Ch N w0 X0 Y β s a w){x:Option Operand}{dflt:Nat}{K:Nat->Option R}(hk:Kb (x.map (C8 s.tm)) dflt K=some r):
  ∃l,K l=some r∧((x=none∧l=dflt)∨∃y k,x=some y∧a.eval y=.int k (l:Int)):=by
 cases x with
 |none=>exact⟨dflt,hk,.inl ⟨rfl,rfl⟩⟩
 |some y=>
  obtain⟨k,i,hi,hk⟩:=Eo (show E9 (C8 s.tm y) _=some r from hk)
  obtain⟨h0,hk⟩:=A3 hk;have h0:=of_decide_eq_true h0;exact⟨i.toNat,hk,.inr ⟨y,k,rfl,by rw[Dv h hi,Int.toNat_of_nonneg h0]⟩⟩
theorem M4 {lo hi:Option Operand}{isS:Bool}{len cap l u:Nat}(hl:(lo=none∧l=0)∨∃y k,lo=some y∧a.eval y=.int k (l:Int))
  (hu:(hi=none∧u=len)∨∃y k,hi=some y∧a.eval y=.int k (u:Int)) (h1:l<=u)(h2:u<=cap):
  (Instr.sliceBounds isS len cap (lo.map a.eval) (hi.map a.eval) none).run P w=.ok (l,u,cap) w:=by
 rcases hl with⟨rfl,rfl⟩|⟨y,k,rfl,hy⟩<;>rcases hu with⟨rfl,rfl⟩|⟨y',k',rfl,hy'⟩
 ·simp[Instr.sliceBounds]
 ·simp[Instr.sliceBounds,Instr.sliceBound,asIntOf,hy',h2]
 ·simp[Instr.sliceBounds,Instr.sliceBound,asIntOf,hy,h1]
 ·simp[Instr.sliceBounds,Instr.sliceBound,asIntOf,hy,hy',h1,h2]
theorem D4 {e:TypeId}(h:(P.info? e).isSome=true) (w:World):(sizeOf e).run P w=.ok (Bz P e) w:=by
 obtain⟨i,hi⟩:=Option.isSome_iff_exists.1 h;exact P8 (by simp[Bz,hi]) w
theorem UG {b j:Nat}{v:Value}(h:w.cell? ⟨b,j,none⟩=some v):j<bsz w b:=by
 unfold World.cell? at h;unfold bsz;split at h
 ·rename_i c e fz hb;simp only at hb;rw[hb];simp only[Option.isSome_none,Bool.false_eq_true,if_false] at h;rcases Nat.lt_or_ge j c.size with Cq|hge
  ·exact Cq
  ·rw[Array.getElem?_eq_none hge] at h;cases h
 ·cases h
theorem Agm (h:Ch N w0 X0 Y β s a w){t:TypeId}{x:Operand}{lo hi:Option Operand}(ho:o.op=.slice t x lo hi none){K:PV->Option R}
  (hk:OA P (rd s.hp) t (C8 s.tm x) (lo.map (C8 s.tm)) (hi.map (C8 s.tm)) K=some r):∃v,K v=some r∧Gu P a w o Y β s v [] []:=by
 have hx:=Ec h x;have XI:=Hp h x;unfold OA at hk;split at hk
 ·rename_i hu;obtain⟨sb,XH,hk⟩:=Ff hk;have El:=Dv h XH;obtain⟨l,hk,hl⟩:=Fy h hk;obtain⟨u,hk,Nu⟩:=Fy h hk;obtain⟨hb,hk⟩:=A3 hk;simp only[Bool.and_eq_true,decide_eq_true_eq] at hb;refine⟨_,hk,D2 ?_⟩;unfold execOp;rw[ho];simp[Instr.sliceAt,Instr.slice,run_underlying hu,El,M4 hl Nu hb.1 hb.2]
 ·rename_i e hu;obtain⟨Vu,hk⟩:=A3 hk;split at hk
  ·rename_i id es off n e';rw[e'] at hx XI;obtain⟨ON,hk⟩:=A3 hk;have ON:=Nat.eq_of_beq_eq_true ON;subst ON;obtain⟨l,hk,hl⟩:=Fy h hk;obtain⟨u,hk,Nu⟩:=Fy h hk;obtain⟨hb,hk⟩:=A3 hk;simp only[Bool.and_eq_true,decide_eq_true_eq] at hb;rcases hx with⟨hβ,rfl,rfl,ad,El⟩|⟨b,ob,y,cap,hβ,El,hy,hn,RM,Cq⟩
   ·have hu0:u=0:=by omega
    have X1:l=0:=by omega
    subst hu0 X1;refine⟨_,hk,De (val:=.slice ad 0 0) ?_ (.inl ⟨hβ,by simp,rfl,ad,rfl⟩) XI⟩
    unfold execOp;rw[ho];cases ad<;>simp[Instr.sliceAt,Instr.slice,run_underlying hu,El,M4 hl Nu (Nat.le_refl 0) (Nat.le_refl 0),D4 Vu]
   ·have D5:(execOp a.eval o).run P w=.ok (.value (.slice (some (if cap=l then ⟨b,y,none⟩ else ⟨b,y+l*Bz P e,none⟩)) (u-l) (cap-l))) w:=by
     unfold execOp;rw[ho];have hbr:=M4 (P:=P) (w:=w) (isS:=true) hl Nu hb.1 (Nat.le_trans hb.2 hn);simp[Instr.sliceAt,Instr.slice,run_underlying hu,El,hbr,D4 Vu,Fn];split<;>rfl
    refine⟨_,hk,De D5 (.inr ?_) XI⟩;by_cases hc:cap=l
    ·rw[if_pos hc];refine⟨b,ob,y,cap-l,hβ,rfl,?_,by omega,by rw[hc,Nat.sub_self];omega,Cq⟩
     by_cases h0:l*Bz P e=0
     ·rw[h0,Nat.add_zero];rcases hy with hy|⟨SA,V6⟩
      ·exact .inl hy
      ·exact .inr ⟨by omega,V6⟩
     ·exact .inr ⟨by omega,by omega⟩
    ·rw[if_neg hc];refine⟨b,ob,y+l*Bz P e,cap-l,hβ,rfl,?_,by omega,?_,Cq⟩
     ·rcases hy with hy|⟨SA,V6⟩
      ·exact .inl (by omega)
      ·exact .inr ⟨by omega,by omega⟩
     ·have:l*Bz P e+(cap-l)*Bz P e=cap*Bz P e:=by
       rw[←Nat.add_mul]
       congr 1
       omega
      omega
  ·obtain⟨z,n,c,hk,hp⟩:=Ik hk;obtain⟨l,hk,hl⟩:=Fy h hk;obtain⟨u,hk,Nu⟩:=Fy h hk;obtain⟨hb,hk⟩:=A3 hk;simp only[Bool.and_eq_true,decide_eq_true_eq] at hb;rcases slice_form hp hx with⟨El,rfl,rfl⟩|⟨ad,cap,El,rfl,hn,h1,h2,h3,h4⟩|⟨ad,cap,El,rfl,rfl,rfl⟩
   rotate_right
   ·have hu0:u=0:=by omega
    have X1:l=0:=by omega
    subst hu0 X1;refine⟨_,hk,De (val:=.slice (some (if cap=0 then ad else ad.add (0*Bz P e))) (0-0) (cap-0)) ?_ ?_ (by intro i hi;cases hi)⟩
    ·unfold execOp;rw[ho];have hbr:=M4 (P:=P) (w:=w) (isS:=true) hl Nu (Nat.le_refl 0) (Nat.zero_le cap);simp[Instr.sliceAt,Instr.slice,run_underlying hu,El,hbr,D4 Vu];split<;>rfl
    ·have:((([]:List PV).drop (0*Bz P e)).take ((0-0)*Bz P e))=[]:=by simp
     rw[this];exact A8.lemp _ _ _
   ·have hu0:u=0:=by omega
    have X1:l=0:=by omega
    subst hu0 X1;refine⟨_,hk,De (val:=.slice none 0 0) ?_ ?_ (by intro i hi;cases hi)⟩
    ·unfold execOp;rw[ho];simp[Instr.sliceAt,Instr.slice,run_underlying hu,El,M4 hl Nu (Nat.le_refl 0) (Nat.le_refl 0),D4 Vu]
    ·have:((([]:List PV).drop (0*Bz P e)).take ((0-0)*Bz P e))=[]:=by simp
     rw[this];exact A8.lnil z _
   ·have D5:(execOp a.eval o).run P w=.ok (.value (.slice (some (if cap=l then ad else ad.add (l*Bz P e))) (u-l) (cap-l))) w:=by
     unfold execOp;rw[ho];have hbr:=M4 (P:=P) (w:=w) (isS:=true) hl Nu hb.1 (Nat.le_trans hb.2 hn);simp[Instr.sliceAt,Instr.slice,run_underlying hu,El,hbr,D4 Vu];split<;>rfl
    refine⟨_,hk,De D5 ?_ (by intro i hi;cases hi)⟩
    by_cases hc:cap=l
    ·rw[if_pos hc];have:u-l=0:=by omega
     rw[this];simp only[Nat.zero_mul,List.take_zero];exact A8.lst _ _ [] ad _ (fun _=>undef) h1 h2 h3 (by omega) (by simp) (by simp) (by simp)
    ·rw[if_neg hc]
     have hcell:∀(j:Nat) q,((c.drop (l*Bz P e)).take ((u-l)*Bz P e))[j]?=some q->c[l*Bz P e+j]?=some q:=by
      intro j q hq;rw[List.getElem?_take] at hq;split at hq
      ·rw[List.getElem?_drop] at hq;exact hq
      ·cases hq
     refine A8.lst _ _ _ (ad.add (l*Bz P e)) _ (fun j=>(w.cell? (ad.add (l*Bz P e+j))).getD undef) (Ate h1 _) (by rw[H6];exact h2) (by rw[H6];exact h3) (by omega) (fun j q hq=>?_) (fun j q hq=>?_) (fun j q hq=>?_)
     ·obtain⟨v,hv,_⟩:=h4 _ q (hcell j q hq);rw[add_add,hv];rfl
     ·obtain⟨v,hv,h5,_⟩:=h4 _ q (hcell j q hq);rw[hv];exact h5
     ·obtain⟨v,hv,_,ht⟩:=h4 _ q (hcell j q hq);rw[hv];exact ht
 ·rename_i n e hu;obtain⟨Vu,hk⟩:=A3 hk;split at hk
  ·rename_i id off e';rw[e'] at hx XI;obtain⟨c,hrc,hk⟩:=D7 hk;obtain⟨Hw,hk⟩:=A3 hk;simp only[Bool.and_eq_true,decide_eq_true_eq] at Hw;obtain⟨l,hk,hl⟩:=Fy h hk;obtain⟨u,hk,Nu⟩:=Fy h hk;obtain⟨hb,hk⟩:=A3 hk;simp only[Bool.and_eq_true,decide_eq_true_eq] at hb;obtain⟨b,ob,hβ,El⟩:=hx
   have UL:ob+off+n*Bz P e<=bsz w b:=by
    obtain⟨v,hv,_⟩:=TW h hrc hβ (j:=off+n*Bz P e-1) (List.getElem?_eq_getElem (by omega))
    have:=UG hv;omega
   have Cq:b<w.heap.size:=h.blt id b ob (XI id (by simp[Cm,Cw,A7])) hβ
   have D5:(execOp a.eval o).run P w=.ok (.value (.slice (some (if n=l then ⟨b,ob+off,none⟩ else ⟨b,ob+off+l*Bz P e,none⟩)) (u-l) (n-l))) w:=by
    unfold execOp;rw[ho];have hbr:=M4 (P:=P) (w:=w) (isS:=false) hl Nu hb.1 hb.2;simp[Instr.sliceAt,Instr.sureAddr,run_underlying hu,El,hbr,D4 Vu,Fn]
   refine⟨_,hk,De D5 (.inr ?_) XI⟩;by_cases hc:n=l
   ·rw[if_pos hc];refine⟨b,ob,ob+off,n-l,hβ,rfl,?_,by omega,by rw[hc,Nat.sub_self];omega,Cq⟩
    by_cases h0:l*Bz P e=0
    ·rw[h0,Nat.add_zero];exact .inl rfl
    ·exact .inr ⟨by omega,by omega⟩
   ·rw[if_neg hc];refine⟨b,ob,ob+off+l*Bz P e,n-l,hβ,rfl,.inl (by omega),by omega,?_,Cq⟩
    have:l*Bz P e+(n-l)*Bz P e=n*Bz P e:=by
     rw[←Nat.add_mul]
     congr 1
     omega
    omega
  ·cases hk
 ·cases hk
end
open Go.RowKit
section
variable {R:Type} {r:R} {P:Program} {N:Nat} {w0:World} {X0:Gg} {Y:Nat->Prop} {β β':Bt} {s:St} {a:Act} {w w':World} {o:Oper} {A:Nat->Prop}
theorem Anh (h:Ch N w0 X0 Y β s a w){c:Call}(ho:o.op=.call c)(hc:c.callee=.builtin .len){K:PV->Option R}
  (hk:(Ab c.args.toList fun x _=>Ab c.argTypes.toList fun t _=>Apw P t (C8 s.tm x) fun n=>K (.sc (.int .i64 n)))=some r):∃v,K v=some r∧Gu P a w o Y β s v [] []:=by
 obtain⟨x,xs,XH,hk⟩:=Bw hk;obtain⟨t,ts,hts,hk⟩:=Bw hk;have hx:=Ec h x;have Fo:c.args=(x::xs).toArray:=by rw[←XH]
 have QI:c.argTypes=(t::ts).toArray:=by rw[←hts]
 have D5:∀n:Nat,(Builtin.len_ c.argTypes o.type (c.args.map a.eval)).run P w=.ok (.int .i64 n) w->(execOp a.eval o).run P w=.ok (.value (.int .i64 n)) w:=by
  intro n hl;unfold execOp;rw[ho];simp only[resolve,hc,invoke,builtin,Sem.run_bind,Sem.run_pure,Result.andThen_ok,hl]
 unfold Apw at hk;split at hk
 ·rename_i hu;obtain⟨sb,Bb7,hk⟩:=Ff hk;have El:=Dv h Bb7;refine⟨_,hk,D2 (D5 _ ?_)⟩;simp[Builtin.len_,Fo,QI,run_underlying hu,El,goInt]
 ·rename_i n e hu;refine⟨_,hk,D2 (D5 _ ?_)⟩;simp[Builtin.len_,Fo,QI,run_underlying hu,goInt]
 ·rename_i e hu;split at hk
  ·rename_i id es off n e';rw[e'] at hx;obtain⟨_,hk⟩:=A3 hk;refine⟨_,hk,D2 (D5 _ ?_)⟩;rcases hx with⟨_,_,rfl,ad,El⟩|⟨b,ob,y,cap,_,El,_⟩<;>simp[Builtin.len_,Fo,QI,run_underlying hu,El,goInt]
  ·obtain⟨z,n,cc,hk,hp⟩:=Ik hk;refine⟨_,hk,D2 (D5 _ ?_)⟩;rcases slice_form hp hx with⟨El,rfl,_⟩|⟨ad,cap,El,_⟩|⟨ad,cap,El,_,rfl,_⟩<;>simp[Builtin.len_,Fo,QI,run_underlying hu,El,goInt]
 ·cases hk
theorem Aox (h:Ch N w0 X0 Y β s a w){c:Call}(ho:o.op=.call c)(hc:c.callee=.builtin .cap){K:PV->Option R}
  (hk:(Ab c.args.toList fun x _=>Ab c.argTypes.toList fun t _=>Ao3 P t (C8 s.tm x) fun n=>K (.sc (.int .i64 n)))=some r):∃v,K v=some r∧Gu P a w o Y β s v [] []:=by
 obtain⟨x,xs,XH,hk⟩:=Bw hk;obtain⟨t,ts,hts,hk⟩:=Bw hk;have hx:=Ec h x;have Fo:c.args=(x::xs).toArray:=by rw[←XH]
 have QI:c.argTypes=(t::ts).toArray:=by rw[←hts]
 have D5:∀n:Nat,(Builtin.cap_ c.argTypes o.type (c.args.map a.eval)).run P w=.ok (.int .i64 n) w->(execOp a.eval o).run P w=.ok (.value (.int .i64 n)) w:=by
  intro n hl;unfold execOp;rw[ho];simp only[resolve,hc,invoke,builtin,Sem.run_bind,Sem.run_pure,Result.andThen_ok,hl]
 unfold Ao3 at hk;split at hk
 ·rename_i e hu;obtain⟨z,n,cc,hk,hp⟩:=Ik hk;obtain⟨hz,hk⟩:=A3 hk;refine⟨_,hk,D2 (D5 _ ?_)⟩;rcases slice_form hp hx with⟨El,rfl,_⟩|⟨ad,cap,El,UH,_⟩|⟨ad,cap,El,UH,_,_⟩
  ·simp[Builtin.cap_,Fo,QI,run_underlying hu,El,goInt]
  ·rw[hz] at UH;cases UH
  ·rw[hz] at UH;cases UH
 ·cases hk
theorem An6 (h:Ch N w0 X0 Y β s a w){c:Call}(ho:o.op=.call c)(hc:c.callee=.builtin .min){K:PV->Option R}
  (hk:(Ab c.args.toList fun x r=>Ab r fun y r'=>Ac r' (Ay5 (C8 s.tm x) (C8 s.tm y) K))=some r):∃v,K v=some r∧Gu P a w o Y β s v [] []:=by
 obtain⟨x,xs,XH,hk⟩:=Bw hk;obtain⟨y,ys,rfl,hk⟩:=Bw hk;obtain⟨rfl,hk⟩:=Ex hk;obtain⟨k,n,hx,hk⟩:=Eo hk;obtain⟨m,hy,hk⟩:=Gv hk
 have Fo:c.args = #[x,y]:=by
  have:c.args=([x,y]:List Operand).toArray:=by rw[←XH]
  exact this
 refine⟨_,hk,D2 ?_⟩;unfold execOp;rw[ho];simp[resolve,hc,invoke,builtin,Fo,Builtin.min_,Builtin.min2,Dv h hx,Dv h hy]
theorem Aom (h:Ch N w0 X0 Y β s a w){c:Call}(ho:o.op=.call c)(hc:c.callee=.builtin .max){K:PV->Option R}
  (hk:(Ab c.args.toList fun x r=>Ab r fun y r'=>Ac r' (Ax8 (C8 s.tm x) (C8 s.tm y) K))=some r):∃v,K v=some r∧Gu P a w o Y β s v [] []:=by
 obtain⟨x,xs,XH,hk⟩:=Bw hk;obtain⟨y,ys,rfl,hk⟩:=Bw hk;obtain⟨rfl,hk⟩:=Ex hk;obtain⟨k,n,hx,hk⟩:=Eo hk;obtain⟨m,hy,hk⟩:=Gv hk
 have Fo:c.args = #[x,y]:=by
  have:c.args=([x,y]:List Operand).toArray:=by rw[←XH]
  exact this
 refine⟨_,hk,D2 ?_⟩;unfold execOp;rw[ho];simp[resolve,hc,invoke,builtin,Fo,Builtin.max_,Builtin.max2,Dv h hx,Dv h hy]
theorem Ai8 (h:Ch N w0 X0 Y β s a w){op:UnOp}{t:TypeId}{x:Operand}(ho:o.op=.unOp op t x){K:PV->Option R}(hk:unK op (C8 s.tm x) K=some r):
  ∃v,K v=some r∧Gu P a w o Y β s v [] []:=by
 unfold unK at hk;split at hk
 ·obtain⟨b,hb,hk⟩:=Fi hk;refine⟨_,hk,D2 ?_⟩;unfold execOp;rw[ho];simp[Op.unary,Dv h hb]
 ·obtain⟨k,n,hb,hk⟩:=Eo hk;refine⟨_,hk,D2 ?_⟩;unfold execOp;rw[ho];simp[Op.unary,Op.intArith,Dv h hb]
 ·obtain⟨k,n,hb,hk⟩:=Eo hk;refine⟨_,hk,D2 ?_⟩;unfold execOp;rw[ho];simp[Op.unary,Op.intBits,Dv h hb,A7e]
 ·cases hk
theorem Apn {op:BinOp}{k:IntKind}{m n:Int}{t:TypeId}{x y:Operand}{K:PV->Option R}(PZ:op ≠ .shl)(VY:op ≠ .shr)(hk:VA op k m n K=some r):
  ∃v,K (.sc v)=some r∧(do eqGuard op t x y (.int k m) (.int k n);binOp op t (.int k m) (.int k n)).run P w=.ok v w:=by
 cases op<;>first
  |exact absurd rfl PZ
  |exact absurd rfl VY
  |(obtain⟨hb,hk⟩:=A3 hk;have hb:=of_decide_eq_true hb;exact⟨_,hk,by simp[eqGuard,binOp,Op.intDiv,hb]⟩)
  |exact⟨_,hk,by simp[eqGuard,binOp,-BitVec.toNat_and,-BitVec.toNat_or,-BitVec.toNat_xor,-gt_iff_lt,-ge_iff_le]<;>rfl⟩
theorem Apf {op:BinOp}{m n:ByteArray}{t:TypeId}{x y:Operand}{K:PV->Option R}(hk:WJ op m n K=some r):
  ∃v,K (.sc v)=some r∧(do eqGuard op t x y (.string m) (.string n);binOp op t (.string m) (.string n)).run P w=.ok v w:=by
 cases op<;>first
  |cases hk
  |(obtain⟨hb,hk⟩:=A3 hk;have hb:=of_decide_eq_true hb;exact⟨_,hk,by
    have J0:¬(((m.size+n.size:Nat):Int)>IntKind.i64.max):=by
     have:IntKind.i64.max=9223372036854775807:=rfl;rw[this];omega
    simp only[eqGuard,binOp,Op.stringOp,if_neg J0];rfl⟩)
  |exact⟨_,hk,by simp only[eqGuard,binOp,Op.stringOp,ByteArray.toList_eq];rfl⟩
end
open Go.RowKit
section
variable {R:Type} {r:R} {P:Program} {N:Nat} {w0:World} {X0:Gg} {Y:Nat->Prop} {β β':Bt} {s:St} {a:Act} {w w':World} {o:Oper} {A:Nat->Prop}
theorem VK {t:TypeId}(hu:P.underlying t=some .bool)(x y:Bool):(Op.equal t (.bool x) (.bool y)).run P w=.ok (x==y) w:=by
 have h:∀d,(Op.equalIn (d+1) t (.bool x) (.bool y)).run P w=.ok (x==y) w:=fun d=>by simp[Op.equalIn,run_underlying hu]
 exact h 9999
theorem DH {t e:TypeId}(hu:P.underlying t=some (.slice e)) (x:Option Addr)(n c:Nat):(Op.equal t (.slice x n c) (.slice none 0 0)).run P w=.ok x.isNone w:=by
 have h:∀d,(Op.equalIn (d+1) t (.slice x n c) (.slice none 0 0)).run P w=.ok x.isNone w:=fun d=>by
  cases x<;>simp[Op.equalIn,run_underlying hu]
 exact h 9999
theorem Na {t:TypeId}(d:Nat){v u:Value}(hv:(∃k m n,P.underlying t=some (.int k)∧v=.int k m∧u=.int k n)∨(∃m n,P.underlying t=some .bool∧v=.bool m∧u=.bool n)∨∃m n,P.underlying t=some .string∧v=.string m∧u=.string n) {b:Bool}
  (hb:∀k m n,v=.int k m->u=.int k n->b=(m==n)) (J0:∀m n,v=.bool m->u=.bool n->b=(m==n)) (A95:∀m n,v=.string m->u=.string n->b=(m==n)):(Op.equalIn (d+1) t v u).run P w=.ok b w:=by
 rcases hv with⟨k,m,n,hu,rfl,rfl⟩|⟨m,n,hu,rfl,rfl⟩|⟨m,n,hu,rfl,rfl⟩
 ·rw[hb k m n rfl rfl];simp[Op.equalIn,run_underlying hu]
 ·rw[J0 m n rfl rfl];simp[Op.equalIn,run_underlying hu]
 ·rw[A95 m n rfl rfl];simp[Op.equalIn,run_underlying hu]
theorem Yn {t:TypeId}{dsc:TypeDesc}(hu:P.underlying t=some dsc)(hd:C6 P t=false){xs:Array Value}{i:Nat}{v:Value}(hv:xs[i]?=some v):(part t xs i).run P w=.ok v w:=by
 simp only[part,Sem.run_bind,Sr hu,hd,Result.andThen_ok];simp[hv]
theorem Aas (k:IntKind)(n:Int)(K:Int->Option R):Ae k (.sc (.int k n)) K=K n:=by simp[Ae]
theorem Ae2 (d : Nat) : ∀ (fs : List Field) (i : Nat) (xs ys : Array Value) (ps qs : List PV) (K : Bool -> Option R), Ahd P fs i = true -> Qp (fs.map (fty P)) ps qs K = some r ->
    (∀ (j : Nat) p, ps[j]? = some p -> ∃ v, xs[i + j]? = some v ∧ Cu w A β p v) -> (∀ (j : Nat) p, qs[j]? = some p -> ∃ v, ys[i + j]? = some v ∧ Cu w A β p v) ->
    ∃ b, K b = some r ∧ (forIn fs ((none, ()) : Option Bool × Unit) fun (f : Field) (_ : Option Bool × Unit) =>
            if f.name = "_" then pure (ForInStep.yield ((none, ()) : Option Bool × Unit))
            else do
              let x ← part f.type xs f.offset
              let y ← part f.type ys f.offset
              let e ← Op.equalIn (d + 1) f.type x y
              if e = false then pure (ForInStep.done ((some false, ()) : Option Bool × Unit)) else pure (ForInStep.yield ((none, ()) : Option Bool × Unit)) : Sem (Option Bool × Unit)).run P w = .ok (if b then (none, ()) else (some false, ())) w
  | [], i, xs, ys, ps, qs, K, _, hk, _, _ => by
    cases ps with
    | nil => cases qs with
      | nil => exact⟨true, hk, by simp⟩
      | cons q qs => cases hk
    | cons p ps => cases hk
  | f :: fs, i, xs, ys, ps, qs, K, hfl, hk, hp, hq => by
    simp only[Ahd, Bool.and_eq_true] at hfl
    obtain⟨⟨⟨V6, Aqj⟩, hty⟩, FW⟩ := hfl
    have V6 := Nat.eq_of_beq_eq_true V6
    have SN : f.name ≠ "_" := by simpa using Aqj
    cases ps with
    | nil =>
      simp only[List.map_cons] at hk
      cases A4a : fty P f <;> rw[A4a] at hk <;> cases hk
    | cons p ps =>
      cases qs with
      | nil =>
        simp only[List.map_cons] at hk
        cases A4a : fty P f <;> rw[A4a] at hk <;> cases hk
      | cons q qs =>
        obtain⟨v, hv, HM⟩ := hp 0 p rfl
        obtain⟨u, hu, hqu⟩ := hq 0 q rfl
        rw[Nat.add_zero] at hv hu
        have main : ∃ b0 dsc, P.underlying f.type = some dsc ∧ C6 P f.type = false ∧ (Op.equalIn (d + 1) f.type v u).run P w = .ok b0 w ∧ Qp (fs.map (fty P)) ps qs (fun r => K (b0 && r)) = some r := by
          simp only[List.map_cons] at hk
          unfold fty at hk
          split at hk
          · rename_i k O2
            obtain⟨m, ZN, Em⟩ := Gv (show Ae k p _ = some r from hk)
            obtain⟨n, XE, Ha⟩ := Gv Em
            subst ZN XE
            have U5 : v = .int k m := A8.val (w := w) (A := A) HM
            have Nu : u = .int k n := A8.val (w := w) (A := A) hqu
            subst U5 Nu
            refine⟨m == n, _, O2, by simp[C6, O2], Na d (.inl ⟨k, m, n, O2, rfl, rfl⟩) ?_ ?_ ?_, Ha⟩
            · intro k' m' n' h1 h2; injection h1 with _ h1; injection h2 with _ h2; rw[h1, h2]
            · intro m' n' h1; cases h1
            · intro m' n' h1; cases h1
          · rename_i O2
            obtain⟨m, ZN, Em⟩ := Fi (show B3 p _ = some r from hk)
            obtain⟨n, XE, Ha⟩ := Fi Em
            subst ZN XE
            have U5 : v = .bool m := A8.val (w := w) (A := A) HM
            have Nu : u = .bool n := A8.val (w := w) (A := A) hqu
            subst U5 Nu
            refine⟨m == n, _, O2, by simp[C6, O2], Na d (.inr (.inl ⟨m, n, O2, rfl, rfl⟩)) ?_ ?_ ?_, Ha⟩
            · intro k' m' n' h1; cases h1
            · intro m' n' h1 h2; injection h1 with h1; injection h2 with h2; rw[h1, h2]
            · intro m' n' h1; cases h1
          · rename_i O2
            obtain⟨m, ZN, Em⟩ := Ff (show Fk p _ = some r from hk)
            obtain⟨n, XE, Ha⟩ := Ff Em
            subst ZN XE
            have U5 : v = .string m := A8.val (w := w) (A := A) HM
            have Nu : u = .string n := A8.val (w := w) (A := A) hqu
            subst U5 Nu
            refine⟨m == n, _, O2, by simp[C6, O2], Na d (.inr (.inr ⟨m, n, O2, rfl, rfl⟩)) ?_ ?_ ?_, Ha⟩
            · intro k' m' n' h1; cases h1
            · intro m' n' h1; cases h1
            · intro m' n' h1 h2; injection h1 with h1; injection h2 with h2; rw[h1, h2]
          · cases hk
        obtain⟨b0, dsc, O2, Jc, he, hk⟩ := main
        obtain⟨b, hkb, D5⟩ := Ae2 d fs (i + 1) xs ys ps qs _ FW hk (fun j p' hj => by have := hp (j + 1) p' hj; rwa [Nat.add_assoc, Nat.add_comm 1 j]) (fun j p' hj => by have := hq (j + 1) p' hj; rwa [Nat.add_assoc, Nat.add_comm 1 j])
        refine⟨b0 && b, hkb, ?_⟩
        have hpx : (part f.type xs f.offset).run P w = .ok v w := Yn O2 Jc (by rw[V6]; exact hv)
        have hpy : (part f.type ys f.offset).run P w = .ok u w := Yn O2 Jc (by rw[V6]; exact hu)
        cases b0
        · simp[List.forIn_cons, SN, hpx, hpy, he]
        · simp only[Bool.true_and]
          rw[← D5]
          simp[List.forIn_cons, SN, hpx, hpy, he]
theorem QF (d:Nat){t:TypeId}{fs:Array Field}(hu:P.underlying t=some (.struct fs)) (G0:P.stoodInHeld t=false)(hfl:Ahd P fs.toList 0=true){xs ys:List PV}{vx vy:List Value}
  (hvx:B8 (Cu w A β) xs vx) (hvy:B8 (Cu w A β) ys vy) {K:Bool->Option R}(hk:Qp (fs.toList.map (fty P)) xs ys K=some r):
  ∃b,K b=some r∧(Op.equalIn (d+2) t (.agg ⟨vx⟩) (.agg ⟨vy⟩)).run P w=.ok b w:=by
 obtain⟨b,hkb,D5⟩:=Ae2 (P:=P) (w:=w) (A:=A) (β:=β) d fs.toList 0 ⟨vx⟩ ⟨vy⟩ xs ys K hfl hk (fun j p hj=>by
   obtain⟨v,hv,hc⟩:=hvx.get hj;exact⟨v,by simpa using hv,hc⟩) (fun j p hj=>by
   obtain⟨v,hv,hc⟩:=hvy.get hj;exact⟨v,by simpa using hv,hc⟩)
 refine⟨b,hkb,?_⟩;rw[Array.forIn_toList] at D5;rw[Op.equalIn];simp[run_underlying hu,G0];rw[D5];cases b<;>simp
theorem KM:∀(ts1:List CT){ts2:List CT}{ps qs:List PV}{K:Bool->Option R},Qp (ts1++ts2) ps qs K=some r ->
  Qp ts1 (ps.take ts1.length) (qs.take ts1.length) (fun b=>Qp ts2 (ps.drop ts1.length) (qs.drop ts1.length) fun r'=>K (b&&r'))=some r
 |[],ts2,ps,qs,K,h=>by
  simp only[List.length_nil,List.take_zero,List.drop_zero,Qp,Bool.true_and];exact h
 |t::ts1,ts2,ps,qs,K,h=>by
  rw[List.cons_append] at h;cases ps with
  |nil=>cases t<;>cases h
  |cons p ps=>
   cases qs with
   |nil=>cases t<;>cases h
   |cons q qs=>
    simp only[List.length_cons,List.take_succ_cons,List.drop_succ_cons];cases t with
    |int k=>
     obtain⟨m,ZN,h1⟩:=Gv (show Ae k p _=some r from h)
     obtain⟨n,XE,h2⟩:=Gv h1;subst ZN XE;have:=KM ts1 h2;simp only[←Bool.and_assoc] at this;exact (Aas _ _ _).trans ((Aas _ _ _).trans this)
    |bool=>
     obtain⟨m,ZN,h1⟩:=Fi (show B3 p _=some r from h)
     obtain⟨n,XE,h2⟩:=Fi h1;subst ZN XE;have:=KM ts1 h2;simp only[←Bool.and_assoc] at this;exact this
    |str=>
     obtain⟨m,ZN,h1⟩:=Ff (show Fk p _=some r from h)
     obtain⟨n,XE,h2⟩:=Ff h1;subst ZN XE;have:=KM ts1 h2;simp only[←Bool.and_assoc] at this;exact this
    |sl es=>cases h
    |any=>cases h
theorem Afg:∀(ts:List CT){ps qs:List PV}{K:Bool->Option R},Qp ts ps qs K=some r->ps.length=ts.length∧qs.length=ts.length
 |[],ps,qs,K,h=>by
  cases ps with
  |nil=>cases qs with
   |nil=>exact⟨rfl,rfl⟩
   |cons q qs=>cases h
  |cons p ps=>cases h
 |t::ts,ps,qs,K,h=>by
  cases ps with
  |nil=>cases t<;>cases h
  |cons p ps=>
   cases qs with
   |nil=>cases t<;>cases h
   |cons q qs=>
    have go:∃K',Qp ts ps qs K'=some r:=by
     cases t with
     |int k=>
      obtain⟨m,ZN,h1⟩:=Gv (show Ae k p _=some r from h)
      obtain⟨n,XE,h2⟩:=Gv h1;exact⟨_,h2⟩
     |bool=>
      obtain⟨m,ZN,h1⟩:=Fi (show B3 p _=some r from h)
      obtain⟨n,XE,h2⟩:=Fi h1;exact⟨_,h2⟩
     |str=>
      obtain⟨m,ZN,h1⟩:=Ff (show Fk p _=some r from h)
      obtain⟨n,XE,h2⟩:=Ff h1;exact⟨_,h2⟩
     |sl es=>cases h
     |any=>cases h
    obtain⟨K',h'⟩:=go;have:=Afg ts h';exact⟨by simp[this.1],by simp[this.2]⟩
theorem Agd {t:TypeId}{dsc:TypeDesc}(hu:P.underlying t=some dsc)(hd:C6 P t=true)(hi:(P.info? t).isSome=true) (xs:Array Value)(i:Nat):(part t xs i).run P w=.ok (.agg (xs.extract i (i+Bz P t))) w:=by
 simp only[part,Sem.run_bind,Sr hu,hd,Result.andThen_ok,if_true,D4 hi];rfl
theorem Abl {xs:Array Value}{i n:Nat}{ps:List PV}(hn:n<=ps.length)(hp:∀(j:Nat) p,ps[j]?=some p->∃v,xs[i+j]?=some v∧Cu w A β p v):B8 (Cu w A β) (ps.take n) (xs.extract i (i+n)).toList:=by
 rcases Nat.eq_zero_or_pos n with h0|h0
 ·subst h0;simp[B8]
 have hl:n-1<ps.length:=by omega
 obtain⟨v,hv,_⟩:=hp (n-1) _ (List.getElem?_eq_getElem hl);have Mo:=(Array.getElem?_eq_some_iff.1 hv).1;refine B8.of_at (by simp;omega) fun j a b ha hb=>?_
 rw[List.getElem?_take] at ha;split at ha
 ·rename_i hj;obtain⟨v,hv,hc⟩:=hp j a ha;rw[Array.getElem?_toList,Array.getElem?_extract] at hb;split at hb
  ·rw[hv] at hb;cases hb;exact hc
  ·cases hb
 ·cases ha
theorem QD {f:Field}{gs:Array Field}(hu:P.underlying f.type=some (.struct gs)):Afr P f=gs.toList.map (fty P):=by unfold Afr;rw[hu]
theorem Ai0 {f:Field}(h:∀gs,P.underlying f.type≠some (.struct gs)):Afr P f=[fty P f]:=by
 unfold Afr;split
 ·rename_i gs hu;exact absurd hu (h gs)
 ·rfl
theorem Ak8 (d : Nat) : ∀ (fs : List Field) (i : Nat) (xs ys : Array Value) (ps qs : List PV) (K : Bool -> Option R), Ty P fs i = true -> Qp (FU P fs) ps qs K = some r ->
    (∀ (j : Nat) p, ps[j]? = some p -> ∃ v, xs[i + j]? = some v ∧ Cu w A β p v) -> (∀ (j : Nat) p, qs[j]? = some p -> ∃ v, ys[i + j]? = some v ∧ Cu w A β p v) ->
    ∃ b, K b = some r ∧ (forIn fs ((none, ()) : Option Bool × Unit) fun (f : Field) (_ : Option Bool × Unit) =>
            if f.name = "_" then pure (ForInStep.yield ((none, ()) : Option Bool × Unit))
            else do
              let x ← part f.type xs f.offset
              let y ← part f.type ys f.offset
              let e ← Op.equalIn (d + 2) f.type x y
              if e = false then pure (ForInStep.done ((some false, ()) : Option Bool × Unit)) else pure (ForInStep.yield ((none, ()) : Option Bool × Unit)) : Sem (Option Bool × Unit)).run P w = .ok (if b then (none, ()) else (some false, ())) w
  | [], i, xs, ys, ps, qs, K, _, hk, _, _ => by
    cases ps with
    | nil => cases qs with
      | nil => exact⟨true, hk, by simp⟩
      | cons q qs => cases hk
    | cons p ps => cases hk
  | f :: fs, i, xs, ys, ps, qs, K, hfl, hk, hp, hq => by
    simp only[Ty, Bool.and_eq_true] at hfl
    obtain⟨⟨V6, Aqj⟩, hty⟩ := hfl
    have V6 := Nat.eq_of_beq_eq_true V6
    have SN : f.name ≠ "_" := by simpa using Aqj
    have main : ∃ b0 v u n, (part f.type xs f.offset).run P w = .ok v w ∧ (part f.type ys f.offset).run P w = .ok u w ∧ (Op.equalIn (d + 2) f.type v u).run P w = .ok b0 w ∧ Ty P fs (i + n) = true ∧ Qp (FU P fs) (ps.drop n) (qs.drop n) (fun r' => K (b0 && r')) = some r := by
      have hk := KM (Afr P f) (show Qp (Afr P f ++ FU P fs) ps qs K = some r from hk)
      have Hw := Afg _ hk
      rw[List.length_take, List.length_take] at Hw
      have plain : (∀ gs, P.underlying f.type ≠ some (.struct gs)) -> Ty P fs (i + 1) = true -> (match P.underlying f.type with | some (.int _) => true | some .bool => true | some .string => true | _ => false) = true ->
          ∃ b0 v u n, (part f.type xs f.offset).run P w = .ok v w ∧ (part f.type ys f.offset).run P w = .ok u w ∧ (Op.equalIn (d + 2) f.type v u).run P w = .ok b0 w ∧ Ty P fs (i + n) = true ∧ Qp (FU P fs) (ps.drop n) (qs.drop n) (fun r' => K (b0 && r')) = some r := by
        intro hs A3e QM
        rw[Ai0 hs] at hk Hw
        simp only[List.length_singleton] at hk Hw
        obtain⟨p, ps, rfl⟩ : ∃ p ps', ps = p :: ps' := by
          cases ps with
          | nil => simp at Hw
          | cons p ps => exact⟨p, ps, rfl⟩
        obtain⟨q, qs, rfl⟩ : ∃ q qs', qs = q :: qs' := by
          cases qs with
          | nil => simp at Hw
          | cons q qs => exact⟨q, qs, rfl⟩
        obtain⟨v, hv, HM⟩ := hp 0 p rfl
        obtain⟨u, hu, hqu⟩ := hq 0 q rfl
        rw[Nat.add_zero] at hv hu
        simp only[List.take_succ_cons, List.take_zero, List.drop_succ_cons, List.drop_zero] at hk ⊢
        have one : ∃ b0 dsc, P.underlying f.type = some dsc ∧ C6 P f.type = false ∧ (Op.equalIn (d + 2) f.type v u).run P w = .ok b0 w ∧ Qp (FU P fs) ps qs (fun r' => K (b0 && r')) = some r := by
          unfold fty at hk
          split at hk
          · rename_i k O2
            obtain⟨m, ZN, Em⟩ := Gv (show Ae k p _ = some r from hk)
            obtain⟨n, XE, Ha⟩ := Gv Em
            subst ZN XE
            have U5 : v = .int k m := A8.val (w := w) (A := A) HM
            have Nu : u = .int k n := A8.val (w := w) (A := A) hqu
            subst U5 Nu
            have e : ∀ b : Bool, (b && true) = b := Bool.and_true
            simp only[Qp, e] at Ha
            refine⟨m == n, _, O2, by simp[C6, O2], Na (d + 1) (.inl ⟨k, m, n, O2, rfl, rfl⟩) ?_ ?_ ?_, Ha⟩
            · intro k' m' n' h1 h2; injection h1 with _ h1; injection h2 with _ h2; rw[h1, h2]
            · intro m' n' h1; cases h1
            · intro m' n' h1; cases h1
          · rename_i O2
            obtain⟨m, ZN, Em⟩ := Fi (show B3 p _ = some r from hk)
            obtain⟨n, XE, Ha⟩ := Fi Em
            subst ZN XE
            have U5 : v = .bool m := A8.val (w := w) (A := A) HM
            have Nu : u = .bool n := A8.val (w := w) (A := A) hqu
            subst U5 Nu
            have e : ∀ b : Bool, (b && true) = b := Bool.and_true
            simp only[Qp, e] at Ha
            refine⟨m == n, _, O2, by simp[C6, O2], Na (d + 1) (.inr (.inl ⟨m, n, O2, rfl, rfl⟩)) ?_ ?_ ?_, Ha⟩
            · intro k' m' n' h1; cases h1
            · intro m' n' h1 h2; injection h1 with h1; injection h2 with h2; rw[h1, h2]
            · intro m' n' h1; cases h1
          · rename_i O2
            obtain⟨m, ZN, Em⟩ := Ff (show Fk p _ = some r from hk)
            obtain⟨n, XE, Ha⟩ := Ff Em
            subst ZN XE
            have U5 : v = .string m := A8.val (w := w) (A := A) HM
            have Nu : u = .string n := A8.val (w := w) (A := A) hqu
            subst U5 Nu
            have e : ∀ b : Bool, (b && true) = b := Bool.and_true
            simp only[Qp, e] at Ha
            refine⟨m == n, _, O2, by simp[C6, O2], Na (d + 1) (.inr (.inr ⟨m, n, O2, rfl, rfl⟩)) ?_ ?_ ?_, Ha⟩
            · intro k' m' n' h1; cases h1
            · intro m' n' h1; cases h1
            · intro m' n' h1 h2; injection h1 with h1; injection h2 with h2; rw[h1, h2]
          · cases hk
        obtain⟨b0, dsc, O2, Jc, he, hk⟩ := one
        exact⟨b0, v, u, 1, Yn O2 Jc (by rw[V6]; exact hv), Yn O2 Jc (by rw[V6]; exact hu), he, A3e, by simpa using hk⟩
      split at hty
      · rename_i k O2
        exact plain (fun gs e => by rw[O2] at e; cases e) hty (by rw[O2])
      · rename_i O2
        exact plain (fun gs e => by rw[O2] at e; cases e) hty (by rw[O2])
      · rename_i O2
        exact plain (fun gs e => by rw[O2] at e; cases e) hty (by rw[O2])
      · rename_i gs O2
        simp only[Bool.and_eq_true, Bool.not_eq_true'] at hty
        obtain⟨⟨⟨⟨hfp, G0⟩, hi⟩, Mo⟩, FW⟩ := hty
        have Mo := Nat.eq_of_beq_eq_true Mo
        have AK : (Afr P f).length = gs.size := by rw[QD O2, List.length_map, Array.length_toList]
        rw[AK] at hk Hw
        rw[QD O2] at hk
        have hx := Abl (n := gs.size) (by omega) hp
        have hy := Abl (n := gs.size) (by omega) hq
        obtain⟨b0, hkb, he⟩ := QF d O2 G0 hfp hx hy hk
        have ha : C6 P f.type = true := by simp[C6, O2]
        exact⟨b0, _, _, gs.size, by rw[Agd O2 ha hi, V6, Mo], by rw[Agd O2 ha hi, V6, Mo], he, FW, hkb⟩
      · cases hty
    obtain⟨b0, v, u, n, hpx, hpy, he, A3e, hk⟩ := main
    obtain⟨b, hkb, D5⟩ := Ak8 d fs (i + n) xs ys (ps.drop n) (qs.drop n) _ A3e hk (fun j p' hj => by rw[List.getElem?_drop] at hj; have := hp (n + j) p' hj; rwa [← Nat.add_assoc] at this) (fun j p' hj => by rw[List.getElem?_drop] at hj; have := hq (n + j) p' hj; rwa [← Nat.add_assoc] at this)
    refine⟨b0 && b, hkb, ?_⟩
    cases b0
    · simp[List.forIn_cons, SN, hpx, hpy, he]
    · simp only[Bool.true_and]
      rw[← D5]
      simp[List.forIn_cons, SN, hpx, hpy, he]
theorem TX (d:Nat){t:TypeId}{fs:Array Field}(hu:P.underlying t=some (.struct fs)) (G0:P.stoodInHeld t=false)(hfl:Ty P fs.toList 0=true){xs ys:List PV}{vx vy:List Value}
  (hvx:B8 (Cu w A β) xs vx) (hvy:B8 (Cu w A β) ys vy) {K:Bool->Option R}(hk:Qp (FU P fs.toList) xs ys K=some r):
  ∃b,K b=some r∧(Op.equalIn (d+3) t (.agg ⟨vx⟩) (.agg ⟨vy⟩)).run P w=.ok b w:=by
 obtain⟨b,hkb,D5⟩:=Ak8 (P:=P) (w:=w) (A:=A) (β:=β) d fs.toList 0 ⟨vx⟩ ⟨vy⟩ xs ys K hfl hk (fun j p hj=>by
   obtain⟨v,hv,hc⟩:=hvx.get hj;exact⟨v,by simpa using hv,hc⟩) (fun j p hj=>by
   obtain⟨v,hv,hc⟩:=hvy.get hj;exact⟨v,by simpa using hv,hc⟩)
 refine⟨b,hkb,?_⟩;rw[Array.forIn_toList] at D5;rw[Op.equalIn];simp[run_underlying hu,G0];rw[D5];cases b<;>simp
theorem Aau (h:Ch N w0 X0 Y β s a w){t:TypeId}{fs:Array Field}{x y:Operand}{op:BinOp}(hop:op=.eql∨op=.neq)(hu:P.underlying t=some (.struct fs)) (hfl:Ack P t fs=true){xs ys:List PV}
  (hx:C8 s.tm x=.agg xs)(hy:C8 s.tm y=.agg ys){K:Bool->Option R}(hk:Qp (FU P fs.toList) xs ys K=some r):
  ∃b,K b=some r∧(do eqGuard op t x y (a.eval x) (a.eval y);binOp op t (a.eval x) (a.eval y)).run P w=.ok (.bool (if op=.eql then b else !b)) w:=by
 have hxv:=Ec h x;have hyv:=Ec h y;rw[hx] at hxv;rw[hy] at hyv;obtain⟨vx,El,hvx⟩:=hxv;obtain⟨vy,hay,hvy⟩:=hyv;simp only[Ack,Bool.and_eq_true,Bool.not_eq_true'] at hfl;obtain⟨⟨hfl,G0⟩,heg⟩:=hfl;obtain⟨b,hkb,heq⟩:=TX 9997 hu G0 hfl hvx hvy hk;have heq:(Op.equal t (.agg ⟨vx⟩) (.agg ⟨vy⟩)).run P w=.ok b w:=heq;refine⟨b,hkb,?_⟩;rw[El,hay];rcases hop with rfl|rfl
 ·simp[eqGuard,binOp,heq,heg]
 ·simp[eqGuard,binOp,heq,heg]
theorem Ag9 (h:Ch N w0 X0 Y β s a w){op:BinOp}{t ty:TypeId}{x y:Operand}(ho:o.op=.binOp op t x y ty){K:PV->Option R}
  (hk:DZ P op t (C8 s.tm x) (C8 s.tm y) K=some r):∃v,K v=some r∧Gu P a w o Y β s v [] []:=by
 have D5:∀v,(do eqGuard op t x y (a.eval x) (a.eval y);binOp op t (a.eval x) (a.eval y)).run P w=.ok v w->(execOp a.eval o).run P w=.ok (.value v) w:=by
  intro v hv;unfold execOp;rw[ho];simp only[Sem.run_bind] at hv ⊢;rw[hv];rfl
 unfold DZ at hk;split at hk
 ·rename_i fs hu;split at hk
  ·obtain⟨hfl,hk⟩:=A3 hk;obtain⟨xs,hx,hk⟩:=Kz hk;obtain⟨ys,hy,hk⟩:=Kz hk;obtain⟨b,hk,hr⟩:=Aau h (.inl rfl) hu hfl hx hy hk;exact⟨_,hk,D2 (D5 _ (by rw[hr];rfl))⟩
  ·obtain⟨hfl,hk⟩:=A3 hk;obtain⟨xs,hx,hk⟩:=Kz hk;obtain⟨ys,hy,hk⟩:=Kz hk;obtain⟨b,hk,hr⟩:=Aau h (.inr rfl) hu hfl hx hy hk;exact⟨_,hk,D2 (D5 _ (by rw[hr];rfl))⟩
  ·cases hk
 ·unfold Aqt at hk;split at hk
  ·rename_i k hu;split at hk
   ·obtain⟨m,hx,hk⟩:=Gv hk;obtain⟨k2,n,hy,hk⟩:=Eo hk;obtain⟨hb,hk⟩:=A3 hk;have hb:=of_decide_eq_true hb;refine⟨_,hk,D2 (D5 _ ?_)⟩;have:¬n<0:=by omega
    simp[eqGuard,binOp,Op.shift,Dv h hx,Dv h hy,this]
   ·obtain⟨m,hx,hk⟩:=Gv hk;obtain⟨k2,n,hy,hk⟩:=Eo hk;obtain⟨hb,hk⟩:=A3 hk;have hb:=of_decide_eq_true hb;refine⟨_,hk,D2 (D5 _ ?_)⟩;have:¬n<0:=by omega
    simp[eqGuard,binOp,Op.shift,Dv h hx,Dv h hy,this]
   ·rename_i PZ VY;obtain⟨m,hx,hk⟩:=Gv hk;obtain⟨n,hy,hk⟩:=Gv hk;obtain⟨v,hk,hr⟩:=Apn (P:=P) (w:=w) (t:=t) (x:=x) (y:=y) PZ VY hk;exact⟨_,hk,D2 (D5 _ (by rw[Dv h hx,Dv h hy];exact hr))⟩
  ·rename_i hu;obtain⟨m,hx,hk⟩:=Ff hk;obtain⟨n,hy,hk⟩:=Ff hk;obtain⟨v,hk,hr⟩:=Apf (P:=P) (w:=w) (t:=t) (x:=x) (y:=y) hk;exact⟨_,hk,D2 (D5 _ (by rw[Dv h hx,Dv h hy];exact hr))⟩
  ·rename_i hu;split at hk
   ·obtain⟨m,hx,hk⟩:=Fi hk;obtain⟨n,hy,hk⟩:=Fi hk;refine⟨_,hk,D2 (D5 _ ?_)⟩;simp[eqGuard,binOp,Dv h hx,Dv h hy,VK hu]
   ·obtain⟨m,hx,hk⟩:=Fi hk;obtain⟨n,hy,hk⟩:=Fi hk;refine⟨_,hk,D2 (D5 _ ?_)⟩;simp[eqGuard,binOp,Dv h hx,Dv h hy,VK hu]
   ·cases hk
  ·rename_i e hu;have hx:=Ec h x
   have nilQ:∀{e:Bool} {K':PV->Option R},UY e (C8 s.tm x) K'=some r->∃q ad n c,K' q=some r∧a.eval x=.slice ad n c∧(q=.sc (.bool (if ad.isNone then e else !e))∨q=.ub):=by
    intro e K' hq;unfold UY at hq;split at hq
    ·rename_i e';exact⟨_,none,0,0,hq,Dv h e',.inl rfl⟩
    ·rename_i z es n c e';rcases slice_form (.inl e') hx with⟨El,rfl,_⟩|⟨ad,cap,El,rfl,_⟩|⟨ad,cap,El,rfl,rfl,_⟩
     ·rcases Sn hq with⟨_,hq⟩|⟨_,hq⟩
      ·exact⟨_,none,0,0,hq,El,.inl rfl⟩
      ·rcases Sn hq with⟨hb,_⟩|⟨_,hq⟩
       ·exact absurd (of_decide_eq_true hb) (by omega)
       ·exact⟨_,none,0,0,hq,El,.inr rfl⟩
     ·rcases Sn hq with⟨hz,_⟩|⟨_,hq⟩
      ·cases hz
      ·rcases Sn hq with⟨_,hq⟩|⟨_,hq⟩
       ·exact⟨_,some ad,n,cap,hq,El,.inl rfl⟩
       ·exact⟨_,some ad,n,cap,hq,El,.inr rfl⟩
     ·rcases Sn hq with⟨hz,_⟩|⟨_,hq⟩
      ·cases hz
      ·rcases Sn hq with⟨hb,_⟩|⟨_,hq⟩
       ·exact absurd (of_decide_eq_true hb) (by omega)
       ·exact⟨_,some ad,0,cap,hq,El,.inr rfl⟩
    ·rename_i id es off n e';rw[e'] at hx;rcases hx with⟨_,_,rfl,ad,El⟩|⟨b,ob,y',cap,_,El,_⟩
     ·rcases Sn hq with⟨hb,_⟩|⟨_,hq⟩
      ·exact absurd (of_decide_eq_true hb) (by omega)
      ·exact⟨_,ad,0,0,hq,El,.inr rfl⟩
     ·rcases Sn hq with⟨_,hq⟩|⟨_,hq⟩
      ·exact⟨_,_,n,cap,hq,El,.inl rfl⟩
      ·exact⟨_,_,n,cap,hq,El,.inr rfl⟩
    ·cases hq
   split at hk
   ·rename_i hy;obtain⟨q,ad,n,c,hk,El,hb⟩:=nilQ hk;rcases hb with rfl|rfl
    ·refine⟨_,hk,D2 (D5 _ ?_)⟩;cases ad<;>simp[eqGuard,binOp,El,Dv h hy,DH hu]
    ·refine⟨_,hk,De (val:=.bool ad.isNone) (D5 _ ?_) (A8.ub _) (by intro i hi;cases hi)⟩
     simp[eqGuard,binOp,El,Dv h hy,DH hu]
   ·rename_i hy;obtain⟨q,ad,n,c,hk,El,hb⟩:=nilQ hk;rcases hb with rfl|rfl
    ·refine⟨_,hk,D2 (D5 _ ?_)⟩;cases ad<;>simp[eqGuard,binOp,El,Dv h hy,DH hu]
    ·refine⟨_,hk,De (val:=.bool !ad.isNone) (D5 _ ?_) (A8.ub _) (by intro i hi;cases hi)⟩
     simp[eqGuard,binOp,El,Dv h hy,DH hu]
   ·cases hk
  ·cases hk
end
open Go.RowKit
section
variable {R:Type} {r:R} {P:Program} {N:Nat} {w0:World} {X0:Gg} {Y:Nat->Prop} {β β':Bt} {s:St} {a:Act} {w w':World} {o:Oper} {A:Nat->Prop}
theorem BU:∀{c:List PV}{l:List UInt8},bytesOf c=some l->∃ns:List Int,c=ns.map (fun n=>.sc (.int .u8 n))∧l=ns.map fun n=>n.toNat.toUInt8
 |[],l,h=>⟨[],rfl,by simp[bytesOf] at h;subst h;rfl⟩
 |p::c,l,h=>by
  unfold bytesOf at h;split at h
  ·rename_i e;cases e
  ·rename_i n r e;cases e;cases hr:bytesOf c with
   |none=>rw[hr] at h;cases h
   |some l'=>
    rw[hr] at h;simp at h;obtain⟨ns,rfl,rfl⟩:=BU hr;exact⟨n::ns,rfl,h.symm⟩
  ·cases h
theorem Zp:∀(ns:List Int)(b:ByteArray),ns.foldl (fun r n=>r.push (UInt8.ofNat n.toNat)) b=⟨b.data++(ns.map fun n=>n.toNat.toUInt8).toArray⟩
 |[],b=>by simp
 |n::ns,b=>by
  simp only[List.foldl_cons];rw[Zp ns];simp[ByteArray.push]
theorem Ahc (h:Ch N w0 X0 Y β s a w){es:Nat}{x:Operand}{K:Nat->List PV->Option R}(hk:Akl (Oz s.hp) es (C8 s.tm x) K=some r):
  ∃n c,K n c=some r∧(((∃ad,a.eval x=.slice ad 0 0)∧n=0∧c=[])∨∃ad cap,a.eval x=.slice (some ad) n cap∧n<=cap∧(c=[]∨ad.block<w.heap.size)∧XP w (Du s.hp β Y) ad c):=by
 have hx:=Ec h x;have XI:=Hp h x;unfold Akl at hk;split at hk
 ·rename_i id es' off n e;rw[e] at hx XI;cases hb:Nat.beq es' es
  ·rw[hb] at hk;cases hk
  ·rw[hb] at hk;obtain⟨c,hc,hk⟩:=D7 (show F6 _ _=some r from hk)
   obtain⟨hl,hk⟩:=A3 hk;have hl:=of_decide_eq_true hl;obtain⟨f,Apy⟩:=Ad7 hc;refine⟨_,_,hk,?_⟩;rcases hx with⟨_,rfl,rfl,ad,El⟩|⟨b,ob,y,cap,hβ,El,hy,hn,_,Cq⟩
   ·exact .inl ⟨⟨ad,El⟩,rfl,by simp⟩
   ·refine .inr ⟨_,cap,El,hn,.inr Cq,fun j p hj=>?_⟩
    have Azp:0<n*es:=by
     rcases Nat.eq_zero_or_pos (n*es) with h0|h0
     ·rw[h0] at hj;simp at hj
     ·exact h0
    have SA:n≠0:=by rintro rfl;simp at Azp
    have hy:y=ob+off:=by rcases hy with hy|⟨h0,_⟩<;>omega
    subst hy;rw[List.getElem?_take] at hj;split at hj
    ·rw[List.getElem?_drop] at hj;rcases h.box id _ Apy with⟨h1,_⟩|⟨b',o',h1,h2,_⟩
     ·rw[hβ] at h1;cases h1
     ·rw[hβ] at h1;simp at h1;obtain⟨rfl,rfl⟩:=h1
      obtain⟨v,hv,h3,ht⟩:=h2 (off+j) p hj;rw[Fn] at hv;exact⟨v,by rw[Fn,Nat.add_assoc];exact hv,h3,ht⟩
    ·cases hj
 ·obtain⟨z,n,c,hk,hp⟩:=Ik hk;refine⟨n,c,hk,?_⟩;rcases slice_form hp hx with h1|⟨ad,cap,El,_,hn,h1,h2,_,h4⟩|⟨ad,cap,El,_,rfl,rfl⟩
  ·exact .inl ⟨⟨none,h1.1⟩,h1.2⟩
  ·exact .inr ⟨ad,cap,El,hn,.inr h2,h4⟩
  ·exact .inr ⟨ad,cap,El,Nat.zero_le _,.inl rfl,fun j c hj=>by simp at hj⟩
theorem Aoj (b:ByteArray)(j:Nat)(p:PV)(h:(Ew b)[j]?=some p):∃x,b.data[j]?=some x∧p=.sc (.int .u8 x.toNat):=by
 unfold Ew at h;rw[List.getElem?_map] at h;cases hx:b.data.toList[j]? with
 |none=>rw[hx] at h;cases h
 |some x=>
  rw[hx] at h;simp at h;exact⟨x,by simpa using hx,h.symm⟩
theorem Akc (h:Ch N w0 X0 Y β s a w){src dst:TypeId}{x:Operand}(ho:o.op=.convert src dst x){d:Nat}{K:PV->List (Nat × Cb)->Option R}
  (hk:UX P (Oz s.hp) d src dst (C8 s.tm x) K=some r):∃v nw,K v nw=some r∧Gu P a w o Y β s v [] nw:=by
 have D5:∀v w',(convert src dst (a.eval x)).run P w=.ok v w'->(execOp a.eval o).run P w=.ok (.value v) w':=by
  intro v w' hv;unfold execOp;rw[ho];simp[hv]
 unfold UX at hk;split at hk
 ·rename_i k hu;obtain⟨hs,hk⟩:=A3 hk;obtain⟨k',n,hx,hk⟩:=Eo hk;exact⟨_,_,hk,D2 (D5 _ _ (by rw[Dv h hx];obtain⟨ds,hds⟩:=Option.isSome_iff_exists.1 hs;cases ds<;>simp[convert,run_underlying hds,run_underlying hu,Conv.intToInt]))⟩
 ·rename_i hu;split at hk
  ·rename_i hs;obtain⟨b,hx,hk⟩:=Ff hk;exact⟨_,_,hk,D2 (D5 _ _ (by rw[Dv h hx];simp[convert,run_underlying hs,run_underlying hu]))⟩
  ·rename_i e hs;split at hk
   ·rename_i he;obtain⟨n,c,hk,hc⟩:=Ahc h hk;obtain⟨hl,hk⟩:=A3 hk;have hl:=of_decide_eq_true hl;obtain⟨l,hb,hk⟩:=D7 hk;obtain⟨ns,rfl,rfl⟩:=BU hb;refine⟨_,_,hk,D2 (D5 _ _ ?_)⟩;rcases hc with⟨⟨ad,El⟩,rfl,hn⟩|⟨ad,cap,El,_,_,hrd⟩
    ·have:ns=[]:=by simpa using hn
     subst this;rw[El,run_convert_bytes_string w src dst e ad 0 0 hs he hu];cases ad<;>rfl
    ·rw[El,run_convert_bytes_string w src dst e _ _ _ hs he hu]
     have hld:(loadCells ad n).run P w=.ok (ns.map (Value.int .u8)).toArray w:=by
      have:=run_loadCells_list (P:=P) w ad (ns.map (Value.int .u8)) (fun j v hj=>by
       rw[List.getElem?_map] at hj;cases hn:ns[j]? with
       |none=>rw[hn] at hj;cases hj
       |some m=>
        rw[hn] at hj;simp at hj;subst hj;obtain⟨v,hv,_,ht⟩:=hrd j (.sc (.int .u8 m)) (by rw[List.getElem?_map,hn];rfl)
        rw[ht.val] at hv;exact hv)
      simp only[List.length_map] at this hl;rw[hl] at this;exact this
     rw[run_bytesToString w ad n cap ns hld,Zp];simp
   ·cases hk
  ·cases hk
 ·rename_i e hu;split at hk
  ·rename_i he hs;obtain⟨b,hx,hk⟩:=Ff hk;obtain⟨Mo,hk⟩:=A3 hk;have hr:=run_bytes_of_string (P:=P) w src dst e b hs hu he;rw[←Dv h hx] at hr
   have RM:b.size<=grownCap w b.size 0 e:=by
    unfold grownCap;simp[Question.cut]
   have Ahw:(bytesRow b (grownCap w b.size 0 e)).size=grownCap w b.size 0 e:=by
    simp only[bytesRow,Array.size_append,Array.size_map,Array.size_replicate];have:b.data.size=b.size:=rfl;omega
   refine⟨_,_,hk,Xb (c:=bytesRow b (grownCap w b.size 0 e)) (e:=e) (by simp) (D5 _ _ hr) ?_ (fun j p hj=>?_) (.inr ⟨1,b.size,grownCap w b.size 0 e,rfl,rfl,RM,by rw[Ahw];omega⟩)⟩
   ·exact⟨rfl,rfl,rfl,fun i hi=>Below.heap_alloc w.drew _ i hi,by show (w.heap.push _).size=_;simp,_,by show (w.heap.push _)[w.heap.size]?=_;simp;rfl,.inr (Nat.le_refl _)⟩
   ·obtain⟨y,hy,rfl⟩:=Aoj b j p hj;refine⟨.int .u8 y.toNat,?_,rfl,A8.sc _⟩
    have Cq:j<b.data.size:=by
     rcases Nat.lt_or_ge j b.data.size with h|h
     ·exact h
     ·rw[Array.getElem?_eq_none h] at hy;cases hy
    simp only[bytesRow];rw[Array.getElem?_append_left (by simpa using Cq),Array.getElem?_map,hy]
    rfl
  ·cases hk
 ·cases hk
end
open Go.RowKit
section
variable {R:Type} {r:R} {P:Program} {N:Nat} {w0:World} {X0:Gg} {Y:Nat->Prop} {β β':Bt} {s:St} {a:Act} {w w':World} {o:Oper} {A:Nat->Prop}
theorem KL:∀{n:Nat}{l:List PV}{j:Nat}{c:PV},(Wr n l)[j]?=some c->j<n*l.length∧l[j % l.length]?=some c
 |0,l,j,c,h=>by simp[Wr] at h
 |n+1,l,j,c,h=>by
  have e:Wr (n+1) l=l++Wr n l:=by simp[Wr,List.replicate_succ]
  rw[e] at h;by_cases hj:j<l.length
  ·rw[List.getElem?_append_left hj] at h;refine⟨by rw[Nat.add_mul];omega,?_⟩
   rw[Nat.mod_eq_of_lt hj];exact h
  ·rw[List.getElem?_append_right (by omega)] at h
   obtain⟨h1,h2⟩:=KL h;refine⟨by rw[Nat.add_mul];omega,?_⟩
   rw[Nat.mod_eq_sub_mod (by omega)];exact h2
theorem Agc (n:Nat)(l:List PV):(Wr n l).length=n*l.length:=by
 induction n with
 |zero=>simp[Wr]
 |succ n ih=>
  have e:Wr (n+1) l=l++Wr n l:=by simp[Wr,List.replicate_succ]
  rw[e,List.length_append,ih,Nat.add_mul];omega
theorem Af3 {z:Array Value}{n j:Nat}(hj:j<n){v:Value}(hv:z[j % z.size]?=some v):(madeCells z n)[j]?=some v:=by
 unfold madeCells;rw[Array.getElem?_map,Array.getElem?_range,if_pos hj];simp only[Option.map_some];rw[getElem!_def,hv]
theorem Aks (h:Ch N w0 X0 Y β s a w){t:TypeId}{x y:Operand}(ho:o.op=.makeSlice t x y){d:Nat}{K:PV->List Nat->List (Nat × Cb)->Option R}
  (hk:(match P.underlying t with
   |some (.slice e)=>E9 (C8 s.tm x) fun _ n=>E9 (C8 s.tm y) fun _ m=>
     Aw (decide (0<=n)&&decide (n<=m)&&decide (m*((P.info? e).map (·.bytes)).getD 0<=1099511627776)&&decide (m<=1099511627776))
      (Kr P e fun z=>K (.view d (Bz P e) 0 n.toNat) [] [(d,.ar false (Wr n.toNat z))])
   |_=>none)=some r):∃v fz nw,K v fz nw=some r∧Gu P a w o Y β s v fz nw:=by
 split at hk
 ·rename_i e hu;obtain⟨k1,n,hx,hk⟩:=Eo hk;obtain⟨k2,m,hy,hk⟩:=Eo hk;obtain⟨hb,hk⟩:=A3 hk;simp only[Bool.and_eq_true,decide_eq_true_eq] at hb;obtain⟨⟨⟨h0,hnm⟩,BF⟩,hm⟩:=hb;obtain⟨z,cs,hk,hz,hct,hl,Mo,hc⟩:=Uy hk
  have hzc:∃i,P.info? e=some i∧i.zero=some z:=by
   unfold HQ at hz;cases hi:P.info? e with
   |none=>rw[hi] at hz;cases hz
   |some i=>rw[hi] at hz;exact⟨i,rfl,hz⟩
  obtain⟨i,hi,hzi⟩:=hzc;have A6q:Bz P e=i.size:=by simp[Bz,hi]
  simp only[hi,Option.map_some,Option.getD_some] at BF;have hr:=run_make (P:=P) w t e i z hu hi hzi k1 k2 n m h0 hnm (by rw[Int.mul_comm];omega) (by omega)
  have D5:(execOp a.eval o).run P w=.ok (.value (.slice (some ⟨w.heap.size,0,none⟩) n.toNat m.toNat)) (w.alloc (.cells (madeCells z.cells (m.toNat*i.size)) e)):=by
   unfold execOp;rw[ho];simp[Dv h hx,Dv h hy,hr]
  have hzl:z.cells.size=Bz P e:=by
   have:z.cells.toList.length=z.cells.size:=by simp
   omega
  refine⟨_,_,_,hk,Xb (c:=madeCells z.cells (m.toNat*i.size)) (e:=e) (by simp) D5 (Jk.alloc w _ e) (fun j p hj=>?_) (.inr ⟨Bz P e,n.toNat,m.toNat,rfl,rfl,by omega,by rw[size_madeCells,A6q];exact Nat.le_refl _⟩)⟩
  obtain⟨h1,h2⟩:=KL hj;obtain⟨hT,u,Nu,ZM,hv⟩:=hc _ p h2;refine⟨u,Af3 ?_ ?_,ZM,hv _ _⟩
  ·have:n.toNat*cs.length<=m.toNat*i.size:=by
    rw[Mo,A6q];exact Nat.mul_le_mul_right _ (by omega)
   omega
  ·rw[hzl,←Mo]
   simpa using Nu
 ·cases hk
theorem Apj {p:PV}{v:Value}(hp:okP p=true)(hv:Et w A β p v):B8 (Cu w A β) (cellsOf p) v.cells.toList:=by
 have one:v.oneCell'=true->Cu w A β p v->(∀x,p ≠ .agg x)->B8 (Cu w A β) (cellsOf p) v.cells.toList:=by
  intro h1 h2 h3;have:cellsOf p=[p]:=by cases p<;>first|rfl|exact absurd rfl (h3 _)
  rw[this,Ss h1];exact⟨h2,trivial⟩
 unfold okP at hp;split at hp
 ·obtain⟨vs,rfl,h2⟩:=hv;exact h2
 ·refine one ?_ hv (by simp)
  have U5:A8 w A _ v:=hv;cases U5<;>rfl
 ·refine one ?_ hv (by simp)
  rcases hv with⟨_,_,_,_,rfl⟩|⟨_,_,_,_,_,rfl,_⟩<;>rfl
 ·have:=Mw hv;subst this;exact one rfl hv (by simp)
 ·have:=Mw hv;subst this;exact one rfl hv (by simp)
 ·have:=Mw hv;subst this;exact one rfl hv (by simp)
 ·have:=Mw hv;subst this;exact one rfl hv (by simp)
 ·cases hp
theorem Amb:∀(vs:List Value)(k off:Nat)(cells:Array Value),off+k+vs.length<=cells.size ->
  ((vs.zipIdx k).foldl (fun cs (q:Value × Nat)=>cs.setIfInBounds (off+q.2) q.1) cells).toList=cells.toList.take (off+k)++vs++cells.toList.drop (off+k+vs.length)
 |[],k,off,cells,_=>by simp
 |v::vs,k,off,cells,h=>by
  simp only[List.zipIdx_cons,List.foldl_cons,List.length_cons] at h ⊢;rw[Amb vs (k+1) off _ (by simp;omega)]
  have Cq:off+k<cells.toList.length:=by simp;omega
  simp only[Array.toList_setIfInBounds];rw[show off+(k+1)=off+k+1 from by omega,List.take_succ_eq_append_getElem (by simpa using Cq)]
  rw[List.getElem_set_self,List.take_set_of_le (Nat.le_refl _),List.drop_set_of_lt (by omega)]
  simp only[List.append_assoc,List.cons_append,List.nil_append];rw[show off+k+1+vs.length=off+k+(vs.length+1) from by omega]
theorem SU (h:Ch N w0 X0 Y β s a w){Kk:Nat->Option (Nat × Nat)}:∀{parts:List (Nat × Operand)} {pc:List PV}{vc:Array Value}{K:List PV->Option R},
  AQ Kk (parts.map fun q=>(q.1,C8 s.tm q.2)) pc K=some r->B8 (Cu w (Du s.hp β Y) β) pc vc.toList->(∀c∈pc,∀id∈A7 c,s.hp id≠none) ->
  ∃pc' vc',K pc'=some r∧Instr.fill Kk vc (parts.map fun q=>(q.1,a.eval q.2))=some vc'∧B8 (Cu w (Du s.hp β Y) β) pc' vc'.toList∧pc'.length=pc.length∧∀c∈pc',∀id∈A7 c,s.hp id≠none
 |[],pc,vc,K,hk,hv,hr=>⟨pc,vc,hk,rfl,hv,rfl,hr⟩
 |(i,x)::parts,pc,vc,K,hk,hv,hr=>by
  simp only[List.map_cons] at hk;unfold AQ at hk;obtain⟨⟨off,size⟩,QM,hk⟩:=D7 hk;obtain⟨hb,hk⟩:=A3 hk;simp only[Bool.and_eq_true] at hb;obtain⟨⟨hok,Mo⟩,EU⟩:=hb;have Mo:(cellsOf (C8 s.tm x)).length=size:=Nat.eq_of_beq_eq_true Mo;have EU:off+size<=pc.length:=Nat.le_of_ble_eq_true EU;have hxc:=Apj hok (Ec h x);have hxl:=hxc.len;have hvl:=hv.len;have V4:vc.toList.length=vc.size:=by simp
  have hcs:(a.eval x).cells.toList.length=(a.eval x).cells.size:=by simp
  have EE:=Amb (a.eval x).cells.toList 0 off vc (by omega)
  simp only[Nat.add_zero] at EE
  have A65:((a.eval x).cells.zipIdx.foldl (fun cs (q:Value × Nat)=>cs.setIfInBounds (off+q.2) q.1) vc).toList=vc.toList.take off++(a.eval x).cells.toList++vc.toList.drop (off+(a.eval x).cells.toList.length):=by
   rw[←EE,←Array.foldl_toList];simp
  obtain⟨pc',vc',hk,hf,h2,hl,hr'⟩:=SU h (pc:=B4 pc (cellsOf (C8 s.tm x)) off) (vc:=(a.eval x).cells.zipIdx.foldl (fun cs (q:Value × Nat)=>cs.setIfInBounds (off+q.2) q.1) vc) hk (by
    rw[A65,←hxl];exact (((hv.take off).app hxc).app (hv.drop _))) (by
    intro c hc id B6;unfold B4 at hc;rcases List.mem_append.1 hc with hc|hc
    ·rcases List.mem_append.1 hc with hc|hc
     ·exact hr c (List.mem_of_mem_take hc) id B6
     ·refine Hp h x id ?_;cases hp:C8 s.tm x with
      |agg cs=>rw[hp] at hc;exact List.mem_flatMap.2 ⟨c,hc,B6⟩
      |tup cs=>rw[hp] at hc;simp[cellsOf] at hc;subst hc;cases B6
      |_=>rw[hp] at hc;simp[cellsOf] at hc;subst hc;exact B6
    ·exact hr c (List.mem_of_mem_drop hc) id B6)
  refine⟨pc',vc',hk,?_,h2,?_,hr'⟩
  ·simp only[List.map_cons,Instr.fill,QM];rw[if_neg (by simp;omega)]
   exact hf
  ·rw[hl];simp[B4];omega
theorem Aev {t:TypeId}{z:Value}{cs:List PV}(hl:cs.length=z.cells.toList.length)(hc:∀(j:Nat) c,cs[j]?=some c->FJ c∧∃u,z.cells.toList[j]?=some u∧u.oneCell'=true∧∀(w:World)(A:Nat->Prop),A8 w A c u) (_ht:HQ P t=some z):
  B8 (Cu w A β) cs z.cells.toList∧∀c∈cs,A7 c=[]:=by
 refine⟨B8.of_at hl fun i c u hci hu=>?_,fun c hcm=>?_⟩
 ·obtain⟨hT,u',Nu,_,hv⟩:=hc i c hci;rw[hu] at Nu;cases Nu;exact (Qq hT).2 (hv _ _)
 ·obtain⟨j,hj⟩:=List.mem_iff_getElem?.1 hcm;exact Ll (hc j c hj).1
theorem SP:∀{fs:List Field},(fs.all fun f=>UK P f.type)=true->fs.mapM (fun f=>(P.info? f.type).map fun i=>(f.offset,i.size))=some (fs.map fun f=>(f.offset,Bz P f.type))
 |[],_=>rfl
 |f::fs,h=>by
  simp only[List.all_cons,Bool.and_eq_true] at h;obtain⟨i,hi⟩:=Option.isSome_iff_exists.1 h.1;simp[List.mapM_cons,hi,SP h.2,Bz]
theorem GX {p q:Nat->Option (Nat × Nat)} (h:∀i,p i=q i)(cells:Array Value)(parts:List (Nat × Value)):Instr.fill p cells parts=Instr.fill q cells parts:=by
 have:p=q:=funext h;rw[this]
theorem Ae1 (h:Ch N w0 X0 Y β s a w){t:TypeId}{ps:Array (Nat × Operand)} (ho:o.op=.build t ps){K:PV->Option R}
  (hk:(Aw (Wi P t&&C6 P t)<|Kr P t fun z=>AQ (Zc P t) (ps.toList.map fun q=>(q.1,C8 s.tm q.2)) z fun cs=>Vr (L8 P t) cs 0 fun cs'=>K (.agg cs'))=some r):∃v,K v=some r∧Gu P a w o Y β s v [] []:=by
 obtain⟨QM,hk⟩:=A3 hk;simp only[Bool.and_eq_true] at QM;obtain⟨QM,Jc⟩:=QM;obtain⟨z,cs,hk,hz,hct,hl,Mo,hc⟩:=Uy hk;obtain⟨hzr,UH⟩:=Aev (w:=w) (A:=Du s.hp β Y) (β:=β) hl hc hz;obtain⟨pc',vc',hk,hf,h2,Pn,hr'⟩:=SU h hk hzr (fun c hcm id B6=>by rw[UH c hcm] at B6;cases B6)
 obtain⟨qs,hk,hql,MP,hq⟩:=CH hk
 have A22:P.built t (ps.toList.map fun q=>(q.1,a.eval q.2))=some vc':=by
  have hzi:∃i,P.info? t=some i∧i.zero=some z:=by
   unfold HQ at hz;cases hi:P.info? t with
   |none=>rw[hi] at hz;cases hz
   |some i=>rw[hi] at hz;exact⟨i,rfl,hz⟩
  obtain⟨i,hi,hzi⟩:=hzi;unfold Wi at QM;unfold Program.built;split at QM
  ·rename_i fs hu
   have hf':Instr.fill (((fs.toList.map fun f=>(f.offset,Bz P f.type)).toArray)[·]?) z.cells (ps.toList.map fun q=>(q.1,a.eval q.2))=some vc':=by
    rw[←hf];refine GX (fun j=>?_) _ _
    simp[Zc,hu]
   simp only[hi,hu,hzi,SP QM];exact hf'
  ·rename_i n e hu;obtain⟨ie,hie⟩:=Option.isSome_iff_exists.1 QM
   have hf':Instr.fill (fun j=>some (j*ie.size,ie.size)) z.cells (ps.toList.map fun q=>(q.1,a.eval q.2))=some vc':=by
    rw[←hf];refine GX (fun j=>?_) _ _
    simp[Zc,hu,Bz,hie]
   simp only[hi,hu,hzi,hie];exact hf'
  ·rename_i e hu;simp[C6,hu] at Jc
  ·cases QM
 refine⟨_,hk,De (val:=.agg vc') ?_ ⟨vc'.toList,rfl,?_⟩ ?_⟩
 ·unfold execOp;rw[ho];have:=run_build (P:=P) w t (ps.map fun q=>(q.1,a.eval q.2)) vc' (by simpa using A22)
  simp[this]
 ·refine B8.of_at (by have:=h2.len;omega) fun j c u hcj hu=>?_
  obtain⟨p,hp,_,_,HM⟩:=hq j c hcj;rw[Nat.zero_add] at hp;exact (HM _ _ _ _ (h2.at_ hp hu)).1
 ·intro id B6;obtain⟨c,hcm,B6⟩:=List.mem_flatMap.1 (show id∈qs.flatMap A7 from B6)
  obtain⟨j,hj⟩:=List.mem_iff_getElem?.1 hcm;obtain⟨p,hp,_,hpr,_⟩:=hq j c hj;rw[Nat.zero_add] at hp;exact hr' p (List.mem_of_getElem? hp) id (hpr id B6)
end
open Go.RowKit
section
variable {R:Type} {r:R} {P:Program} {N:Nat} {w0:World} {X0:Gg} {Y:Nat->Prop} {β β':Bt} {s:St} {a:Act} {w w':World} {o:Oper} {A:Nat->Prop}
theorem Akg (h:Ch N w0 X0 Y β s a w){fz:List Nat}(NL:∀id∈fz,∃f c,s.hp id=some (.ar f c)) {id:Nat}(hm:id∈fz){f:Bool}{c:List PV}(hb:s.hp id=some (.ar f c)) {b ob:Nat}(hβ:β id=some (b,ob)):
  ¬Du (Ak s.hp fz) β Y b∧XP w (Du (Ak s.hp fz) β Y) ⟨b,ob,none⟩ c∧b<w.heap.size:=by
 have hf:=h.freeze NL;have he:Ak s.hp fz id=some (.ar true c):=by rw[Cz,if_pos hm,hb];rfl
 rcases hf.box id _ he with⟨h1,_⟩|⟨b',o',h1,h2,_,h4⟩
 ·rw[hβ] at h1;cases h1
 ·rw[hβ] at h1;simp at h1;obtain⟨rfl,rfl⟩:=h1;exact⟨h4 rfl,h2,h.blt id b ob (by rw[hb];simp) hβ⟩
theorem An8 (h:Ch N w0 X0 Y β s a w){fz:List Nat}(NL:∀id∈fz,∃f c,s.hp id=some (.ar f c)) {id es off n:Nat}(hm:id∈fz){f:Bool}{c:List PV}(hb:s.hp id=some (.ar f c)) {v:Value}
  (hv:Cu w (Du s.hp β Y) β (.view id es off n) v):A8 w (Du (Ak s.hp fz) β Y) (.lst false es n ((c.drop off).take (n*es))) v:=by
 rcases hv with⟨_,rfl,rfl,ad,rfl⟩|⟨b,ob,y,cap,hβ,rfl,hy,hn,_,Cq⟩
 ·simp only[Nat.zero_mul,List.take_zero];cases ad with
  |none=>exact A8.lnil false es
  |some p=>exact A8.lemp es p 0
 ·obtain⟨h1,h2,_⟩:=Akg h NL hm hb hβ;by_cases SA:n*es=0
  ·rw[SA,List.take_zero];exact A8.lst es n [] ⟨b,y,none⟩ cap (fun _=>undef) rfl Cq h1 hn (by simp) (by simp) (by simp)
  ·have hy:y=ob+off:=by
    rcases hy with hy|⟨h0,_⟩
    ·exact hy
    ·rw[h0] at SA;simp at SA
   subst hy
   have hcell:∀(j:Nat) q,((c.drop off).take (n*es))[j]?=some q->c[off+j]?=some q:=by
    intro j q hq;rw[List.getElem?_take] at hq;split at hq
    ·rw[List.getElem?_drop] at hq;exact hq
    ·cases hq
   refine A8.lst es n _ ⟨b,ob+off,none⟩ cap (fun j=>(w.cell? ⟨b,ob+off+j,none⟩).getD undef) rfl Cq h1 hn (fun j q hq=>?_) (fun j q hq=>?_) (fun j q hq=>?_)
   ·obtain⟨v,hv,_⟩:=h2 _ q (hcell j q hq);rw[Fn,←Nat.add_assoc] at hv;rw[Fn,hv];rfl
   ·obtain⟨v,hv,h3,_⟩:=h2 _ q (hcell j q hq);rw[Fn,←Nat.add_assoc] at hv;rw[hv];exact h3
   ·obtain⟨v,hv,_,ht⟩:=h2 _ q (hcell j q hq);rw[Fn,←Nat.add_assoc] at hv;rw[hv];exact ht
theorem A8.zf {A:Nat->Prop}{z:Bool}{es n:Nat}{c:List PV}{v:Value}(h:A8 w A (.lst z es n c) v):A8 w A (.lst false es n c) v:=by
 cases h with
 |lnil=>exact .lnil _ _
 |lemp=>exact .lemp _ _ _
 |lst _ _ _ a cap f hs hb hA hn hc h1 hr=>exact .lst _ _ _ a cap f hs hb hA hn hc h1 hr
theorem WR (h:Ch N w0 X0 Y β s a w){t:CT}{p:PV}{K:PV->List Nat->Option R}(hk:Ug (Oz s.hp) t p K=some r):
  ∃c m,K c m=some r∧FJ c∧XN p∧(∀id∈m,∃f cc,s.hp id=some (.ar f cc))∧∀fz:List Nat,(∀id∈m,id∈fz)->(∀id∈fz,∃f cc,s.hp id=some (.ar f cc))->∀v,Cu w (Du s.hp β Y) β p v->A8 w (Du (Ak s.hp fz) β Y) c v∧v.oneCell'=true:=by
 have tree:∀t',(NI t' p fun c=>K c [])=some r->∃c m,K c m=some r∧FJ c∧XN p∧(∀id∈m,∃f cc,s.hp id=some (.ar f cc))∧∀fz:List Nat,(∀id∈m,id∈fz)->(∀id∈fz,∃f cc,s.hp id=some (.ar f cc))->∀v,Cu w (Du s.hp β Y) β p v->A8 w (Du (Ak s.hp fz) β Y) c v∧v.oneCell'=true:=by
  intro t' hk;obtain⟨c,hk,hT,SK,hv⟩:=R8 hk;refine⟨c,[],hk,hT,Y6 SK,by simp,fun fz _ NL v HM=>?_⟩
  obtain⟨h1,h2⟩:=hv _ _ _ _ HM;exact⟨h1.step (C2.refl _ _) (fun b _ hb=>hb.imp Xg id),h2⟩
 cases t with
 |sl es=>
  unfold Ug at hk;dsimp only at hk;split at hk
  ·rename_i id es' off n;cases hb:Nat.beq es' es
   ·rw[hb] at hk;cases hk
   ·rw[hb] at hk;have:=Nat.eq_of_beq_eq_true hb;subst this;obtain⟨c,hc,hk⟩:=D7 (show F6 _ _=some r from hk)
    obtain⟨_,hk⟩:=A3 hk;obtain⟨f,Ow⟩:=Ad7 hc;refine⟨_,[id],hk,trivial,trivial,?_,fun fz hm NL v hv=>⟨An8 h NL (hm id (by simp)) Ow hv,?_⟩⟩
    ·intro i hi;simp at hi;subst hi;exact⟨f,c,Ow⟩
    ·rcases hv with⟨_,_,_,_,rfl⟩|⟨_,_,_,_,_,rfl,_⟩<;>rfl
  ·obtain⟨z,n,c,hk,hp⟩:=Ik hk;refine⟨_,[],hk,trivial,?_,by simp,fun fz _ NL v HM=>?_⟩
   ·rcases hp with rfl|⟨rfl,_⟩<;>trivial
   ·have ht:=GP hp HM;refine⟨A8.zf (ht.step (C2.refl _ _) (fun b _ hb=>hb.imp Xg id)),?_⟩
    cases ht<;>rfl
 |int k=>exact tree (.int k) hk
 |bool=>exact tree .bool hk
 |str=>exact tree .str hk
 |any=>exact tree .any hk
theorem Xw (h:Ch N w0 X0 Y β s a w):∀{ts:List CT}{ps:List PV}{K:List PV->List Nat->Option R},Tz (Oz s.hp) ts ps K=some r ->
  ∃cs m,K cs m=some r∧cs.length=ts.length∧ps.length=ts.length∧(∀c∈cs,FJ c)∧(∀p∈ps,XN p)∧(∀id∈m,∃f cc,s.hp id=some (.ar f cc)) ∧
   ∀fz:List Nat,(∀id∈m,id∈fz)->(∀id∈fz,∃f cc,s.hp id=some (.ar f cc))->∀vs,B8 (Cu w (Du s.hp β Y) β) ps vs->B8 (A8 w (Du (Ak s.hp fz) β Y)) cs vs∧∀v∈vs,v.oneCell'=true
 |[],[],K,hk=>⟨[],[],hk,rfl,rfl,by simp,by simp,by simp,fun fz _ _ vs hv=>by
   cases vs with
   |nil=>exact⟨trivial,by simp⟩
   |cons v vs=>exact hv.elim⟩
 |[],_::_,K,hk=>by cases hk
 |_::_,[],K,hk=>by cases hk
 |t::ts,p::ps,K,hk=>by
  unfold Tz at hk;obtain⟨c,m,hk,hT,hF,hm,hv⟩:=WR h hk;obtain⟨cs,ms,hk,hl,Pn,hTs,hFs,WQ,V4⟩:=Xw h hk;refine⟨c::cs,m++ms,hk,by simp[hl],by simp[Pn],?_,?_,?_,fun fz hfm NL vs h2=>?_⟩
  ·intro x hx;rcases List.mem_cons.1 hx with rfl|hx
   ·exact hT
   ·exact hTs x hx
  ·intro x hx;rcases List.mem_cons.1 hx with rfl|hx
   ·exact hF
   ·exact hFs x hx
  ·intro x hx;rcases List.mem_append.1 hx with hx|hx
   ·exact hm x hx
   ·exact WQ x hx
  ·cases vs with
   |nil=>exact h2.elim
   |cons v vs=>
    obtain⟨h3,h4⟩:=hv fz (fun i hi=>hfm i (by simp[hi])) NL v h2.1
    obtain⟨h5,h6⟩:=V4 fz (fun i hi=>hfm i (by simp[hi])) NL vs h2.2
    refine⟨⟨h3,h5⟩,?_⟩;intro x hx;rcases List.mem_cons.1 hx with rfl|hx
    ·exact h4
    ·exact h6 x hx
theorem Ap0 {R':PV->Value->Prop}{cs:List PV}{z:Array Value}(h:B8 R' cs z.toList)(n:Nat):B8 R' (Wr n cs) (madeCells z (n*cs.length)).toList:=by
 have hzl:z.size=cs.length:=by have:=h.len;simp at this;exact this.symm
 refine B8.of_at ?_ fun j c v hc hv=>?_
 ·rw[Agc];simp[size_madeCells]
 ·obtain⟨h1,h2⟩:=KL hc
  have Cq:j % cs.length<cs.length:=by
   rcases Nat.lt_or_ge (j % cs.length) cs.length with h|h
   ·exact h
   ·rw[List.getElem?_eq_none h] at h2;cases h2
  obtain⟨u,hu,hcu⟩:=h.get h2;have:(madeCells z (n*cs.length))[j]?=some u:=Af3 h1 (by rw[hzl];simpa using hu)
  have U5:(madeCells z (n*cs.length))[j]?=some v:=by simpa using hv
  rw[this] at U5;cases U5;exact hcu
theorem NZ (h:Ch N w0 X0 Y β s a w){t:TypeId}{n:Nat}{ps:Array (Nat × Operand)} (ho:o.op=.buildSlice t n ps){d:Nat}{K:PV->List Nat->List (Nat × Cb)->Option R}
  (hk:(match P.underlying t with
   |some (.slice e)=>Aw (Wi P t&&Nat.ble (n*Bz P e) 16777216) (Kr P e fun z=>AQ (Zc P t) (ps.toList.map fun q=>(q.1,C8 s.tm q.2)) (Wr n z) fun cs=>
     Tz (Oz s.hp) (List.replicate n (L8 P e)).flatten cs fun cs' m=>K (.view d (Bz P e) 0 n) m [(d,.ar false cs')])
   |_=>none)=some r):∃v fz nw,K v fz nw=some r∧Gu P a w o Y β s v fz nw:=by
 split at hk
 ·rename_i e hu;obtain⟨hb,hk⟩:=A3 hk;simp only[Bool.and_eq_true] at hb;have EU:n*Bz P e<=16777216:=Nat.le_of_ble_eq_true hb.2;have Vu:(P.info? e).isSome=true:=by have:=hb.1;unfold Wi at this;rw[hu] at this;exact this
  obtain⟨z,cs,hk,hz,hct,hl,Mo,hc⟩:=Uy hk;obtain⟨hzr,UH⟩:=Aev (w:=w) (A:=Du s.hp β Y) (β:=β) hl hc hz;have Bca:=Ap0 hzr n
  obtain⟨pc',vc',hk,hf,h2,Pn,hr'⟩:=SU h hk Bca (fun c hcm id B6=>by
   obtain⟨j,hj⟩:=List.mem_iff_getElem?.1 hcm;obtain⟨_,hg⟩:=KL hj;rw[UH c (List.mem_of_getElem? hg)] at B6;cases B6)
  obtain⟨qs,m,hk,hql,QM,hqT,_,hm,hqv⟩:=Xw h hk;obtain⟨h3,h3'⟩:=hqv m (fun _ hi=>hi) hm _ h2
  have hf':Instr.fill (fun i=>some (i*Bz P e,Bz P e)) (madeCells z.cells (n*cs.length)) (ps.toList.map fun q=>(q.1,a.eval q.2))=some vc':=by
   rw[←hf];refine GX (fun i=>?_) _ _
   simp[Zc,hu]
  have hvl:vc'.size=n*Bz P e:=by
   have h4:=h2.len;rw[Pn,Agc] at h4;simp at h4;rw[←h4,Mo]
  have D5:(execOp a.eval o).run P w=.ok (.value (.slice (some ⟨w.heap.size,0,none⟩) n n)) (w.alloc (.cells vc' e)):=by
   unfold execOp;rw[ho];have A7d:¬(n*Bz P e>2 ^ 24):=by omega
   rw[Mo] at hf';by_cases SA:n*Bz P e=0
   ·simp only[Instr.buildSlice,Sem.run_bind,run_underlying hu,Result.andThen_ok,D4 Vu,if_neg A7d,SA];rw[SA] at hf';have e0:madeCells z.cells 0=(Array.range 0).map (fun _=>default):=by simp[madeCells]
    rw[e0] at hf';simp[hf',newRow]
   ·simp only[Instr.buildSlice,Sem.run_bind,run_underlying hu,Result.andThen_ok,D4 Vu,if_neg A7d,if_neg SA,FX hz];unfold madeCells at hf';simp[hf',newRow]
  refine⟨_,_,_,hk,Xb (c:=vc') (e:=e) hm D5 (Jk.alloc w vc' e) (fun j p hj=>?_) (.inr ⟨Bz P e,n,n,rfl,rfl,Nat.le_refl _,by rw[hvl];exact Nat.le_refl _⟩)⟩
  obtain⟨u,Nu,hp⟩:=h3.get hj;exact⟨u,by simpa using Nu,h3' u (List.mem_of_getElem? Nu),hp⟩
 ·cases hk
end
end
end Go.Proofs.YtpogefhpiaaliaaGreatDoor.Pv
