/-
  The proof of MetadataBack, part 1.
-/
import Derived.Orders
import Derived.LoopN
import Derived.Below
import Derived.Lib.ValidU
import Derived.Lib.Bytealg
import Derived.IntWalk
import Derived.WalkKit
import Derived.WalkLawsBesides
import Derived.Laws.IdiomStrings
import Derived.Laws.MakeOwn
import Derived.Laws.Tables
set_option linter.unusedSimpArgs false
set_option linter.unusedVariables false
namespace Go.Proofs.YtpogefhpiaaliaaGreatDoor.Pv
section
inductive PV where
 |sc (v:Value)
 |lst (z:Bool) (es n:Nat) (cells:List PV)
 |own (es n:Nat) (cells:List PV)
 |view (id es off n:Nat)
 |ptr (id off:Nat)
 |iptr (cells:List PV) (off:Nat)
 |pbox (cells:List PV)
 |agg (cells:List PV)
 |tup (vs:List PV)
 |top
 |ub
inductive Bx where
 |st (cells:List PV)
 |ar (fz:Bool) (cells:List PV)
 |mv
structure St where
 tm:Nat->PV
 hp:Nat->Option Bx
structure A5 where
 vals:List PV
 outs:List (List PV)
structure Ji where
 shr:FuncId->Bool
 mvd:FuncId->Nat->Bool
 lnd:FuncId->Nat->Bool
 kz:FuncId->Bool
 ext:FuncId->Option (List PV->Option A5)
def Ji.core (C:Ji):Ji:={ C with ext:=fun _=>none }
def Dd {α:Type}(f:Nat->α)(i:Nat)(v:α):Nat->α:=fun j=>bif Nat.beq j i then v else f j
def rd (hp:Nat->Option Bx)(id:Nat):Option (List PV):=
 match hp id with
 |some (.st c)=>some c
 |some (.ar _ c)=>some c
 |_=>none
def Ny (hp:Nat->Option Bx)(id:Nat):Option (List PV):=
 match hp id with
 |some (.ar _ c)=>some c
 |_=>none
inductive CT where
 |int (k:IntKind)
 |bool
 |str
 |sl (es:Nat)
 |any
def Bm (P:Program)(t:TypeId):Nat:=((P.info? t).map (·.size)).getD 0
def Cx (P:Program)(t:TypeId):Bool:=
 match P.underlying t with
 |some (.struct _)=>true
 |some (.array _ _)=>true
 |_=>false
def Azg (P:Program):Nat->TypeId->List CT
 |0,_=>[]
 |d+1,t=>
  match P.underlying t with
  |some (.int k)=>[.int k]
  |some .bool=>[.bool]
  |some .string=>[.str]
  |some (.slice e)=>[.sl (Bm P e)]
  |some (.struct fs)=>fs.toList.flatMap fun f=>Azg P d f.type
  |some (.array n e)=>(List.replicate n (Azg P d e)).flatten
  |_=>[.any]
abbrev K5 (P:Program)(t:TypeId):List CT:=Azg P 9 t
def Mg (P:Program)(t:TypeId):Bool:=(P.underlying t).isSome&&Nat.beq (K5 P t).length (Bm P t)
abbrev X3 (k:IntKind)(a b:Int):Int:=k.wrap (BitVec.ofInt k.bits a &&& BitVec.ofInt k.bits b).toNat
abbrev YE (k:IntKind)(a b:Int):Int:=k.wrap (BitVec.ofInt k.bits a ||| BitVec.ofInt k.bits b).toNat
abbrev E5 (k:IntKind)(a b:Int):Int:=k.wrap (BitVec.ofInt k.bits a ^^^ BitVec.ofInt k.bits b).toNat
abbrev Auf (k:IntKind)(a b:Int):Int:=k.wrap (BitVec.ofInt k.bits a &&& ~~~BitVec.ofInt k.bits b).toNat
abbrev J0 (k:IntKind)(a b:Int):Int:=k.wrap (a*2 ^ (min b.toNat k.bits))
abbrev Is (k:IntKind)(a b:Int):Int:=a.fdiv (2 ^ (min b.toNat k.bits))
abbrev A5g (k:IntKind)(n:Int):Int:=k.wrap (BitVec.ofInt k.bits (if k.signed then -1 else k.max) ^^^ BitVec.ofInt k.bits n).toNat
section
variable {R:Type}
def Ae (k:IntKind)(p:PV)(K:Int->Option R):Option R:=
 match p with
 |.sc (.int k' n)=>if k'=k then K n else none
 |_=>none
def Bv (p:PV)(K:Bool->Option R):Option R:=
 match p with
 |.sc (.bool b)=>K b
 |_=>none
def Iv (p:PV)(K:ByteArray->Option R):Option R:=
 match p with
 |.sc (.string s)=>K s
 |_=>none
def Em (es:Nat)(p:PV)(K:Bool->Nat->List PV->Option R):Option R:=
 match p with
 |.lst z es' n c=>bif Nat.beq es' es then K z n c else none
 |.sc (.slice none 0 0)=>K true 0 []
 |_=>none
def fsK (es:Nat)(p:PV)(K:PV->Option R):Option R:=
 match p with
 |.view id es' off n=>bif Nat.beq es' es then K (.view id es off n) else none
 |p=>Em es p fun z n c=>K (.lst z es n c)
def Gw (es:Nat)(p:PV)(K:Nat->List PV->Option R):Option R:=
 match p with
 |.own es' n c=>bif Nat.beq es' es then K n c else none
 |_=>none
def Ar (b:Bool)(K:Option R):Option R:=bif b then K else none
abbrev Aa {α:Type}(x:α)(K:α->Option R):Option R:=K x
def UW (b:Bool)(x y:Option R):Option R:=bif b then x else y
abbrev A6q (x:Nat)(K:Nat->Option R):Option R:=K x
def Aos (x:List (List Nat)) (K:List (List Nat)->Option R):Option R:=K x
def Bk (b:Bool)(x y:Option R):Option R:=bif b then x else y
def F7 {α:Type}(o:Option α)(K:α->Option R):Option R:=
 match o with
 |some a=>K a
 |none=>none
def Ab {α:Type}(l:List α)(K:α->List α->Option R):Option R:=
 match l with
 |a::r=>K a r
 |[]=>none
def Ac {α:Type}(l:List α)(K:Option R):Option R:=
 match l with
 |[]=>K
 |_::_=>none
def Ft (p:PV)(K:List PV->Option R):Option R:=
 match p with
 |.agg c=>K c
 |_=>none
def BX (p:PV)(K:List PV->Option R):Option R:=
 match p with
 |.pbox c=>K c
 |_=>none
def Aj (r:Option A5)(K:List PV->List (List PV)->Option R):Option R:=
 match r with
 |some ⟨v,o⟩=>K v o
 |none=>none
def fnK (p:PV)(K:Value->Option R):Option R:=
 match p with
 |.sc (.func f a b)=>K (.func f a b)
 |_=>none
def fvK (p:PV)(K:FuncId->Option R):Option R:=
 match p with
 |.sc (.func (.func f) a b)=>bif a.isEmpty&&b.isEmpty then K f else none
 |_=>none
def JL (t:CT)(p:PV)(K:PV->Option R):Option R:=
 match t with
 |.int k=>Ae k p fun n=>K (.sc (.int k n))
 |.bool=>Bv p fun b=>K (.sc (.bool b))
 |.str=>Iv p fun s=>K (.sc (.string s))
 |.sl es=>Em es p fun z n c=>K (.lst z es n c)
 |.any=>fnK p fun v=>K (.sc v)
def fcK (t:CT)(p:PV)(K:PV->Option R):Option R:=
 match t with
 |.sl es=>fsK es p K
 |t=>JL t p K
def Y8:List CT->List PV->Nat->(List PV->Option R)->Option R
 |[],_,_,K=>K []
 |t::ts,cells,off,K=>JL t (cells.getD off .top) fun c=>Y8 ts cells (off+1) fun r=>K (c::r)
def Ue:List CT->List PV->Nat->(List PV->Option R)->Option R
 |[],_,_,K=>K []
 |t::ts,cells,off,K=>fcK t (cells.getD off .top) fun c=>Ue ts cells (off+1) fun r=>K (c::r)
def mkV (agg:Bool)(cells:List PV)(K:PV->Option R):Option R:=
 bif agg then K (.agg cells) else Ab cells fun c r=>Ac r (K c)
def cellsOf:PV->List PV
 |.agg c=>c
 |p=>[p]
def cvK (P:Program)(t:TypeId)(v:Value)(K:PV->Option R):Option R:=
 match v with
 |.agg cs=>Ar (Nat.beq cs.toList.length (K5 P t).length) (Y8 (K5 P t) (cs.toList.map .sc) 0 fun c=>K (.agg c))
 |.slice none 0 0=>
  match P.underlying t with
  |some (.slice e)=>K (.lst true (Bm P e) 0 [])
  |_=>none
 |v=>K (.sc v)
end
def Cw (tm:Nat->PV):Operand->PV
 |.tmp t=>tm t
 |.const (.agg cs)=>.agg (cs.toList.map .sc)
 |.const v=>.sc v
 |.func f=>.sc (.func (.func f) #[] #[])
 |.global g=>.sc (.pointer (some ⟨g,0,none⟩))
section
variable {R:Type}
def Ei (p:PV)(K:IntKind->Int->Option R):Option R:=
 match p with
 |.sc (.int k n)=>K k n
 |_=>none
def Ahj (rdf:Nat->Option (List PV)) (es:Nat)(p:PV)(K:Nat->List PV->Option R):Option R:=
 match p with
 |.view id es' off n=>bif Nat.beq es' es then F7 (rdf id) fun c=>Ar (decide (off+n*es<=c.length)) (K n ((c.drop off).take (n*es))) else none
 |p=>Em es p fun _ n c=>K n c
def Sy (rdf:Nat->Option (List PV)) (t:CT)(p:PV)(K:PV->List Nat->Option R):Option R:=
 match t with
 |.sl es=>
  match p with
  |.view id es' off n=>bif Nat.beq es' es then F7 (rdf id) fun c=>Ar (decide (off+n*es<=c.length)) (K (.lst false es n ((c.drop off).take (n*es))) [id]) else none
  |p=>Em es p fun _ n c=>K (.lst false es n c) []
 |t=>JL t p fun c=>K c []
def R2 (rdf:Nat->Option (List PV)):List CT->List PV->(List PV->List Nat->Option R)->Option R
 |[],[],K=>K [] []
 |t::ts,p::ps,K=>Sy rdf t p fun c m=>R2 rdf ts ps fun cs ms=>K (c::cs) (m++ms)
 |_,_,_=>none
def Ahn (P:Program)(rdf:Nat->Option (List PV)) (t:TypeId)(p:PV)(K:PV->List Nat->Option R):Option R:=
 bif Cx P t then Ft p fun ps=>R2 rdf (K5 P t) ps fun cs m=>K (.agg cs) m
 else R2 rdf (K5 P t) [p] fun cs m=>Ab cs fun c r=>Ac r (K c m)
def SY (P:Program)(rdf:Nat->Option (List PV)):List TypeId->List PV->(List PV->List Nat->Option R)->Option R
 |[],[],K=>K [] []
 |t::ts,p::ps,K=>Ahn P rdf t p fun v m=>SY P rdf ts ps fun vs ms=>K (v::vs) (m++ms)
 |_,_,_=>none
def Ar7 (shr:Bool)(id:Nat)(t:CT)(p:PV)(K:PV->List (Nat × Bx)->Option R):Option R:=
 match t with
 |.sl es=>bif shr then Em es p fun _ n c=>K (.lst false es n c) [] else Gw es p fun n c=>K (.view id es 0 n) [(id,.ar false c)]
 |t=>JL t p fun c=>K c []
def V0 (shr:Bool)(N:Nat):Nat->List CT->List PV->(List PV->List (Nat × Bx)->Option R)->Option R
 |_,[],ps,K=>Ac ps (K [] [])
 |id,t::ts,ps,K=>Ab ps fun p ps=>Ar7 shr id t p fun c b=>V0 shr N (id+N) ts ps fun cs bs=>K (c::cs) (b++bs)
def FN (P:Program)(t:TypeId):Option TypeId:=
 match P.underlying t with
 |some (.pointer e)=>some e
 |_=>none
def Aco (P:Program)(t:TypeId):Nat:=
 match FN P t with
 |some e=>1+(K5 P e).length
 |none=>(K5 P t).length
def Amh (P:Program)(shr:Bool)(N:Nat)(id:Nat)(t:TypeId)(p:PV)(K:PV->List (Nat × Bx)->Option R):Option R:=
 match FN P t with
 |some e=>BX p fun ps=>V0 shr N (id+N) (K5 P e) ps fun cs bs=>K (.ptr id 0) ((id,.st cs)::bs)
 |none=>
 bif Cx P t then Ft p fun ps=>V0 shr N id (K5 P t) ps fun cs bs=>K (.agg cs) bs
 else V0 shr N id (K5 P t) [p] fun cs bs=>Ab cs fun c r=>Ac r (K c bs)
def MH (P:Program)(shr:Bool)(N:Nat):Nat->List TypeId->List PV->(List PV->List (Nat × Bx)->Option R)->Option R
 |_,[],ps,K=>Ac ps (K [] [])
 |id,t::ts,ps,K=>Ab ps fun p ps=>Amh P shr N id t p fun v bs=>MH P shr N (id+N*Aco P t) ts ps fun vs bs'=>K (v::vs) (bs++bs')
def Si (P:Program)(t:TypeId):List TypeId:=
 match P.underlying t with
 |some (.tuple ts)=>ts.toList
 |_=>[t]
def Sk (vs:List PV)(t:Bool):PV:=bif t then .tup vs else vs.headD .top
def Td (P:Program)(t:TypeId):Bool:=
 match P.underlying t with
 |some (.tuple _)=>true
 |_=>false
def Av9 (op:BinOp)(a b:Int)(K:Bool->Option R):Option R:=
 match op with
 |.eql=>K (a==b)
 |.neq=>K (a != b)
 |.lss=>K (decide (a<b))
 |.leq=>K (decide (a<=b))
 |.gtr=>K (decide (a>b))
 |.geq=>K (decide (a>=b))
 |_=>none
def QL (op:BinOp)(k:IntKind)(a b:Int)(K:PV->Option R):Option R:=
 match op with
 |.add=>Aa ((k.wrap (a+b))) fun n=>K (.sc (.int k n))
 |.sub=>Aa ((k.wrap (a-b))) fun n=>K (.sc (.int k n))
 |.mul=>Aa ((k.wrap (a*b))) fun n=>K (.sc (.int k n))
 |.quo=>Ar (decide (b≠0)) (Aa ((k.wrap (a.tdiv b))) fun n=>K (.sc (.int k n)))
 |.rem=>Ar (decide (b≠0)) (Aa ((a.tmod b)) fun n=>K (.sc (.int k n)))
 |.and=>Aa (X3 k a b) fun n=>K (.sc (.int k n))
 |.or=>Aa (YE k a b) fun n=>K (.sc (.int k n))
 |.xor=>Aa (E5 k a b) fun n=>K (.sc (.int k n))
 |.andNot=>Aa (Auf k a b) fun n=>K (.sc (.int k n))
 |op=>Av9 op a b fun r=>K (.sc (.bool r))
def QA (op:BinOp)(x y:ByteArray)(K:PV->Option R):Option R:=
 match op with
 |.add=>Ar (decide (x.size+y.size<=9223372036854775807)) (Aa (x++y) fun s=>K (.sc (.string s)))
 |.eql=>K (.sc (.bool (x.data.toList==y.data.toList)))
 |.neq=>K (.sc (.bool !(x.data.toList==y.data.toList)))
 |.lss=>K (.sc (.bool (Op.bytesLess x.data.toList y.data.toList)))
 |.leq=>K (.sc (.bool (Op.bytesLess x.data.toList y.data.toList||x.data.toList==y.data.toList)))
 |.gtr=>K (.sc (.bool !(Op.bytesLess x.data.toList y.data.toList||x.data.toList==y.data.toList)))
 |.geq=>K (.sc (.bool !(Op.bytesLess x.data.toList y.data.toList)))
 |_=>none
def SS (e:Bool)(p:PV)(K:PV->Option R):Option R:=
 match p with
 |.sc (.slice none 0 0)=>K (.sc (.bool e))
 |.lst z _ n _=>Bk z (K (.sc (.bool e))) (Bk (decide (0<n)) (K (.sc (.bool !e))) (K .ub))
 |.view _ _ _ n=>Bk (decide (0<n)) (K (.sc (.bool !e))) (K .ub)
 |_=>none
def Aec (P:Program):List Field->Nat->Bool
 |[],_=>true
 |f::r,i=>Nat.beq f.offset i&&(f.name != "_")&&(match P.underlying f.type with|some (.int _)=>true|some .bool=>true|some .string=>true|_=>false)&&Aec P r (i+1)
def So (P:Program):List Field->Nat->Bool
  |[],_=>true
  |f::r,i=>Nat.beq f.offset i&&(f.name != "_") &&
    (match P.underlying f.type with
     |some (.int _)=>So P r (i+1)
     |some .bool=>So P r (i+1)
     |some .string=>So P r (i+1)
     |some (.struct gs)=>Aec P gs.toList 0 && !P.stoodInHeld f.type&&(P.info? f.type).isSome&&Nat.beq (Bm P f.type) gs.size&&So P r (i+gs.size)
     |_=>false)
def Aas (P:Program)(t:TypeId)(fs:Array Field):Bool:=So P fs.toList 0 && !P.stoodInHeld t && !P.eqGuardType P.depth t
def fty (P:Program)(f:Field):CT:=
 match P.underlying f.type with
 |some (.int k)=>.int k
 |some .bool=>.bool
 |some .string=>.str
 |_=>.any
def Adh (P:Program)(f:Field):List CT:=
 match P.underlying f.type with
 |some (.struct gs)=>gs.toList.map (fty P)
 |_=>[fty P f]
def BQ (P:Program):List Field->List CT
 |[]=>[]
 |f::r=>Adh P f++BQ P r
def Pk:List CT->List PV->List PV->(Bool->Option R)->Option R
 |[],[],[],K=>K true
 |.int k::ts,p::ps,q::qs,K=>Ae k p fun a=>Ae k q fun b=>Pk ts ps qs fun r=>K ((a==b)&&r)
 |.bool::ts,p::ps,q::qs,K=>Bv p fun a=>Bv q fun b=>Pk ts ps qs fun r=>K ((a==b)&&r)
 |.str::ts,p::ps,q::qs,K=>Iv p fun a=>Iv q fun b=>Pk ts ps qs fun r=>K ((a==b)&&r)
 |_,_,_,_=>none
def Aro (P:Program)(op:BinOp)(t:TypeId)(x y:PV)(K:PV->Option R):Option R:=
 match P.underlying t with
 |some (.int k)=>
  match op with
  |.shl=>Ae k x fun a=>Ei y fun _ b=>Ar (decide (0<=b)) (Aa (J0 k a b) fun n=>K (.sc (.int k n)))
  |.shr=>Ae k x fun a=>Ei y fun _ b=>Ar (decide (0<=b)) (Aa (Is k a b) fun n=>K (.sc (.int k n)))
  |op=>Ae k x fun a=>Ae k y fun b=>QL op k a b K
 |some .string=>Iv x fun a=>Iv y fun b=>QA op a b K
 |some .bool=>
  match op with
  |.eql=>Bv x fun a=>Bv y fun b=>K (.sc (.bool (a==b)))
  |.neq=>Bv x fun a=>Bv y fun b=>K (.sc (.bool !(a==b)))
  |_=>none
 |some (.slice _)=>
  match op,y with
  |.eql,.sc (.slice none 0 0)=>SS true x K
  |.neq,.sc (.slice none 0 0)=>SS false x K
  |_,_=>none
 |_=>none
def AD (P:Program)(op:BinOp)(t:TypeId)(x y:PV)(K:PV->Option R):Option R:=
 match P.underlying t with
 |some (.struct fs)=>
  match op with
  |.eql=>Ar (Aas P t fs) (Ft x fun xs=>Ft y fun ys=>Pk (BQ P fs.toList) xs ys fun b=>K (.sc (.bool b)))
  |.neq=>Ar (Aas P t fs) (Ft x fun xs=>Ft y fun ys=>Pk (BQ P fs.toList) xs ys fun b=>K (.sc (.bool !b)))
  |_=>none
 |_=>Aro P op t x y K
def unK (op:UnOp)(x:PV)(K:PV->Option R):Option R:=
 match op with
 |.not=>Bv x fun b=>K (.sc (.bool !b))
 |.neg=>Ei x fun k n=>Aa (k.wrap (0-n)) fun n=>K (.sc (.int k n))
 |.xor=>Ei x fun k n=>Aa (A5g k n) fun n=>K (.sc (.int k n))
 |_=>none
def bytesOf:List PV->Option (List UInt8)
 |[]=>some []
 |.sc (.int .u8 n)::r=>(bytesOf r).map (n.toNat.toUInt8 :: ·)
 |_::_=>none
def Fs (s:ByteArray):List PV:=s.data.toList.map fun b=>.sc (.int .u8 b.toNat)
def SL (P:Program)(rdf:Nat->Option (List PV)) (d:Nat)(src dst:TypeId)(x:PV)(K:PV->List (Nat × Bx)->Option R):Option R:=
 match P.underlying dst with
 |some (.int k)=>Ar (P.underlying src).isSome (Ei x fun _ n=>Aa (k.wrap n) fun n=>K (.sc (.int k n)) [])
 |some .string=>
  match P.underlying src with
  |some .string=>Iv x fun s=>K (.sc (.string s)) []
  |some (.slice e)=>
   match P.underlying e with
   |some (.int .u8)=>Ahj rdf 1 x fun n c=>Ar (decide (c.length=n)) (F7 (bytesOf c) fun b=>K (.sc (.string ⟨b.toArray⟩)) [])
   |_=>none
  |_=>none
 |some (.slice e)=>
  match P.underlying e,P.underlying src with
  |some (.int .u8),some .string=>Iv x fun s=>Ar (decide (s.size<=1099511627776)) (K (.view d 1 0 s.size) [(d,.ar false (Fs s))])
  |_,_=>none
 |_=>none
def Jf (p:Option PV)(dflt:Nat)(K:Nat->Option R):Option R:=
 match p with
 |none=>K dflt
 |some p=>Ei p fun _ i=>Ar (decide (0<=i)) (K i.toNat)
def IK (P:Program)(rdf:Nat->Option (List PV)) (t:TypeId)(x:PV)(lo hi:Option PV)(K:PV->Option R):Option R:=
 match P.underlying t with
 |some .string=>Iv x fun s=>Jf lo 0 fun l=>Jf hi s.size fun h=>Ar (decide (l<=h)&&decide (h<=s.size)) (Aa (s.extract l h) fun s=>K (.sc (.string s)))
 |some (.slice e)=>Ar (P.info? e).isSome (
  match x with
  |.view id es off n=>Ar (Nat.beq es (Bm P e)) (Jf lo 0 fun l=>Jf hi n fun h=>Ar (decide (l<=h)&&decide (h<=n)) (Aa (off+l*es) fun o=>Aa (h-l) fun n=>K (.view id es o n)))
  |x=>Em (Bm P e) x fun z n c=>Jf lo 0 fun l=>Jf hi n fun h=>Ar (decide (l<=h)&&decide (h<=n)) (Aa (h-l) fun n=>Aa ((c.drop (l*Bm P e)).take (n*Bm P e)) fun c=>K (.lst z (Bm P e) n c)))
 |some (.array n e)=>Ar (P.info? e).isSome (
  match x with
  |.ptr id off=>F7 (rdf id) fun c=>Ar (decide (1<=n*Bm P e)&&decide (off+n*Bm P e<=c.length))<|Jf lo 0 fun l=>Jf hi n fun h=>Ar (decide (l<=h)&&decide (h<=n)) (Aa (off+l*Bm P e) fun o=>Aa (h-l) fun n=>K (.view id (Bm P e) o n))
  |_=>none)
 |_=>none
def Zy (P:Program)(d:Nat)(t:TypeId)(x:PV)(lo hi mx:Option PV)(K:PV->List (Nat × Bx)->Option R):Option R:=
 match P.underlying t with
 |some (.slice e)=>Ar ((P.info? e).isSome&&hi.isSome) (
  match x with
  |.view _ es _ n=>Ar (Nat.beq es (Bm P e)) (Jf lo 0 fun l=>Jf hi n fun h=>Jf mx n fun m=>Ar (Nat.beq l m&&Nat.beq h m&&decide (m<=n)) (K (.view d (Bm P e) 0 0) [(d,.ar false [])]))
  |x=>Em (Bm P e) x fun _ n _=>Jf lo 0 fun l=>Jf hi n fun h=>Jf mx n fun m=>Ar (Nat.beq l m&&Nat.beq h m&&decide (m<=n)) (K (.view d (Bm P e) 0 0) [(d,.ar false [])]))
 |_=>none
def Yz (x:PV)(d:Nat)(K:PV->Option R):Option R:=
 match x with
 |.ptr id off=>K (.ptr id (off+d))
 |.iptr c off=>K (.iptr c (off+d))
 |_=>none
def PB (P:Program)(e:TypeId):Bool:=(P.info? e).isSome
def Vm (P:Program)(t:TypeId)(f:Nat):Option (Nat × TypeId):=
 match P.underlying t with
 |some (.struct fs)=>(fs[f]?).map fun g=>(g.offset,g.type)
 |_=>none
def Ov (P:Program)(t:TypeId)(x:PV)(i:Int)(K:PV->Option R):Option R:=
 match P.underlying t with
 |some (.array n e)=>Ar (PB P e) (Ar (decide (0<=i)&&decide (i<n)) (Yz x (i.toNat*Bm P e) K))
 |some (.slice e)=>Ar (PB P e) (
  match x with
  |.view id es off n=>Ar (Nat.beq es (Bm P e)) (Ar (decide (0<=i)&&decide (i<n)) (K (.ptr id (off+i.toNat*es))))
  |x=>Em (Bm P e) x fun _ n c=>Ar (decide (0<=i)&&decide (i<n)) (K (.iptr c (i.toNat*Bm P e))))
 |_=>none
def SA (P:Program)(rdf:Nat->Option (List PV)) (t:TypeId)(x:PV)(K:PV->Option R):Option R:=
 match x with
 |.ptr id off=>Ar (Mg P t) (F7 (rdf id) fun c=>Ue (K5 P t) c off fun cs=>mkV (Cx P t) cs K)
 |.iptr c off=>Ar (Mg P t) (Y8 (K5 P t) c off fun cs=>mkV (Cx P t) cs K)
 |_=>none
def Abg:PV->PV
 |.lst _ es n c=>.lst false es n c
 |p=>p
def Akj:PV->PV
 |.agg cs=>.agg (cs.map Abg)
 |p=>Abg p
def HH (P:Program)(rdf rdaf:Nat->Option (List PV)) (t:TypeId)(x:PV)(K:PV->Option R):Option R:=
 match x with
 |.ptr id off=>Ar (Mg P t) (
  match rdaf id with
  |some c=>Y8 (K5 P t) c off fun cs=>mkV (Cx P t) cs fun v=>K (Akj v)
  |none=>F7 (rdf id) fun c=>Ue (K5 P t) c off fun cs=>mkV (Cx P t) cs K)
 |.iptr c off=>Ar (Mg P t) (Y8 (K5 P t) c off fun cs=>mkV (Cx P t) cs fun v=>K (Akj v))
 |_=>none
def Bq (cells new:List PV)(off:Nat):List PV:=cells.take off++new++cells.drop (off+new.length)
def okP:PV->Bool
 |.agg _=>true
 |.lst _ _ _ _=>true
 |.view _ _ _ _=>true
 |.sc (.int _ _)=>true
 |.sc (.bool _)=>true
 |.sc (.string _)=>true
 |.sc (.slice none 0 0)=>true
 |_=>false
def Yl (Jt:Nat->Option (Nat × Nat)):List (Nat × PV)->List PV->(List PV->Option R)->Option R
 |[],cells,K=>K cells
 |(i,p)::r,cells,K=>F7 (Jt i) fun q=>Ar (okP p&&Nat.beq (cellsOf p).length q.2&&Nat.ble (q.1+q.2) cells.length) (Aa (Bq cells (cellsOf p) q.1) fun cells=>Yl Jt r cells K)
def Wf (P:Program)(t:TypeId)(i:Nat):Option (Nat × Nat):=
 match P.underlying t with
 |some (.struct fs)=>(fs[i]?).map fun f=>(f.offset,Bm P f.type)
 |some (.array _ e)=>some (i*Bm P e,Bm P e)
 |some (.slice e)=>some (i*Bm P e,Bm P e)
 |_=>none
def U8 (P:Program)(t:TypeId):Bool:=
 match P.underlying t with
 |some (.struct fs)=>fs.toList.all fun f=>PB P f.type
 |some (.array _ e)=>PB P e
 |some (.slice e)=>PB P e
 |_=>false
def EJ (P:Program)(t:TypeId):Option Value:=(P.info? t).bind (·.zero)
def Jz (P:Program)(t:TypeId)(K:List PV->Option R):Option R:=
 F7 (EJ P t) fun v=>Ar (Nat.beq v.cells.toList.length (K5 P t).length&&Mg P t) (Y8 (K5 P t) (v.cells.toList.map .sc) 0 K)
def Yf (P:Program)(t:TypeId):Bool:=
 match P.underlying t with
 |some (.array _ _)=>true
 |_=>false
def Ap5 (P:Program)(t:TypeId)(cells:List PV):Bx:=bif Yf P t then .ar false cells else .st cells
def Vr (n:Nat)(l:List PV):List PV:=(List.replicate n l).flatten
def Avx (a b:PV)(K:PV->Option R):Option R:=Ei a fun k x=>Ae k b fun y=>Aa (if y<x then y else x) fun n=>K (.sc (.int k n))
def Aun (a b:PV)(K:PV->Option R):Option R:=Ei a fun k x=>Ae k b fun y=>Aa (if x<y then y else x) fun n=>K (.sc (.int k n))
def Amf (P:Program)(t:TypeId)(x:PV)(K:Nat->Option R):Option R:=
 match P.underlying t with
 |some .string=>Iv x fun s=>K s.size
 |some (.array n _)=>K n
 |some (.slice e)=>
  match x with
  |.view _ es _ n=>Ar (Nat.beq es (Bm P e)) (K n)
  |x=>Em (Bm P e) x fun _ n _=>K n
 |_=>none
end
abbrev Af:=FuncId->List PV->Option A5
section
variable {R:Type}
def M7 (P:Program)(ts:List TypeId):Bool:=ts.any fun t=>(FN P t).isSome||(K5 P t).any fun c=>match c with | .sl _=>true|_=>false
def IU (P:Program)(t:TypeId)(tm:Nat->PV)(x:Operand)(K:PV->Option R):Option R:=
 match x with
 |.const v=>cvK P t v K
 |x=>K (Cw tm x)
def ZA (P:Program)(e:TypeId):Bool:=
 match P.info? e with
 |some i=>(match i.zero with|some z=>Nat.beq z.cells.size i.size|none=>false)
 |none=>false
def Af4 (P:Program)(rdaf:Nat->Option (List PV)) (es:Nat)(t:TypeId)(x:PV)(K:Nat->List PV->Option R):Option R:=
 match P.underlying t with
 |some .string=>Ar (Nat.beq es 1) (Iv x fun b=>K b.size (Fs b))
 |some (.slice _)=>Ahj rdaf es x K
 |_=>none
abbrev Agf (P:Program)(s:St)(es:Nat)(t:TypeId)(x:PV)(K:Nat->List PV->Option R):Option R:=Af4 P (Ny s.hp) es t x K
def FD (c:Call):Bool:=
 match c.args.toList with
 |.const (.slice none 0 0)::_=>true
 |_=>false
def Z7 (P:Program)(rdaf:Nat->Option (List PV)) (d:Nat)(t tx:TypeId)(x:PV)(K:PV->List (Nat × Bx)->Option R):Option R:=
 match P.underlying t with
 |some (.slice e)=>Ar (ZA P e) <|
  Af4 P rdaf (Bm P e) tx x fun m new=>
   Ar (decide (new.length=m*Bm P e)&&decide (m*((P.info? e).map (·.bytes)).getD 0<=1099511627776)&&decide (m<=1099511627776)) (K (.view d (Bm P e) 0 m) [(d,.ar false new)])
 |_=>none
def Nr (k:Bool):List Operand->List PV->List PV
  |x::xs,p::ps=>
    (match x,p with
     |.const (.slice none 0 0),.lst z es 0 []=>.lst (k||z) es 0 []
     |_,p=>p)::Nr k xs ps
  |_,ps=>ps
def Ak2 (P:Program)(t:TypeId)(x:PV)(K:Nat->Option R):Option R:=
 match P.underlying t with
 |some (.slice e)=>Em (Bm P e) x fun z _ _=>Ar z (K 0)
 |_=>none
def SJ (P:Program)(f:FuncId)(c:Call):List TypeId:=
 match P.funcs[f]? with
 |some fn=>fn.params.toList
 |none=>c.argTypes.toList
def TJ (C:Ji)(P:Program)(N:Nat)(call:Af)(tm:Nat->PV)(rdaf:Nat->Option (List PV)) (o:Oper)(c:Call)(f:FuncId)(K:PV->List Nat->List (Nat × Bx)->Option R):Option R:=
 SY P rdaf (SJ P f c) (c.args.toList.map (Cw tm)) fun vs m=>
  Aj (call f (Nr (C.kz f) c.args.toList vs)) fun rv ro=>Ac ro (Ar (Nat.blt 0 N)<|MH P (C.shr f) N (o.dst.getD 0) (Si P o.type) rv fun ws bs=>
   Ar (bif Td P o.type then !Nat.beq ws.length 1 else Nat.beq ws.length 1)<|K (Sk ws (Td P o.type)) (bif M7 P (Si P o.type) then m else []) bs)
def TB (C:Ji)(P:Program)(N:Nat)(call:Af)(tm:Nat->PV)(rdf rdaf:Nat->Option (List PV)) (o:Oper)(K:PV->List Nat->List (Nat × Bx)->Option R):Option R:=
  match o.op with
  |.move x=>IU P o.type tm x fun p=>K p [] []
  |.assign x=>IU P o.type tm x fun p=>K p [] []
  |.pick c a b=>Bv (Cw tm c) fun t=>Bk t (K (Cw tm a) [] []) (K (Cw tm b) [] [])
  |.alloc t=>F7 o.dst fun d=>Jz P t fun cs=>K (.ptr d 0) [] [(d,Ap5 P t cs)]
  |.box t x=>F7 o.dst fun d=>Ar (Mg P t&&Nat.beq (cellsOf (Cw tm x)).length (K5 P t).length)
      (bif Yf P t then Y8 (K5 P t) (cellsOf (Cw tm x)) 0 fun cs=>K (.ptr d 0) [] [(d,.ar false cs)]
       else Ue (K5 P t) (cellsOf (Cw tm x)) 0 fun cs=>K (.ptr d 0) [] [(d,.st cs)])
  |.build t ps=>Ar (U8 P t&&Cx P t)<|Jz P t fun z=>Yl (Wf P t) (ps.toList.map fun q=>(q.1,Cw tm q.2)) z fun cs=>Ue (K5 P t) cs 0 fun cs'=>K (.agg cs') [] []
  |.buildSlice t n ps=>F7 o.dst fun d=>
      match P.underlying t with
      |some (.slice e)=>Ar (U8 P t&&Nat.ble (n*Bm P e) 16777216) (Jz P e fun z=>Yl (Wf P t) (ps.toList.map fun q=>(q.1,Cw tm q.2)) (Vr n z) fun cs=>
          R2 rdaf (List.replicate n (K5 P e)).flatten cs fun cs' m=>K (.view d (Bm P e) 0 n) m [(d,.ar false cs')])
      |_=>none
  |.load t a=>HH P rdf rdaf t (Cw tm a) fun v=>K v [] []
  |.nilCheck x=>Yz (Cw tm x) 0 fun p=>K p [] []
  |.binOp op t x y _=>
      AD P op t (Cw tm x) (Cw tm y) fun v=>K v [] []
  |.unOp op _ x=>unK op (Cw tm x) fun v=>K v [] []
  |.convert src dst x=>SL P rdaf (o.dst.getD 0) src dst (Cw tm x) fun v b=>F7 o.dst fun _=>K v [] b
  |.makeSlice t l c=>F7 o.dst fun d=>
      match P.underlying t with
      |some (.slice e)=>Ei (Cw tm l) fun _ n=>Ei (Cw tm c) fun _ m=>
          Ar (decide (0<=n)&&decide (n<=m)&&decide (m*((P.info? e).map (·.bytes)).getD 0<=1099511627776)&&decide (m<=1099511627776))
            (Jz P e fun z=>K (.view d (Bm P e) 0 n.toNat) [] [(d,.ar false (Vr n.toNat z))])
      |_=>none
  |.slice t x lo hi mx=>
      match mx with
      |none=>IK P rdf t (Cw tm x) (lo.map (Cw tm)) (hi.map (Cw tm)) fun v=>K v [] []
      |some m=>F7 o.dst fun d=>Zy P d t (Cw tm x) (lo.map (Cw tm)) (hi.map (Cw tm)) (some (Cw tm m)) fun v nw=>K v [] nw
  |.fieldAddr t x f=>F7 (Vm P t f) fun q=>Ar (Nat.ble 1 (Bm P q.2)) (Yz (Cw tm x) q.1 fun p=>K p [] [])
  |.field t x f=>F7 (Vm P t f) fun q=>Ar (Mg P q.2)<|Ft (Cw tm x) fun cs=>Ue (K5 P q.2) cs q.1 fun c=>mkV (Cx P q.2) c fun v=>K v [] []
  |.indexAddr t x i=>Ei (Cw tm i) fun _ n=>Ov P t (Cw tm x) n fun p=>K p [] []
  |.index t x i=>Ei (Cw tm i) fun _ n=>
      match P.underlying t with
      |some .string=>Iv (Cw tm x) fun s=>Ar (decide (0<=n)) (F7 (s.data.toList[n.toNat]?) fun b=>K (.sc (.int .u8 b.toNat)) [] [])
      |some (.array len e)=>Ft (Cw tm x) fun cs=>Ar (decide (0<=n)&&decide (n<len)&&Mg P e) (Ue (K5 P e) cs (n.toNat*Bm P e) fun c=>mkV (Cx P e) c fun v=>K v [] [])
      |_=>none
  |.extract x i=>
      match Cw tm x with
      |.tup vs=>F7 vs[i]? fun p=>K p [] []
      |_=>none
  |.call c=>
      match c.callee with
      |.builtin .len=>Ab c.args.toList fun x _=>Ab c.argTypes.toList fun t _=>Amf P t (Cw tm x) fun n=>K (.sc (.int .i64 n)) [] []
      |.builtin .cap=>Ab c.args.toList fun x _=>Ab c.argTypes.toList fun t _=>Ak2 P t (Cw tm x) fun n=>K (.sc (.int .i64 n)) [] []
      |.builtin .min=>Ab c.args.toList fun x r=>Ab r fun y r'=>Ac r' (Avx (Cw tm x) (Cw tm y) fun v=>K v [] [])
      |.builtin .max=>Ab c.args.toList fun x r=>Ab r fun y r'=>Ac r' (Aun (Cw tm x) (Cw tm y) fun v=>K v [] [])
      |.builtin .append=>Ar (FD c) (F7 o.dst fun d=>Ab c.args.toList fun _ r=>Ab r fun x r'=>Ac r' (Ab c.argTypes.toList fun t u=>Ab u fun tx _=>Z7 P rdaf d t tx (Cw tm x) fun v nw=>K v [] nw))
      |.value (.func f)=>TJ C P N call tm rdaf o c f K
      |.value (.tmp t)=>fvK (tm t) fun f=>TJ C P N call tm rdaf o c f K
      |_=>none
  |_=>none
def Wh (C:Ji)(P:Program)(o:Op):Bool:=
 match o with
 |.store .. =>true
 |.call c=>
  match c.callee with
  |.builtin .append=> !FD c
  |.builtin .copy=>true
  |.builtin _=>false
  |.value (.func f)=>((SJ P f c).any fun t=>(FN P t).isSome)||((SJ P f c).zipIdx.any fun q=>C.mvd f q.2||C.lnd f q.2)
  |_=>false
 |_=>false
def Yj (b:Bx):Bx:=
 match b with
 |.ar _ c=>.ar true c
 |b=>b
def Ag (hp:Nat->Option Bx)(ids:List Nat):Nat->Option Bx:=fun i=>bif ids.any (Nat.beq i) then (hp i).map Yj else hp i
def A6 (hp:Nat->Option Bx):List (Nat × Bx)->Nat->Option Bx
 |[]=>hp
 |(i,b)::r=>A6 (Dd hp i (some b)) r
def Ck (hp:Nat->Option Bx):List (Nat × Bx)->Bool
 |[]=>true
 |(i,_)::r=>(hp i).isNone && !(r.any fun q=>Nat.beq q.1 i)&&Ck hp r
def B9 (tm:Nat->PV)(d:Option Tmp)(v:PV):Nat->PV:=
 match d with
 |some i=>Dd tm i v
 |none=>tm
def Il (N:Nat)(d:Option Tmp):Bool:=
 match d with
 |some i=>Nat.blt i N
 |none=>true
def IC (N:Nat)(s:St)(d:Option Tmp)(v:PV)(fz:List Nat)(nw:List (Nat × Bx)) (K:St->Option R):Option R:=
 Ar (Il N d&&Ck s.hp nw) (K ⟨B9 s.tm d v,A6 (Ag s.hp fz) nw⟩)
def IH (P:Program)(s:St)(t:TypeId)(a x:PV)(K:St->Option R):Option R:=
 match a with
 |.ptr id off=>
  match s.hp id with
  |some (.st c)=>Ar (Mg P t&&Nat.beq (cellsOf x).length (K5 P t).length&&decide (off+(K5 P t).length<=c.length)) (Ue (K5 P t) (cellsOf x) 0 fun cs=>Aa (Bq c cs off) fun c=>K ⟨s.tm,Dd s.hp id (some (.st c))⟩)
  |some (.ar false c)=>Ar (Mg P t&&decide (off+(K5 P t).length<=c.length)) (R2 (Ny s.hp) (K5 P t) (cellsOf x) fun cs m=>Ar (!m.any (Nat.beq id)) (Aa (Bq c cs off) fun c=>K ⟨s.tm,Dd (Ag s.hp m) id (some (.ar false c))⟩))
  |_=>none
 |_=>none
def HR (P:Program)(t:TypeId):Bool:=
 match P.underlying t with
 |some (.int _)=>true
 |_=>false
def Zf (P:Program)(N:Nat)(s:St)(d:Nat)(e:TypeId)(b x:PV)(K:St->Option R):Option R:=
 Ei x fun _ n=>Em (Bm P e) b fun z _ _=>
  Ar (z&&Nat.blt d N&&(s.hp d).isNone&&decide (0<=n)&&decide (n.toNat*((P.info? e).map (·.bytes)).getD 0<=1099511627776)&&decide (n<=1099511627776))
   (K ⟨Dd s.tm d (.view d (Bm P e) 0 n.toNat),Dd s.hp d (some (.ar false []))⟩)
def Tq (P:Program)(N:Nat)(s:St)(d:Nat)(t tx:TypeId)(b x:PV)(K:St->Option R):Option R:=
 match P.underlying t with
 |some (.slice e)=>Ar (ZA P e) <|
  bif HR P tx then Zf P N s d e b x K else
  Agf P s (Bm P e) tx x fun m new=>
  match b with
  |.view id es off n=>
   match s.hp id with
   |some (.ar false c)=>
    Ar (Nat.beq es (Bm P e)&&Nat.beq off 0&&Nat.blt d N&&(s.hp d).isNone&&decide (n*es<=c.length)&&decide (new.length=m*es)
     && decide ((n+m)*((P.info? e).map (·.bytes)).getD 0<=1099511627776)&&decide (n+m<=1099511627776))
     (Aa (n+m) fun n'=>Aa (c.take (n*es)++new) fun c=>K ⟨Dd s.tm d (.view d es 0 n'),Dd (Dd s.hp id (some .mv)) d (some (.ar false c))⟩)
   |_=>none
  |b=>Em (Bm P e) b fun z _ _=>
    Ar (z&&Nat.blt d N&&(s.hp d).isNone&&decide (new.length=m*Bm P e)&&decide (m*((P.info? e).map (·.bytes)).getD 0<=1099511627776)&&decide (m<=1099511627776))
     (K ⟨Dd s.tm d (.view d (Bm P e) 0 m),Dd s.hp d (some (.ar false new))⟩)
 |_=>none
def YO (P:Program)(N:Nat)(s:St)(d:Option Tmp)(t tx:TypeId)(b x:PV)(K:St->Option R):Option R:=
 match P.underlying t with
 |some (.slice e)=>Ar (PB P e&&Il N d) <|
  Agf P s (Bm P e) tx x fun m new=>
  match b with
  |.view id es off n=>
   match s.hp id with
   |some (.ar false c)=>Ar (Nat.beq es (Bm P e)&&decide (off+n*es<=c.length)&&decide (new.length=m*es))
     (Aa (min m n) fun k=>Aa (Bq c (new.take (k*es)) off) fun c=>K ⟨B9 s.tm d (.sc (.int .i64 k)),Dd s.hp id (some (.ar false c))⟩)
   |_=>none
  |_=>none
 |_=>none
def Ak0 (mv:Bool)(hp:Nat->Option Bx)(t:CT)(p:PV)(K:PV->List Nat->List Nat->Option R):Option R:=
 match t with
 |.sl es=>
  bif mv then
   match p with
   |.view id es' off n=>
    match hp id with
    |some (.ar false c)=>
     bif Nat.beq es' es&&Nat.beq off 0 then Ar (decide (n*es<=c.length)) (K (.own es n (c.take (n*es))) [] [id])
     else Sy (Ny hp) (.sl es) (.view id es' off n) fun c m=>K c m []
    |_=>Sy (Ny hp) (.sl es) (.view id es' off n) fun c m=>K c m []
   |p=>Em es p fun z n c=>bif z then K (.own es 0 []) [] [] else K (.lst false es n c) [] []
  else Sy (Ny hp) (.sl es) p fun c m=>K c m []
 |t=>JL t p fun c=>K c [] []
def LF (mv:Bool)(hp:Nat->Option Bx):List CT->List PV->(List PV->List Nat->List Nat->Option R)->Option R
 |[],[],K=>K [] [] []
 |t::ts,p::ps,K=>Ak0 mv hp t p fun c m x=>LF mv hp ts ps fun cs ms xs=>K (c::cs) (m++ms) (x++xs)
 |_,_,_=>none
inductive Je where
 |var (id off:Nat) (cts:List CT) (ws:List PV)
 |row (id:Nat)
 |none
def Je.ids:Je->List Nat
 |.var id _ _ _=>[id]
 |.row id=>[id]
 |.none=>[]
def A4n (P:Program)(t:TypeId):Option TypeId:=
 match P.underlying t with
 |some (.slice e)=>some e
 |_=>none
def As3 (hp:Nat->Option Bx)(es:Nat)(p:PV)(K:PV->List Je->Option R):Option R:=
 match p with
 |.view id es' off n=>
  match hp id with
  |some (.ar false c)=>Ar (Nat.beq es' es&&Nat.beq off 0) (K (.tup [.own es n c]) [.row id])
  |_=>none
 |p=>Em es p fun z _ _=>Ar z (K (.tup [.own es 0 []]) [.none])
def KA (C:Ji)(P:Program)(f:FuncId)(hp:Nat->Option Bx)(i:Nat)(t:TypeId)(p:PV)(K:PV->List Nat->List Nat->List Je->Option R):Option R:=
 match FN P t with
 |some e=>
  match p with
  |.ptr id off=>
   match hp id with
   |some (.st c)=>Ar (Mg P e&&decide (off+(K5 P e).length<=c.length)) (LF (C.mvd f i) hp (K5 P e) ((c.drop off).take (K5 P e).length) fun cs m x=>K (.pbox cs) m x [.var id off (K5 P e) cs])
   |_=>none
  |_=>none
 |none=>
  bif C.lnd f i then F7 (A4n P t) fun e=>As3 hp (Bm P e) p fun v l=>K v [] [] l
  else bif Cx P t then Ft p fun ps=>LF (C.mvd f i) hp (K5 P t) ps fun cs m x=>K (.agg cs) m x []
  else LF (C.mvd f i) hp (K5 P t) [p] fun cs m x=>Ab cs fun c r=>Ac r (K c m x [])
def VW (C:Ji)(P:Program)(f:FuncId)(hp:Nat->Option Bx):Nat->List TypeId->List PV->(List PV->List Nat->List Nat->List Je->Option R)->Option R
 |_,[],[],K=>K [] [] [] []
 |i,t::ts,p::ps,K=>KA C P f hp i t p fun v m x l=>VW C P f hp (i+1) ts ps fun vs ms xs ls=>K (v::vs) (m++ms) (x++xs) (l++ls)
 |_,_,_,_=>none
def Zl (hp:Nat->Option Bx)(ids:List Nat):Nat->Option Bx:=fun i=>bif ids.any (Nat.beq i) then (hp i).map (fun _=>Bx.mv) else hp i
def nid (N t:Nat):Nat:=N*(1000+t)
def Ab2 (N:Nat)(hp:Nat->Option Bx):Nat->Nat->Nat
 |0,t=>t
 |k+1,t=>bif (hp (nid N t)).isNone then t else Ab2 N hp k (t+1)
def Al8 (N t:Nat)(ct:CT)(was p:PV)(K:Nat->PV->List (Nat × Bx)->Option R):Option R:=
 match ct with
 |.sl es=>
  match was with
  |.own _ _ _=>Gw es p fun n c=>K (t+1) (.view (nid N t) es 0 n) [(nid N t,.ar false c)]
  |_=>Em es p fun _ n c=>K t (.lst false es n c) []
 |ct=>JL ct p fun c=>K t c []
def WH (N:Nat):Nat->List CT->List PV->List PV->(Nat->List PV->List (Nat × Bx)->Option R)->Option R
 |t,[],[],ps,K=>Ac ps (K t [] [])
 |t,ct::cts,w::ws,ps,K=>Ab ps fun p ps=>Al8 N t ct w p fun t' c b=>WH N t' cts ws ps fun t'' cs bs=>K t'' (c::cs) (b++bs)
 |_,_,_,_,_=>none
def EO (N:Nat):Nat->List Je->List (List PV)->(Nat->Option Bx)->((Nat->Option Bx)->List (Nat × Bx)->Option R)->Option R
 |_,[],ro,hp,K=>Ac ro (K hp [])
 |t,.var id off cts ws::l,ro,hp,K=>Ab ro fun cs ro=>WH N t cts ws cs fun t' cs' bs=>
   match hp id with
   |some (.st c)=>Aa (Bq c cs' off) fun c=>EO N t' l ro (Dd hp id (some (.st c))) fun C2 bs'=>K C2 (bs++bs')
   |_=>none
 |t,.row id::l,ro,hp,K=>Ab ro fun cs ro=>EO N t l ro (Dd hp id (some (.ar false cs))) K
 |t,.none::l,ro,hp,K=>Ab ro fun _ ro=>EO N t l ro hp K
def Fl:List Nat->Bool
 |[]=>true
 |a::r=> !(r.any (Nat.beq a))&&Fl r
def JR (C:Ji)(P:Program)(N:Nat)(call:Af)(s:St)(o:Oper)(f:FuncId)(c:Call)(K:St->Option R):Option R:=
 VW C P f s.hp 0 (SJ P f c) (c.args.toList.map (Cw s.tm)) fun vs m x l=>
  Ar (Fl (l.flatMap Je.ids++x)&&m.all (fun i=> !((l.flatMap Je.ids++x).any (Nat.beq i)))&&Nat.blt 0 N&&Il N o.dst) <|
  Aj (call f (Nr (C.kz f) c.args.toList vs)) fun rv ro=>
   MH P (C.shr f) N (o.dst.getD N) (Si P o.type) rv fun ws bs=>
    Ar (bif Td P o.type then !Nat.beq ws.length 1 else Nat.beq ws.length 1) <|
    A6q (Ab2 N s.hp 100 0) fun t0=>EO N t0 l ro (Zl (Ag s.hp m) x) fun C2 bs'=>
     Ar (Ck C2 (bs++bs')) (K ⟨B9 s.tm o.dst (Sk ws (Td P o.type)),A6 C2 (bs++bs')⟩)
def AJ (C:Ji)(P:Program)(N:Nat)(call:Af)(s:St)(o:Oper)(K:St->Option R):Option R:=
 match o.op with
 |.store t a x=>Ar (o.dst.isNone) (IH P s t (Cw s.tm a) (Cw s.tm x) K)
 |.call c=>
  match c.callee with
  |.builtin .append=>F7 o.dst fun d=>Ab c.args.toList fun b r=>Ab r fun x r'=>Ac r' (Ab c.argTypes.toList fun t u=>Ab u fun tx _=>Tq P N s d t tx (Cw s.tm b) (Cw s.tm x) K)
  |.builtin .copy=>Ab c.args.toList fun b r=>Ab r fun x r'=>Ac r' (Ab c.argTypes.toList fun t u=>Ab u fun tx _=>YO P N s o.dst t tx (Cw s.tm b) (Cw s.tm x) K)
  |.value (.func f)=>JR C P N call s o f c K
  |_=>none
 |_=>none
def Adk (C:Ji)(P:Program)(N:Nat)(call:Af)(o:Oper)(s:St)(K:St->Option R):Option R:=
 bif Wh C P o.op then AJ C P N call s o K
 else TB C P N call s.tm (rd s.hp) (Ny s.hp) o fun v fz nw=>IC N s o.dst v fz nw K
def Ec (C:Ji)(P:Program)(N:Nat)(call:Af)(ops:Array Oper)(o:Oper)(s:St)(K:St->Option R):Option R:=
 match o.guard with
 |none=>Adk C P N call o s K
 |some (j,want)=>
  match (ops[j]?).bind (·.dst) with
  |none=>none
  |some d=>
   match s.tm d with
   |.sc (.bool b)=>
    Bk b (bif want then Adk C P N call o ⟨Dd s.tm d (.sc (.bool true)),s.hp⟩ K else Ar (Il N o.dst) (K ⟨B9 (Dd s.tm d (.sc (.bool true))) o.dst (.sc undef),s.hp⟩))
     (bif want then Ar (Il N o.dst) (K ⟨B9 (Dd s.tm d (.sc (.bool false))) o.dst (.sc undef),s.hp⟩) else Adk C P N call o ⟨Dd s.tm d (.sc (.bool false)),s.hp⟩ K)
   |.sc (.tuple _)=>Ar (Il N o.dst) (K ⟨B9 s.tm o.dst (.sc undef),s.hp⟩)
   |_=>none
def Rn (C:Ji)(P:Program)(N:Nat)(call:Af)(ops:Array Oper):List Oper->St->(St->Option R)->Option R
 |[],s,K=>K s
 |o::r,s,K=>Ec C P N call ops o s fun s'=>Rn C P N call ops r s' K
noncomputable def Xj (x y:Option R):Option R:=open Classical in if x=y then x else none
noncomputable def Ag8 (ops:Array Oper)(o:Oper)(s:St)(F:St->Option R):Option R:=
 match o.guard with
 |none=>F s
 |some (j,_)=>
  match (ops[j]?).bind (·.dst) with
  |none=>F s
  |some d=>
   match s.tm d with
   |.ub=>Xj (F ⟨Dd s.tm d (.sc (.bool true)),s.hp⟩) (F ⟨Dd s.tm d (.sc (.bool false)),s.hp⟩)
   |_=>F s
noncomputable def K4 (C:Ji)(P:Program)(N:Nat)(call:Af)(ops:Array Oper):List Oper->St->(St->Option R)->Option R
 |[],s,K=>K s
 |o::r,s,K=>Ag8 ops o s fun s1=>Ec C P N call ops o s1 fun s'=>K4 C P N call ops r s' K
end
def Aoo (o:Oper):List Nat:=o.op.operands.toList.filterMap fun x=>match x with | .tmp t=>some t|_=>none
def looks (ops:Array Oper)(o:Oper):List Nat:=
 Aoo o++(match o.guard with|some (g,_)=>((ops[g]?).bind (·.dst)).toList|none=>[])
def Kk (P:Program)(o:Op):Bool:=
 match o with
 |.slice t .. =>match P.underlying t with|some (.array _ _)=>true|_=>false
 |.buildSlice t _ _=>match P.underlying t with|some (.slice e)=>M7 P [e]|_=>true
 |.convert _ dst _=>match P.underlying dst with|some .string=>true|_=>false
 |.alloc _ | .box .. | .makeSlice .. =>false
 |.move _ | .assign _ | .pick .. | .build .. | .binOp .. | .unOp .. | .fieldAddr .. | .field .. | .index .. | .indexAddr .. | .extract .. | .nilCheck _=>false
 |.call c=>match c.callee with | .builtin .len=>false | .builtin .min=>false | .builtin .max=>false|_=>true
 |_=>true
def PS (C:Ji)(P:Program)(ops:Array Oper)(x y:Oper):Bool:=
 (match x.dst with|some d=>(looks ops y).any (Nat.beq d)||(match y.dst with|some e=>Nat.beq d e|none=>false)|none=>false) ||
 (match y.dst with|some e=>(looks ops x).any (Nat.beq e)|none=>false) ||
 (Wh C P x.op&&Kk P y.op)||(Wh C P y.op&&Kk P x.op)
def Lo (ops:List Oper):List Nat->List Nat
 |acc=>match ops with
  |[]=>acc
  |o::r=>Lo r (acc++[o.after.toList.foldl (fun s e=>bif Region.binds .any e then s ||| 2 ^ e.on ||| acc.getD e.on 0 else s) 0])
def OP (C:Ji)(P:Program)(ops:Array Oper)(bs:List Nat):List Oper->Nat->Bool
 |[],_=>true
 |o::r,i=>(ops.toList.zipIdx.all fun q=> !Nat.blt q.2 i || !PS C P ops q.1 o||(bs.getD i 0).testBit q.2)&&OP C P ops bs r (i+1)
def RH (C:Ji)(P:Program)(ops:Array Oper):Bool:=
 ops.toList.zipIdx.all (fun q=>q.1.after.toList.all fun e=> !Region.binds .any e||Nat.blt e.on q.2)&&OP C P ops (Lo ops.toList []) ops.toList 0
def Az:PV->List Nat
 |.view id _ _ _=>[id]
 |.ptr id _=>[id]
 |_=>[]
def Cl:PV->List Nat
 |.agg cs=>cs.flatMap Az
 |p=>Az p
def B8:PV->List Nat
 |.tup ps=>ps.flatMap Cl
 |p=>Cl p
def Yp (P:Program)(o:Op):Bool:=
 match o with
 |.load .. =>true
 |.convert _ dst _=>(match P.underlying dst with|some .string=>true|_=>false)
 |_=>false
def Ry (o:Op):Bool:=
 match o with
 |.call c=>(match c.callee with | .builtin .append=> !FD c|_=>false)
 |_=>false
def Aoa (ops:Array Oper)(x y:Oper):Bool:=
 (match x.dst with|some d=>(looks ops y).any (Nat.beq d)||(match y.dst with|some e=>Nat.beq d e|none=>false)|none=>false) ||
 (match y.dst with|some e=>(looks ops x).any (Nat.beq e)|none=>false)
def Wq (C:Ji)(P:Program)(x y:Oper):Bool:=(Wh C P x.op&&Kk P y.op)||(Wh C P y.op&&Kk P x.op)
def N5 (C:Ji)(P:Program)(x y:Oper):Bool:=(Wh C P x.op&&Yp P y.op)||(Wh C P y.op&&Yp P x.op)||(Ry x.op&&Ry y.op)
def Apt (C:Ji)(P:Program)(ops:Array Oper)(x y:Oper):Bool:=Aoa ops x y||(Wq C P x y && !N5 C P x y)
def HS (C:Ji)(P:Program)(ops:Array Oper)(bs:List Nat):List Oper->Nat->Bool
 |[],_=>true
 |o::r,i=>(ops.toList.zipIdx.all fun q=> !Nat.blt q.2 i || !Apt C P ops q.1 o||(bs.getD i 0).testBit q.2)&&HS C P ops bs r (i+1)
def RK (C:Ji)(P:Program)(ops:Array Oper):Bool:=
 ops.toList.zipIdx.all (fun q=>q.1.after.toList.all fun e=> !Region.binds .any e||Nat.blt e.on q.2)&&HS C P ops (Lo ops.toList []) ops.toList 0
def Qj (C:Ji)(P:Program)(s:St)(o:Oper):List Nat:=
 let l:=o.op.operands.toList.flatMap fun y=>B8 (Cw s.tm y)
 bif Wh C P o.op && !Ry o.op then l++l.flatMap (fun i=>match s.hp i with|some (.st c)=>c.flatMap Az|_=>[])
 else bif Yp P o.op||Ry o.op then l else []
def Alz (a b:List Nat):Bool:=a.all fun i=> !b.any (Nat.beq i)
def FM (C:Ji)(P:Program)(ops:Array Oper)(bs:List Nat)(i:Nat)(o:Oper):List Nat:=
 (ops.toList.zipIdx.filter fun q=>N5 C P q.1 o && !(Nat.blt q.2 i&&(bs.getD i 0).testBit q.2) && !(Nat.blt i q.2&&(bs.getD q.2 0).testBit i)).map (·.2)
def MK (C:Ji)(P:Program)(ops:Array Oper)(bs:List Nat):List (List Nat):=ops.toList.zipIdx.map fun q=>FM C P ops bs q.2 q.1
def NX (C:Ji)(P:Program)(sm:List (List Nat)) (s:St)(i:Nat)(o:Oper):List Nat:=
 match sm.getD i [] with
 |[]=>[]
 |_::_=>Qj C P s o
def VC (C:Ji)(P:Program)(sm:List (List Nat)) (s:St)(i:Nat)(o:Oper)(q:Nat × Oper × List Nat):Bool:=
 !((sm.getD i []).any (Nat.beq q.1))||Alz q.2.2 (NX C P sm s i o)
def K0 {R:Type}(C:Ji)(P:Program)(N:Nat)(call:Af)(ops:Array Oper)(sm:List (List Nat)):List (Nat × Oper × List Nat)->List Nat->St->(St->Option R)->Option R
 |_,[],s,K=>K s
 |dn,i::l,s,K=>F7 ops[i]? fun o=>Ar (dn.all (VC C P sm s i o)&&(NX C P sm s i o).all (fun k=>(s.hp k).isSome)) (Ec C P N call ops o s fun s'=>K0 C P N call ops sm ((i,o,NX C P sm s i o)::dn) l s' K)
def Aqx (m i:Nat):Nat:=m ||| 2 ^ i
def A90 (m i:Nat):Nat:=bif m.testBit i then m ^^^ 2 ^ i else m
def Akg (ops:Array Oper):List Oper->Nat->Nat
 |[],m=>m
 |o::r,m=>
  let m1:=Akg ops r m
  let m2:=match o.dst with|some d=>A90 m1 d|none=>m1
  (looks ops o).foldl Aqx m2
def Sx:Code->Nat->(Nat->Nat)->Nat->Nat
 |.skip,ln,_,_=>ln
 |.region _ ops _,ln,_,_=>Akg ops ops.toList ln
 |.seq a b,ln,lx,lr=>Sx a (Sx b ln lx lr) lx lr
 |.cond c a b,ln,lx,lr=>let m:=Sx a ln lx lr ||| Sx b ln lx lr;match c with | .tmp d=>Aqx m d|_=>m
 |.block id c,ln,lx,lr=>Sx c ln (fun j=>bif Nat.beq j id then ln else lx j) lr
 |.loop c,_,lx,lr=>Sx c (Sx c 0 lx lr) lx lr
 |.exit id,_,lx,_=>lx id
 |.ret,_,_,lr=>lr
 |_,_,_,_=>0
def Aqg (ops:List Oper):List Nat:=(ops.filterMap fun o=>o.guard.map (·.1)).eraseDups
def Rx:Code->Nat
 |.region _ _ _=>1
 |.seq a b=>Rx a+Rx b
 |.cond _ a b=>Rx a+Rx b
 |.block _ c=>Rx c
 |.loop c=>Rx c
 |_=>0
def NV:Code->Nat
 |.skip=>1
 |.region _ ops _=>2 ^ min 6 (Aqg ops.toList).length
 |.seq a b=>bif (Nat.ble 7 (NV a)&&Nat.ble 6 (Rx b))||(Nat.ble 5 (NV a)&&Nat.ble 9 (Rx b)) then NV b else min 1000 (NV a*NV b)
 |.cond _ a b=>NV a+NV b
 |.block _ c=>NV c
 |.loop _=>1
 |.exit _=>1
 |_=>0
def Ayt (P:Program)(o:Oper):Bool:=
 match o.op with
 |.load t _=>Yf P t&&Nat.ble 8 (Bm P t)
 |.store t _ _=>Yf P t&&Nat.ble 8 (Bm P t)
 |_=>false
def Ae2 (P:Program):Code->Bool
 |.region _ ops _=>ops.toList.any (Ayt P)
 |.seq a _=>Ae2 P a
 |_=>false
def Ai4 (P:Program):Code->Bool
 |.region _ ops _=>ops.toList.any (Ayt P)
 |.seq _ b=>Ai4 P b
 |_=>false
def Aqt (x y:Code):Bool:=(Nat.beq (NV x) 4&&Nat.beq (Rx x) 7&&(Nat.beq (Rx y) 3||Nat.beq (Rx y) 1))||(Nat.beq (NV x) 9&&Nat.beq (Rx x) 5&&Nat.beq (Rx y) 5)
def GM (a b:Code):Bool:=Aqt a b||(match b with | .seq x y=>Aqt x y|_=>false)
def Ai2 (P:Program)(a b:Code):Bool:=(Nat.ble 7 (NV a)&&Nat.ble 6 (Rx b))||(Nat.ble 5 (NV a)&&Nat.ble 9 (Rx b))||GM a b||Ae2 P b||Ai4 P a
def P9 (m:Nat):Nat->List Nat
 |0=>[]
 |n+1=>P9 m n++(bif m.testBit n then [n] else [])
def lk (l:List (Nat × PV)) (i:Nat):PV:=
 match l with
 |[]=>.top
 |(j,p)::r=>bif Nat.beq i j then p else lk r i
def Bu (l:List (Nat × Bx)) (i:Nat):Option Bx:=
 match l with
 |[]=>none
 |(j,b)::r=>bif Nat.beq i j then some b else Bu r i
def AY (l:List (Nat × Nat)) (i:Nat):Option Nat:=
 match l with
 |[]=>none
 |(j,b)::r=>bif Nat.beq i j then some b else AY r i
def OI (N:Nat)(s:St)(i:Nat):St:=
 match s.tm i with
 |.lst true es 0 []=>
  bif (s.hp i).isNone then ⟨Dd s.tm i (.view i es 0 0),Dd s.hp i (some (.ar false []))⟩
  else bif (s.hp (i+N*3000)).isNone then ⟨Dd s.tm i (.view (i+N*3000) es 0 0),Dd s.hp (i+N*3000) (some (.ar false []))⟩
  else s
 |_=>s
def Aan (N:Nat)(id:Nat)(s:St)(j:Nat):St:=
 match s.hp id with
 |some (.st c)=>
  match c[j]? with
  |some (.lst true es 0 [])=>bif (s.hp (id+N*(j+1))).isNone then ⟨s.tm,Dd (Dd s.hp id (some (.st (c.set j (.view (id+N*(j+1)) es 0 0))))) (id+N*(j+1)) (some (.ar false []))⟩ else s
  |_=>s
 |_=>s
def Aag (N:Nat)(s:St)(i:Nat):St:=
 match s.tm i with
 |.ptr id _=>
  match s.hp id with
  |some (.st c)=>(List.range c.length).foldl (Aan N id) s
  |_=>s
 |_=>s
def XV (m:List (Nat × Nat)) (old new:Nat):List (Nat × Nat):=
 match AY m old with
 |some _=>m
 |none=>m++[(old,new)]
def Wk (N new:Nat):List PV->Nat->List (Nat × Nat)->List (Nat × Nat)
 |[],_,m=>m
 |.view id _ _ _::r,j,m=>Wk N new r (j+1) (XV m id (new+N*(j+1)))
 |_::r,j,m=>Wk N new r (j+1) m
def ON (N:Nat)(s:St)(m:List (Nat × Nat)) (i:Nat):List (Nat × Nat):=
 match s.tm i with
 |.view id _ _ _=>XV m id i
 |.ptr id _=>
  match AY m id with
  |some _=>m
  |none=>
   match s.hp id with
   |some (.st c)=>Wk N i c 0 (XV m id i)
   |_=>XV m id i
 |.agg c=>Wk N i c 0 m
 |_=>m
def Ahd (m:List (Nat × Nat)):PV->PV
 |.view id es off n=>match AY m id with|some j=>.view j es off n|none=>.top
 |.ptr id off=>match AY m id with|some j=>.ptr j off|none=>.top
 |.sc v=>.sc v
 |.lst z es n c=>.lst z es n c
 |.iptr c off=>.iptr c off
 |_=>.top
def Ana (m:List (Nat × Nat)):PV->PV
 |.agg c=>.agg (c.map (Ahd m))
 |p=>Ahd m p
def Atw (m:List (Nat × Nat)):Bx->Bx
 |.st c=>.st (c.map (Ahd m))
 |b=>b
def Dl (N i:Nat):Nat:=i+N*2000
def Acc (N:Nat)(hp:Nat->Option Bx):Nat->List (Nat × Nat)
 |0=>[]
 |i+1=>bif (hp (Dl N i)).isSome then Acc N hp i++[(Dl N i,Dl N i)] else Acc N hp i
def Zk (N:Nat)(hp:Nat->Option Bx):Nat->List (Nat × Nat)->List (Nat × Nat)
 |0,m=>m
 |i+1,m=>
  match hp (Dl N i) with
  |some (.st c)=>Wk N (Dl N i) c 0 (Zk N hp i m)
  |_=>Zk N hp i m
def Bab (N:Nat)(hp:Nat->Option Bx)(k:Nat):List (Nat × Nat):=Zk N hp k (Acc N hp k)
def Qp (m:List (Nat × Nat)) (hp:Nat->Option Bx):List (Nat × Nat)->List (Nat × Bx)
 |[]=>[]
 |(old,new)::r=>match hp old with
  |some b=>(new,Atw m b)::Qp m hp r
  |none=>Qp m hp r
section
variable {R:Type}
def Aje (N:Nat)(ls:List Nat)(q:Bool)(s:St)(K:St->Option R):Option R:=
 let s2:=bif q then s else ls.foldl (Aag N) (ls.foldl (OI N) s)
 let m:=ls.foldl (ON N s2) (Bab N s2.hp 8)
 Ar (Fl (m.map (·.1))&&Fl (m.map (·.2))) (K ⟨lk (ls.map fun i=>(i,Ana m (s2.tm i))),Bu (Qp m s2.hp m)⟩)
def I3 (N L:Nat)(s:St)(K:St->Option R):Option R:=Aje N (P9 L N) false s K
def Aeq (N L:Nat)(s:St)(K:St->Option R):Option R:=Aje N (P9 L N) true s K
def VK (F:(St->Option R)->St->Option R) (nm:St->(St->Option R)->Option R):Nat->St->Option R
 |0,_=>none
 |n+1,s=>F (fun s'=>nm s' (VK F nm n)) s
def QS (n:Nat)(F:St->Option R)(s:St):Option R:=
 match n with
 |0=>none
 |_+1=>F s
noncomputable def Ap0 (s:St)(c:Operand)(kt kf:St->Option R):Option R:=
 match c with
 |.tmp d=>
  match s.tm d with
  |.sc (.bool b)=>Bk b (kt ⟨Dd s.tm d (.sc (.bool true)),s.hp⟩) (kf ⟨Dd s.tm d (.sc (.bool false)),s.hp⟩)
  |.ub=>Xj (kt s) (kf s)
  |_=>none
 |.const (.bool true)=>kt s
 |.const (.bool false)=>kf s
 |_=>none
noncomputable def Nj (C:Ji)(P:Program)(fu N:Nat)(call:Af):Code->Nat->(Nat->Nat)->Nat->(St->Option R)->(Nat->St->Option R)->(St->Option R)->St->Option R
 |.skip,_,_,_,kn,_,_,s=>kn s
 |.region _ ops draw,_,_,_,kn,_,_,s=>UW (draw && !RH C P ops) (Ar (RK C P ops) (Aos (MK C P ops (Lo ops.toList [])) fun sm=>K0 C P N call ops sm [] (List.range ops.size) s kn)) (UW draw (Rn C P N call ops ops.toList s kn) (K4 C P N call ops ops.toList s kn))
 |.seq a b,ln,lx,lr,kn,kx,kr,s=>Nj C P fu N call a (Sx b ln lx lr) lx lr (fun s'=>UW (Ai2 P a b) (UW (GM a b) (Aeq N (Sx b ln lx lr) s' (QS fu fun s''=>Nj C P fu N call b ln lx lr kn kx kr s'')) (I3 N (Sx b ln lx lr) s' (QS fu fun s''=>Nj C P fu N call b ln lx lr kn kx kr s''))) (Nj C P fu N call b ln lx lr kn kx kr s')) kx kr s
 |.cond c a b,ln,lx,lr,kn,kx,kr,s=>Ap0 s c (Nj C P fu N call a ln lx lr kn kx kr) (Nj C P fu N call b ln lx lr kn kx kr)
 |.block id c,ln,lx,lr,kn,kx,kr,s=>Nj C P fu N call c ln (fun j=>bif Nat.beq j id then ln else lx j) lr kn (fun j s'=>bif Nat.beq j id then kn s' else kx j s') kr s
 |.loop c,ln,lx,lr,_,kx,kr,s=>
  I3 N (Sx (.loop c) ln lx lr) s (VK (fun k s'=>Nj C P fu N call c (Sx (.loop c) ln lx lr) lx lr k kx kr s') (I3 N (Sx (.loop c) ln lx lr)) fu)
 |.exit id,_,_,_,_,kx,_,s=>kx id s
 |.ret,_,_,_,_,_,kr,s=>kr s
 |_,_,_,_,_,_,_,_=>none
def Ap9 (id:Nat)(t:CT)(p:PV)(K:PV->List (Nat × Bx)->Option R):Option R:=
 match t with
 |.sl es=>
  match p with
  |.own es' n c=>bif Nat.beq es' es then K (.view id es 0 n) [(id,.ar false c)] else none
  |p=>Em es p fun z n c=>K (.lst z es n c) []
 |t=>JL t p fun c=>K c []
def LJ (N:Nat):Nat->List CT->List PV->(List PV->List (Nat × Bx)->Option R)->Option R
 |_,[],ps,K=>Ac ps (K [] [])
 |id,t::ts,ps,K=>Ab ps fun p ps=>Ap9 id t p fun c b=>LJ N (id+N) ts ps fun cs bs=>K (c::cs) (b++bs)
def inK (P:Program)(N i:Nat)(t:TypeId)(p:PV)(K:PV->List (Nat × Bx)->Option R):Option R:=
 match FN P t with
 |some e=>BX p fun ps=>Ar (Nat.blt i 8) (LJ N (Dl N i+N) (K5 P e) ps fun cs bs=>K (.ptr (Dl N i) 0) ((Dl N i,.st cs)::bs))
 |none=>
  match p with
  |.tup ps=>F7 (A4n P t) fun e=>Ar (Nat.blt i 8) (Ab ps fun q r=>Ac r (Gw (Bm P e) q fun n c=>K (.view (Dl N i) (Bm P e) 0 n) [(Dl N i,.ar false c)]))
  |p=>
   bif Cx P t then Ft p fun ps=>LJ N (i+N) (K5 P t) ps fun cs bs=>K (.agg cs) bs
   else LJ N (i+N) (K5 P t) [p] fun cs bs=>Ab cs fun c r=>Ac r (K c bs)
def Agm (P:Program)(N:Nat):Nat->List TypeId->List PV->(List (Nat × PV)->List (Nat × Bx)->Option R)->Option R
 |_,[],ps,K=>Ac ps (K [] [])
 |i,t::ts,ps,K=>Ab ps fun p ps=>inK P N i t p fun v bs=>Agm P N (i+1) ts ps fun vs bs'=>K ((i,v)::vs) (bs++bs')
def Aw8 (hp:Nat->Option Bx)(t:CT)(p:PV)(K:PV->List Nat->List Nat->Option R):Option R:=
  match t with
  |.sl es=>
    match p with
    |.view id es' off n=>bif Nat.beq es' es&&Nat.beq off 0 then
        (match hp id with
         |some (.ar false c)=>Ar (decide (n*es<=c.length)) (K (.own es n (c.take (n*es))) [id] [])
         |_=>none) else none
    |p=>Em es p fun z _ _=>Ar z (K (.own es 0 []) [] [])
  |t=>JL t p fun c=>K c [] []
def Akc (shr:Bool)(hp:Nat->Option Bx)(t:CT)(p:PV)(K:PV->List Nat->List Nat->Option R):Option R:=
 bif shr then Sy (Ny hp) t p fun c m=>K c [] m else Aw8 hp t p K
def JZ (shr:Bool)(hp:Nat->Option Bx):List CT->List PV->(List PV->List Nat->List Nat->Option R)->Option R
 |[],[],K=>K [] [] []
 |t::ts,p::ps,K=>Akc shr hp t p fun c m z=>JZ shr hp ts ps fun cs ms zs=>K (c::cs) (m++ms) (z++zs)
 |_,_,_=>none
def Ard (P:Program)(shr:Bool)(hp:Nat->Option Bx)(t:TypeId)(p:PV)(K:PV->List Nat->List Nat->Option R):Option R:=
 match FN P t with
 |some e=>
  match p with
  |.ptr id off=>
   match hp id with
   |some (.st c)=>Ar (Nat.beq off 0) (JZ shr hp (K5 P e) c fun cs m z=>K (.pbox cs) (id::m) z)
   |_=>none
  |_=>none
 |none=>
  bif Cx P t then Ft p fun ps=>JZ shr hp (K5 P t) ps fun cs m z=>K (.agg cs) m z
  else JZ shr hp (K5 P t) [p] fun cs m z=>Ab cs fun c r=>Ac r (K c m z)
def Arq (P:Program)(s:St)(r:ResultVar)(K:PV->Option R):Option R:=
 match r with
 |.tmp t=>K (s.tm t)
 |.cell a t=>HH P (rd s.hp) (Ny s.hp) t (s.tm a) K
def Abb (P:Program)(shr:Bool)(s:St):List ResultVar->List TypeId->(List PV->List Nat->List Nat->Option R)->Option R
 |[],[],K=>K [] [] []
 |r::rs,t::ts,K=>Arq P s r fun p=>Ard P shr s.hp t p fun v m z=>Abb P shr s rs ts fun vs ms zs=>K (v::vs) (m++ms) (z++zs)
 |_,_,_=>none
def OV (hp:Nat->Option Bx):List CT->List PV->List PV->(List PV->List Nat->List Nat->Option R)->Option R
 |[],[],[],K=>K [] [] []
 |t::ts,w::ws,p::ps,K=>Akc (match w with | .own _ _ _=>false|_=>true) hp t p fun c m z=>OV hp ts ws ps fun cs ms zs=>K (c::cs) (m++ms) (z++zs)
 |_,_,_,_=>none
def IG (P:Program)(N:Nat)(hp:Nat->Option Bx):Nat->List TypeId->List PV->(List (List PV)->List Nat->List Nat->List Nat->Option R)->Option R
 |_,[],ps,K=>Ac ps (K [] [] [] [])
 |i,t::ts,ps,K=>Ab ps fun p ps=>
  match p with
  |.pbox ws=>F7 (FN P t) fun e=>
    match hp (Dl N i) with
    |some (.st c)=>OV hp (K5 P e) ws c fun cs m z=>IG P N hp (i+1) ts ps fun r m' z' q=>K (cs::r) (m++m') (z++z') (Dl N i::q)
    |_=>none
  |.tup _=>
    match hp (Dl N i) with
    |some (.ar false c)=>IG P N hp (i+1) ts ps fun r m' z' q=>K (c::r) m' z' (Dl N i::q)
    |_=>none
  |_=>IG P N hp (i+1) ts ps K
def Ai3 (rs:List ResultVar):Nat:=rs.foldl (fun m r=>match r with | .tmp t=>Aqx m t | .cell a _=>Aqx m a) 0
end
def PI (P:Program):Nat->List TypeId->Nat->Nat
 |_,[],m=>m
 |i,t::ts,m=>PI P (i+1) ts (match P.underlying t with|some (.pointer _)=>Aqx m i|_=>m)
def Afg (C:Ji)(P:Program)(f:FuncId)(fn:Func)(args:List PV)(s:St):Option A5:=
 Abb P (C.shr f) s fn.results.toList fn.resultTypes.toList fun vs m z=>IG P fn.ntmps s.hp 0 fn.params.toList args fun os m' z' q=>
  Ar (Fl ((m++m')++q)&&(z++z').all (fun i=> !(((m++m')++q).any (Nat.beq i)))) (some ⟨vs,os⟩)
noncomputable def Avr (C:Ji)(P:Program)(fu:Nat)(call:Af)(f:FuncId)(fn:Func)(c:Code)(args:List PV):Option A5:=
  Agm P fn.ntmps 0 fn.params.toList args fun tms bs=>Ar (Nat.ble args.length fn.ntmps&&Ck (fun _=>none) bs)
    (let lr:=PI P 0 fn.params.toList (Ai3 fn.results.toList)
     Nj C P fu fn.ntmps call c lr (fun _=>0) lr (Afg C P f fn args) (fun _ _=>none) (Afg C P f fn args) ⟨lk tms,Bu bs⟩)
noncomputable def Ad (C:Ji)(P:Program)(fu:Nat):Nat->FuncId->List PV->Option A5
 |0,_,_=>none
 |d+1,f,args=>
  match C.ext f with
  |some g=>g args
  |none=>
   match P.funcs[f]? with
   |none=>none
   |some fn=>match fn.body with
    |none=>none
    |some c=>Avr C.core P fu (Ad C P fu d) f fn c args
inductive Dir where
 |l
 |r
 |i (m:Nat)
section
variable {R:Type}
noncomputable def EK (C:Ji)(P:Program)(fu N:Nat)(call:Af):List Dir->Code->Nat->(Nat->Nat)->Nat->(St->Option R)->(Nat->St->Option R)->(St->Option R)->Nat->St->Option R
 |[],.seq _ b,ln,lx,lr,kn,kx,kr,n,s=>QS n (fun s''=>Nj C P fu N call b ln lx lr kn kx kr s'') s
 |[],.loop c,ln,lx,lr,_,kx,kr,n,s=>VK (fun k s'=>Nj C P fu N call c (Sx (.loop c) ln lx lr) lx lr k kx kr s') (I3 N (Sx (.loop c) ln lx lr)) n s
 |.l::p,.seq a b,ln,lx,lr,kn,kx,kr,n,s=>EK C P fu N call p a (Sx b ln lx lr) lx lr (fun s'=>UW (Ai2 P a b) (UW (GM a b) (Aeq N (Sx b ln lx lr) s' (QS fu fun s''=>Nj C P fu N call b ln lx lr kn kx kr s'')) (I3 N (Sx b ln lx lr) s' (QS fu fun s''=>Nj C P fu N call b ln lx lr kn kx kr s''))) (Nj C P fu N call b ln lx lr kn kx kr s')) kx kr n s
 |.r::p,.seq _ b,ln,lx,lr,kn,kx,kr,n,s=>EK C P fu N call p b ln lx lr kn kx kr n s
 |.l::p,.cond _ a _,ln,lx,lr,kn,kx,kr,n,s=>EK C P fu N call p a ln lx lr kn kx kr n s
 |.r::p,.cond _ _ b,ln,lx,lr,kn,kx,kr,n,s=>EK C P fu N call p b ln lx lr kn kx kr n s
 |.l::p,.block id c,ln,lx,lr,kn,kx,kr,n,s=>EK C P fu N call p c ln (fun j=>bif Nat.beq j id then ln else lx j) lr kn (fun j s'=>bif Nat.beq j id then kn s' else kx j s') kr n s
 |.i m::p,.loop c,ln,lx,lr,_,kx,kr,n,s=>
  EK C P fu N call p c (Sx (.loop c) ln lx lr) lx lr
   (fun s'=>I3 N (Sx (.loop c) ln lx lr) s' (VK (fun k s'=>Nj C P fu N call c (Sx (.loop c) ln lx lr) lx lr k kx kr s') (I3 N (Sx (.loop c) ln lx lr)) m)) kx kr n s
 |_,_,_,_,_,_,_,_,_,_=>none
end
noncomputable def Dh (C:Ji)(P:Program)(fu:Nat)(call:Af)(f:FuncId)(fn:Func)(c:Code)(args:List PV)(p:List Dir)(n:Nat)(s:St):Option A5:=
 let lr:=PI P 0 fn.params.toList (Ai3 fn.results.toList)
 EK C P fu fn.ntmps call p c lr (fun _=>0) lr (Afg C P f fn args) (fun _ _=>none) (Afg C P f fn args) n s
def Aui:List Nat:=[
 1000000]
def Az8:List Nat:=[
 10,
 36,
 11,
 16,
 26,
 48,
 91,
 27,
 52,
 37,
 71,
 72,
 12,
 43,
 83,
 28,
 1000000]
def Az5:List Nat:=[
 1000000]
def Ayv:List Nat:=[
 108,
 133,
 106,
 87,
 142,
 122,
 123,
 144,
 132,
 88,
 121,
 117,
 138,
 1000000]
def RU (args:List PV):Option A5:=
 match args with
 |[.sc (.string s)]=>bif decide (s.size<=9223372036854775807) then some ⟨[.sc (.bool (Lib.validD s.data.toList))],[]⟩ else none
 |_=>none
def Yw (args:List PV):Option A5:=
  match args with
  |[.lst _ 1 n c,.lst _ 1 m c']=>bif Nat.beq c.length n&&Nat.beq c'.length m then
      (match bytesOf c,bytesOf c' with
       |some a,some b=>some ⟨[.sc (.int .i64 (Lib.compareBytes a b))],[]⟩
       |_,_=>none) else none
  |_=>none
def FF:List Nat:=[
 147,
 86,
 135,
 136,
 134,
 109,
 66,
 137,
 128,
 103,
 61,
 33,
 85,
 79,
 120,
 110,
 111,
 115,
 75,
 112,
 114,
 69,
 67,
 68,
 92,
 76,
 129,
 125,
 46,
 49,
 40,
 71,
 72,
 37,
 52,
 1000000]
def CB:Ji:=⟨fun f=>Az8.any (Nat.beq f),fun f i=>Nat.beq i 0&&Ayv.any (Nat.beq f),fun f i=>Nat.beq i 0&&Az5.any (Nat.beq f),fun f=>Aui.any (Nat.beq f),fun _=>none⟩
def CX (xs:FuncId->Option (List PV->Option A5)):Ji:={ CB with ext:=fun f=>bif FF.any (Nat.beq f) then none else xs f }
def B7 (f:Func):Code:=match f.body with|some c=>c|none=>.skip
section
variable {R:Type} {r:Option R}
theorem At {k:IntKind}{p:PV}{K:Int->Option R}{n:Int}(h:p=.sc (.int k n)) (hk:K n=r):Ae k p K=r:=by
 subst h;unfold Ae;simp[hk]
theorem A75 {p:PV}{K:IntKind->Int->Option R}{k:IntKind}{n:Int}(h:p=.sc (.int k n)) (hk:K k n=r):Ei p K=r:=by
 subst h;exact hk
theorem A7 {p:PV}{K:Bool->Option R}{b:Bool}(h:p=.sc (.bool b)) (hk:K b=r):Bv p K=r:=by
 subst h;exact hk
theorem B4 {p:PV}{K:ByteArray->Option R}{s:ByteArray}(h:p=.sc (.string s)) (hk:K s=r):Iv p K=r:=by
 subst h;exact hk
theorem Bg {es:Nat}{p:PV}{K:Bool->Nat->List PV->Option R}{z:Bool}{n:Nat}{c:List PV}(h:p=.lst z es n c)(hk:K z n c=r):Em es p K=r:=by
 subst h;unfold Em;simp[Nat.beq_refl,hk]
theorem Bo {es:Nat}{p:PV}{K:Nat->List PV->Option R}{n:Nat}{c:List PV}(h:p=.own es n c)(hk:K n c=r):Gw es p K=r:=by
 subst h;unfold Gw;simp[Nat.beq_refl,hk]
theorem Au {b:Bool}{K:Option R}(h:b=true)(hk:K=r):Ar b K=r:=by
 subst h;exact hk
theorem Aog {b:Bool}{x y:Option R}(hx:b=true->x=r)(hy:b=false->y=r):Bk b x y=r:=by
 cases b
 ·exact hy rfl
 ·exact hx rfl
theorem Aw {b:Bool}{x y:Option R}(h:b=true)(hx:x=r):Bk b x y=r:=by
 subst h;exact hx
theorem As {b:Bool}{x y:Option R}(h:b=false)(hx:y=r):Bk b x y=r:=by
 subst h;exact hx
theorem He {α:Type}{o:Option α}{K:α->Option R}{a:α}(h:o=some a)(hk:K a=r):F7 o K=r:=by
 subst h;exact hk
theorem Ao {α:Type}{l:List α}{K:α->List α->Option R}{a:α}{t:List α}(h:l=a::t)(hk:K a t=r):Ab l K=r:=by
 subst h;exact hk
theorem Av {α:Type}{l:List α}{K:Option R}(h:l=[]) (hk:K=r):Ac l K=r:=by
 subst h;exact hk
theorem Bc {p:PV}{K:List PV->Option R}{c:List PV}(h:p=.agg c)(hk:K c=r):Ft p K=r:=by
 subst h;exact hk
theorem Gr {p:PV}{K:List PV->Option R}{c:List PV}(h:p=.pbox c)(hk:K c=r):BX p K=r:=by
 subst h;exact hk
theorem Am {o:Option A5}{K:List PV->List (List PV)->Option R} {v:List PV}{q:List (List PV)} (h:o=some ⟨v,q⟩)(hk:K v q=r):Aj o K=r:=by
 subst h;exact hk
theorem ZC {x y:Option R}(hx:x=r)(hy:y=r):Xj x y=r:=by subst hx;subst hy;unfold Xj;simp
end
theorem NE (a b:Int):(a != b)=decide (a≠b):=by by_cases h:a=b<;>simp[h,bne]
theorem Alf (a b:Int):(a==b)=decide (a=b):=by by_cases h:a=b<;>simp[h]
section
variable {R:Type}
theorem Ajz (v:List PV)(o:List (List PV)) (K:List PV->List (List PV)->Option R):Aj (some ⟨v,o⟩) K=K v o:=by exact id rfl
theorem Aoh {α:Type}(K:Option R):Ac ([]:List α) K=K:=by exact id rfl
theorem Ajr {α:Type}(a:α)(r:List α)(K:α->List α->Option R):Ab (a::r) K=K a r:=by exact id rfl
theorem Aiq (b:Bool)(K:Bool->Option R):Bv (.sc (.bool b)) K=K b:=by exact id rfl
theorem Aqz (s:ByteArray)(K:ByteArray->Option R):Iv (.sc (.string s)) K=K s:=by exact id rfl
theorem Aa4 (k:IntKind)(n:Int)(K:Int->Option R):Ae k (.sc (.int k n)) K=K n:=by unfold Ae;simp
theorem Aqb (k:IntKind)(n:Int)(K:IntKind->Int->Option R):Ei (.sc (.int k n)) K=K k n:=by exact id rfl
theorem Axc (z:Bool)(es n:Nat)(c:List PV)(K:Bool->Nat->List PV->Option R):Em es (.lst z es n c) K=K z n c:=by unfold Em;simp
theorem Ayg (es n:Nat)(c:List PV)(K:Nat->List PV->Option R):Gw es (.own es n c) K=K n c:=by unfold Gw;simp
theorem Aqo (c:List PV)(K:List PV->Option R):Ft (.agg c) K=K c:=by exact id rfl
theorem Ajj (c:List PV)(K:List PV->Option R):BX (.pbox c) K=K c:=by exact id rfl
theorem Aob {α:Type}(a:α)(K:α->Option R):F7 (some a) K=K a:=by exact id rfl
theorem I6 {α:Type}(a:α)(K:α->Option R):Aa a K=K a:=by exact id rfl
theorem An9 (K:Option R):Ar true K=K:=by exact id rfl
theorem YW (p:Prop) [Decidable p] (K:Option R)(h:p):Ar (decide p) K=K:=by simp[Ar,h]
theorem Ais (b c:Bool)(K:Option R):Ar (b&&c) K=Ar b (Ar c K):=by cases b<;>rfl
theorem Asi (x y:Option R):Bk true x y=x:=by exact id rfl
theorem Aoc (x y:Option R):Bk false x y=y:=by exact id rfl
theorem EF (p:Prop) [Decidable p] (x y:Option R)(h:p):Bk (decide p) x y=x:=by simp[Bk,h]
theorem Ej (p:Prop) [Decidable p] (x y:Option R)(h:¬p):Bk (decide p) x y=y:=by simp[Bk,h]
theorem JA (p:Prop) [Decidable p] (x y:Option R):Bk (decide p) x y=if p then x else y:=by by_cases h:p<;>simp[Bk,h]
theorem Nf (a b:Int)(x y:Option R):Bk (a==b) x y=if a=b then x else y:=by
 rw[Alf,JA]
theorem Hb (a b:Int)(x y:Option R):Bk (a != b) x y=if a=b then y else x:=by
 rw[NE,JA];by_cases h:a=b<;>simp[h]
theorem OJ (x:Option R):Xj x x=x:=by unfold Xj;simp
end
theorem Ap {x:Int}(h1: -9223372036854775808<=x)(h2:x<=9223372036854775807):IntKind.wrap .i64 x=x:=by
 have:=IntWalk.i64_in x (by omega)
 exact this
theorem D7 {x:Int}(h1:0<=x)(h2:x<=18446744073709551615):IntKind.wrap .u64 x=x:=by
 simp only[IntKind.wrap,IntKind.signed,IntKind.bits];simp;omega
theorem Lu {x:Int}(h1:0<=x)(h2:x<=255):IntKind.wrap .u8 x=x:=by
 simp only[IntKind.wrap,IntKind.signed,IntKind.bits];simp;omega
theorem Kh (x:Int):0<=IntKind.wrap .u64 x∧IntKind.wrap .u64 x<=18446744073709551615:=by
 simp only[IntKind.wrap,IntKind.signed,IntKind.bits];simp;omega
theorem D1 {α:Type}{l r:List α}{x:α}{i:Nat}(h:l.drop i=x::r):i<l.length∧l[i]?=some x∧l.drop (i+1)=r:=by
 have h1:i<l.length:=by
  rcases Nat.lt_or_ge i l.length with h1|h1
  ·exact h1
  ·rw[List.drop_of_length_le h1] at h;cases h
 rw[List.drop_eq_getElem_cons h1] at h;injection h with h2 h3;exact⟨h1,by rw[List.getElem?_eq_getElem h1,h2],h3⟩
theorem drop_nil {α:Type}{l:List α}{i:Nat}(h:l.drop i=[]):l.length<=i:=by
 have:=congrArg List.length h;simp at this;omega
section
variable {α:Type} {f:α->List PV} {k:Nat}
theorem Ug (hf:∀x,(f x).length=k):∀(l:List α),(l.flatMap f).length=l.length*k
 |[]=>by simp
 |x::l=>by simp[hf x,Ug hf l,Nat.succ_mul];omega
theorem ZV (hf:∀x,(f x).length=k):∀(l:List α)(i:Nat),(l.flatMap f).drop (i*k)=(l.drop i).flatMap f
 |l,0=>by simp
 |[],i+1=>by simp
 |x::l,i+1=>by
  rw[List.flatMap_cons,Nat.succ_mul,Nat.add_comm,←List.drop_drop,List.drop_append_of_le_length (by rw[hf x];omega)]
  rw[show (f x).drop k=[] from List.drop_of_length_le (by rw[hf x];omega),List.nil_append]
  exact ZV hf l i
theorem Ake (hf:∀x,(f x).length=k):∀(l:List α)(i:Nat),(l.flatMap f).take (i*k)=(l.take i).flatMap f
 |l,0=>by simp
 |[],i+1=>by simp
 |x::l,i+1=>by
  rw[List.flatMap_cons,Nat.succ_mul,Nat.add_comm,List.take_succ_cons,List.flatMap_cons,←Ake hf l i];rw[show k+i*k=(f x).length+i*k by rw[hf x],List.take_length_add_append]
theorem Iq (hf:∀x,(f x).length=k) {l:List α}{i:Nat}{x:α}(h:l[i]?=some x) {j:Nat}(hj:j<k):(l.flatMap f).getD (i*k+j) .top=(f x).getD j .top:=by
 have h1:((l.flatMap f).drop (i*k))[j]?=(l.flatMap f)[i*k+j]?:=List.getElem?_drop;rw[ZV hf] at h1
 have h2:i<l.length:=by
  rcases Nat.lt_or_ge i l.length with h1|h1
  ·exact h1
  ·rw[List.getElem?_eq_none h1] at h;cases h
 rw[List.drop_eq_getElem_cons h2,List.flatMap_cons] at h1;have h3:l[i]=x:=by rw[List.getElem?_eq_getElem h2] at h;injection h
 rw[h3,List.getElem?_append_left (by rw[hf x];exact hj)] at h1
 simp only[List.getD_eq_getElem?_getD,←h1]
theorem G8 {c:List PV}{p:PV}{i:Nat}(h:i<c.length):Bq c [p] i=c.set i p:=by
 unfold Bq;rw[List.set_eq_take_append_cons_drop,if_pos h];simp
end
theorem A03 {α:Type}{l:List α}{i:Nat}{x:α}(h:l[i]?=some x):i<l.length:=by
 rcases Nat.lt_or_ge i l.length with h1|h1
 ·exact h1
 ·rw[List.getElem?_eq_none h1] at h;cases h
abbrev A0g (k:IntKind)(n:Int):List PV:=[.sc (.int k n)]
abbrev Ah (k:IntKind)(l:List Int):List PV:=l.flatMap (A0g k)
theorem FQ (k:IntKind)(n:Int):(A0g k n).length=1:=rfl
theorem EU {k:IntKind}{l:List Int}{i:Nat}{n:Int}(h:l[i]?=some n):(Ah k l).getD i .top=.sc (.int k n):=by
 have:=Iq (FQ k) h (j:=0) (by omega)
 simpa using this
theorem Ay (k:IntKind)(l:List Int):(Ah k l).length=l.length:=by rw[Ug (FQ k)];omega
theorem Kg (k:IntKind)(l:List Int)(n:Int):Ah k l++[.sc (.int k n)]=Ah k (l++[n]):=by simp
theorem Mt (k:IntKind)(l:List Int):List.take l.length (Ah k l)=Ah k l:=List.take_of_length_le (by rw[Ay];omega)
theorem Cu:type_of% @Ajz∧type_of% @Aoh∧type_of% @Ajr∧type_of% @Aiq∧type_of% @Aqz∧type_of% @Aa4∧type_of% @Aqb∧type_of% @Axc∧type_of% @Ayg∧type_of% @Aqo∧type_of% @Ajj∧type_of% @Aob∧type_of% @I6∧type_of% @An9∧type_of% @YW∧type_of% @Ais∧type_of% @Asi∧type_of% @Aoc∧type_of% @EF∧type_of% @Ej∧type_of% @OJ∧type_of% @Bool.not_true∧type_of% @Bool.not_false∧type_of% @Bool.false_eq_true∧type_of% @if_true.{1}∧type_of% @if_false.{1}∧type_of% @Bool.true_and∧type_of% @Bool.and_true∧type_of% @Bool.false_and∧type_of% @Bool.and_false∧type_of% @decide_true∧type_of% @decide_false:=
 ⟨@Ajz,@Aoh,@Ajr,@Aiq,@Aqz,@Aa4,@Aqb,@Axc,@Ayg,@Aqo,@Ajj,@Aob,@I6,@An9,@YW,@Ais,@Asi,@Aoc,@EF,@Ej,@OJ,@Bool.not_true,@Bool.not_false,@Bool.false_eq_true,@if_true.{1},@if_false.{1},@Bool.true_and,@Bool.and_true,@Bool.false_and,@Bool.and_false,@decide_true,@decide_false⟩
theorem gT:type_of% @Bool.and_eq_true∧type_of% @decide_eq_true_eq∧type_of% @beq_iff_eq.{0}∧type_of% @bne_iff_ne.{0}∧type_of% @ne_eq.{1}∧type_of% @Bool.not_eq_true'∧type_of% @true_and∧type_of% @and_true:=
 ⟨@Bool.and_eq_true,@decide_eq_true_eq,@beq_iff_eq.{0},@bne_iff_ne.{0},@ne_eq.{1},@Bool.not_eq_true',@true_and,@and_true⟩
theorem gF:type_of% @decide_eq_false_iff_not∧type_of% @beq_eq_false_iff_ne.{0}∧type_of% @bne_eq_false_iff_eq.{0}∧type_of% @ne_eq.{1}∧type_of% @Bool.not_eq_false':=
 ⟨@decide_eq_false_iff_not,@beq_eq_false_iff_ne.{0},@bne_eq_false_iff_eq.{0},@ne_eq.{1},@Bool.not_eq_false'⟩
end
section
open Go.RowKit
def Bw {α β:Type}(R:α->β->Prop):List α->List β->Prop
 |[],[]=>True
 |a::zs,b::bs=>R a b∧Bw R zs bs
 |_,_=>False
section
variable {α β γ:Type} {R S:α->β->Prop}
theorem Bw.len:∀{zs:List α}{bs:List β},Bw R zs bs->zs.length=bs.length
 |[],[],_=>rfl
 |_::_,_::_,h=>by simp[Bw.len h.2]
 |[],_::_,h=>h.elim
 |_::_,[],h=>h.elim
theorem Bw.at_:∀{zs:List α}{bs:List β},Bw R zs bs->∀{i:Nat} {a b},zs[i]?=some a->bs[i]?=some b->R a b
 |[],[],_,i,a,b,h,_=>by simp at h
 |_::_,_::_,h,0,a,b,ha,hb=>by simp at ha hb;subst ha;subst hb;exact h.1
 |_::_,_::_,h,i+1,a,b,ha,hb=>by simp at ha hb;exact Bw.at_ h.2 ha hb
 |[],_::_,h,_,_,_,_,_=>h.elim
 |_::_,[],h,_,_,_,_,_=>h.elim
theorem Bw.of_at:∀{zs:List α}{bs:List β},zs.length=bs.length->(∀(i:Nat) a b,zs[i]?=some a->bs[i]?=some b->R a b)->Bw R zs bs
 |[],[],_,_=>trivial
 |a::zs,b::bs,hl,h=>⟨h 0 a b rfl rfl,Bw.of_at (by simpa using hl) fun i x y hx hy=>h (i+1) x y hx hy⟩
 |[],_::_,hl,_=>by simp at hl
 |_::_,[],hl,_=>by simp at hl
theorem Bw.mono (hRS:∀a b,R a b->S a b):∀{zs:List α}{bs:List β},Bw R zs bs->Bw S zs bs
 |[],[],_=>trivial
 |_::_,_::_,h=>⟨hRS _ _ h.1,Bw.mono hRS h.2⟩
 |[],_::_,h=>h.elim
 |_::_,[],h=>h.elim
theorem Bw.mono_mem:∀{zs:List α}{bs:List β},(∀a∈zs,∀b,R a b->S a b)->Bw R zs bs->Bw S zs bs
 |[],[],_,_=>trivial
 |a::_,_::_,hRS,h=>⟨hRS a (by simp) _ h.1,Bw.mono_mem (fun x hx=>hRS x (by simp[hx])) h.2⟩
 |[],_::_,_,h=>h.elim
 |_::_,[],_,h=>h.elim
theorem Bw.app:∀{zs:List α}{bs:List β}{as':List α}{bs':List β},Bw R zs bs->Bw R as' bs'->Bw R (zs++as') (bs++bs')
 |[],[],_,_,_,h'=>h'
 |_::_,_::_,_,_,h,h'=>⟨h.1,Bw.app h.2 h'⟩
 |[],_::_,_,_,h,_=>h.elim
 |_::_,[],_,_,h,_=>h.elim
theorem Bw.take:∀(n:Nat){zs:List α}{bs:List β},Bw R zs bs->Bw R (zs.take n) (bs.take n)
 |0,_,_,_=>by simp[Bw]
 |_+1,[],[],_=>trivial
 |n+1,_::_,_::_,h=>⟨h.1,Bw.take n h.2⟩
 |_+1,[],_::_,h=>h.elim
 |_+1,_::_,[],h=>h.elim
theorem Bw.drop:∀(n:Nat){zs:List α}{bs:List β},Bw R zs bs->Bw R (zs.drop n) (bs.drop n)
 |0,_,_,h=>h
 |_+1,[],[],_=>trivial
 |n+1,_::_,_::_,h=>Bw.drop n h.2
 |_+1,[],_::_,h=>h.elim
 |_+1,_::_,[],h=>h.elim
end
inductive A4 (w:World) (A:Nat->Prop):PV->Value->Prop where
 |sc (v:Value):A4 w A (.sc v) v
 |top (v:Value):A4 w A .top v
 |ub (b:Bool):A4 w A .ub (.bool b)
 |lnil (z:Bool) (es:Nat):A4 w A (.lst z es 0 []) (.slice none 0 0)
 |lemp (es:Nat) (a:Addr) (cap:Nat):A4 w A (.lst false es 0 []) (.slice (some a) 0 cap)
 |lst (es n:Nat) (cells:List PV) (a:Addr) (cap:Nat) (f:Nat->Value) (hs:a.spot=none) (hb:a.block<w.heap.size) (hA:¬A a.block) (hn:n<=cap)
   (hc:∀j c,cells[j]?=some c->w.cell? (a.add j)=some (f j)) (h1:∀j c,cells[j]?=some c->(f j).oneCell'=true) (hr:∀j c,cells[j]?=some c->A4 w A c (f j)):A4 w A (.lst false es n cells) (.slice (some a) n cap)
def bsz (w:World)(b:Nat):Nat:=
 match w.heap[b]? with
 |some (.cells c _ _)=>c.size
 |_=>0
def VH (w:World)(A:Nat->Prop)(a:Addr)(cells:List PV):Prop:=∀j c,cells[j]?=some c->∃v,w.cell? (a.add j)=some v∧v.oneCell'=true∧A4 w A c v
def Cj (w:World)(A:Nat->Prop)(β:Nat->Option (Nat × Nat)) (p:PV)(v:Value):Prop:=
 match p with
 |.view id es off n=>(β id=none∧off=0∧n=0∧∃ad,v=.slice ad 0 0) ∨
   ∃b o x cap,β id=some (b,o)∧v=.slice (some ⟨b,x,none⟩) n cap∧(x=o+off∨(n=0∧off≠0))∧n<=cap∧x+cap*es<=bsz w b∧b<w.heap.size
 |.ptr id off=>∃b o,β id=some (b,o)∧v=.pointer (some ⟨b,o+off,none⟩)
 |.iptr c off=>∃a:Addr,v=.pointer (some (a.add off))∧a.spot=none∧a.block<w.heap.size∧¬A a.block∧VH w A a c
 |p=>A4 w A p v
def Ia (w:World)(A:Nat->Prop)(β:Nat->Option (Nat × Nat)) (p:PV)(v:Value):Prop:=
 match p with
 |.agg cs=>∃vs,v=.agg ⟨vs⟩∧Bw (Cj w A β) cs vs
 |p=>Cj w A β p v
def Ed (w:World)(A:Nat->Prop)(β:Nat->Option (Nat × Nat)) (p:PV)(v:Value):Prop:=
 match p with
 |.tup ps=>∃vs,v=.tuple ⟨vs⟩∧Bw (Ia w A β) ps vs
 |p=>Ia w A β p v
structure Cq (A:Nat->Prop) (w w':World):Prop where
 size:w.heap.size<=w'.heap.size
 keep:∀b,b<w.heap.size->¬A b->w'.heap[b]?=w.heap[b]?
 bs:∀b,b<w.heap.size->bsz w b<=bsz w' b
theorem Hh (a:Addr)(j:Nat):(a.add j).block=a.block:=by unfold Addr.add;split<;>rfl
theorem add_add (a:Addr)(i j:Nat):(a.add i).add j=a.add (i+j):=by
 unfold Addr.add;by_cases hi:i=0<;>by_cases hj:j=0<;>simp[hi,hj,Nat.add_assoc]
theorem Eu (b o j:Nat):(⟨b,o,none⟩:Addr).add j=⟨b,o+j,none⟩:=by
 unfold Addr.add;by_cases hj:j=0<;>simp[hj]
theorem Apu {a:Addr}(h:a.spot=none)(j:Nat):(a.add j).spot=none:=by unfold Addr.add;split<;>simp[h]
section
variable {w w':World} {A A':Nat->Prop} {β β':Nat->Option (Nat × Nat)}
theorem Cq.cell (h:Cq A w w'){a:Addr}(hb:a.block<w.heap.size)(hA:¬A a.block):w'.cell? a=w.cell? a:=
 World.cell?_of_block (h.keep a.block hb hA)
theorem A4.step (h:Cq A w w')(hA:∀b,b<w.heap.size->A' b->A b){p:PV}{v:Value}(t:A4 w A p v):A4 w' A' p v:=by
 induction t with
 |sc v=>exact .sc v
 |top v=>exact .top v
 |ub b=>exact .ub b
 |lnil z es=>exact .lnil z es
 |lemp es a cap=>exact .lemp es a cap
 |lst es n cells a cap f hs hb hA1 hn hc h1 hr ih=>
  refine .lst es n cells a cap f hs (Nat.lt_of_lt_of_le hb h.size) (fun x=>hA1 (hA _ hb x)) hn (fun j c hj=>?_) h1 (fun j c hj=>ih j c hj)
  rw[h.cell (by rw[Hh];exact hb) (by rw[Hh];exact hA1)]
  exact hc j c hj
theorem VH.step (h:Cq A w w')(hA:∀b,b<w.heap.size->A' b->A b){a:Addr}(hb:a.block<w.heap.size)(hn:¬A a.block){cells:List PV}(t:VH w A a cells):VH w' A' a cells:=by
 intro j c hj;obtain⟨v,hv,h1,ht⟩:=t j c hj;exact⟨v,by rw[h.cell (by rw[Hh];exact hb) (by rw[Hh];exact hn)];exact hv,h1,ht.step h hA⟩
theorem Cj.step (h:Cq A w w')(hA:∀b,b<w.heap.size->A' b->A b){p:PV}{v:Value}(hβ:∀id∈Az p,β' id=β id)(t:Cj w A β p v):Cj w' A' β' p v:=by
 cases p with
 |view id es off n=>
  have e:=hβ id (by simp[Az])
  rcases t with⟨h1,h2,h3,h4⟩|⟨b,o,x,cap,h1,h2,hx,h3,h4,h5⟩
  ·exact .inl ⟨by rw[e];exact h1,h2,h3,h4⟩
  ·exact .inr ⟨b,o,x,cap,by rw[e];exact h1,h2,hx,h3,Nat.le_trans h4 (h.bs b h5),Nat.lt_of_lt_of_le h5 h.size⟩
 |ptr id off=>
  have e:=hβ id (by simp[Az])
  obtain⟨b,o,h1,h2⟩:=t;exact⟨b,o,by rw[e];exact h1,h2⟩
 |iptr c off=>
  obtain⟨a,h1,h2,h3,h4,h5⟩:=t;exact⟨a,h1,h2,Nat.lt_of_lt_of_le h3 h.size,fun x=>h4 (hA _ h3 x),h5.step h hA h3 h4⟩
 |sc v=>exact A4.step h hA t
 |lst z es n c=>exact A4.step h hA t
 |own es n c=>exact A4.step h hA t
 |pbox c=>exact A4.step h hA t
 |agg c=>exact A4.step h hA t
 |tup c=>exact A4.step h hA t
 |top=>exact A4.step h hA t
 |ub=>exact A4.step h hA t
theorem Ia.step (h:Cq A w w')(hA:∀b,b<w.heap.size->A' b->A b){p:PV}{v:Value}(hβ:∀id∈Cl p,β' id=β id)(t:Ia w A β p v):Ia w' A' β' p v:=by
 cases p with
 |agg cs=>
  obtain⟨vs,rfl,h2⟩:=t;exact⟨vs,rfl,h2.mono_mem fun c hc v hv=>hv.step h hA fun id Br=>hβ id (by simp only[Cl,List.mem_flatMap];exact⟨c,hc,Br⟩)⟩
 |sc x=>exact Cj.step (p:=.sc x) h hA hβ t
 |lst x y z u=>exact Cj.step (p:=.lst x y z u) h hA hβ t
 |own x y z=>exact Cj.step (p:=.own x y z) h hA hβ t
 |view x y z u=>exact Cj.step (p:=.view x y z u) h hA hβ t
 |ptr x y=>exact Cj.step (p:=.ptr x y) h hA hβ t
 |iptr x y=>exact Cj.step (p:=.iptr x y) h hA hβ t
 |pbox x=>exact Cj.step (p:=.pbox x) h hA hβ t
 |tup x=>exact Cj.step (p:=.tup x) h hA hβ t
 |top=>exact Cj.step (p:=.top) h hA hβ t
 |ub=>exact Cj.step (p:=.ub) h hA hβ t
theorem Ed.step (h:Cq A w w')(hA:∀b,b<w.heap.size->A' b->A b){p:PV}{v:Value}(hβ:∀id∈B8 p,β' id=β id)(t:Ed w A β p v):Ed w' A' β' p v:=by
 cases p with
 |tup cs=>
  obtain⟨vs,rfl,h2⟩:=t;exact⟨vs,rfl,h2.mono_mem fun c hc v hv=>hv.step h hA fun id Br=>hβ id (by simp only[B8,List.mem_flatMap];exact⟨c,hc,Br⟩)⟩
 |sc x=>exact Ia.step (p:=.sc x) h hA hβ t
 |lst x y z u=>exact Ia.step (p:=.lst x y z u) h hA hβ t
 |own x y z=>exact Ia.step (p:=.own x y z) h hA hβ t
 |view x y z u=>exact Ia.step (p:=.view x y z u) h hA hβ t
 |ptr x y=>exact Ia.step (p:=.ptr x y) h hA hβ t
 |iptr x y=>exact Ia.step (p:=.iptr x y) h hA hβ t
 |pbox x=>exact Ia.step (p:=.pbox x) h hA hβ t
 |top=>exact Ia.step (p:=.top) h hA hβ t
 |ub=>exact Ia.step (p:=.ub) h hA hβ t
 |agg x=>exact Ia.step (p:=.agg x) h hA hβ t
theorem Cq.refl (A:Nat->Prop)(w:World):Cq A w w:=⟨Nat.le_refl _,fun _ _ _=>rfl,fun _ _=>Nat.le_refl _⟩
theorem VH.weak (hA:∀b,b<w.heap.size->A' b->A b){a:Addr}{cells:List PV}(t:VH w A a cells):VH w A' a cells:=by
 intro j c hj;obtain⟨v,hv,h1,ht⟩:=t j c hj;exact⟨v,hv,h1,ht.step (Cq.refl A w) hA⟩
theorem Cq.trans {w'':World}(h:Cq A w w')(h':Cq A' w' w'')(hA:∀b,b<w.heap.size->A' b->A b):Cq A w w'':=
  ⟨Nat.le_trans h.size h'.size,fun b hb hn=>(h'.keep b (Nat.lt_of_lt_of_le hb h.size) (fun x=>hn (hA b hb x))).trans (h.keep b hb hn),
   fun b hb=>Nat.le_trans (h.bs b hb) (h'.bs b (Nat.lt_of_lt_of_le hb h.size))⟩
theorem Cq.weaken (h:Cq A w w')(hA:∀b,b<w.heap.size->A b->A' b):Cq A' w w':=⟨h.size,fun b hb hn=>h.keep b hb (fun x=>hn (hA b hb x)),h.bs⟩
end
section
variable {R:Type} {r:R}
theorem Ga {k:IntKind}{p:PV}{K:Int->Option R}(h:Ae k p K=some r):∃n,p=.sc (.int k n)∧K n=some r:=by
 unfold Ae at h;split at h
 ·split at h
  ·rename_i hk;subst hk;exact⟨_,rfl,h⟩
  ·cases h
 ·cases h
theorem Ep {p:PV}{K:Bool->Option R}(h:Bv p K=some r):∃b,p=.sc (.bool b)∧K b=some r:=by
 unfold Bv at h;split at h
 ·exact⟨_,rfl,h⟩
 ·cases h
theorem Er {p:PV}{K:ByteArray->Option R}(h:Iv p K=some r):∃b,p=.sc (.string b)∧K b=some r:=by
 unfold Iv at h;split at h
 ·exact⟨_,rfl,h⟩
 ·cases h
theorem D9 {p:PV}{K:IntKind->Int->Option R}(h:Ei p K=some r):∃k n,p=.sc (.int k n)∧K k n=some r:=by
 unfold Ei at h;split at h
 ·exact⟨_,_,rfl,h⟩
 ·cases h
theorem Ax {b:Bool}{K:Option R}(h:Ar b K=some r):b=true∧K=some r:=by
 unfold Ar at h;cases b
 ·cases h
 ·exact⟨rfl,h⟩
theorem Dt {α:Type}{o:Option α}{K:α->Option R}(h:F7 o K=some r):∃a,o=some a∧K a=some r:=by
 unfold F7 at h;split at h
 ·exact⟨_,rfl,h⟩
 ·cases h
theorem Bl {α:Type}{l:List α}{K:α->List α->Option R}(h:Ab l K=some r):∃a t,l=a::t∧K a t=some r:=by
 unfold Ab at h;split at h
 ·exact⟨_,_,rfl,h⟩
 ·cases h
theorem Ef {α:Type}{l:List α}{K:Option R}(h:Ac l K=some r):l=[]∧K=some r:=by
 unfold Ac at h;split at h
 ·exact⟨rfl,h⟩
 ·cases h
theorem Kb {p:PV}{K:List PV->Option R}(h:Ft p K=some r):∃c,p=.agg c∧K c=some r:=by
 unfold Ft at h;split at h
 ·exact⟨_,rfl,h⟩
 ·cases h
theorem YG {p:PV}{K:List PV->Option R}(h:BX p K=some r):∃c,p=.pbox c∧K c=some r:=by
 unfold BX at h;split at h
 ·exact⟨_,rfl,h⟩
 ·cases h
theorem Aai {p:PV}{K:Value->Option R}(h:fnK p K=some r):∃f a b,p=.sc (.func f a b)∧K (.func f a b)=some r:=by
 unfold fnK at h;split at h
 ·exact⟨_,_,_,rfl,h⟩
 ·cases h
theorem Aup {p:PV}{K:FuncId->Option R}(h:fvK p K=some r):∃f,p=.sc (.func (.func f) #[] #[])∧K f=some r:=by
 unfold fvK at h;split at h
 ·rename_i f a b;cases hb:(a.isEmpty&&b.isEmpty)<;>rw[hb] at h
  ·cases h
  ·simp only[Bool.and_eq_true,Array.isEmpty_iff] at hb;rw[hb.1,hb.2];exact⟨f,rfl,h⟩
 ·cases h
theorem XJ {o:Option A5}{K:List PV->List (List PV)->Option R} (h:Aj o K=some r):∃v x,o=some ⟨v,x⟩∧K v x=some r:=by
 unfold Aj at h;split at h
 ·exact⟨_,_,rfl,h⟩
 ·cases h
theorem Q5 {b:Bool}{x y:Option R}(h:Bk b x y=some r):(b=true∧x=some r)∨(b=false∧y=some r):=by
 unfold Bk at h;cases b
 ·exact .inr ⟨rfl,h⟩
 ·exact .inl ⟨rfl,h⟩
theorem Ho {es:Nat}{p:PV}{K:Bool->Nat->List PV->Option R}(h:Em es p K=some r):
  ∃z n c,K z n c=some r∧(p=.lst z es n c∨(p=.sc (.slice none 0 0)∧z=true∧n=0∧c=[])):=by
 unfold Em at h;split at h
 ·rename_i z es' n c;cases hb:Nat.beq es' es
  ·rw[hb] at h;cases h
  ·rw[hb] at h;have:=Nat.eq_of_beq_eq_true hb;subst this;exact⟨z,n,c,h,.inl rfl⟩
 ·exact⟨true,0,[],h,.inr ⟨rfl,rfl,rfl,rfl⟩⟩
 ·cases h
def BL:PV->Prop
 |.sc _=>True
 |.lst _ _ _ _=>True
 |_=>False
def UO:PV->Prop
 |.sc _=>True
 |.lst _ _ _ _=>True
 |.view _ _ _ _=>True
 |_=>False
theorem V7 {c:PV}(h:BL c):UO c:=by
 cases c<;>first|trivial|exact h.elim
theorem Kt {c:PV}(h:BL c):Az c=[]:=by
 cases c<;>first|rfl|exact h.elim
variable {w:World} {A:Nat->Prop} {β:Nat->Option (Nat × Nat)}
theorem Pu {c:PV}{v:Value}(h:BL c):Cj w A β c v↔A4 w A c v:=by
 cases c<;>first|exact Iff.rfl|exact h.elim
theorem V6 {c:PV}{v:Value}(h:∀cs,c ≠ .agg cs):Ia w A β c v↔Cj w A β c v:=by
 cases c<;>first|exact Iff.rfl|exact absurd rfl (h _)
theorem Qw {c:PV}{v:Value}(h:∀cs,c ≠ .tup cs):Ed w A β c v↔Ia w A β c v:=by
 cases c<;>first|exact Iff.rfl|exact absurd rfl (h _)
theorem HG {c:PV}(h:BL c)(cs:List PV):c ≠ .agg cs:=by rintro rfl;exact h
theorem Aj5 {c:PV}(h:BL c)(cs:List PV):c ≠ .tup cs:=by rintro rfl;exact h
theorem A4.val {v u:Value}(h:A4 w A (.sc v) u):u=v:=by cases h;rfl
theorem DD {es n:Nat}{z:Bool}{c:List PV}{p:PV}{v:Value}(h:p=.lst z es n c∨(p=.sc (.slice none 0 0)∧z=true∧n=0∧c=[])) (hv:Cj w A β p v):A4 w A (.lst z es n c) v:=by
 rcases h with rfl|⟨rfl,rfl,rfl,rfl⟩
 ·exact hv
 ·have:=A4.val (w:=w) (A:=A) hv;subst this;exact .lnil true es
theorem Q0 {t:CT}{p:PV}{K:PV->Option R}(h:JL t p K=some r):
  ∃c,K c=some r∧BL c∧BL p∧∀(w:World) (A:Nat->Prop) (β:Nat->Option (Nat × Nat)) (v:Value),Cj w A β p v->A4 w A c v∧v.oneCell'=true:=by
 cases t with
 |int k=>obtain⟨n,rfl,h2⟩:=Ga h;exact⟨_,h2,trivial,trivial,fun w A β v hv=>⟨hv,by have:=A4.val (w:=w) (A:=A) hv;subst this;rfl⟩⟩
 |bool=>obtain⟨n,rfl,h⟩:=Ep h;exact⟨_,h,trivial,trivial,fun w A β v hv=>⟨hv,by have:=A4.val (w:=w) (A:=A) hv;subst this;rfl⟩⟩
 |str=>obtain⟨n,rfl,h⟩:=Er h;exact⟨_,h,trivial,trivial,fun w A β v hv=>⟨hv,by have:=A4.val (w:=w) (A:=A) hv;subst this;rfl⟩⟩
 |sl es=>
  obtain⟨z,n,c,h,hp⟩:=Ho h;refine⟨_,h,trivial,?_,fun w A β v hv=>⟨DD hp hv,?_⟩⟩
  ·rcases hp with rfl|⟨rfl,_⟩<;>trivial
  ·have ht:=DD hp hv;cases ht<;>rfl
 |any=>
  obtain⟨f,a,b,rfl,h2⟩:=Aai (show fnK p (fun v=>K (.sc v))=some r from h)
  exact⟨_,h2,trivial,trivial,fun w A β v hv=>⟨hv,by have:=A4.val (w:=w) (A:=A) hv;subst this;rfl⟩⟩
theorem Au9 {t:CT}{p:PV}{K:PV->Option R}(h:fcK t p K=some r):
  ∃c,K c=some r∧(BL c∨c=p)∧UO p∧p ≠ .top∧(∀cs,c ≠ .agg cs)∧(∀cs,c ≠ .tup cs)∧(∀id,id∈Az c->id∈Az p)∧∀(w:World) (A:Nat->Prop) (β:Nat->Option (Nat × Nat)) (v:Value),Cj w A β p v->Cj w A β c v∧v.oneCell'=true:=by
 have tree:∀t',JL t' p K=some r->∃c,K c=some r∧(BL c∨c=p)∧UO p∧p ≠ .top∧(∀cs,c ≠ .agg cs)∧(∀cs,c ≠ .tup cs)∧(∀id,id∈Az c->id∈Az p)∧∀(w:World) (A:Nat->Prop) (β:Nat->Option (Nat × Nat)) (v:Value),Cj w A β p v->Cj w A β c v∧v.oneCell'=true:=by
  intro t' h;obtain⟨c,h,hc,hp,hv⟩:=Q0 h;exact⟨c,h,.inl hc,V7 hp,by rintro rfl;exact hp,HG hc,Aj5 hc,by rw[Kt hc];simp,fun w A β v h=>⟨(Pu hc).2 (hv w A β v h).1,(hv w A β v h).2⟩⟩
 cases t with
 |sl es=>
  unfold fcK fsK at h;dsimp only at h;split at h
  ·rename_i id es' off n;cases hb:Nat.beq es' es
   ·rw[hb] at h;cases h
   ·rw[hb] at h;have:=Nat.eq_of_beq_eq_true hb;subst this;exact⟨_,h,.inr rfl,trivial,by simp,by simp,by simp,fun _ h=>h,fun _ _ _ _ h=>⟨h,by rcases h with⟨_,_,_,_,rfl⟩|⟨_,_,_,_,_,rfl,_⟩<;>rfl⟩⟩
  ·exact tree (.sl es) h
 |int k=>exact tree (.int k) h
 |bool=>exact tree (.bool) h
 |str=>exact tree (.str) h
 |any=>exact tree (.any) h
theorem MQ {cells:List PV}{i:Nat}{p:PV}(h:cells.getD i .top=p)(hp:p ≠ .top):cells[i]?=some p:=by
 rw[List.getD_eq_getElem?_getD] at h;cases hc:cells[i]? with
 |none=>rw[hc] at h;exact absurd h.symm hp
 |some q=>rw[hc] at h;simp at h;rw[h]
theorem Y9:∀{ts:List CT}{cells:List PV}{off:Nat}{K:List PV->Option R},Y8 ts cells off K=some r ->
  ∃cs,K cs=some r∧cs.length=ts.length∧∀j c,cs[j]?=some c->BL c∧∃p,cells[off+j]?=some p∧BL p ∧
   ∀(w:World) (A:Nat->Prop) (β:Nat->Option (Nat × Nat)) (v:Value),Cj w A β p v->A4 w A c v∧v.oneCell'=true
 |[],_,_,_,h=>⟨[],h,rfl,fun j c hj=>by simp at hj⟩
 |t::ts,cells,off,K,h=>by
  unfold Y8 at h;obtain⟨c,h,hc,hp,hv⟩:=Q0 h;obtain⟨cs,h,hl,YQ⟩:=Y9 h;refine⟨c::cs,h,by simp[hl],fun j c' hj=>?_⟩
  cases j with
  |zero=>
   simp at hj;subst hj;refine⟨hc,cells.getD off .top,MQ rfl ?_,hp,hv⟩;intro e;rw[e] at hp;exact hp
  |succ j=>
   simp at hj;have:=YQ j c' hj
   rwa [Nat.add_right_comm,Nat.add_assoc] at this
theorem Yo:∀{ts:List CT}{cells:List PV}{off:Nat}{K:List PV->Option R},Ue ts cells off K=some r ->
  ∃cs,K cs=some r∧cs.length=ts.length∧(∀c∈cs,(∀x,c ≠ .agg x)∧(∀x,c ≠ .tup x))∧∀j c,cs[j]?=some c->∃p,cells[off+j]?=some p∧UO p∧(∀id,id∈Az c->id∈Az p) ∧
   ∀(w:World) (A:Nat->Prop) (β:Nat->Option (Nat × Nat)) (v:Value),Cj w A β p v->Cj w A β c v∧v.oneCell'=true
 |[],_,_,_,h=>⟨[],h,rfl,by simp,fun j c hj=>by simp at hj⟩
 |t::ts,cells,off,K,h=>by
  unfold Ue at h;obtain⟨c,h,hc,hf,hp,ha,ht,hr,hv⟩:=Au9 h;obtain⟨cs,h,hl,JK,YQ⟩:=Yo h;refine⟨c::cs,h,by simp[hl],?_,fun j c' hj=>?_⟩
  ·intro x hx;rcases List.mem_cons.1 hx with rfl|hx
   ·exact⟨ha,ht⟩
   ·exact JK x hx
  ·cases j with
   |zero=>
    simp at hj;subst hj;exact⟨cells.getD off .top,MQ rfl hp,hf,hr,hv⟩
   |succ j=>
    simp at hj;have:=YQ j c' hj
    rwa [Nat.add_right_comm,Nat.add_assoc] at this
theorem ZZ {agg:Bool}{cells:List PV}{K:PV->Option R}(h:mkV agg cells K=some r):
  (agg=true∧K (.agg cells)=some r)∨(agg=false∧∃c,cells=[c]∧K c=some r):=by
 unfold mkV at h;cases agg
 ·obtain⟨c,t,rfl,h⟩:=Bl h;obtain⟨rfl,h⟩:=Ef h;exact .inr ⟨rfl,c,rfl,h⟩
 ·exact .inl ⟨rfl,h⟩
end
open Go.RowKit
def Cv (b:Option Bx):Prop:=
 match b with
 |some (.st _)=>True
 |some (.ar false _)=>True
 |_=>False
abbrev Bt:=Nat->Option (Nat × Nat)
def DF (hp:Nat->Option Bx)(β:Bt)(b:Nat):Prop:=∃id o,Cv (hp id)∧β id=some (b,o)
def De (hp:Nat->Option Bx)(β:Bt)(Y:Nat->Prop)(b:Nat):Prop:=DF hp β b∨Y b
def U5 (w:World)(A:Nat->Prop)(β:Bt)(id:Nat)(bx:Bx):Prop:=
 match bx with
 |.st cells=>∃b o,β id=some (b,o)∧(∀j c,cells[j]?=some c->∃v,w.cell? ⟨b,o+j,none⟩=some v∧Cj w A β c v)∧∀j,j<cells.length->w.frozen? ⟨b,o+j,none⟩=false
 |.ar fz cells=>(β id=none∧cells=[])∨∃b o,β id=some (b,o)∧VH w A ⟨b,o,none⟩ cells∧(fz=false->∀j,o<=j->j<bsz w b->w.frozen? ⟨b,j,none⟩=false)∧(fz=true->¬A b)
 |.mv=>True
structure Fz where
 X:Nat->Prop
 L:Nat->Nat->Prop
 pn:Nat->Prop
 pt:Nat->Option (Nat × Nat)
 p8:∀i,pn i->i<8
def BR (bx:Bx)(o j:Nat):Prop:=
 match bx with
 |.st c=>o<=j∧j<o+c.length
 |.ar _ _=>o<=j
 |.mv=>False
structure Fr (X0:Fz) (w0 w:World):Prop where
 os:w.os=w0.os
 tape:w.tape=w0.tape
 output:w.output=w0.output
 step:Cq X0.X w0 w
 rng:∀b j,b<w0.heap.size->¬X0.L b j->w.cell? ⟨b,j,none⟩=w0.cell? ⟨b,j,none⟩∧w.frozen? ⟨b,j,none⟩=w0.frozen? ⟨b,j,none⟩
structure B3 (N:Nat) (w0:World) (X0:Fz) (Y:Nat->Prop) (β:Bt) (s:St) (a:Act) (w:World):Prop where
 dfr:a.defers=[]
 tsz:a.tmps.size=N
 tmo:∀i,N<=i->s.tm i=.top
 tms:∀i,i<N->Ed w (De s.hp β Y) β (s.tm i) (a.tmps.getD i undef)
 box:∀id b,s.hp id=some b->U5 w (De s.hp β Y) β id b
 inj:∀id id' b o o',Cv (s.hp id)->Cv (s.hp id')->β id=some (b,o)->β id'=some (b,o')->id=id'
 blt:∀id b o,s.hp id≠none->β id=some (b,o)->b<w.heap.size
 wfT:∀i,i<N->∀id∈B8 (s.tm i),s.hp id≠none
 wfB:∀id cells,s.hp id=some (.st cells)->∀c∈cells,∀id'∈Az c,s.hp id'≠none
 ownd:∀b,DF s.hp β b->X0.X b∨w0.heap.size<=b
 rngB:∀id bx b o,s.hp id=some bx->Cv (some bx)->β id=some (b,o)->b<w0.heap.size->∀j,BR bx o j->X0.L b j
 pin:∀i,X0.pn i->s.hp (Dl N i)≠none∧β (Dl N i)=X0.pt i
 stp:∀id c b o,s.hp id=some (.st c)->β id=some (b,o)->b<w0.heap.size->∃i,id=Dl N i∧X0.pn i
 Yx:∀b,Y b->¬DF s.hp β b
 Ylt:∀b,Y b->b<w0.heap.size
 fr:Fr X0 w0 w
theorem Dk {b:Option Bx}(h:Cv b):b≠none:=by rintro rfl;exact h
theorem A3 {α:Type}(f:Nat->α)(i:Nat)(v:α):Dd f i v i=v:=by simp[Dd,Nat.beq_refl]
theorem Aq {α:Type}(f:Nat->α){i j:Nat}(v:α)(h:j≠i):Dd f i v j=f j:=by
 have:Nat.beq j i=false:=by
  cases hb:Nat.beq j i
  ·rfl
  ·exact absurd (Nat.eq_of_beq_eq_true hb) h
 simp[Dd,this]
theorem FR {α:Type}(f:Nat->α){i:Nat}{v:α}(h:f i=v):Dd f i v=f:=by
 funext j
 by_cases e:j=i
 ·subst e;rw[A3];exact h.symm
 ·exact Aq f v e
theorem Aea {α:Type}(f:Nat->α){i j:Nat}(u v:α)(h:i≠j):Dd (Dd f i u) j v=Dd (Dd f j v) i u:=by
 funext k
 by_cases e:k=j
 ·subst e;rw[A3,Aq _ _ (Ne.symm h),A3]
 ·rw[Aq _ _ e];by_cases e':k=i
  ·subst e';rw[A3,A3]
  ·rw[Aq _ _ e',Aq _ _ e',Aq _ _ e]
theorem UD {a:Act}{d:Nat}{v:Value}(h:d<a.tmps.size):(a.put (some d) v).tmps.getD d undef=v:=by
 simp[Act.put,h]
theorem QJ {a:Act}{d i:Nat}{v:Value}(h:i≠d):(a.put (some d) v).tmps.getD i undef=a.tmps.getD i undef:=by
 have h':d≠i:=fun e=>h e.symm
 simp[Act.put,Array.getElem?_setIfInBounds_ne h']
section
variable {N:Nat} {w0:World} {X0:Fz} {Y:Nat->Prop} {β β':Bt} {s:St} {a:Act} {w w':World}
theorem Hq (d:Option Tmp)(v:Value):(a.put d v).tmps.size=a.tmps.size:=by cases d<;>simp[Act.put]
theorem Kj (d:Option Tmp)(v:Value):(a.put d v).defers=a.defers:=by cases d<;>rfl
theorem Vs {d:Option Tmp}(h:Il N d=true){i:Nat}(e:d=some i):i<N:=by
 subst e;exact Nat.lt_of_succ_le (Nat.le_of_ble_eq_true h)
theorem Tj {Q:Nat->PV->Value->Prop}{tm:Nat->PV}{d:Option Tmp}{v:PV}{val:Value}(hN:a.tmps.size=N)(hd:Il N d=true)
  (h:∀i,i<N->Q i (tm i) (a.tmps.getD i undef)) (hv:∀i,Q i v val):∀i,i<N->Q i (B9 tm d v i) ((a.put d val).tmps.getD i undef):=by
 intro i hi;cases d with
 |none=>exact h i hi
 |some d=>
  have Cc:=Vs hd rfl;by_cases e:i=d
  ·subst e;show Q i (Dd tm i v i) _;rw[A3,UD (by omega)]
   exact hv i
  ·show Q i (Dd tm d v i) _;rw[Aq _ _ e,QJ e];exact h i hi
theorem Aal {tm:Nat->PV}{d:Option Tmp}{v:PV}(hd:Il N d=true)(h:∀i,N<=i->tm i=.top):∀i,N<=i->B9 tm d v i=.top:=by
 intro i hi;cases d with
 |none=>exact h i hi
 |some d=>
  have:=Vs hd rfl;show Dd tm d v i=_;rw[Aq _ _ (by omega)]
  exact h i hi
theorem B3.put (h:B3 N w0 X0 Y β s a w){d:Option Tmp}{v:PV}{val:Value}(hd:Il N d=true)(hv:Ed w (De s.hp β Y) β v val) (hr:∀id∈B8 v,s.hp id≠none):
  B3 N w0 X0 Y β ⟨B9 s.tm d v,s.hp⟩ (a.put d val) w where
 dfr:=by rw[Kj];exact h.dfr
 tsz:=by rw[Hq];exact h.tsz
 tmo:=Aal hd h.tmo
 tms:=Tj (Q:=fun _ p u=>Ed w (De s.hp β Y) β p u) h.tsz hd h.tms (fun _=>hv)
 box:=h.box
 inj:=h.inj
 blt:=h.blt
 wfT:=by
  have:=Tj (Q:=fun _ p _=>∀id∈B8 p,s.hp id≠none) (val:=val) h.tsz hd h.wfT (fun _=>hr)
  exact this
 wfB:=h.wfB
 ownd:=h.ownd
 rngB:=h.rngB
 pin:=h.pin
 stp:=h.stp
 Yx:=h.Yx
 Ylt:=h.Ylt
 fr:=h.fr
theorem Co (hp:Nat->Option Bx)(ids:List Nat)(i:Nat):Ag hp ids i=if i∈ids then (hp i).map Yj else hp i:=by
 unfold Ag;by_cases hi:i∈ids
 ·have:ids.any (Nat.beq i)=true:=List.any_eq_true.2 ⟨i,hi,Nat.beq_refl i⟩;rw[this,if_pos hi];rfl
 ·have:ids.any (Nat.beq i)=false:=by
   cases hb:ids.any (Nat.beq i)
   ·rfl
   ·obtain⟨j,hj,e⟩:=List.any_eq_true.1 hb;exact absurd (Nat.eq_of_beq_eq_true e ▸ hj) hi
  rw[this,if_neg hi];rfl
theorem Fk {hp:Nat->Option Bx}{ids:List Nat}{i:Nat}:Ag hp ids i=none↔hp i=none:=by
 rw[Co];split<;>simp
theorem Tp {hp:Nat->Option Bx}{ids:List Nat}{i:Nat}(h:Cv (Ag hp ids i)):Cv (hp i):=by
 rw[Co] at h;split at h
 ·cases hb:hp i with
  |none=>rw[hb] at h;exact h
  |some b=>cases b with
   |st c=>trivial
   |ar fz c=>rw[hb] at h;exact h.elim
   |mv=>rw[hb] at h;exact h
 ·exact h
theorem Mp {hp:Nat->Option Bx}{ids:List Nat}{i:Nat}{bx:Bx}(h:Ag hp ids i=some bx)(hl:Cv (some bx)):hp i=some bx:=by
 rw[Co] at h;split at h
 ·cases hb:hp i with
  |none=>rw[hb] at h;cases h
  |some b=>
   rw[hb] at h;cases b with
   |st c=>exact h
   |ar fz c=>simp only[Option.map_some,Yj,Option.some.injEq] at h;subst h;exact hl.elim
   |mv=>simp only[Option.map_some,Yj,Option.some.injEq] at h;subst h;exact hl.elim
 ·exact h
theorem Ux {hp:Nat->Option Bx}{ids:List Nat}{b:Nat}(h:DF (Ag hp ids) β b):DF hp β b:=by
 obtain⟨id,o,hl,hb⟩:=h;exact⟨id,o,Tp hl,hb⟩
theorem U5.step' {A A':Nat->Prop}{id:Nat}{bx:Bx}(hA:∀b,A' b->A b)(h:U5 w A β id bx):U5 w A' β id bx:=by
 have hs:=Cq.refl A w;cases bx with
 |st c=>
  obtain⟨b,o,h1,h2,h3⟩:=h;exact⟨b,o,h1,fun j c hj=>let ⟨v,hv,hc⟩:=h2 j c hj;⟨v,hv,hc.step hs (fun b _=>hA b) (fun _ _=>rfl)⟩,h3⟩
 |ar fz c=>
  rcases h with h|⟨b,o,h1,h2,h3,h4⟩
  ·exact .inl h
  ·exact .inr ⟨b,o,h1,h2.weak (fun b _=>hA b),h3,fun e x=>h4 e (hA b x)⟩
 |mv=>trivial
theorem B3.freeze (h:B3 N w0 X0 Y β s a w){fz:List Nat}(JB:∀id∈fz,∃f c,s.hp id=some (.ar f c)):B3 N w0 X0 Y β ⟨s.tm,Ag s.hp fz⟩ a w:=by
 have hA:∀b,De (Ag s.hp fz) β Y b->De s.hp β Y b:=fun b hb=>hb.imp Ux id
 refine⟨h.dfr,h.tsz,h.tmo,fun i hi=>(h.tms i hi).step (Cq.refl _ _) (fun b _=>hA b) (fun _ _=>rfl),fun id b hb=>?_,fun id id' b o o' h1 h2=>h.inj id id' b o o' (Tp h1) (Tp h2),
  fun id b o hn=>h.blt id b o (fun e=>hn (Fk.2 e)),fun i hi id Br e=>h.wfT i hi id Br (Fk.1 e),fun id cells hc c hcm id' Br e=>?_,fun b hb=>h.ownd b (Ux hb),
  fun id bx b o hb hl=>h.rngB id bx b o (Mp hb hl) hl,fun i hi=>⟨fun e=>(h.pin i hi).1 (Fk.1 e),(h.pin i hi).2⟩,fun id c b o hc=>h.stp id c b o (Mp hc trivial),fun b hb x=>h.Yx b hb (Ux x),h.Ylt,h.fr⟩
 ·simp only at hb;rw[Co] at hb;split at hb
  ·rename_i hm;obtain⟨f,c,hc⟩:=JB id hm;rw[hc] at hb;simp only[Option.map_some,Yj,Option.some.injEq] at hb;subst hb;have Nv:=h.box id _ hc;rcases Nv with Nv|⟨b,o,h1,h2,h3,h4⟩
   ·exact .inl Nv
   ·refine .inr ⟨b,o,h1,h2.weak (fun b _=>hA b),(fun e=>by cases e),fun _ hb=>?_⟩
    rcases hb with⟨id',o',hl,hb⟩|hY
    ·have V5:=Tp hl;cases f with
     |true=>exact h4 rfl (.inl ⟨id',o',V5,hb⟩)
     |false=>
      have e:=h.inj id' id b o' o V5 (by rw[hc];trivial) hb h1
      subst e;simp only at hl;rw[Co,if_pos hm,hc] at hl;exact hl
    ·cases f with
     |true=>exact h4 rfl (.inr hY)
     |false=>exact h.Yx b hY ⟨id,o,by rw[hc];trivial,h1⟩
  ·exact (h.box id b hb).step' hA
 ·simp only at hc;rw[Co] at hc;refine h.wfB id cells ?_ c hcm id' Br (Fk.1 e);split at hc
  ·rename_i hm;obtain⟨f,c,W9⟩:=JB id hm;rw[W9] at hc;cases hc
  ·exact hc
theorem B5:∀{nw:List (Nat × Bx)} {hp:Nat->Option Bx},Ck hp nw=true ->
  (∀id bx,(id,bx)∈nw->hp id=none)∧(∀id bx bx',(id,bx)∈nw->(id,bx')∈nw->bx=bx')
 |[],_,_=>⟨by simp,by simp⟩
 |(i,b)::r,hp,h=>by
  simp only[Ck,Bool.and_eq_true,Option.isNone_iff_eq_none,Bool.not_eq_true'] at h;obtain⟨⟨h1,h2⟩,h3⟩:=h;obtain⟨h4,h5⟩:=B5 h3
  have Gg:∀bx,(i,bx) ∉ r:=by
   intro bx hm;have:r.any (fun q=>Nat.beq q.1 i)=true:=List.any_eq_true.2 ⟨_,hm,Nat.beq_refl i⟩
   rw[this] at h2;cases h2
  refine⟨fun id bx hm=>?_,fun id bx bx' hm Qx=>?_⟩
  ·rcases List.mem_cons.1 hm with e|hm
   ·cases e;exact h1
   ·exact h4 id bx hm
  ·rcases List.mem_cons.1 hm with e|hm
   ·cases e;rcases List.mem_cons.1 Qx with e|Qx
    ·cases e;rfl
    ·exact absurd Qx (Gg _)
   ·rcases List.mem_cons.1 Qx with e|Qx
    ·cases e;exact absurd hm (Gg _)
    ·exact h5 id bx bx' hm Qx
theorem F5:∀{nw:List (Nat × Bx)} {hp:Nat->Option Bx},(∀id bx bx',(id,bx)∈nw->(id,bx')∈nw->bx=bx') ->
  (∀id bx,(id,bx)∈nw->A6 hp nw id=some bx)∧(∀id,(∀bx,(id,bx) ∉ nw)->A6 hp nw id=hp id)
 |[],_,_=>⟨by simp,fun _ _=>rfl⟩
 |(i,b)::r,hp,h=>by
  obtain⟨h1,h2⟩:=F5 (nw:=r) (hp:=Dd hp i (some b)) (fun id bx bx' hm Qx=>h id bx bx' (by simp[hm]) (by simp[Qx]))
  refine⟨fun id bx hm=>?_,fun id hn=>?_⟩
  ·by_cases hr:∃bx',(id,bx')∈r
   ·obtain⟨bx',hr⟩:=hr;have:=h id bx bx' hm (by simp[hr])
    subst this;exact h1 id bx hr
   ·rcases List.mem_cons.1 hm with e|hm
    ·cases e;show A6 (Dd hp i (some b)) r i=_;rw[h2 i (fun bx' hb=>hr ⟨bx',hb⟩),A3]
    ·exact absurd ⟨bx,hm⟩ hr
  ·show A6 (Dd hp i (some b)) r id=_;rw[h2 id (fun bx hb=>hn bx (by simp[hb])),Aq]
   rintro rfl
   exact hn b (by simp)
structure WR (Y:Nat->Prop) (β:Bt) (s:St) (w:World) (v:PV) (nw:List (Nat × Bx)) (val:Value) (w':World) (β':Bt):Prop where
 os:w'.os=w.os
 tape:w'.tape=w.tape
 output:w'.output=w.output
 ext:Cq (fun _=>False) w w'
 old:∀id,s.hp id≠none->β' id=β id
 nlive:∀id bx,(id,bx)∈nw->Cv (some bx)
 nbox:∀id bx,(id,bx)∈nw->U5 w' (De (A6 s.hp nw) β' Y) β' id bx
 nblk:∀id bx b o,(id,bx)∈nw->β' id=some (b,o)->w.heap.size<=b∧b<w'.heap.size
 ninj:∀id bx id' bx' b o o',(id,bx)∈nw->(id',bx')∈nw->β' id=some (b,o)->β' id'=some (b,o')->id=id'
 nwf:∀id cells,(id,.st cells)∈nw->∀c∈cells,∀id'∈Az c,s.hp id'≠none∨∃bx,(id',bx)∈nw
 val:Ed w' (De (A6 s.hp nw) β' Y) β' v val
 vwf:∀id∈B8 v,s.hp id≠none∨∃bx,(id,bx)∈nw
theorem B3.stepR (h:B3 N w0 X0 Y β s a w){d:Option Tmp}{v:PV}{nw:List (Nat × Bx)} {val:Value}(hd:Il N d=true)(Ul:Ck s.hp nw=true)
  (st:WR Y β s w v nw val w' β'):B3 N w0 X0 Y β' ⟨B9 s.tm d v,A6 s.hp nw⟩ (a.put d val) w':=by
 obtain⟨ha1,ha2⟩:=B5 Ul;obtain⟨hg1,hg2⟩:=F5 (hp:=s.hp) ha2
 have J8:∀id,(∃bx,(id,bx)∈nw)∨A6 s.hp nw id=s.hp id:=fun id=>by
  by_cases hx:∃bx,(id,bx)∈nw
  ·exact .inl hx
  ·exact .inr (hg2 id fun bx hb=>hx ⟨bx,hb⟩)
 have A28:∀id,s.hp id≠none->A6 s.hp nw id=s.hp id:=fun id hn=>by
  rcases J8 id with⟨bx,hx⟩|e
  ·exact absurd (ha1 id bx hx) hn
  ·exact e
 have Ko:∀id,(s.hp id≠none∨∃bx,(id,bx)∈nw)->A6 s.hp nw id≠none:=by
  rintro id (hn|⟨bx,hx⟩)
  ·rw[A28 id hn];exact hn
  ·rw[hg1 id bx hx];simp
 have Axz:∀b,b<w.heap.size->DF (A6 s.hp nw) β' b->DF s.hp β b:=by
  rintro b hb ⟨id,o,hl,hβ⟩
  rcases J8 id with⟨bx,hx⟩|e
  ·have:=(st.nblk id bx b o hx hβ).1;omega
  ·rw[e] at hl;exact⟨id,o,hl,by rw[←st.old id (Dk hl)];exact hβ⟩
 have Ai6:∀b,b<w.heap.size->De (A6 s.hp nw) β' Y b->De s.hp β Y b:=fun b hb hA=>hA.imp (Axz b hb) id
 have Aox:Cq (De s.hp β Y) w w':=st.ext.weaken (fun _ _ x=>x.elim)
 refine⟨by rw[Kj];exact h.dfr,by rw[Hq];exact h.tsz,Aal hd h.tmo,?_,?_,?_,?_,?_,?_,?_,?_,?_,?_,?_,h.Ylt,?_⟩
 ·refine Tj (Q:=fun _ p u=>Ed w' (De (A6 s.hp nw) β' Y) β' p u) h.tsz hd (fun i hi=>?_) (fun _=>st.val)
  exact (h.tms i hi).step Aox Ai6 fun id Br=>st.old id (h.wfT i hi id Br)
 ·intro id b hb;simp only at hb;rcases J8 id with⟨bx,hx⟩|e
  ·rw[hg1 id bx hx] at hb;cases hb;exact st.nbox id _ hx
  ·rw[e] at hb;have hβ:=st.old id (by rw[hb];simp)
   have Nv:=h.box id b hb;have Cc:=h.blt id;have Gg:s.hp id≠none:=by rw[hb];simp
   cases b with
   |st c=>
    obtain⟨b,o,h1,h2,h3⟩:=Nv;have I7:=Cc b o Gg h1;have DP:=st.ext.keep b I7 (fun x=>x)
    refine⟨b,o,by rw[hβ];exact h1,fun j c hj=>?_,fun j hj=>?_⟩
    ·obtain⟨v,hv,hc⟩:=h2 j c hj;refine⟨v,by rw[World.cell?_of_block (w:=w) DP];exact hv,hc.step Aox Ai6 fun id' Br=>st.old id' ?_⟩
     exact h.wfB id _ hb c (List.mem_of_getElem? hj) id' Br
    ·rw[World.frozen?_of_block (w:=w) DP];exact h3 j hj
   |ar fz c=>
    rcases Nv with⟨h1,h2⟩|⟨b,o,h1,h2,h3,h4⟩
    ·exact .inl ⟨by rw[hβ];exact h1,h2⟩
    ·have I7:=Cc b o Gg h1;have DP:=st.ext.keep b I7 (fun x=>x)
     have RW:bsz w' b=bsz w b:=by unfold bsz;rw[DP]
     refine .inr ⟨b,o,by rw[hβ];exact h1,fun j c hj=>?_,fun e j hj X5=>?_,fun e x=>h4 e (Ai6 b I7 x)⟩
     ·obtain⟨v,hv,h5,hc⟩:=h2 j c hj;exact⟨v,by rw[World.cell?_of_block (w:=w) (by rw[Hh];exact DP)];exact hv,h5,hc.step Aox Ai6⟩
     ·rw[World.frozen?_of_block (w:=w) DP];exact h3 e j hj (by rw[←RW];exact X5)
   |mv=>trivial
 ·intro id id' b o o' hl Ou hb I7;simp only at hl Ou;rcases J8 id with⟨bx,hx⟩|e
  ·rcases J8 id' with⟨bx',AV⟩|e'
   ·exact st.ninj id bx id' bx' b o o' hx AV hb I7
   ·rw[e'] at Ou;have h1:=(st.nblk id bx b o hx hb).1;have h2:=h.blt id' b o' (Dk Ou) (by rw[←st.old id' (Dk Ou)];exact I7)
    omega
  ·rw[e] at hl;rcases J8 id' with⟨bx',AV⟩|e'
   ·have h1:=(st.nblk id' bx' b o' AV I7).1;have h2:=h.blt id b o (Dk hl) (by rw[←st.old id (Dk hl)];exact hb)
    omega
   ·rw[e'] at Ou;exact h.inj id id' b o o' hl Ou (by rw[←st.old id (Dk hl)];exact hb) (by rw[←st.old id' (Dk Ou)];exact I7)
 ·intro id b o hn hb;simp only at hn;rcases J8 id with⟨bx,hx⟩|e
  ·exact (st.nblk id bx b o hx hb).2
  ·rw[e] at hn;exact Nat.lt_of_lt_of_le (h.blt id b o hn (by rw[←st.old id hn];exact hb)) st.ext.size
 ·have:=Tj (Q:=fun _ p _=>∀id∈B8 p,A6 s.hp nw id≠none) (val:=val) (d:=d) (v:=v) h.tsz hd (fun i hi id Br=>Ko id (.inl (h.wfT i hi id Br))) (fun _ id Br=>Ko id (st.vwf id Br))
  exact this
 ·intro id cells hc c hcm id' Br;simp only at hc;rcases J8 id with⟨bx,hx⟩|e
  ·rw[hg1 id bx hx] at hc;cases hc;exact Ko id' (st.nwf id _ hx c hcm id' Br)
  ·rw[e] at hc;exact Ko id' (.inl (h.wfB id cells hc c hcm id' Br))
 ·rintro b ⟨id,o,hl,hb⟩
  simp only at hl;rcases J8 id with⟨bx,hx⟩|e
  ·exact .inr (Nat.le_trans h.fr.step.size (st.nblk id bx b o hx hb).1)
  ·rw[e] at hl;exact h.ownd b ⟨id,o,hl,by rw[←st.old id (Dk hl)];exact hb⟩
 ·intro id bx b o hb hl hβ Cc;simp only at hb;rcases J8 id with⟨bx',hx⟩|e
  ·have:=(st.nblk id bx' b o hx hβ).1;have:=h.fr.step.size;omega
  ·rw[e] at hb;exact h.rngB id bx b o hb hl (by rw[←st.old id (by rw[hb];simp)];exact hβ) Cc
 ·intro i hi;obtain⟨h1,h2⟩:=h.pin i hi;exact⟨Ko _ (.inl h1),by rw[st.old _ h1];exact h2⟩
 ·intro id c b o hb hβ Cc;simp only at hb;rcases J8 id with⟨bx',hx⟩|e
  ·have:=(st.nblk id bx' b o hx hβ).1;have:=h.fr.step.size;omega
  ·rw[e] at hb;exact h.stp id c b o hb (by rw[←st.old id (by rw[hb];simp)];exact hβ) Cc
 ·rintro b hY hX
  have hb:b<w.heap.size:=Nat.lt_of_lt_of_le (h.Ylt b hY) h.fr.step.size;exact h.Yx b hY (Axz b hb hX)
 ·refine⟨st.os.trans h.fr.os,st.tape.trans h.fr.tape,st.output.trans h.fr.output,h.fr.step.trans st.ext (fun _ _ x=>x.elim),fun b j hb hL=>?_⟩
  have DP:=st.ext.keep b (Nat.lt_of_lt_of_le hb h.fr.step.size) (fun x=>x)
  have hc:w'.cell? ⟨b,j,none⟩=w.cell? ⟨b,j,none⟩:=World.cell?_of_block (w:=w) DP;have hf:w'.frozen? ⟨b,j,none⟩=w.frozen? ⟨b,j,none⟩:=World.frozen?_of_block (w:=w) DP;rw[hc,hf];exact h.fr.rng b j hb hL
end
open Go.RowKit
section
variable {P:Program} {N:Nat} {w0:World} {X0:Fz} {Y:Nat->Prop} {β β':Bt} {s:St} {a:Act} {w w':World} {o:Oper}
theorem Afk (cs:List Value)(A:Nat->Prop):Bw (Cj w A β) (cs.map PV.sc) cs:=by
 induction cs with
 |nil=>trivial
 |cons v r ih=>exact⟨A4.sc v,ih⟩
theorem Ah2 (cs:List Value):(cs.map PV.sc).flatMap Az=[]:=by
 induction cs with
 |nil=>rfl
 |cons v r ih=>exact ih
theorem Dy (h:B3 N w0 X0 Y β s a w)(x:Operand):Ed w (De s.hp β Y) β (Cw s.tm x) (a.eval x):=by
 cases x with
 |tmp t=>
  show Ed _ _ _ (s.tm t) (a.tmps.getD t undef);by_cases ht:t<N
  ·exact h.tms t ht
  ·rw[h.tmo t (Nat.le_of_not_lt ht)];exact A4.top _
 |const v=>
  cases v with
  |agg cs=>exact⟨cs.toList,by simp[Act.eval],Afk cs.toList _⟩
  |_=>exact A4.sc _
 |func f=>exact A4.sc _
 |global g=>exact A4.sc _
theorem G6 (h:B3 N w0 X0 Y β s a w)(x:Operand):∀id∈B8 (Cw s.tm x),s.hp id≠none:=by
 cases x with
 |tmp t=>
  show ∀id∈B8 (s.tm t),_;by_cases ht:t<N
  ·exact h.wfT t ht
  ·rw[h.tmo t (Nat.le_of_not_lt ht)];intro id Br;cases Br
 |const v=>
  cases v with
  |agg cs=>
   intro id Br;have:B8 (.agg (cs.toList.map .sc))=[]:=Ah2 cs.toList;simp only[Cw] at Br;rw[this] at Br;cases Br
  |_=>intro id Br;cases Br
 |func f=>intro id Br;cases Br
 |global g=>intro id Br;cases Br
theorem L7 {A:Nat->Prop}{v u:Value}(h:Ed w A β (.sc v) u):u=v:=A4.val h
theorem Df (h:B3 N w0 X0 Y β s a w){x:Operand}{v:Value}(e:Cw s.tm x=.sc v):a.eval x=v:=by
 have:=Dy h x;rw[e] at this;exact L7 this
def F8 (P:Program)(a:Act)(w:World)(o:Oper)(Y:Nat->Prop)(β:Bt)(s:St)(v:PV)(fz:List Nat)(nw:List (Nat × Bx)):Prop:=
 (∀id∈fz,∃f c,s.hp id=some (.ar f c))∧∃val w',(execOp a.eval o).run P w=.ok (.value val) w'∧(Ck s.hp nw=true->∃β',WR Y β ⟨s.tm,Ag s.hp fz⟩ w v nw val w' β')
theorem Ahg {v:PV}{val:Value}(hv:Ed w (De s.hp β Y) β v val) (hr:∀id∈B8 v,s.hp id≠none):WR Y β s w v [] val w β:=
 ⟨rfl,rfl,rfl,Cq.refl _ _,fun _ _=>rfl,by simp,by simp,by simp,by simp,by simp,hv,fun id Br=>.inl (hr id Br)⟩
theorem Cz {v:PV}{val:Value}(Dp:(execOp a.eval o).run P w=.ok (.value val) w) (hv:Ed w (De s.hp β Y) β v val) (hr:∀id∈B8 v,s.hp id≠none):F8 P a w o Y β s v [] []:=
 ⟨by simp,val,w,Dp,fun _=>⟨β,Ahg (s:=⟨s.tm,Ag s.hp []⟩) hv hr⟩⟩
theorem Dq {v:Value}(Dp:(execOp a.eval o).run P w=.ok (.value v) w):F8 P a w o Y β s (.sc v) [] []:=Cz Dp (A4.sc v) (by intro id Br;cases Br)
structure Im (w w':World) (c:Array Value) (e:TypeId):Prop where
 os:w'.os=w.os
 tape:w'.tape=w.tape
 output:w'.output=w.output
 old:∀b,b<w.heap.size->w'.heap[b]?=w.heap[b]?
 size:w'.heap.size=w.heap.size+1
 new:∃fz:Nat × Nat,w'.heap[w.heap.size]?=some (.cells c e fz)∧(fz.1=fz.2∨c.size<=fz.1)
theorem Im.alloc (w:World)(c:Array Value)(e:TypeId):Im w (w.alloc (.cells c e)) c e:=
 ⟨rfl,rfl,rfl,fun b hb=>Below.heap_alloc w _ b hb,by show (w.heap.push _).size=_;simp,(0,0),by show (w.heap.push _)[w.heap.size]?=_;simp,.inl rfl⟩
theorem Im.drew {c:Array Value}{e:TypeId}(h:Im w w' c e):Im w w'.drew c e:=⟨h.os,h.tape,h.output,h.old,h.size,h.new⟩
section
variable {c:Array Value} {e:TypeId}
theorem Im.step (h:Im w w' c e):Cq (fun _=>False) w w':=
 ⟨by rw[h.size];omega,fun b hb _=>h.old b hb,fun b hb=>by unfold bsz;rw[h.old b hb];exact Nat.le_refl _⟩
theorem Im.cell (h:Im w w' c e)(j:Nat):w'.cell? ⟨w.heap.size,j,none⟩=c[j]?:=by
 obtain⟨fz,hn,_⟩:=h.new;simp[World.cell?,hn]
theorem Im.frozen (h:Im w w' c e){j:Nat}(hj:j<c.size):w'.frozen? ⟨w.heap.size,j,none⟩=false:=by
 obtain⟨fz,hn,hf⟩:=h.new;simp only[World.frozen?,hn];rcases hf with hf|hf<;>simp<;>omega
theorem Im.bsz (h:Im w w' c e):bsz w' w.heap.size=c.size:=by
 obtain⟨fz,hn,_⟩:=h.new;simp[Pv.bsz,hn]
end
theorem V3 {c:Array Value}{e:TypeId}{d:Nat}{bx:Bx}{v:PV}{val:Value}(hg:Im w w' c e)(hd:s.hp d=none)(hl:Cv (some bx))
  (Nv:U5 w' (De (Dd s.hp d (some bx)) (Dd β d (some (w.heap.size,0))) Y) (Dd β d (some (w.heap.size,0))) d bx)
  (hcw:∀cells,bx=.st cells->∀x∈cells,∀id'∈Az x,s.hp id'≠none)
  (hv:Ed w' (De (Dd s.hp d (some bx)) (Dd β d (some (w.heap.size,0))) Y) (Dd β d (some (w.heap.size,0))) v val)
  (hvr:∀id∈B8 v,s.hp id≠none∨id=d):WR Y β s w v [(d,bx)] val w' (Dd β d (some (w.heap.size,0))) where
 os:=hg.os
 tape:=hg.tape
 output:=hg.output
 ext:=hg.step
 old:=fun id hn=>Aq _ _ (by rintro rfl;exact hn hd)
 nlive:=by intro id b hm;simp at hm;obtain⟨rfl,rfl⟩:=hm;exact hl
 nbox:=by intro id b hm;simp at hm;obtain⟨rfl,rfl⟩:=hm;exact Nv
 nblk:=by
  intro id b x y hm hb;simp at hm;obtain⟨rfl,rfl⟩:=hm;rw[A3] at hb;simp at hb;have:=hg.size;omega
 ninj:=by intro id b id' b' x y z hm Qx _ _;simp at hm Qx;rw[hm.1,Qx.1]
 nwf:=by intro id cells hm x hx id' Br;simp at hm;exact .inl (hcw cells hm.2.symm x hx id' Br)
 val:=hv
 vwf:=by
  intro id Br;rcases hvr id Br with h|rfl
  ·exact .inl h
  ·exact .inr ⟨bx,by simp⟩
theorem Aiu {c:Array Value}{e:TypeId}(hg:Im w w' c e){A A':Nat->Prop}(hA:∀b,b<w.heap.size->A' b->A b){cells:List PV}
  (h:∀(j:Nat) p,cells[j]?=some p->∃v,c[j]?=some v∧v.oneCell'=true∧A4 w A p v):VH w' A' ⟨w.heap.size,0,none⟩ cells:=by
 intro j p hj;obtain⟨v,hv,h1,ht⟩:=h j p hj;exact⟨v,by rw[Eu,Nat.zero_add,hg.cell];exact hv,h1,ht.step (hg.step.weaken (fun _ _ x=>x.elim)) hA⟩
theorem Aj8 {d:Nat}{bx:Bx}(hwf:s.hp d=none):∀b,b<w.heap.size->De (Dd s.hp d (some bx)) (Dd β d (some (w.heap.size,0))) Y b->De s.hp β Y b:=by
 intro b hb hA;rcases hA with⟨id,o,hl,hβ⟩|hY
 ·by_cases e:id=d
  ·subst e;rw[A3] at hβ;simp at hβ;omega
  ·rw[Aq _ _ e] at hl hβ;exact .inl ⟨id,o,hl,hβ⟩
 ·exact .inr hY
theorem Ut {c:Array Value}{e:TypeId}{d:Nat}{cells:List PV}{fz:List Nat}{v:PV}{val:Value}
  (JB:∀id∈fz,∃f c,s.hp id=some (.ar f c))
  (Dp:(execOp a.eval o).run P w=.ok (.value val) w') (hg:Im w w' c e)
  (hc:∀(j:Nat) p,cells[j]?=some p->∃u,c[j]?=some u∧u.oneCell'=true∧A4 w (De (Ag s.hp fz) β Y) p u)
  (hv:(v=.ptr d 0∧val=.pointer (some ⟨w.heap.size,0,none⟩))∨∃es n cap,v=.view d es 0 n∧val=.slice (some ⟨w.heap.size,0,none⟩) n cap∧n<=cap∧cap*es<=c.size):
  F8 P a w o Y β s v fz [(d,.ar false cells)]:=by
 refine⟨JB,val,w',Dp,fun Ul=>⟨Dd β d (some (w.heap.size,0)),?_⟩⟩
 have hd:s.hp d=none:=(B5 Ul).1 d (.ar false cells) (by simp)
 have hd':Ag s.hp fz d=none:=Fk.2 hd;refine V3 (s:=⟨s.tm,Ag s.hp fz⟩) hg hd' trivial ?_ (fun cells hx=>by cases hx) ?_ ?_
 ·refine .inr ⟨w.heap.size,0,A3 _ _ _,?_,fun _ j _ hj=>?_,(fun x=>by cases x)⟩
  ·exact Aiu hg (Aj8 (s:=⟨s.tm,Ag s.hp fz⟩) hd') hc
  ·rw[hg.bsz] at hj;exact hg.frozen hj
 ·rcases hv with⟨rfl,rfl⟩|⟨es,n,cap,rfl,rfl,hn,NR⟩
  ·exact⟨w.heap.size,0,A3 _ _ _,rfl⟩
  ·exact .inr ⟨w.heap.size,0,0,cap,A3 _ _ _,rfl,.inl rfl,hn,by rw[hg.bsz];omega,by rw[hg.size];omega⟩
 ·intro id Br;rcases hv with⟨rfl,_⟩|⟨es,n,cap,rfl,_⟩<;>(simp[B8,Cl,Az] at Br;exact .inr Br)
theorem XS {c:Array Value}{e:TypeId}{d:Nat}{cells:List PV}
  (Dp:(execOp a.eval o).run P w=.ok (.value (.pointer (some ⟨w.heap.size,0,none⟩))) w') (hg:Im w w' c e)
  (hc:∀(j:Nat) p,cells[j]?=some p->∃u,c[j]?=some u∧Cj w (De s.hp β Y) β p u) (hr:∀x∈cells,∀id∈Az x,s.hp id≠none):
  F8 P a w o Y β s (.ptr d 0) [] [(d,.st cells)]:=by
 refine⟨by simp,_,w',Dp,fun Ul=>⟨Dd β d (some (w.heap.size,0)),?_⟩⟩
 have hd:s.hp d=none:=(B5 Ul).1 d (.st cells) (by simp)
 refine V3 (s:=⟨s.tm,Ag s.hp []⟩) hg hd trivial ?_ (fun cs hx x hxm id Br=>?_) ?_ ?_
 ·refine⟨w.heap.size,0,A3 _ _ _,fun j p hj=>?_,fun j hj=>?_⟩
  ·obtain⟨u,hu,hp⟩:=hc j p hj;refine⟨u,by rw[Nat.zero_add,hg.cell];exact hu,hp.step (hg.step.weaken (fun _ _ x=>x.elim)) (Aj8 (s:=⟨s.tm,Ag s.hp []⟩) hd) fun id Br=>Aq _ _ ?_⟩
   rintro rfl
   exact hr p (List.mem_of_getElem? hj) id Br hd
  ·rw[Nat.zero_add];obtain⟨u,hu,_⟩:=hc j _ (List.getElem?_eq_getElem hj)
   exact hg.frozen (by
    rcases Nat.lt_or_ge j c.size with h|h
    ·exact h
    ·rw[Array.getElem?_eq_none h] at hu;cases hu)
 ·injection hx with hx;subst hx;exact hr x hxm id Br
 ·exact⟨w.heap.size,0,A3 _ _ _,rfl⟩
 ·intro id Br;simp[B8,Cl,Az] at Br;exact .inr Br
end
open Go.RowKit
section
variable {R:Type} {r:R} {P:Program} {N:Nat} {w0:World} {X0:Fz} {Y:Nat->Prop} {β β':Bt} {s:St} {a:Act} {w w':World} {o:Oper}
theorem Oe {t:TypeId}{n:Nat}(h:(P.info? t).map (·.size)=some n) (w:World):(sizeOf t).run P w=.ok n w:=by
 cases hi:P.info? t with
 |none=>rw[hi] at h;cases h
 |some i=>rw[hi] at h;simp at h;simp[sizeOf,typeInfo,hi,h]
theorem Apk {t:TypeId}{n:Nat}(h:Bm P t=n)(hn:0<n):(P.info? t).map (·.size)=some n:=by
 unfold Bm at h;cases hi:(P.info? t).map (·.size) with
 |none=>rw[hi] at h;simp at h;omega
 |some i=>rw[hi] at h;simp at h;rw[h]
theorem Q8 {t:TypeId}{d:TypeDesc}(h:P.underlying t=some d)(w:World):(isAgg t).run P w=.ok (Cx P t) w:=by
 unfold isAgg Cx;rw[h];simp only[Sem.run_bind,run_underlying h,Result.andThen_ok];cases d<;>rfl
theorem Atr {t:TypeId}{v:Value}{K:PV->Option R}(h:cvK P t v K=some r):∃p,K p=some r∧B8 p=[]∧∀(w:World)(A:Nat->Prop)(β:Bt),Ed w A β p v:=by
 have sc:∀v:Value,K (.sc v)=some r->∃p,K p=some r∧B8 p=[]∧∀(w:World) (A:Nat->Prop) (β:Bt),Ed w A β p v:=fun v h=>⟨_,h,rfl,fun w A β=>A4.sc v⟩
 unfold cvK at h;split at h
 ·rename_i cs;obtain⟨hl,h⟩:=Ax h;obtain⟨xs,h,hxl,hx⟩:=Y9 h;have hl:=Nat.eq_of_beq_eq_true hl;refine⟨_,h,?_,fun w A β=>⟨cs.toList,by simp,?_⟩⟩
  ·show xs.flatMap Az=[];rw[List.flatMap_eq_nil_iff];intro c hc;obtain⟨j,hj⟩:=List.mem_iff_getElem?.1 hc;exact Kt (hx j c hj).1
  ·refine Bw.of_at (by rw[hxl,hl]) fun i c u hc hu=>?_
   obtain⟨hT,p,hp,_,EI⟩:=hx i c hc;refine (Pu hT).2 (EI w A β u ?_).1;rw[Nat.zero_add,List.getElem?_map,hu] at hp;simp at hp;subst hp;exact A4.sc u
 ·split at h
  ·exact⟨_,h,rfl,fun w A β=>A4.lnil true _⟩
  ·cases h
 ·exact sc _ h
theorem GL (h:B3 N w0 X0 Y β s a w){x:Operand}(Dp:(execOp a.eval o).run P w=.ok (.value (a.eval x)) w) {K:PV->Option R}(hk:IU P o.type s.tm x K=some r):
  ∃v,K v=some r∧F8 P a w o Y β s v [] []:=by
 have dflt:K (Cw s.tm x)=some r->∃v,K v=some r∧F8 P a w o Y β s v [] []:=fun hk=>⟨_,hk,Cz Dp (Dy h x) (G6 h x)⟩
 cases x with
 |const v=>
  obtain⟨p,hk,hr,hv⟩:=Atr hk;exact⟨p,hk,Cz Dp (hv _ _ _) (by rw[hr];simp)⟩
 |tmp t=>exact dflt hk
 |func f=>exact dflt hk
 |global g=>exact dflt hk
theorem Ak9 {x:Operand}(ho:o.op=.move x):(execOp a.eval o).run P w=.ok (.value (a.eval x)) w:=by unfold execOp;rw[ho];rfl
theorem Ad4 {x:Operand}(ho:o.op=.assign x):(execOp a.eval o).run P w=.ok (.value (a.eval x)) w:=by unfold execOp;rw[ho];rfl
theorem Aim (h:B3 N w0 X0 Y β s a w){c x y:Operand}(ho:o.op=.pick c x y){K:PV->Option R}(hk:(Bv (Cw s.tm c) fun t=>Bk t (K (Cw s.tm x)) (K (Cw s.tm y)))=some r):
  ∃v,K v=some r∧F8 P a w o Y β s v [] []:=by
 obtain⟨b,hb,hk⟩:=Ep hk;have hc:=Df h hb;rcases Q5 hk with⟨rfl,hk⟩|⟨rfl,hk⟩
 ·exact⟨_,hk,Cz (by unfold execOp;rw[ho];simp[asBool,hc]) (Dy h x) (G6 h x)⟩
 ·exact⟨_,hk,Cz (by unfold execOp;rw[ho];simp[asBool,hc]) (Dy h y) (G6 h y)⟩
theorem Tf {t:TypeId}{K:List PV->Option R}(h:Jz P t K=some r):∃(v:Value)(cs:List PV),K cs=some r∧EJ P t=some v∧cs.length=(K5 P t).length∧cs.length=v.cells.toList.length∧cs.length=Bm P t ∧
  ∀(j:Nat) c,cs[j]?=some c->BL c∧∃u,v.cells.toList[j]?=some u∧u.oneCell'=true∧∀(w:World) (A:Nat->Prop),A4 w A c u:=by
 unfold Jz at h;obtain⟨v,hz,h⟩:=Dt h;obtain⟨hl,h⟩:=Ax h;obtain⟨cs,h,X6,hc⟩:=Y9 h;simp only[Bool.and_eq_true] at hl;have IA:=Nat.eq_of_beq_eq_true hl.1
 have NQ:(K5 P t).length=Bm P t:=by
  have:=hl.2;simp only[Mg,Bool.and_eq_true] at this;exact Nat.eq_of_beq_eq_true this.2
 refine⟨v,cs,h,hz,X6,by rw[X6,IA],by rw[X6,NQ],fun j c hj=>?_⟩
 obtain⟨hT,p,hp,_,EI⟩:=hc j c hj;rw[Nat.zero_add,List.getElem?_map] at hp;cases hu:v.cells.toList[j]? with
 |none=>rw[hu] at hp;cases hp
 |some u=>
  rw[hu] at hp;simp at hp;subst hp;exact⟨hT,u,rfl,(EI default (fun _=>False) (fun _=>none) u (A4.sc u)).2,fun w A=>(EI w A (fun _=>none) u (A4.sc u)).1⟩
theorem BW {t:TypeId}{v:Value}(h:EJ P t=some v)(w:World):(zeroValue t).run P w=.ok v w:=by
 unfold EJ at h;cases hi:P.info? t with
 |none=>rw[hi] at h;cases h
 |some i=>rw[hi] at h;simp at h;simp[zeroValue,typeInfo,hi,h]
theorem Adb {t:TypeId}(ho:o.op=.alloc t){d:Nat}{K:PV->List Nat->List (Nat × Bx)->Option R}
  (hk:(Jz P t fun cs=>K (.ptr d 0) [] [(d,Ap5 P t cs)])=some r):∃v fz nw,K v fz nw=some r∧F8 P a w o Y β s v fz nw:=by
 obtain⟨z,cs,hk,hz,_,hl,_,hc⟩:=Tf hk
 have Dp:(execOp a.eval o).run P w=.ok (.value (.pointer (some ⟨w.heap.size,0,none⟩))) (w.alloc (.cells z.cells t)):=by
  unfold execOp;rw[ho];simp[Instr.alloc,BW hz,newVar,newRow]
 have hg:=Im.alloc w z.cells t;refine⟨_,_,_,hk,?_⟩;unfold Ap5;cases Yf P t
 ·refine XS Dp hg (fun j p hj=>?_) fun x hx id Br=>?_
  ·obtain⟨hT,u,hu,_,hv⟩:=hc j p hj;exact⟨u,by simpa using hu,(Pu hT).2 (hv _ _)⟩
  ·obtain⟨j,hj⟩:=List.mem_iff_getElem?.1 hx;rw[Kt (hc j x hj).1] at Br;cases Br
 ·refine Ut (by simp) Dp hg (fun j p hj=>?_) (.inl ⟨rfl,rfl⟩)
  obtain⟨hT,u,hu,h1,hv⟩:=hc j p hj;exact⟨u,by simpa using hu,h1,hv _ _⟩
end
open Go.RowKit
section
variable {R:Type} {r:R} {P:Program} {N:Nat} {w0:World} {X0:Fz} {Y:Nat->Prop} {β β':Bt} {s:St} {a:Act} {w w':World} {o:Oper} {A:Nat->Prop}
theorem Ve {t:TypeId}(h:Mg P t=true):(∃d,P.underlying t=some d)∧(K5 P t).length=Bm P t∧(P.info? t).map (·.size)=some (Bm P t):=by
 simp only[Mg,Bool.and_eq_true] at h;refine⟨Option.isSome_iff_exists.1 h.1,Nat.eq_of_beq_eq_true h.2,?_⟩;unfold Bm;cases hi:P.info? t with
 |none=>unfold Program.underlying at h;rw[hi] at h;cases h.1
 |some i=>simp
theorem Ra {v:Value}(h:v.oneCell'=true):v.cells = #[v]:=by cases v<;>first|rfl|cases h
theorem Ai9 {p:PV}{v:Value}{ts:List CT}{K:List PV->Option R}(hv:Ed w A β p v)(hl:(cellsOf p).length=ts.length) (h:Ue ts (cellsOf p) 0 K=some r):
  ∃cs,K cs=some r∧cs.length=ts.length∧Bw (Cj w A β) cs v.cells.toList∧(∀u∈v.cells.toList,u.oneCell'=true)∧(∀c∈cs,∀id∈Az c,id∈B8 p)∧∀c∈cs,(∀x,c ≠ .agg x)∧(∀x,c ≠ .tup x):=by
 obtain⟨cs,h,X6,JK,hc⟩:=Yo h;refine⟨cs,h,X6,?_⟩
 have single:(∀x,p ≠ .agg x)->cellsOf p=[p]:=by
  intro hp;cases p<;>first|rfl|exact absurd rfl (hp _)
 by_cases H8:∃x,p=.agg x
 ·obtain⟨x,rfl⟩:=H8;obtain⟨vs,rfl,h2⟩:=hv;have Ha:cs.length=vs.length:=by rw[X6,←hl];exact h2.len
  have key:∀(i:Nat) c u,cs[i]?=some c->vs[i]?=some u->Cj w A β c u∧u.oneCell'=true:=by
   intro i c u W9 hu;obtain⟨q,hq,_,_,hqv⟩:=hc i c W9;rw[Nat.zero_add] at hq;exact hqv w A β u (h2.at_ hq hu)
  refine⟨Bw.of_at Ha fun i c u W9 hu=>(key i c u W9 hu).1,?_,?_,JK⟩
  ·intro u hu;obtain⟨i,hi⟩:=List.mem_iff_getElem?.1 (show u∈vs from hu)
   have Cc:i<vs.length:=by
    rcases Nat.lt_or_ge i vs.length with h|h
    ·exact h
    ·rw[List.getElem?_eq_none h] at hi;cases hi
   exact (key i _ u (List.getElem?_eq_getElem (by omega)) hi).2
  ·intro c hcm id Br;obtain⟨i,hi⟩:=List.mem_iff_getElem?.1 hcm;obtain⟨q,hq,_,hr,_⟩:=hc i c hi;rw[Nat.zero_add] at hq;show id∈x.flatMap Az;exact List.mem_flatMap.2 ⟨q,List.mem_of_getElem? hq,hr id Br⟩
 ·have hp:∀x,p ≠ .agg x:=fun x e=>H8 ⟨x,e⟩
  rw[single hp] at hl hc;have IA:cs.length=1:=by rw[X6,←hl];rfl
  match cs,IA with
  |[c],_=>
   obtain⟨q,hq,hf,hr,hqv⟩:=hc 0 c rfl;simp at hq;subst hq;have Vu:∀x,p ≠ .tup x:=by rintro x rfl;exact hf
   have Tv:Cj w A β p v:=(V6 hp).1 ((Qw Vu).1 hv);obtain⟨h5,h6⟩:=hqv w A β v Tv;rw[Ra h6];refine⟨⟨h5,trivial⟩,?_,?_,JK⟩
   ·intro u hu;simp at hu;subst hu;exact h6
   ·intro c' W9 id Br;simp at W9;subst W9;have:=hr id Br;cases p<;>first|exact this|exact absurd rfl (hp _)|exact absurd rfl (Vu _)
end
open Go.RowKit
section
variable {R:Type} {r:R} {P:Program} {N:Nat} {w0:World} {X0:Fz} {Y:Nat->Prop} {β β':Bt} {s:St} {a:Act} {w w':World} {o:Oper} {A:Nat->Prop}
theorem Bw.get {α β':Type}{R':α->β'->Prop}{zs:List α}{bs:List β'}(h:Bw R' zs bs){i:Nat}{x:α}(hx:zs[i]?=some x):∃y,bs[i]?=some y∧R' x y:=by
 have Cc:i<zs.length:=by
  rcases Nat.lt_or_ge i zs.length with h|h
  ·exact h
  ·rw[List.getElem?_eq_none h] at hx;cases hx
 have hb:bs[i]?=some (bs[i]'(by rw[←h.len];exact Cc)):=List.getElem?_eq_getElem _
 exact⟨_,hb,h.at_ hx hb⟩
theorem Avz {p:PV}{v:Value}{ts:List CT}{K:List PV->Option R}(hv:Ed w A β p v)(hl:(cellsOf p).length=ts.length) (h:Y8 ts (cellsOf p) 0 K=some r):
  ∃cs,K cs=some r∧cs.length=ts.length∧Bw (A4 w A) cs v.cells.toList∧∀u∈v.cells.toList,u.oneCell'=true:=by
 obtain⟨cs,h,X6,hc⟩:=Y9 h;refine⟨cs,h,X6,?_⟩;by_cases H8:∃x,p=.agg x
 ·obtain⟨x,rfl⟩:=H8;obtain⟨vs,rfl,h2⟩:=hv;have Ha:cs.length=vs.length:=by rw[X6,←hl];exact h2.len
  have key:∀(i:Nat) c u,cs[i]?=some c->vs[i]?=some u->A4 w A c u∧u.oneCell'=true:=by
   intro i c u W9 hu;obtain⟨_,q,hq,_,hqv⟩:=hc i c W9;rw[Nat.zero_add] at hq;exact hqv w A β u (h2.at_ hq hu)
  refine⟨Bw.of_at Ha fun i c u W9 hu=>(key i c u W9 hu).1,?_⟩
  intro u hu;obtain⟨i,hi⟩:=List.mem_iff_getElem?.1 (show u∈vs from hu)
  have Cc:i<vs.length:=by
   rcases Nat.lt_or_ge i vs.length with h|h
   ·exact h
   ·rw[List.getElem?_eq_none h] at hi;cases hi
  exact (key i _ u (List.getElem?_eq_getElem (by omega)) hi).2
 ·have hp:∀x,p ≠ .agg x:=fun x e=>H8 ⟨x,e⟩
  have single:cellsOf p=[p]:=by cases p<;>first|rfl|exact absurd rfl (hp _)
  rw[single] at hl hc;have IA:cs.length=1:=by rw[X6,←hl];rfl
  match cs,IA with
  |[c],_=>
   obtain⟨_,q,hq,hf,hqv⟩:=hc 0 c rfl;simp at hq;subst hq;have Vu:∀x,p ≠ .tup x:=by rintro x rfl;exact hf
   have Tv:Cj w A β p v:=(V6 hp).1 ((Qw Vu).1 hv);obtain⟨h5,h6⟩:=hqv w A β v Tv;rw[Ra h6];exact⟨⟨h5,trivial⟩,fun u hu=>by simp at hu;subst hu;exact h6⟩
theorem Alq (h:B3 N w0 X0 Y β s a w){t:TypeId}{x:Operand}(ho:o.op=.box t x){d:Nat}{K:PV->List Nat->List (Nat × Bx)->Option R}
    (hk:(Ar (Mg P t&&Nat.beq (cellsOf (Cw s.tm x)).length (K5 P t).length)
      (bif Yf P t then Y8 (K5 P t) (cellsOf (Cw s.tm x)) 0 fun cs=>K (.ptr d 0) [] [(d,.ar false cs)]
       else Ue (K5 P t) (cellsOf (Cw s.tm x)) 0 fun cs=>K (.ptr d 0) [] [(d,.st cs)]))=some r):∃v fz nw,K v fz nw=some r∧F8 P a w o Y β s v fz nw:=by
  obtain⟨hl,hk⟩:=Ax hk
  simp only[Bool.and_eq_true] at hl
  have hl:=Nat.eq_of_beq_eq_true hl.2
  have Dp:(execOp a.eval o).run P w=.ok (.value (.pointer (some ⟨w.heap.size,0,none⟩))) (w.alloc (.cells (a.eval x).cells t)):=by
    unfold execOp
    rw[ho]
    simp[Instr.box,newVar,newRow]
  have hg:=Im.alloc w (a.eval x).cells t
  cases ha:Yf P t
  · rw[ha] at hk
    obtain⟨cs,hk,_,h2,_,hr,_⟩:=Ai9 (Dy h x) hl hk
    refine⟨_,_,_,hk,XS Dp hg (fun j p hj=>?_) fun c hc id Br=>G6 h x id (hr c hc id Br)⟩
    obtain⟨u,hu,hp⟩:=h2.get hj
    exact⟨u,by simpa using hu,hp⟩
  · rw[ha] at hk
    obtain⟨cs,hk,_,h2,h1⟩:=Avz (Dy h x) hl hk
    refine⟨_,_,_,hk,Ut (by simp) Dp hg (fun j p hj=>?_) (.inl ⟨rfl,rfl⟩)⟩
    obtain⟨u,hu,hp⟩:=h2.get hj
    exact⟨u,by simpa using hu,h1 u (List.mem_of_getElem? hu),hp⟩
theorem Agv {c:PV}(h1:∀x,c ≠ .agg x)(h2:∀x,c ≠ .tup x):B8 c=Az c:=by
 cases c<;>first|rfl|exact absurd rfl (h1 _)|exact absurd rfl (h2 _)
theorem HW {t:TypeId}{ad:Addr}{cs:List PV}{p:PV}(hok:Mg P t=true)(Ha:cs.length=(K5 P t).length)
  (JK:∀c∈cs,(∀x,c ≠ .agg x)∧(∀x,c ≠ .tup x))
  (hc:∀(j:Nat) c,cs[j]?=some c->∃v,w.cell? (ad.add j)=some v∧Cj w A β c v)
  (hp:(Cx P t=true∧p=.agg cs)∨(Cx P t=false∧cs=[p])):∃val,(loadVar t ad).run P w=.ok val w∧Ed w A β p val:=by
 obtain⟨⟨d,hd⟩,hl,hi⟩:=Ve hok;rcases hp with⟨H8,rfl⟩|⟨H8,rfl⟩
 ·have hf:∀j,j<Bm P t->w.cell? (ad.add j)=some ((w.cell? (ad.add j)).getD undef):=by
   intro j hj;obtain⟨v,hv,_⟩:=hc j _ (List.getElem?_eq_getElem (by omega))
   rw[hv];rfl
  refine⟨_,?_,(List.range (Bm P t)).map (fun j=>(w.cell? (ad.add j)).getD undef),rfl,?_⟩
  ·simp only[loadVar,Sem.run_bind,Q8 hd,H8,Result.andThen_ok,if_true,Oe hi,run_loadCells w ad (Bm P t) _ hf];simp
  ·refine Bw.of_at (by simp;omega) fun i c u W9 hu=>?_
   obtain⟨v,hv,ML⟩:=hc i c W9
   have Cc:i<Bm P t:=by
    rcases Nat.lt_or_ge i cs.length with h|h
    ·omega
    ·rw[List.getElem?_eq_none h] at W9;cases W9
   rw[List.getElem?_map,List.getElem?_range Cc] at hu;simp[hv] at hu;subst hu;exact ML
 ·obtain⟨v,hv,ML⟩:=hc 0 p rfl;have hn:=JK p (by simp)
  have h0:ad.add 0=ad:=by simp[Addr.add]
  rw[h0] at hv;refine⟨v,?_,(Qw hn.2).2 ((V6 hn.1).2 ML)⟩;simp only[loadVar,Sem.run_bind,Q8 hd,H8,Result.andThen_ok];simp[hv]
theorem Apa {hp:Nat->Option Bx}{id:Nat}{c:List PV}(h:rd hp id=some c):hp id=some (.st c)∨∃f,hp id=some (.ar f c):=by
 unfold rd at h;split at h
 ·rename_i e;simp at h;subst h;exact .inl e
 ·rename_i f _ e;simp at h;subst h;exact .inr ⟨_,e⟩
 ·cases h
theorem Abm {hp:Nat->Option Bx}{id:Nat}{c:List PV}(h:Ny hp id=some c):∃f,hp id=some (.ar f c):=by
 unfold Ny at h;split at h
 ·rename_i e;simp at h;subst h;exact⟨_,e⟩
 ·cases h
theorem PL (h:B3 N w0 X0 Y β s a w){id:Nat}{c:List PV}(hr:rd s.hp id=some c){b ob:Nat}(hβ:β id=some (b,ob)) {j:Nat}{p:PV}(hj:c[j]?=some p):
  ∃v,w.cell? ⟨b,ob+j,none⟩=some v∧Cj w (De s.hp β Y) β p v:=by
 rcases Apa hr with hb|⟨f,hb⟩
 ·obtain⟨b',o',h1,h2,_⟩:=h.box id _ hb;rw[hβ] at h1;simp at h1;obtain⟨rfl,rfl⟩:=h1;exact h2 j p hj
 ·rcases h.box id _ hb with⟨h1,_⟩|⟨b',o',h1,h2,_⟩
  ·rw[hβ] at h1;cases h1
  ·rw[hβ] at h1;simp at h1;obtain⟨rfl,rfl⟩:=h1
   obtain⟨v,hv,_,ht⟩:=h2 j p hj;rw[Eu] at hv;refine⟨v,hv,?_⟩;cases ht with
   |sc=>exact A4.sc _
   |top=>exact A4.top _
   |ub=>exact A4.ub _
   |lnil=>exact A4.lnil _ _
   |lemp=>exact A4.lemp _ _ _
   |lst es n cells a cap f hs hb hA hn hc h1 hr=>exact A4.lst es n cells a cap f hs hb hA hn hc h1 hr
theorem Oo:∀{ts:List CT}{cells:List PV}{off:Nat}{K:List PV->Option R},Y8 ts cells off K=some r->Ue ts cells off K=some r
 |[],_,_,_,h=>h
 |.int k::ts,cells,off,K,h=>by
  obtain⟨n,hp,h⟩:=Ga (show Ae k (cells.getD off .top) _=some r from h)
  show Ae k _ _=_;rw[hp];simp only[Ae,if_true];exact Oo h
 |.bool::ts,cells,off,K,h=>by
  obtain⟨n,hp,h⟩:=Ep (show Bv (cells.getD off .top) _=some r from h)
  show Bv _ _=_;rw[hp];exact Oo h
 |.str::ts,cells,off,K,h=>by
  obtain⟨n,hp,h⟩:=Er (show Iv (cells.getD off .top) _=some r from h)
  show Iv _ _=_;rw[hp];exact Oo h
 |.sl es::ts,cells,off,K,h=>by
  obtain⟨z,n,c,h,hp⟩:=Ho (show Em es (cells.getD off .top) _=some r from h)
  change fcK (.sl es) (cells.getD off .top) (fun c=>Ue ts cells (off+1) fun r=>K (c::r))=some r
  unfold fcK;dsimp only;unfold fsK;rcases hp with hp|⟨hp,rfl,rfl,rfl⟩
  ·rw[hp];simp only[Em,Nat.beq_refl,cond_true];exact Oo h
  ·rw[hp];exact Oo h
 |.any::ts,cells,off,K,h=>by
  obtain⟨f,a,b,hp,h⟩:=Aai (show fnK (cells.getD off .top) (fun v=>Y8 ts cells (off+1) fun r=>K (.sc v::r))=some r from h)
  show fnK (cells.getD off .top) (fun v=>Ue ts cells (off+1) fun r=>K (.sc v::r))=some r
  rw[hp];exact Oo h
theorem A4.unz {w:World}{A:Nat->Prop}{z:Bool}{es n:Nat}{c:List PV}{u:Value}(h:A4 w A (.lst z es n c) u):A4 w A (.lst false es n c) u:=by
 cases h with
 |lnil z es=>exact .lnil false es
 |lemp es a cap=>exact .lemp es a cap
 |lst es n c a cap f h1 h2 h3 h4 h5 h6 h7=>exact .lst es n c a cap f h1 h2 h3 h4 h5 h6 h7
theorem Akk {w:World}{A:Nat->Prop}{β:Bt}{p:PV}{u:Value}(h:Cj w A β p u):Cj w A β (Abg p) u:=by
 cases p with
 |lst z es n c=>exact A4.unz h
 |_=>exact h
theorem Ah9 (p:PV):Az (Abg p)=Az p:=by cases p<;>rfl
theorem WQ {w:World}{A:Nat->Prop}{β:Bt}:∀{cs:List PV}{vs:List Value},Bw (Cj w A β) cs vs->Bw (Cj w A β) (cs.map Abg) vs
 |[],[],_=>trivial
 |_::_,_::_,h=>⟨Akk h.1,WQ h.2⟩
 |[],_::_,h=>h.elim
 |_::_,[],h=>h.elim
theorem Al7 {w:World}{A:Nat->Prop}{β:Bt}{p:PV}{u:Value}(h:Ed w A β p u):Ed w A β (Akj p) u:=by
 cases p with
 |agg cs=>
  obtain⟨vs,h1,h2⟩:=(show Ia w A β (.agg cs) u from h)
  exact⟨vs,h1,WQ h2⟩
 |lst z es n c=>exact A4.unz (show A4 w A (.lst z es n c) u from h)
 |_=>exact h
theorem Al9 (p:PV):B8 (Akj p)=B8 p:=by
 cases p with
 |agg cs=>
  show (cs.map Abg).flatMap Az=cs.flatMap Az
  induction cs with
  |nil=>rfl
  |cons a l ih=>rw[List.map_cons,List.flatMap_cons,List.flatMap_cons,ih,Ah9]
 |_=>rfl
theorem Avs {hp:Nat->Option Bx}{t:TypeId}{x:PV}{K:PV->Option R}(h:HH P (rd hp) (Ny hp) t x K=some r):
  SA P (rd hp) t x K=some r∨SA P (rd hp) t x (fun v=>K (Akj v))=some r:=by
 unfold HH at h;unfold SA;split at h
 ·rename_i id off;obtain⟨hb,h⟩:=Ax h;rw[hb];show F7 _ _=_∨F7 _ _=_;split at h
  ·rename_i c hc;obtain⟨f,Nv⟩:=Abm hc;have:rd hp id=some c:=by unfold rd;rw[Nv]
   rw[this];exact .inr (Oo h)
  ·exact .inl h
 ·exact .inr h
 ·cases h
theorem WV (h:B3 N w0 X0 Y β s a w){t:TypeId}{x:PV}{u:Value}(hx:Ed w (De s.hp β Y) β x u) {K:PV->Option R}(hk:SA P (rd s.hp) t x K=some r):
  ∃v ad val,K v=some r∧u=.pointer (some ad)∧(loadVar t ad).run P w=.ok val w∧Ed w (De s.hp β Y) β v val∧∀i∈B8 v,s.hp i≠none:=by
 unfold SA at hk;split at hk
 ·rename_i id off;obtain⟨hok,hk⟩:=Ax hk;obtain⟨c,hr,hk⟩:=Dt hk;obtain⟨cs,hk,hl,JK,hc⟩:=Yo hk;obtain⟨b,ob,hβ,D6⟩:=hx
  have hcell:∀(j:Nat) q,cs[j]?=some q->∃v,w.cell? ((⟨b,ob+off,none⟩:Addr).add j)=some v∧Cj w (De s.hp β Y) β q v:=by
   intro j q hq;obtain⟨p,hp,_,_,EI⟩:=hc j q hq;obtain⟨v,hv,ML⟩:=PL h hr hβ hp;exact⟨v,by rw[Eu,Nat.add_assoc];exact hv,(EI _ _ _ _ ML).1⟩
  have BK:∀q∈cs,∀i∈Az q,s.hp i≠none:=by
   intro q hq i hi;obtain⟨j,hj⟩:=List.mem_iff_getElem?.1 hq;obtain⟨p,hp,_,hpr,_⟩:=hc j q hj;rcases Apa hr with hb|⟨f,hb⟩
   ·exact h.wfB id c hb p (List.mem_of_getElem? hp) i (hpr i hi)
   ·obtain⟨v,hv,ML⟩:=PL h hr hβ hp;exfalso;have C2:=hpr i hi;rcases h.box id _ hb with⟨_,rfl⟩|⟨b',o',h1,h2,_⟩
    ·simp at hp
    ·obtain⟨v',_,_,ht⟩:=h2 _ p hp;cases ht<;>cases C2
  rcases ZZ hk with⟨H8,Gi⟩|⟨H8,q,rfl,Gi⟩
  ·obtain⟨val,GF,hv⟩:=HW hok hl JK hcell (.inl ⟨H8,rfl⟩);refine⟨_,_,val,Gi,D6,GF,hv,fun i hi=>?_⟩
   obtain⟨q,hq,hi⟩:=List.mem_flatMap.1 (show i∈cs.flatMap Az from hi)
   exact BK q hq i hi
  ·obtain⟨val,GF,hv⟩:=HW hok hl JK hcell (.inr ⟨H8,rfl⟩);refine⟨_,_,val,Gi,D6,GF,hv,fun i hi=>BK q (by simp) i ?_⟩
   have hn:=JK q (by simp)
   rw[Agv hn.1 hn.2] at hi;exact hi
 ·rename_i c off;obtain⟨hok,hk⟩:=Ax hk;obtain⟨cs,hk,hl,hc⟩:=Y9 hk;obtain⟨ad,D6,hs,hb,hA,hrd⟩:=hx
  have JK:∀q∈cs,(∀x,q ≠ .agg x)∧(∀x,q ≠ .tup x):=by
   intro q hq;obtain⟨j,hj⟩:=List.mem_iff_getElem?.1 hq;exact⟨HG (hc j q hj).1,Aj5 (hc j q hj).1⟩
  have hcell:∀(j:Nat) q,cs[j]?=some q->∃v,w.cell? ((ad.add off).add j)=some v∧Cj w (De s.hp β Y) β q v:=by
   intro j q hq;obtain⟨hT,p,hp,QV,EI⟩:=hc j q hq;obtain⟨v,hv,_,ht⟩:=hrd (off+j) p hp;exact⟨v,by rw[add_add];exact hv,(Pu hT).2 (EI w (De s.hp β Y) β v ((Pu QV).2 ht)).1⟩
  have BK:∀q∈cs,Az q=[]:=by
   intro q hq;obtain⟨j,hj⟩:=List.mem_iff_getElem?.1 hq;exact Kt (hc j q hj).1
  rcases ZZ hk with⟨H8,Gi⟩|⟨H8,q,rfl,Gi⟩
  ·obtain⟨val,GF,hv⟩:=HW hok hl JK hcell (.inl ⟨H8,rfl⟩);refine⟨_,_,val,Gi,D6,GF,hv,fun i hi=>?_⟩
   obtain⟨q,hq,hi⟩:=List.mem_flatMap.1 (show i∈cs.flatMap Az from hi)
   rw[BK q hq] at hi;cases hi
  ·obtain⟨val,GF,hv⟩:=HW hok hl JK hcell (.inr ⟨H8,rfl⟩);refine⟨_,_,val,Gi,D6,GF,hv,fun i hi=>?_⟩
   have hn:=JK q (by simp)
   rw[Agv hn.1 hn.2,BK q (by simp)] at hi
   cases hi
 ·cases hk
theorem Ad9 (h:B3 N w0 X0 Y β s a w){t:TypeId}{x:PV}{u:Value}(hx:Ed w (De s.hp β Y) β x u) {K:PV->Option R}(hk:HH P (rd s.hp) (Ny s.hp) t x K=some r):
  ∃v ad val,K v=some r∧u=.pointer (some ad)∧(loadVar t ad).run P w=.ok val w∧Ed w (De s.hp β Y) β v val∧∀i∈B8 v,s.hp i≠none:=by
 rcases Avs hk with hk|hk
 ·exact WV h hx hk
 ·obtain⟨v,ad,val,h1,h2,h3,h4,h5⟩:=WV h hx hk;exact⟨Akj v,ad,val,h1,h2,h3,Al7 h4,by rw[Al9];exact h5⟩
theorem Af0 (h:B3 N w0 X0 Y β s a w){t:TypeId}{x:Operand}(ho:o.op=.load t x){K:PV->Option R}(hk:HH P (rd s.hp) (Ny s.hp) t (Cw s.tm x) K=some r):
  ∃v,K v=some r∧F8 P a w o Y β s v [] []:=by
 obtain⟨v,ad,val,Eb,D6,hl,hv,hr⟩:=Ad9 h (Dy h x) hk;refine⟨v,Eb,Cz ?_ hv hr⟩;unfold execOp;rw[ho];simp[Instr.loadAt,Instr.sureAddr,D6,hl]
theorem Am9 {x:PV}{d:Nat}{K:PV->Option R}(h:Yz x d K=some r):(∃id off,x=.ptr id off∧K (.ptr id (off+d))=some r)∨∃c off,x=.iptr c off∧K (.iptr c (off+d))=some r:=by
 unfold Yz at h;split at h
 ·exact .inl ⟨_,_,rfl,h⟩
 ·exact .inr ⟨_,_,rfl,h⟩
 ·cases h
theorem DB (h:B3 N w0 X0 Y β s a w){x:Operand}{d:Nat}{K:PV->Option R}(hk:Yz (Cw s.tm x) d K=some r)
  (Dp:∀ad:Addr,a.eval x=.pointer (some ad)->(execOp a.eval o).run P w=.ok (.value (.pointer (some (ad.add d)))) w):∃v,K v=some r∧F8 P a w o Y β s v [] []:=by
 have hx:=Dy h x;have TP:=G6 h x;rcases Am9 hk with⟨id,off,e,hk⟩|⟨c,off,e,hk⟩
 ·rw[e] at hx TP;obtain⟨b,ob,hβ,D6⟩:=hx;refine⟨_,hk,Cz (Dp _ D6) ⟨b,ob,hβ,by rw[Eu,Nat.add_assoc]⟩ TP⟩
 ·rw[e] at hx;obtain⟨ad,D6,h1,h2,h3,h4⟩:=hx;exact⟨_,hk,Cz (Dp _ D6) ⟨ad,by rw[add_add],h1,h2,h3,h4⟩ (by intro i hi;cases hi)⟩
theorem OW (h:B3 N w0 X0 Y β s a w){x:Operand}(ho:o.op=.nilCheck x){K:PV->Option R}(hk:Yz (Cw s.tm x) 0 K=some r):∃v,K v=some r∧F8 P a w o Y β s v [] []:=by
 refine DB h hk fun ad D6=>?_
 unfold execOp;rw[ho];simp[D6,Addr.add]
theorem HX {t:TypeId}{f:Nat}{q:Nat × TypeId}(h:Vm P t f=some q):∃fs g,P.underlying t=some (.struct fs)∧fs[f]?=some g∧q=(g.offset,g.type):=by
 unfold Vm at h;split at h
 ·rename_i fs e;cases hg:fs[f]? with
  |none=>rw[hg] at h;cases h
  |some g=>rw[hg] at h;simp at h;exact⟨fs,g,e,hg,h.symm⟩
 ·cases h
theorem NP (h:B3 N w0 X0 Y β s a w){t:TypeId}{x:Operand}{f:Nat}(ho:o.op=.fieldAddr t x f){K:PV->Option R}
  (hk:(F7 (Vm P t f) fun q=>Ar (Nat.ble 1 (Bm P q.2)) (Yz (Cw s.tm x) q.1 K))=some r):∃v,K v=some r∧F8 P a w o Y β s v [] []:=by
 obtain⟨q,hq,hk⟩:=Dt hk;obtain⟨hs,hk⟩:=Ax hk;obtain⟨fs,g,hu,hg,rfl⟩:=HX hq;have hs:1<=Bm P g.type:=Nat.le_of_ble_eq_true hs;have Lw:=Apk (P:=P) (t:=g.type) rfl (by omega)
 refine DB h hk fun ad D6=>?_
 unfold execOp;rw[ho];have Gg:¬Bm P g.type=0:=by omega
 simp[Instr.fieldAt,run_underlying hu,hg,Instr.sureAddr,D6,fieldPlace,Oe Lw,Gg]
end
open Go.RowKit
section
variable {R:Type} {r:R} {P:Program} {N:Nat} {w0:World} {X0:Fz} {Y:Nat->Prop} {β β':Bt} {s:St} {a:Act} {w w':World} {o:Oper} {A:Nat->Prop}
theorem PG (h:B3 N w0 X0 Y β s a w){t:TypeId}{cs:List PV}{vs:List Value}{off:Nat}{K:PV->Option R}{x:Operand}(hx:Cw s.tm x=.agg cs)(hv:Bw (Cj w (De s.hp β Y) β) cs vs)
  (hk:Ar (Mg P t) (Ue (K5 P t) cs off fun c=>mkV (Cx P t) c K)=some r)
  (Dp:∀val,(part t ⟨vs⟩ off).run P w=.ok val w->(execOp a.eval o).run P w=.ok (.value val) w):∃v,K v=some r∧F8 P a w o Y β s v [] []:=by
 obtain⟨hok,hk⟩:=Ax hk;obtain⟨⟨d,hd⟩,hl,hi⟩:=Ve hok;obtain⟨qs,hk,hql,JK,hq⟩:=Yo hk;have TP:=G6 h x;rw[hx] at TP
 have hcell:∀(j:Nat) q,qs[j]?=some q->∃v,vs[off+j]?=some v∧Cj w (De s.hp β Y) β q v:=by
  intro j q hj;obtain⟨p,hp,_,_,EI⟩:=hq j q hj;obtain⟨v,Tv,hc⟩:=hv.get hp;exact⟨v,Tv,(EI _ _ _ _ hc).1⟩
 have BK:∀q∈qs,∀i∈Az q,s.hp i≠none:=by
  intro q hqm i hi;obtain⟨j,hj⟩:=List.mem_iff_getElem?.1 hqm;obtain⟨p,hp,_,hpr,_⟩:=hq j q hj;exact TP i (List.mem_flatMap.2 ⟨p,List.mem_of_getElem? hp,hpr i hi⟩)
 rcases ZZ hk with⟨H8,Gi⟩|⟨H8,q,rfl,Gi⟩
 ·have AK:Bm P t=0∨off+Bm P t<=vs.length:=by
   rcases Nat.eq_zero_or_pos (Bm P t) with h0|h0
   ·exact .inl h0
   ·obtain⟨v,Tv,_⟩:=hcell (Bm P t-1) _ (List.getElem?_eq_getElem (by omega))
    have:off+(Bm P t-1)<vs.length:=by
     rcases Nat.lt_or_ge (off+(Bm P t-1)) vs.length with h|h
     ·exact h
     ·rw[List.getElem?_eq_none h] at Tv;cases Tv
    exact .inr (by omega)
  refine⟨_,Gi,Cz (Dp (.agg ⟨(vs.drop off).take (Bm P t)⟩) ?_) ⟨(vs.drop off).take (Bm P t),rfl,?_⟩ fun i hi=>?_⟩
  ·simp only[part,Sem.run_bind,Q8 hd,H8,Result.andThen_ok,if_true,Oe hi];simp[List.extract_eq_take_drop]
  ·refine Bw.of_at ?_ fun i c u hc hu=>?_
   ·simp only[List.length_take,List.length_drop];omega
   ·obtain⟨v,Tv,ML⟩:=hcell i c hc
    have Cc:i<Bm P t:=by
     rcases Nat.lt_or_ge i qs.length with h|h
     ·omega
     ·rw[List.getElem?_eq_none h] at hc;cases hc
    rw[List.getElem?_take_of_lt Cc,List.getElem?_drop,Tv] at hu;cases hu;exact ML
  ·obtain⟨q,hqm,hi⟩:=List.mem_flatMap.1 (show i∈qs.flatMap Az from hi)
   exact BK q hqm i hi
 ·obtain⟨v,Tv,ML⟩:=hcell 0 q rfl;have hn:=JK q (by simp)
  refine⟨_,Gi,Cz (Dp v ?_) ((Qw hn.2).2 ((V6 hn.1).2 ML)) fun i hi=>?_⟩
  ·simp only[part,Sem.run_bind,Q8 hd,H8,Result.andThen_ok];rw[Nat.add_zero] at Tv;simp[Tv]
  ·rw[Agv hn.1 hn.2] at hi;exact BK q (by simp) i hi
theorem Ae0 (h:B3 N w0 X0 Y β s a w){t:TypeId}{x:Operand}{f:Nat}(ho:o.op=.field t x f){K:PV->Option R}
  (hk:(F7 (Vm P t f) fun q=>Ar (Mg P q.2)<|Ft (Cw s.tm x) fun cs=>Ue (K5 P q.2) cs q.1 fun c=>mkV (Cx P q.2) c K)=some r):∃v,K v=some r∧F8 P a w o Y β s v [] []:=by
 obtain⟨q,hq,hk⟩:=Dt hk;obtain⟨hok,hk⟩:=Ax hk;obtain⟨cs,hx,hk⟩:=Kb hk;obtain⟨fs,g,hu,hg,rfl⟩:=HX hq;have hxv:=Dy h x;rw[hx] at hxv;obtain⟨vs,D6,hv⟩:=hxv;refine PG (t:=g.type) (off:=g.offset) h hx hv (by rw[show Mg P g.type=true from hok];exact hk) fun val hp=>?_
 unfold execOp;rw[ho];simp[Instr.field,run_underlying hu,hg,asAgg,D6,hp]
theorem VM (h:B3 N w0 X0 Y β s a w){x:Operand}{i:Nat}(ho:o.op=.extract x i){K:PV->Option R}
  (hk:(match Cw s.tm x with | .tup vs=>F7 vs[i]? K|_=>none)=some r):∃v,K v=some r∧F8 P a w o Y β s v [] []:=by
 have hx:=Dy h x;have TP:=G6 h x;split at hk
 ·rename_i ps e;rw[e] at hx TP;obtain⟨p,hp,hk⟩:=Dt hk;obtain⟨vs,D6,hv⟩:=hx;obtain⟨v,Tv,EI⟩:=hv.get hp
  have Awx:∀y,p ≠ .tup y:=by
   rintro y rfl
   have A7m:A4 _ _ (.tup y) v:=EI;cases A7m
  refine⟨p,hk,Cz (val:=v) ?_ ((Qw Awx).2 EI) fun id Br=>TP id ?_⟩
  ·unfold execOp;rw[ho];simp[Instr.extract,D6,Tv]
  ·refine List.mem_flatMap.2 ⟨p,List.mem_of_getElem? hp,?_⟩;cases p<;>first|exact Br|exact absurd rfl (Awx _)
 ·cases hk
theorem slice_form {es:Nat}{p:PV}{z:Bool}{n:Nat}{c:List PV}{v:Value}(hp:p=.lst z es n c∨(p=.sc (.slice none 0 0)∧z=true∧n=0∧c=[])) (hv:Ed w A β p v):
  (v=.slice none 0 0∧n=0∧c=[])∨(∃ad cap,v=.slice (some ad) n cap∧z=false∧n<=cap∧ad.spot=none∧ad.block<w.heap.size∧¬A ad.block∧VH w A ad c)∨∃ad cap,v=.slice (some ad) 0 cap∧z=false∧n=0∧c=[]:=by
 have Tv:Cj w A β p v:=by rcases hp with rfl|⟨rfl,_⟩<;>exact hv
 have ht:=DD hp Tv;cases ht with
 |lnil=>exact .inl ⟨rfl,rfl,rfl⟩
 |lst _ _ _ ad cap f hs hb hA hn hc h1 hr=>exact .inr (.inl ⟨ad,cap,rfl,rfl,hn,hs,hb,hA,fun j q hj=>⟨f j,hc j q hj,h1 j q hj,hr j q hj⟩⟩)
 |lemp _ ad cap=>exact .inr (.inr ⟨ad,cap,rfl,rfl,rfl,rfl⟩)
theorem OA (h:B3 N w0 X0 Y β s a w){t:TypeId}{x i:Operand}(ho:o.op=.indexAddr t x i){K:PV->Option R}
  (hk:(Ei (Cw s.tm i) fun _ n=>Ov P t (Cw s.tm x) n K)=some r):∃v,K v=some r∧F8 P a w o Y β s v [] []:=by
 obtain⟨ik,n,hi,hk⟩:=D9 hk;have hai:=Df h hi;have hx:=Dy h x;have TP:=G6 h x;unfold Ov at hk;split at hk
 ·rename_i len e hu;obtain⟨hz,hk⟩:=Ax hk;obtain⟨hb,hk⟩:=Ax hk;simp only[Bool.and_eq_true,decide_eq_true_eq] at hb;obtain⟨inf,T7⟩:=Option.isSome_iff_exists.1 hz;refine DB h hk fun ad D6=>?_
  unfold execOp;rw[ho];simp[Instr.indexAt,asIntOf,hai,D6,run_underlying hu,Instr.sureAddr,hb.1,hb.2,sizeOf,typeInfo,T7,Bm]
 ·rename_i e hu;obtain⟨hz,hk⟩:=Ax hk;obtain⟨inf,T7⟩:=Option.isSome_iff_exists.1 hz;have Lw:Bm P e=inf.size:=by simp[Bm,T7]
  split at hk
  ·rename_i id es off n' e';rw[e'] at hx TP;obtain⟨LL,hk⟩:=Ax hk;have LL:=Nat.eq_of_beq_eq_true LL;subst LL;obtain⟨hb,hk⟩:=Ax hk;simp only[Bool.and_eq_true,decide_eq_true_eq] at hb;rcases hx with⟨_,_,rfl,_⟩|⟨b,ob,y,cap,hβ,D6,hy,_⟩
   ·omega
   ·have hy:y=ob+off:=by rcases hy with hy|⟨rfl,_⟩<;>omega
    subst hy;refine⟨_,hk,Cz (val:=.pointer (some ⟨b,ob+(off+n.toNat*Bm P e),none⟩)) ?_ ⟨b,ob,hβ,rfl⟩ TP⟩;unfold execOp;rw[ho];simp[Instr.indexAt,asIntOf,hai,D6,run_underlying hu,hb.1,hb.2,sizeOf,typeInfo,T7,Lw,Eu,Nat.add_assoc]
  ·obtain⟨z,n',c,hk,hp⟩:=Ho hk;obtain⟨hb,hk⟩:=Ax hk;simp only[Bool.and_eq_true,decide_eq_true_eq] at hb;rcases slice_form hp hx with⟨_,rfl,_⟩|⟨ad,cap,D6,_,_,h1,h2,h3,h4⟩|⟨_,_,_,_,rfl,_⟩
   ·omega
   rotate_left
   ·omega
   ·refine⟨_,hk,Cz (val:=.pointer (some (ad.add (n.toNat*Bm P e)))) ?_ ⟨ad,rfl,h1,h2,h3,h4⟩ (by intro i hi;cases hi)⟩
    unfold execOp;rw[ho];simp[Instr.indexAt,asIntOf,hai,D6,run_underlying hu,hb.1,hb.2,sizeOf,typeInfo,T7,Lw]
 ·cases hk
theorem Ad7 (h:B3 N w0 X0 Y β s a w){t:TypeId}{x i:Operand}(ho:o.op=.index t x i){K:PV->Option R}
  (hk:(Ei (Cw s.tm i) fun _ n=>
   match P.underlying t with
   |some .string=>Iv (Cw s.tm x) fun s=>Ar (decide (0<=n)) (F7 (s.data.toList[n.toNat]?) fun b=>K (.sc (.int .u8 b.toNat)))
   |some (.array len e)=>Ft (Cw s.tm x) fun cs=>Ar (decide (0<=n)&&decide (n<len)&&Mg P e) (Ue (K5 P e) cs (n.toNat*Bm P e) fun c=>mkV (Cx P e) c K)
   |_=>none)=some r):∃v,K v=some r∧F8 P a w o Y β s v [] []:=by
 obtain⟨ik,n,hi,hk⟩:=D9 hk;have hai:=Df h hi;split at hk
 ·rename_i hu;obtain⟨sb,hx,hk⟩:=Er hk;have D6:=Df h hx;obtain⟨h0,hk⟩:=Ax hk;obtain⟨b,hb,hk⟩:=Dt hk;have h0:=of_decide_eq_true h0;refine⟨_,hk,Dq ?_⟩
  have Cc:n.toNat<sb.size:=by
   rcases Nat.lt_or_ge n.toNat sb.data.toList.length with h|h
   ·simpa using h
   ·rw[List.getElem?_eq_none h] at hb;cases hb
  have I7:sb[n.toNat]=b:=by
   have:sb.data.toList[n.toNat]?=some sb[n.toNat]:=by
    rw[List.getElem?_eq_getElem (by simpa using Cc)]
    rfl
   rw[hb] at this;injection this with this;exact this.symm
  unfold execOp;rw[ho];simp[Instr.index,asIntOf,hai,D6,run_underlying hu,h0,Cc,I7]
 ·rename_i len e hu;obtain⟨cs,hx,hk⟩:=Kb hk;obtain⟨hb,hk⟩:=Ax hk;simp only[Bool.and_eq_true,decide_eq_true_eq] at hb;have hxv:=Dy h x;rw[hx] at hxv;obtain⟨vs,D6,hv⟩:=hxv;obtain⟨_,_,Lw⟩:=Ve hb.2;refine PG (t:=e) (off:=n.toNat*Bm P e) h hx hv (by rw[hb.2];exact hk) fun val hp=>?_
  unfold execOp;rw[ho];simp[Instr.index,asIntOf,hai,D6,run_underlying hu,hb.1.1,hb.1.2,Oe Lw,hp]
 ·cases hk
end
open Go.RowKit
section
variable {R:Type} {r:R} {P:Program} {N:Nat} {w0:World} {X0:Fz} {Y:Nat->Prop} {β β':Bt} {s:St} {a:Act} {w w':World} {o:Oper} {A:Nat->Prop}
theorem E9 (h:B3 N w0 X0 Y β s a w){x:Option Operand}{dflt:Nat}{K:Nat->Option R}(hk:Jf (x.map (Cw s.tm)) dflt K=some r):
  ∃l,K l=some r∧((x=none∧l=dflt)∨∃y k,x=some y∧a.eval y=.int k (l:Int)):=by
 cases x with
 |none=>exact⟨dflt,hk,.inl ⟨rfl,rfl⟩⟩
 |some y=>
  obtain⟨k,i,hi,hk⟩:=D9 (show Ei (Cw s.tm y) _=some r from hk)
  obtain⟨h0,hk⟩:=Ax hk;have h0:=of_decide_eq_true h0;exact⟨i.toNat,hk,.inr ⟨y,k,rfl,by rw[Df h hi,Int.toNat_of_nonneg h0]⟩⟩
theorem Ma {lo hi:Option Operand}{isS:Bool}{len cap l u:Nat}(hl:(lo=none∧l=0)∨∃y k,lo=some y∧a.eval y=.int k (l:Int))
  (hu:(hi=none∧u=len)∨∃y k,hi=some y∧a.eval y=.int k (u:Int)) (h1:l<=u)(h2:u<=cap):
  (Instr.sliceBounds isS len cap (lo.map a.eval) (hi.map a.eval) none).run P w=.ok (l,u,cap) w:=by
 rcases hl with⟨rfl,rfl⟩|⟨y,k,rfl,hy⟩<;>rcases hu with⟨rfl,rfl⟩|⟨y',k',rfl,hy'⟩
 ·simp[Instr.sliceBounds]
 ·simp[Instr.sliceBounds,Instr.sliceBound,asIntOf,hy',h2]
 ·simp[Instr.sliceBounds,Instr.sliceBound,asIntOf,hy,h1]
 ·simp[Instr.sliceBounds,Instr.sliceBound,asIntOf,hy,hy',h1,h2]
theorem Dn {e:TypeId}(h:(P.info? e).isSome=true) (w:World):(sizeOf e).run P w=.ok (Bm P e) w:=by
 obtain⟨i,hi⟩:=Option.isSome_iff_exists.1 h;exact Oe (by simp[Bm,hi]) w
theorem PQ {b j:Nat}{v:Value}(h:w.cell? ⟨b,j,none⟩=some v):j<bsz w b:=by
 unfold World.cell? at h;unfold bsz;split at h
 ·rename_i c e fz hb;simp only at hb;rw[hb];simp only[Option.isSome_none,Bool.false_eq_true,if_false] at h;rcases Nat.lt_or_ge j c.size with Cc|hge
  ·exact Cc
  ·rw[Array.getElem?_eq_none hge] at h;cases h
 ·cases h
theorem Acz (h:B3 N w0 X0 Y β s a w){t:TypeId}{x:Operand}{lo hi:Option Operand}(ho:o.op=.slice t x lo hi none){K:PV->Option R}
  (hk:IK P (rd s.hp) t (Cw s.tm x) (lo.map (Cw s.tm)) (hi.map (Cw s.tm)) K=some r):∃v,K v=some r∧F8 P a w o Y β s v [] []:=by
 have hx:=Dy h x;have TP:=G6 h x;unfold IK at hk;split at hk
 ·rename_i hu;obtain⟨sb,TT,hk⟩:=Er hk;have D6:=Df h TT;obtain⟨l,hk,hl⟩:=E9 h hk;obtain⟨u,hk,Mw⟩:=E9 h hk;obtain⟨hb,hk⟩:=Ax hk;simp only[Bool.and_eq_true,decide_eq_true_eq] at hb;refine⟨_,hk,Dq ?_⟩;unfold execOp;rw[ho];simp[Instr.sliceAt,Instr.slice,run_underlying hu,D6,Ma hl Mw hb.1 hb.2]
 ·rename_i e hu;obtain⟨T7,hk⟩:=Ax hk;split at hk
  ·rename_i id es off n e';rw[e'] at hx TP;obtain⟨LL,hk⟩:=Ax hk;have LL:=Nat.eq_of_beq_eq_true LL;subst LL;obtain⟨l,hk,hl⟩:=E9 h hk;obtain⟨u,hk,Mw⟩:=E9 h hk;obtain⟨hb,hk⟩:=Ax hk;simp only[Bool.and_eq_true,decide_eq_true_eq] at hb;rcases hx with⟨hβ,rfl,rfl,ad,D6⟩|⟨b,ob,y,cap,hβ,D6,hy,hn,NR,Cc⟩
   ·have hu0:u=0:=by omega
    have V5:l=0:=by omega
    subst hu0 V5;refine⟨_,hk,Cz (val:=.slice ad 0 0) ?_ (.inl ⟨hβ,by simp,rfl,ad,rfl⟩) TP⟩
    unfold execOp;rw[ho];cases ad<;>simp[Instr.sliceAt,Instr.slice,run_underlying hu,D6,Ma hl Mw (Nat.le_refl 0) (Nat.le_refl 0),Dn T7]
   ·have Dp:(execOp a.eval o).run P w=.ok (.value (.slice (some (if cap=l then ⟨b,y,none⟩ else ⟨b,y+l*Bm P e,none⟩)) (u-l) (cap-l))) w:=by
     unfold execOp;rw[ho];have hbr:=Ma (P:=P) (w:=w) (isS:=true) hl Mw hb.1 (Nat.le_trans hb.2 hn);simp[Instr.sliceAt,Instr.slice,run_underlying hu,D6,hbr,Dn T7,Eu];split<;>rfl
    refine⟨_,hk,Cz Dp (.inr ?_) TP⟩;by_cases hc:cap=l
    ·rw[if_pos hc];refine⟨b,ob,y,cap-l,hβ,rfl,?_,by omega,by rw[hc,Nat.sub_self];omega,Cc⟩
     by_cases h0:l*Bm P e=0
     ·rw[h0,Nat.add_zero];rcases hy with hy|⟨OR,Uc⟩
      ·exact .inl hy
      ·exact .inr ⟨by omega,Uc⟩
     ·exact .inr ⟨by omega,by omega⟩
    ·rw[if_neg hc];refine⟨b,ob,y+l*Bm P e,cap-l,hβ,rfl,?_,by omega,?_,Cc⟩
     ·rcases hy with hy|⟨OR,Uc⟩
      ·exact .inl (by omega)
      ·exact .inr ⟨by omega,by omega⟩
     ·have:l*Bm P e+(cap-l)*Bm P e=cap*Bm P e:=by
       rw[←Nat.add_mul]
       congr 1
       omega
      omega
  ·obtain⟨z,n,c,hk,hp⟩:=Ho hk;obtain⟨l,hk,hl⟩:=E9 h hk;obtain⟨u,hk,Mw⟩:=E9 h hk;obtain⟨hb,hk⟩:=Ax hk;simp only[Bool.and_eq_true,decide_eq_true_eq] at hb;rcases slice_form hp hx with⟨D6,rfl,rfl⟩|⟨ad,cap,D6,rfl,hn,h1,h2,h3,h4⟩|⟨ad,cap,D6,rfl,rfl,rfl⟩
   rotate_right
   ·have hu0:u=0:=by omega
    have V5:l=0:=by omega
    subst hu0 V5;refine⟨_,hk,Cz (val:=.slice (some (if cap=0 then ad else ad.add (0*Bm P e))) (0-0) (cap-0)) ?_ ?_ (by intro i hi;cases hi)⟩
    ·unfold execOp;rw[ho];have hbr:=Ma (P:=P) (w:=w) (isS:=true) hl Mw (Nat.le_refl 0) (Nat.zero_le cap);simp[Instr.sliceAt,Instr.slice,run_underlying hu,D6,hbr,Dn T7];split<;>rfl
    ·have:((([]:List PV).drop (0*Bm P e)).take ((0-0)*Bm P e))=[]:=by simp
     rw[this];exact A4.lemp _ _ _
   ·have hu0:u=0:=by omega
    have V5:l=0:=by omega
    subst hu0 V5;refine⟨_,hk,Cz (val:=.slice none 0 0) ?_ ?_ (by intro i hi;cases hi)⟩
    ·unfold execOp;rw[ho];simp[Instr.sliceAt,Instr.slice,run_underlying hu,D6,Ma hl Mw (Nat.le_refl 0) (Nat.le_refl 0),Dn T7]
    ·have:((([]:List PV).drop (0*Bm P e)).take ((0-0)*Bm P e))=[]:=by simp
     rw[this];exact A4.lnil z _
   ·have Dp:(execOp a.eval o).run P w=.ok (.value (.slice (some (if cap=l then ad else ad.add (l*Bm P e))) (u-l) (cap-l))) w:=by
     unfold execOp;rw[ho];have hbr:=Ma (P:=P) (w:=w) (isS:=true) hl Mw hb.1 (Nat.le_trans hb.2 hn);simp[Instr.sliceAt,Instr.slice,run_underlying hu,D6,hbr,Dn T7];split<;>rfl
    refine⟨_,hk,Cz Dp ?_ (by intro i hi;cases hi)⟩
    by_cases hc:cap=l
    ·rw[if_pos hc];have:u-l=0:=by omega
     rw[this];simp only[Nat.zero_mul,List.take_zero];exact A4.lst _ _ [] ad _ (fun _=>undef) h1 h2 h3 (by omega) (by simp) (by simp) (by simp)
    ·rw[if_neg hc]
     have hcell:∀(j:Nat) q,((c.drop (l*Bm P e)).take ((u-l)*Bm P e))[j]?=some q->c[l*Bm P e+j]?=some q:=by
      intro j q hq;rw[List.getElem?_take] at hq;split at hq
      ·rw[List.getElem?_drop] at hq;exact hq
      ·cases hq
     refine A4.lst _ _ _ (ad.add (l*Bm P e)) _ (fun j=>(w.cell? (ad.add (l*Bm P e+j))).getD undef) (Apu h1 _) (by rw[Hh];exact h2) (by rw[Hh];exact h3) (by omega) (fun j q hq=>?_) (fun j q hq=>?_) (fun j q hq=>?_)
     ·obtain⟨v,hv,_⟩:=h4 _ q (hcell j q hq);rw[add_add,hv];rfl
     ·obtain⟨v,hv,h5,_⟩:=h4 _ q (hcell j q hq);rw[hv];exact h5
     ·obtain⟨v,hv,_,ht⟩:=h4 _ q (hcell j q hq);rw[hv];exact ht
 ·rename_i n e hu;obtain⟨T7,hk⟩:=Ax hk;split at hk
  ·rename_i id off e';rw[e'] at hx TP;obtain⟨c,hrc,hk⟩:=Dt hk;obtain⟨Ha,hk⟩:=Ax hk;simp only[Bool.and_eq_true,decide_eq_true_eq] at Ha;obtain⟨l,hk,hl⟩:=E9 h hk;obtain⟨u,hk,Mw⟩:=E9 h hk;obtain⟨hb,hk⟩:=Ax hk;simp only[Bool.and_eq_true,decide_eq_true_eq] at hb;obtain⟨b,ob,hβ,D6⟩:=hx
   have RW:ob+off+n*Bm P e<=bsz w b:=by
    obtain⟨v,hv,_⟩:=PL h hrc hβ (j:=off+n*Bm P e-1) (List.getElem?_eq_getElem (by omega))
    have:=PQ hv;omega
   have Cc:b<w.heap.size:=h.blt id b ob (TP id (by simp[B8,Cl,Az])) hβ
   have Dp:(execOp a.eval o).run P w=.ok (.value (.slice (some (if n=l then ⟨b,ob+off,none⟩ else ⟨b,ob+off+l*Bm P e,none⟩)) (u-l) (n-l))) w:=by
    unfold execOp;rw[ho];have hbr:=Ma (P:=P) (w:=w) (isS:=false) hl Mw hb.1 hb.2;simp[Instr.sliceAt,Instr.sureAddr,run_underlying hu,D6,hbr,Dn T7,Eu]
   refine⟨_,hk,Cz Dp (.inr ?_) TP⟩;by_cases hc:n=l
   ·rw[if_pos hc];refine⟨b,ob,ob+off,n-l,hβ,rfl,?_,by omega,by rw[hc,Nat.sub_self];omega,Cc⟩
    by_cases h0:l*Bm P e=0
    ·rw[h0,Nat.add_zero];exact .inl rfl
    ·exact .inr ⟨by omega,by omega⟩
   ·rw[if_neg hc];refine⟨b,ob,ob+off+l*Bm P e,n-l,hβ,rfl,.inl (by omega),by omega,?_,Cc⟩
    have:l*Bm P e+(n-l)*Bm P e=n*Bm P e:=by
     rw[←Nat.add_mul]
     congr 1
     omega
    omega
  ·cases hk
 ·cases hk
end
open Go.RowKit
section
variable {R:Type} {r:R} {P:Program} {N:Nat} {w0:World} {X0:Fz} {Y:Nat->Prop} {β β':Bt} {s:St} {a:Act} {w w':World} {o:Oper} {A:Nat->Prop}
theorem Akx (h:B3 N w0 X0 Y β s a w){c:Call}(ho:o.op=.call c)(hc:c.callee=.builtin .len){K:PV->Option R}
  (hk:(Ab c.args.toList fun x _=>Ab c.argTypes.toList fun t _=>Amf P t (Cw s.tm x) fun n=>K (.sc (.int .i64 n)))=some r):∃v,K v=some r∧F8 P a w o Y β s v [] []:=by
 obtain⟨x,xs,TT,hk⟩:=Bl hk;obtain⟨t,ts,hts,hk⟩:=Bl hk;have hx:=Dy h x;have Ey:c.args=(x::xs).toArray:=by rw[←TT]
 have OE:c.argTypes=(t::ts).toArray:=by rw[←hts]
 have Dp:∀n:Nat,(Builtin.len_ c.argTypes o.type (c.args.map a.eval)).run P w=.ok (.int .i64 n) w->(execOp a.eval o).run P w=.ok (.value (.int .i64 n)) w:=by
  intro n hl;unfold execOp;rw[ho];simp only[resolve,hc,invoke,builtin,Sem.run_bind,Sem.run_pure,Result.andThen_ok,hl]
 unfold Amf at hk;split at hk
 ·rename_i hu;obtain⟨sb,A6x,hk⟩:=Er hk;have D6:=Df h A6x;refine⟨_,hk,Dq (Dp _ ?_)⟩;simp[Builtin.len_,Ey,OE,run_underlying hu,D6,goInt]
 ·rename_i n e hu;refine⟨_,hk,Dq (Dp _ ?_)⟩;simp[Builtin.len_,Ey,OE,run_underlying hu,goInt]
 ·rename_i e hu;split at hk
  ·rename_i id es off n e';rw[e'] at hx;obtain⟨_,hk⟩:=Ax hk;refine⟨_,hk,Dq (Dp _ ?_)⟩;rcases hx with⟨_,_,rfl,ad,D6⟩|⟨b,ob,y,cap,_,D6,_⟩<;>simp[Builtin.len_,Ey,OE,run_underlying hu,D6,goInt]
  ·obtain⟨z,n,cc,hk,hp⟩:=Ho hk;refine⟨_,hk,Dq (Dp _ ?_)⟩;rcases slice_form hp hx with⟨D6,rfl,_⟩|⟨ad,cap,D6,_⟩|⟨ad,cap,D6,_,rfl,_⟩<;>simp[Builtin.len_,Ey,OE,run_underlying hu,D6,goInt]
 ·cases hk
theorem Alh (h:B3 N w0 X0 Y β s a w){c:Call}(ho:o.op=.call c)(hc:c.callee=.builtin .cap){K:PV->Option R}
  (hk:(Ab c.args.toList fun x _=>Ab c.argTypes.toList fun t _=>Ak2 P t (Cw s.tm x) fun n=>K (.sc (.int .i64 n)))=some r):∃v,K v=some r∧F8 P a w o Y β s v [] []:=by
 obtain⟨x,xs,TT,hk⟩:=Bl hk;obtain⟨t,ts,hts,hk⟩:=Bl hk;have hx:=Dy h x;have Ey:c.args=(x::xs).toArray:=by rw[←TT]
 have OE:c.argTypes=(t::ts).toArray:=by rw[←hts]
 have Dp:∀n:Nat,(Builtin.cap_ c.argTypes o.type (c.args.map a.eval)).run P w=.ok (.int .i64 n) w->(execOp a.eval o).run P w=.ok (.value (.int .i64 n)) w:=by
  intro n hl;unfold execOp;rw[ho];simp only[resolve,hc,invoke,builtin,Sem.run_bind,Sem.run_pure,Result.andThen_ok,hl]
 unfold Ak2 at hk;split at hk
 ·rename_i e hu;obtain⟨z,n,cc,hk,hp⟩:=Ho hk;obtain⟨hz,hk⟩:=Ax hk;refine⟨_,hk,Dq (Dp _ ?_)⟩;rcases slice_form hp hx with⟨D6,rfl,_⟩|⟨ad,cap,D6,RX,_⟩|⟨ad,cap,D6,RX,_,_⟩
  ·simp[Builtin.cap_,Ey,OE,run_underlying hu,D6,goInt]
  ·rw[hz] at RX;cases RX
  ·rw[hz] at RX;cases RX
 ·cases hk
theorem Alw (h:B3 N w0 X0 Y β s a w){c:Call}(ho:o.op=.call c)(hc:c.callee=.builtin .min){K:PV->Option R}
  (hk:(Ab c.args.toList fun x r=>Ab r fun y r'=>Ac r' (Avx (Cw s.tm x) (Cw s.tm y) K))=some r):∃v,K v=some r∧F8 P a w o Y β s v [] []:=by
 obtain⟨x,xs,TT,hk⟩:=Bl hk;obtain⟨y,ys,rfl,hk⟩:=Bl hk;obtain⟨rfl,hk⟩:=Ef hk;obtain⟨k,n,hx,hk⟩:=D9 hk;obtain⟨m,hy,hk⟩:=Ga hk
 have Ey:c.args = #[x,y]:=by
  have:c.args=([x,y]:List Operand).toArray:=by rw[←TT]
  exact this
 refine⟨_,hk,Dq ?_⟩;unfold execOp;rw[ho];simp[resolve,hc,invoke,builtin,Ey,Builtin.min_,Builtin.min2,Df h hx,Df h hy]
theorem Am8 (h:B3 N w0 X0 Y β s a w){c:Call}(ho:o.op=.call c)(hc:c.callee=.builtin .max){K:PV->Option R}
  (hk:(Ab c.args.toList fun x r=>Ab r fun y r'=>Ac r' (Aun (Cw s.tm x) (Cw s.tm y) K))=some r):∃v,K v=some r∧F8 P a w o Y β s v [] []:=by
 obtain⟨x,xs,TT,hk⟩:=Bl hk;obtain⟨y,ys,rfl,hk⟩:=Bl hk;obtain⟨rfl,hk⟩:=Ef hk;obtain⟨k,n,hx,hk⟩:=D9 hk;obtain⟨m,hy,hk⟩:=Ga hk
 have Ey:c.args = #[x,y]:=by
  have:c.args=([x,y]:List Operand).toArray:=by rw[←TT]
  exact this
 refine⟨_,hk,Dq ?_⟩;unfold execOp;rw[ho];simp[resolve,hc,invoke,builtin,Ey,Builtin.max_,Builtin.max2,Df h hx,Df h hy]
theorem Ag9 (h:B3 N w0 X0 Y β s a w){op:UnOp}{t:TypeId}{x:Operand}(ho:o.op=.unOp op t x){K:PV->Option R}(hk:unK op (Cw s.tm x) K=some r):
  ∃v,K v=some r∧F8 P a w o Y β s v [] []:=by
 unfold unK at hk;split at hk
 ·obtain⟨b,hb,hk⟩:=Ep hk;refine⟨_,hk,Dq ?_⟩;unfold execOp;rw[ho];simp[Op.unary,Df h hb]
 ·obtain⟨k,n,hb,hk⟩:=D9 hk;refine⟨_,hk,Dq ?_⟩;unfold execOp;rw[ho];simp[Op.unary,Op.intArith,Df h hb]
 ·obtain⟨k,n,hb,hk⟩:=D9 hk;refine⟨_,hk,Dq ?_⟩;unfold execOp;rw[ho];simp[Op.unary,Op.intBits,Df h hb,A5g]
 ·cases hk
theorem Alc {op:BinOp}{k:IntKind}{m n:Int}{t:TypeId}{x y:Operand}{K:PV->Option R}(KQ:op ≠ .shl)(PN:op ≠ .shr)(hk:QL op k m n K=some r):
  ∃v,K (.sc v)=some r∧(do eqGuard op t x y (.int k m) (.int k n);binOp op t (.int k m) (.int k n)).run P w=.ok v w:=by
 cases op<;>first
  |exact absurd rfl KQ
  |exact absurd rfl PN
  |(obtain⟨hb,hk⟩:=Ax hk;have hb:=of_decide_eq_true hb;exact⟨_,hk,by simp[eqGuard,binOp,Op.intDiv,hb]⟩)
  |exact⟨_,hk,by simp[eqGuard,binOp,-BitVec.toNat_and,-BitVec.toNat_or,-BitVec.toNat_xor,-gt_iff_lt,-ge_iff_le]<;>rfl⟩
theorem Amy {op:BinOp}{m n:ByteArray}{t:TypeId}{x y:Operand}{K:PV->Option R}(hk:QA op m n K=some r):
  ∃v,K (.sc v)=some r∧(do eqGuard op t x y (.string m) (.string n);binOp op t (.string m) (.string n)).run P w=.ok v w:=by
 cases op<;>first
  |cases hk
  |(obtain⟨hb,hk⟩:=Ax hk;have hb:=of_decide_eq_true hb;exact⟨_,hk,by
    have I7:¬(((m.size+n.size:Nat):Int)>IntKind.i64.max):=by
     have:IntKind.i64.max=9223372036854775807:=rfl;rw[this];omega
    simp only[eqGuard,binOp,Op.stringOp,if_neg I7];rfl⟩)
  |exact⟨_,hk,by simp only[eqGuard,binOp,Op.stringOp,ByteArray.toList_eq];rfl⟩
end
open Go.RowKit
section
variable {R:Type} {r:R} {P:Program} {N:Nat} {w0:World} {X0:Fz} {Y:Nat->Prop} {β β':Bt} {s:St} {a:Act} {w w':World} {o:Oper} {A:Nat->Prop}
theorem SW {t:TypeId}(hu:P.underlying t=some .bool)(x y:Bool):(Op.equal t (.bool x) (.bool y)).run P w=.ok (x==y) w:=by
 have h:∀d,(Op.equalIn (d+1) t (.bool x) (.bool y)).run P w=.ok (x==y) w:=fun d=>by simp[Op.equalIn,run_underlying hu]
 exact h 9999
theorem Z8 {t e:TypeId}(hu:P.underlying t=some (.slice e)) (x:Option Addr)(n c:Nat):(Op.equal t (.slice x n c) (.slice none 0 0)).run P w=.ok x.isNone w:=by
 have h:∀d,(Op.equalIn (d+1) t (.slice x n c) (.slice none 0 0)).run P w=.ok x.isNone w:=fun d=>by
  cases x<;>simp[Op.equalIn,run_underlying hu]
 exact h 9999
theorem Mj {t:TypeId}(d:Nat){v u:Value}(hv:(∃k m n,P.underlying t=some (.int k)∧v=.int k m∧u=.int k n)∨(∃m n,P.underlying t=some .bool∧v=.bool m∧u=.bool n)∨∃m n,P.underlying t=some .string∧v=.string m∧u=.string n) {b:Bool}
  (hb:∀k m n,v=.int k m->u=.int k n->b=(m==n)) (I7:∀m n,v=.bool m->u=.bool n->b=(m==n)) (A8r:∀m n,v=.string m->u=.string n->b=(m==n)):(Op.equalIn (d+1) t v u).run P w=.ok b w:=by
 rcases hv with⟨k,m,n,hu,rfl,rfl⟩|⟨m,n,hu,rfl,rfl⟩|⟨m,n,hu,rfl,rfl⟩
 ·rw[hb k m n rfl rfl];simp[Op.equalIn,run_underlying hu]
 ·rw[I7 m n rfl rfl];simp[Op.equalIn,run_underlying hu]
 ·rw[A8r m n rfl rfl];simp[Op.equalIn,run_underlying hu]
theorem V9 {t:TypeId}{dsc:TypeDesc}(hu:P.underlying t=some dsc)(hd:Cx P t=false){xs:Array Value}{i:Nat}{v:Value}(hv:xs[i]?=some v):(part t xs i).run P w=.ok v w:=by
 simp only[part,Sem.run_bind,Q8 hu,hd,Result.andThen_ok];simp[hv]
theorem VU (k:IntKind)(n:Int)(K:Int->Option R):Ae k (.sc (.int k n)) K=K n:=by simp[Ae]
theorem Acs (d : Nat) : ∀ (fs : List Field) (i : Nat) (xs ys : Array Value) (ps qs : List PV) (K : Bool -> Option R), Aec P fs i = true -> Pk (fs.map (fty P)) ps qs K = some r ->
    (∀ (j : Nat) p, ps[j]? = some p -> ∃ v, xs[i + j]? = some v ∧ Cj w A β p v) -> (∀ (j : Nat) p, qs[j]? = some p -> ∃ v, ys[i + j]? = some v ∧ Cj w A β p v) ->
    ∃ b, K b = some r ∧ (forIn fs ((none, ()) : Option Bool × Unit) fun (f : Field) (_ : Option Bool × Unit) =>
            if f.name = "_" then pure (ForInStep.yield ((none, ()) : Option Bool × Unit))
            else do
              let x ← part f.type xs f.offset
              let y ← part f.type ys f.offset
              let e ← Op.equalIn (d + 1) f.type x y
              if e = false then pure (ForInStep.done ((some false, ()) : Option Bool × Unit)) else pure (ForInStep.yield ((none, ()) : Option Bool × Unit)) : Sem (Option Bool × Unit)).run P w = .ok (if b then (none, ()) else (some false, ())) w
  | [], i, xs, ys, ps, qs, K, _, hk, _, _ => by
    cases ps with
    | nil => cases qs with
      | nil => exact⟨true, hk, by simp⟩
      | cons q qs => cases hk
    | cons p ps => cases hk
  | f :: fs, i, xs, ys, ps, qs, K, XN, hk, hp, hq => by
    simp only[Aec, Bool.and_eq_true] at XN
    obtain⟨⟨⟨Uc, Ask⟩, hty⟩, BV⟩ := XN
    have Uc := Nat.eq_of_beq_eq_true Uc
    have OX : f.name ≠ "_" := by simpa using Ask
    cases ps with
    | nil =>
      simp only[List.map_cons] at hk
      cases A0s : fty P f <;> rw[A0s] at hk <;> cases hk
    | cons p ps =>
      cases qs with
      | nil =>
        simp only[List.map_cons] at hk
        cases A0s : fty P f <;> rw[A0s] at hk <;> cases hk
      | cons q qs =>
        obtain⟨v, hv, EI⟩ := hp 0 p rfl
        obtain⟨u, hu, hqu⟩ := hq 0 q rfl
        rw[Nat.add_zero] at hv hu
        have main : ∃ b0 dsc, P.underlying f.type = some dsc ∧ Cx P f.type = false ∧ (Op.equalIn (d + 1) f.type v u).run P w = .ok b0 w ∧ Pk (fs.map (fty P)) ps qs (fun r => K (b0 && r)) = some r := by
          simp only[List.map_cons] at hk
          unfold fty at hk
          split at hk
          · rename_i k Nz
            obtain⟨m, XA, Eb⟩ := Ga (show Ae k p _ = some r from hk)
            obtain⟨n, TN, Gi⟩ := Ga Eb
            subst XA TN
            have Tv : v = .int k m := A4.val (w := w) (A := A) EI
            have Mw : u = .int k n := A4.val (w := w) (A := A) hqu
            subst Tv Mw
            refine⟨m == n, _, Nz, by simp[Cx, Nz], Mj d (.inl ⟨k, m, n, Nz, rfl, rfl⟩) ?_ ?_ ?_, Gi⟩
            · intro k' m' n' h1 h2; injection h1 with _ h1; injection h2 with _ h2; rw[h1, h2]
            · intro m' n' h1; cases h1
            · intro m' n' h1; cases h1
          · rename_i Nz
            obtain⟨m, XA, Eb⟩ := Ep (show Bv p _ = some r from hk)
            obtain⟨n, TN, Gi⟩ := Ep Eb
            subst XA TN
            have Tv : v = .bool m := A4.val (w := w) (A := A) EI
            have Mw : u = .bool n := A4.val (w := w) (A := A) hqu
            subst Tv Mw
            refine⟨m == n, _, Nz, by simp[Cx, Nz], Mj d (.inr (.inl ⟨m, n, Nz, rfl, rfl⟩)) ?_ ?_ ?_, Gi⟩
            · intro k' m' n' h1; cases h1
            · intro m' n' h1 h2; injection h1 with h1; injection h2 with h2; rw[h1, h2]
            · intro m' n' h1; cases h1
          · rename_i Nz
            obtain⟨m, XA, Eb⟩ := Er (show Iv p _ = some r from hk)
            obtain⟨n, TN, Gi⟩ := Er Eb
            subst XA TN
            have Tv : v = .string m := A4.val (w := w) (A := A) EI
            have Mw : u = .string n := A4.val (w := w) (A := A) hqu
            subst Tv Mw
            refine⟨m == n, _, Nz, by simp[Cx, Nz], Mj d (.inr (.inr ⟨m, n, Nz, rfl, rfl⟩)) ?_ ?_ ?_, Gi⟩
            · intro k' m' n' h1; cases h1
            · intro m' n' h1; cases h1
            · intro m' n' h1 h2; injection h1 with h1; injection h2 with h2; rw[h1, h2]
          · cases hk
        obtain⟨b0, dsc, Nz, H8, he, hk⟩ := main
        obtain⟨b, hkb, Dp⟩ := Acs d fs (i + 1) xs ys ps qs _ BV hk (fun j p' hj => by have := hp (j + 1) p' hj; rwa [Nat.add_assoc, Nat.add_comm 1 j]) (fun j p' hj => by have := hq (j + 1) p' hj; rwa [Nat.add_assoc, Nat.add_comm 1 j])
        refine⟨b0 && b, hkb, ?_⟩
        have hpx : (part f.type xs f.offset).run P w = .ok v w := V9 Nz H8 (by rw[Uc]; exact hv)
        have hpy : (part f.type ys f.offset).run P w = .ok u w := V9 Nz H8 (by rw[Uc]; exact hu)
        cases b0
        · simp[List.forIn_cons, OX, hpx, hpy, he]
        · simp only[Bool.true_and]
          rw[← Dp]
          simp[List.forIn_cons, OX, hpx, hpy, he]
theorem NH (d:Nat){t:TypeId}{fs:Array Field}(hu:P.underlying t=some (.struct fs)) (Gv:P.stoodInHeld t=false)(XN:Aec P fs.toList 0=true){xs ys:List PV}{vx vy:List Value}
  (hvx:Bw (Cj w A β) xs vx) (hvy:Bw (Cj w A β) ys vy) {K:Bool->Option R}(hk:Pk (fs.toList.map (fty P)) xs ys K=some r):
  ∃b,K b=some r∧(Op.equalIn (d+2) t (.agg ⟨vx⟩) (.agg ⟨vy⟩)).run P w=.ok b w:=by
 obtain⟨b,hkb,Dp⟩:=Acs (P:=P) (w:=w) (A:=A) (β:=β) d fs.toList 0 ⟨vx⟩ ⟨vy⟩ xs ys K XN hk (fun j p hj=>by
   obtain⟨v,hv,hc⟩:=hvx.get hj;exact⟨v,by simpa using hv,hc⟩) (fun j p hj=>by
   obtain⟨v,hv,hc⟩:=hvy.get hj;exact⟨v,by simpa using hv,hc⟩)
 refine⟨b,hkb,?_⟩;rw[Array.forIn_toList] at Dp;rw[Op.equalIn];simp[run_underlying hu,Gv];rw[Dp];cases b<;>simp
theorem GO:∀(ts1:List CT){ts2:List CT}{ps qs:List PV}{K:Bool->Option R},Pk (ts1++ts2) ps qs K=some r ->
  Pk ts1 (ps.take ts1.length) (qs.take ts1.length) (fun b=>Pk ts2 (ps.drop ts1.length) (qs.drop ts1.length) fun r'=>K (b&&r'))=some r
 |[],ts2,ps,qs,K,h=>by
  simp only[List.length_nil,List.take_zero,List.drop_zero,Pk,Bool.true_and];exact h
 |t::ts1,ts2,ps,qs,K,h=>by
  rw[List.cons_append] at h;cases ps with
  |nil=>cases t<;>cases h
  |cons p ps=>
   cases qs with
   |nil=>cases t<;>cases h
   |cons q qs=>
    simp only[List.length_cons,List.take_succ_cons,List.drop_succ_cons];cases t with
    |int k=>
     obtain⟨m,XA,h1⟩:=Ga (show Ae k p _=some r from h)
     obtain⟨n,TN,h2⟩:=Ga h1;subst XA TN;have:=GO ts1 h2;simp only[←Bool.and_assoc] at this;exact (VU _ _ _).trans ((VU _ _ _).trans this)
    |bool=>
     obtain⟨m,XA,h1⟩:=Ep (show Bv p _=some r from h)
     obtain⟨n,TN,h2⟩:=Ep h1;subst XA TN;have:=GO ts1 h2;simp only[←Bool.and_assoc] at this;exact this
    |str=>
     obtain⟨m,XA,h1⟩:=Er (show Iv p _=some r from h)
     obtain⟨n,TN,h2⟩:=Er h1;subst XA TN;have:=GO ts1 h2;simp only[←Bool.and_assoc] at this;exact this
    |sl es=>cases h
    |any=>cases h
theorem Adx:∀(ts:List CT){ps qs:List PV}{K:Bool->Option R},Pk ts ps qs K=some r->ps.length=ts.length∧qs.length=ts.length
 |[],ps,qs,K,h=>by
  cases ps with
  |nil=>cases qs with
   |nil=>exact⟨rfl,rfl⟩
   |cons q qs=>cases h
  |cons p ps=>cases h
 |t::ts,ps,qs,K,h=>by
  cases ps with
  |nil=>cases t<;>cases h
  |cons p ps=>
   cases qs with
   |nil=>cases t<;>cases h
   |cons q qs=>
    have go:∃K',Pk ts ps qs K'=some r:=by
     cases t with
     |int k=>
      obtain⟨m,XA,h1⟩:=Ga (show Ae k p _=some r from h)
      obtain⟨n,TN,h2⟩:=Ga h1;exact⟨_,h2⟩
     |bool=>
      obtain⟨m,XA,h1⟩:=Ep (show Bv p _=some r from h)
      obtain⟨n,TN,h2⟩:=Ep h1;exact⟨_,h2⟩
     |str=>
      obtain⟨m,XA,h1⟩:=Er (show Iv p _=some r from h)
      obtain⟨n,TN,h2⟩:=Er h1;exact⟨_,h2⟩
     |sl es=>cases h
     |any=>cases h
    obtain⟨K',h'⟩:=go;have:=Adx ts h';exact⟨by simp[this.1],by simp[this.2]⟩
theorem Acf {t:TypeId}{dsc:TypeDesc}(hu:P.underlying t=some dsc)(hd:Cx P t=true)(hi:(P.info? t).isSome=true) (xs:Array Value)(i:Nat):(part t xs i).run P w=.ok (.agg (xs.extract i (i+Bm P t))) w:=by
 simp only[part,Sem.run_bind,Q8 hu,hd,Result.andThen_ok,if_true,Dn hi];rfl
theorem YD {xs:Array Value}{i n:Nat}{ps:List PV}(hn:n<=ps.length)(hp:∀(j:Nat) p,ps[j]?=some p->∃v,xs[i+j]?=some v∧Cj w A β p v):Bw (Cj w A β) (ps.take n) (xs.extract i (i+n)).toList:=by
 rcases Nat.eq_zero_or_pos n with h0|h0
 ·subst h0;simp[Bw]
 have hl:n-1<ps.length:=by omega
 obtain⟨v,hv,_⟩:=hp (n-1) _ (List.getElem?_eq_getElem hl);have Lw:=(Array.getElem?_eq_some_iff.1 hv).1;refine Bw.of_at (by simp;omega) fun j a b ha hb=>?_
 rw[List.getElem?_take] at ha;split at ha
 ·rename_i hj;obtain⟨v,hv,hc⟩:=hp j a ha;rw[Array.getElem?_toList,Array.getElem?_extract] at hb;split at hb
  ·rw[hv] at hb;cases hb;exact hc
  ·cases hb
 ·cases ha
theorem MI {f:Field}{gs:Array Field}(hu:P.underlying f.type=some (.struct gs)):Adh P f=gs.toList.map (fty P):=by unfold Adh;rw[hu]
theorem Af7 {f:Field}(h:∀gs,P.underlying f.type≠some (.struct gs)):Adh P f=[fty P f]:=by
 unfold Adh;split
 ·rename_i gs hu;exact absurd hu (h gs)
 ·rfl
theorem Ajm (d : Nat) : ∀ (fs : List Field) (i : Nat) (xs ys : Array Value) (ps qs : List PV) (K : Bool -> Option R), So P fs i = true -> Pk (BQ P fs) ps qs K = some r ->
    (∀ (j : Nat) p, ps[j]? = some p -> ∃ v, xs[i + j]? = some v ∧ Cj w A β p v) -> (∀ (j : Nat) p, qs[j]? = some p -> ∃ v, ys[i + j]? = some v ∧ Cj w A β p v) ->
    ∃ b, K b = some r ∧ (forIn fs ((none, ()) : Option Bool × Unit) fun (f : Field) (_ : Option Bool × Unit) =>
            if f.name = "_" then pure (ForInStep.yield ((none, ()) : Option Bool × Unit))
            else do
              let x ← part f.type xs f.offset
              let y ← part f.type ys f.offset
              let e ← Op.equalIn (d + 2) f.type x y
              if e = false then pure (ForInStep.done ((some false, ()) : Option Bool × Unit)) else pure (ForInStep.yield ((none, ()) : Option Bool × Unit)) : Sem (Option Bool × Unit)).run P w = .ok (if b then (none, ()) else (some false, ())) w
  | [], i, xs, ys, ps, qs, K, _, hk, _, _ => by
    cases ps with
    | nil => cases qs with
      | nil => exact⟨true, hk, by simp⟩
      | cons q qs => cases hk
    | cons p ps => cases hk
  | f :: fs, i, xs, ys, ps, qs, K, XN, hk, hp, hq => by
    simp only[So, Bool.and_eq_true] at XN
    obtain⟨⟨Uc, Ask⟩, hty⟩ := XN
    have Uc := Nat.eq_of_beq_eq_true Uc
    have OX : f.name ≠ "_" := by simpa using Ask
    have main : ∃ b0 v u n, (part f.type xs f.offset).run P w = .ok v w ∧ (part f.type ys f.offset).run P w = .ok u w ∧ (Op.equalIn (d + 2) f.type v u).run P w = .ok b0 w ∧ So P fs (i + n) = true ∧ Pk (BQ P fs) (ps.drop n) (qs.drop n) (fun r' => K (b0 && r')) = some r := by
      have hk := GO (Adh P f) (show Pk (Adh P f ++ BQ P fs) ps qs K = some r from hk)
      have Ha := Adx _ hk
      rw[List.length_take, List.length_take] at Ha
      have plain : (∀ gs, P.underlying f.type ≠ some (.struct gs)) -> So P fs (i + 1) = true -> (match P.underlying f.type with | some (.int _) => true | some .bool => true | some .string => true | _ => false) = true ->
          ∃ b0 v u n, (part f.type xs f.offset).run P w = .ok v w ∧ (part f.type ys f.offset).run P w = .ok u w ∧ (Op.equalIn (d + 2) f.type v u).run P w = .ok b0 w ∧ So P fs (i + n) = true ∧ Pk (BQ P fs) (ps.drop n) (qs.drop n) (fun r' => K (b0 && r')) = some r := by
        intro hs A1f MZ
        rw[Af7 hs] at hk Ha
        simp only[List.length_singleton] at hk Ha
        obtain⟨p, ps, rfl⟩ : ∃ p ps', ps = p :: ps' := by
          cases ps with
          | nil => simp at Ha
          | cons p ps => exact⟨p, ps, rfl⟩
        obtain⟨q, qs, rfl⟩ : ∃ q qs', qs = q :: qs' := by
          cases qs with
          | nil => simp at Ha
          | cons q qs => exact⟨q, qs, rfl⟩
        obtain⟨v, hv, EI⟩ := hp 0 p rfl
        obtain⟨u, hu, hqu⟩ := hq 0 q rfl
        rw[Nat.add_zero] at hv hu
        simp only[List.take_succ_cons, List.take_zero, List.drop_succ_cons, List.drop_zero] at hk ⊢
        have one : ∃ b0 dsc, P.underlying f.type = some dsc ∧ Cx P f.type = false ∧ (Op.equalIn (d + 2) f.type v u).run P w = .ok b0 w ∧ Pk (BQ P fs) ps qs (fun r' => K (b0 && r')) = some r := by
          unfold fty at hk
          split at hk
          · rename_i k Nz
            obtain⟨m, XA, Eb⟩ := Ga (show Ae k p _ = some r from hk)
            obtain⟨n, TN, Gi⟩ := Ga Eb
            subst XA TN
            have Tv : v = .int k m := A4.val (w := w) (A := A) EI
            have Mw : u = .int k n := A4.val (w := w) (A := A) hqu
            subst Tv Mw
            have e : ∀ b : Bool, (b && true) = b := Bool.and_true
            simp only[Pk, e] at Gi
            refine⟨m == n, _, Nz, by simp[Cx, Nz], Mj (d + 1) (.inl ⟨k, m, n, Nz, rfl, rfl⟩) ?_ ?_ ?_, Gi⟩
            · intro k' m' n' h1 h2; injection h1 with _ h1; injection h2 with _ h2; rw[h1, h2]
            · intro m' n' h1; cases h1
            · intro m' n' h1; cases h1
          · rename_i Nz
            obtain⟨m, XA, Eb⟩ := Ep (show Bv p _ = some r from hk)
            obtain⟨n, TN, Gi⟩ := Ep Eb
            subst XA TN
            have Tv : v = .bool m := A4.val (w := w) (A := A) EI
            have Mw : u = .bool n := A4.val (w := w) (A := A) hqu
            subst Tv Mw
            have e : ∀ b : Bool, (b && true) = b := Bool.and_true
            simp only[Pk, e] at Gi
            refine⟨m == n, _, Nz, by simp[Cx, Nz], Mj (d + 1) (.inr (.inl ⟨m, n, Nz, rfl, rfl⟩)) ?_ ?_ ?_, Gi⟩
            · intro k' m' n' h1; cases h1
            · intro m' n' h1 h2; injection h1 with h1; injection h2 with h2; rw[h1, h2]
            · intro m' n' h1; cases h1
          · rename_i Nz
            obtain⟨m, XA, Eb⟩ := Er (show Iv p _ = some r from hk)
            obtain⟨n, TN, Gi⟩ := Er Eb
            subst XA TN
            have Tv : v = .string m := A4.val (w := w) (A := A) EI
            have Mw : u = .string n := A4.val (w := w) (A := A) hqu
            subst Tv Mw
            have e : ∀ b : Bool, (b && true) = b := Bool.and_true
            simp only[Pk, e] at Gi
            refine⟨m == n, _, Nz, by simp[Cx, Nz], Mj (d + 1) (.inr (.inr ⟨m, n, Nz, rfl, rfl⟩)) ?_ ?_ ?_, Gi⟩
            · intro k' m' n' h1; cases h1
            · intro m' n' h1; cases h1
            · intro m' n' h1 h2; injection h1 with h1; injection h2 with h2; rw[h1, h2]
          · cases hk
        obtain⟨b0, dsc, Nz, H8, he, hk⟩ := one
        exact⟨b0, v, u, 1, V9 Nz H8 (by rw[Uc]; exact hv), V9 Nz H8 (by rw[Uc]; exact hu), he, A1f, by simpa using hk⟩
      split at hty
      · rename_i k Nz
        exact plain (fun gs e => by rw[Nz] at e; cases e) hty (by rw[Nz])
      · rename_i Nz
        exact plain (fun gs e => by rw[Nz] at e; cases e) hty (by rw[Nz])
      · rename_i Nz
        exact plain (fun gs e => by rw[Nz] at e; cases e) hty (by rw[Nz])
      · rename_i gs Nz
        simp only[Bool.and_eq_true, Bool.not_eq_true'] at hty
        obtain⟨⟨⟨⟨hfp, Gv⟩, hi⟩, Lw⟩, BV⟩ := hty
        have Lw := Nat.eq_of_beq_eq_true Lw
        have X6 : (Adh P f).length = gs.size := by rw[MI Nz, List.length_map, Array.length_toList]
        rw[X6] at hk Ha
        rw[MI Nz] at hk
        have hx := YD (n := gs.size) (by omega) hp
        have hy := YD (n := gs.size) (by omega) hq
        obtain⟨b0, hkb, he⟩ := NH d Nz Gv hfp hx hy hk
        have ha : Cx P f.type = true := by simp[Cx, Nz]
        exact⟨b0, _, _, gs.size, by rw[Acf Nz ha hi, Uc, Lw], by rw[Acf Nz ha hi, Uc, Lw], he, BV, hkb⟩
      · cases hty
    obtain⟨b0, v, u, n, hpx, hpy, he, A1f, hk⟩ := main
    obtain⟨b, hkb, Dp⟩ := Ajm d fs (i + n) xs ys (ps.drop n) (qs.drop n) _ A1f hk (fun j p' hj => by rw[List.getElem?_drop] at hj; have := hp (n + j) p' hj; rwa [← Nat.add_assoc] at this) (fun j p' hj => by rw[List.getElem?_drop] at hj; have := hq (n + j) p' hj; rwa [← Nat.add_assoc] at this)
    refine⟨b0 && b, hkb, ?_⟩
    cases b0
    · simp[List.forIn_cons, OX, hpx, hpy, he]
    · simp only[Bool.true_and]
      rw[← Dp]
      simp[List.forIn_cons, OX, hpx, hpy, he]
theorem PE (d:Nat){t:TypeId}{fs:Array Field}(hu:P.underlying t=some (.struct fs)) (Gv:P.stoodInHeld t=false)(XN:So P fs.toList 0=true){xs ys:List PV}{vx vy:List Value}
  (hvx:Bw (Cj w A β) xs vx) (hvy:Bw (Cj w A β) ys vy) {K:Bool->Option R}(hk:Pk (BQ P fs.toList) xs ys K=some r):
  ∃b,K b=some r∧(Op.equalIn (d+3) t (.agg ⟨vx⟩) (.agg ⟨vy⟩)).run P w=.ok b w:=by
 obtain⟨b,hkb,Dp⟩:=Ajm (P:=P) (w:=w) (A:=A) (β:=β) d fs.toList 0 ⟨vx⟩ ⟨vy⟩ xs ys K XN hk (fun j p hj=>by
   obtain⟨v,hv,hc⟩:=hvx.get hj;exact⟨v,by simpa using hv,hc⟩) (fun j p hj=>by
   obtain⟨v,hv,hc⟩:=hvy.get hj;exact⟨v,by simpa using hv,hc⟩)
 refine⟨b,hkb,?_⟩;rw[Array.forIn_toList] at Dp;rw[Op.equalIn];simp[run_underlying hu,Gv];rw[Dp];cases b<;>simp
theorem YP (h:B3 N w0 X0 Y β s a w){t:TypeId}{fs:Array Field}{x y:Operand}{op:BinOp}(hop:op=.eql∨op=.neq)(hu:P.underlying t=some (.struct fs)) (XN:Aas P t fs=true){xs ys:List PV}
  (hx:Cw s.tm x=.agg xs)(hy:Cw s.tm y=.agg ys){K:Bool->Option R}(hk:Pk (BQ P fs.toList) xs ys K=some r):
  ∃b,K b=some r∧(do eqGuard op t x y (a.eval x) (a.eval y);binOp op t (a.eval x) (a.eval y)).run P w=.ok (.bool (if op=.eql then b else !b)) w:=by
 have hxv:=Dy h x;have hyv:=Dy h y;rw[hx] at hxv;rw[hy] at hyv;obtain⟨vx,D6,hvx⟩:=hxv;obtain⟨vy,hay,hvy⟩:=hyv;simp only[Aas,Bool.and_eq_true,Bool.not_eq_true'] at XN;obtain⟨⟨XN,Gv⟩,heg⟩:=XN;obtain⟨b,hkb,heq⟩:=PE 9997 hu Gv XN hvx hvy hk;have heq:(Op.equal t (.agg ⟨vx⟩) (.agg ⟨vy⟩)).run P w=.ok b w:=heq;refine⟨b,hkb,?_⟩;rw[D6,hay];rcases hop with rfl|rfl
 ·simp[eqGuard,binOp,heq,heg]
 ·simp[eqGuard,binOp,heq,heg]
theorem Aeo (h:B3 N w0 X0 Y β s a w){op:BinOp}{t ty:TypeId}{x y:Operand}(ho:o.op=.binOp op t x y ty){K:PV->Option R}
  (hk:AD P op t (Cw s.tm x) (Cw s.tm y) K=some r):∃v,K v=some r∧F8 P a w o Y β s v [] []:=by
 have Dp:∀v,(do eqGuard op t x y (a.eval x) (a.eval y);binOp op t (a.eval x) (a.eval y)).run P w=.ok v w->(execOp a.eval o).run P w=.ok (.value v) w:=by
  intro v hv;unfold execOp;rw[ho];simp only[Sem.run_bind] at hv ⊢;rw[hv];rfl
 unfold AD at hk;split at hk
 ·rename_i fs hu;split at hk
  ·obtain⟨XN,hk⟩:=Ax hk;obtain⟨xs,hx,hk⟩:=Kb hk;obtain⟨ys,hy,hk⟩:=Kb hk;obtain⟨b,hk,hr⟩:=YP h (.inl rfl) hu XN hx hy hk;exact⟨_,hk,Dq (Dp _ (by rw[hr];rfl))⟩
  ·obtain⟨XN,hk⟩:=Ax hk;obtain⟨xs,hx,hk⟩:=Kb hk;obtain⟨ys,hy,hk⟩:=Kb hk;obtain⟨b,hk,hr⟩:=YP h (.inr rfl) hu XN hx hy hk;exact⟨_,hk,Dq (Dp _ (by rw[hr];rfl))⟩
  ·cases hk
 ·unfold Aro at hk;split at hk
  ·rename_i k hu;split at hk
   ·obtain⟨m,hx,hk⟩:=Ga hk;obtain⟨k2,n,hy,hk⟩:=D9 hk;obtain⟨hb,hk⟩:=Ax hk;have hb:=of_decide_eq_true hb;refine⟨_,hk,Dq (Dp _ ?_)⟩;have:¬n<0:=by omega
    simp[eqGuard,binOp,Op.shift,Df h hx,Df h hy,this]
   ·obtain⟨m,hx,hk⟩:=Ga hk;obtain⟨k2,n,hy,hk⟩:=D9 hk;obtain⟨hb,hk⟩:=Ax hk;have hb:=of_decide_eq_true hb;refine⟨_,hk,Dq (Dp _ ?_)⟩;have:¬n<0:=by omega
    simp[eqGuard,binOp,Op.shift,Df h hx,Df h hy,this]
   ·rename_i KQ PN;obtain⟨m,hx,hk⟩:=Ga hk;obtain⟨n,hy,hk⟩:=Ga hk;obtain⟨v,hk,hr⟩:=Alc (P:=P) (w:=w) (t:=t) (x:=x) (y:=y) KQ PN hk;exact⟨_,hk,Dq (Dp _ (by rw[Df h hx,Df h hy];exact hr))⟩
  ·rename_i hu;obtain⟨m,hx,hk⟩:=Er hk;obtain⟨n,hy,hk⟩:=Er hk;obtain⟨v,hk,hr⟩:=Amy (P:=P) (w:=w) (t:=t) (x:=x) (y:=y) hk;exact⟨_,hk,Dq (Dp _ (by rw[Df h hx,Df h hy];exact hr))⟩
  ·rename_i hu;split at hk
   ·obtain⟨m,hx,hk⟩:=Ep hk;obtain⟨n,hy,hk⟩:=Ep hk;refine⟨_,hk,Dq (Dp _ ?_)⟩;simp[eqGuard,binOp,Df h hx,Df h hy,SW hu]
   ·obtain⟨m,hx,hk⟩:=Ep hk;obtain⟨n,hy,hk⟩:=Ep hk;refine⟨_,hk,Dq (Dp _ ?_)⟩;simp[eqGuard,binOp,Df h hx,Df h hy,SW hu]
   ·cases hk
  ·rename_i e hu;have hx:=Dy h x
   have nilQ:∀{e:Bool} {K':PV->Option R},SS e (Cw s.tm x) K'=some r->∃q ad n c,K' q=some r∧a.eval x=.slice ad n c∧(q=.sc (.bool (if ad.isNone then e else !e))∨q=.ub):=by
    intro e K' hq;unfold SS at hq;split at hq
    ·rename_i e';exact⟨_,none,0,0,hq,Df h e',.inl rfl⟩
    ·rename_i z es n c e';rcases slice_form (.inl e') hx with⟨D6,rfl,_⟩|⟨ad,cap,D6,rfl,_⟩|⟨ad,cap,D6,rfl,rfl,_⟩
     ·rcases Q5 hq with⟨_,hq⟩|⟨_,hq⟩
      ·exact⟨_,none,0,0,hq,D6,.inl rfl⟩
      ·rcases Q5 hq with⟨hb,_⟩|⟨_,hq⟩
       ·exact absurd (of_decide_eq_true hb) (by omega)
       ·exact⟨_,none,0,0,hq,D6,.inr rfl⟩
     ·rcases Q5 hq with⟨hz,_⟩|⟨_,hq⟩
      ·cases hz
      ·rcases Q5 hq with⟨_,hq⟩|⟨_,hq⟩
       ·exact⟨_,some ad,n,cap,hq,D6,.inl rfl⟩
       ·exact⟨_,some ad,n,cap,hq,D6,.inr rfl⟩
     ·rcases Q5 hq with⟨hz,_⟩|⟨_,hq⟩
      ·cases hz
      ·rcases Q5 hq with⟨hb,_⟩|⟨_,hq⟩
       ·exact absurd (of_decide_eq_true hb) (by omega)
       ·exact⟨_,some ad,0,cap,hq,D6,.inr rfl⟩
    ·rename_i id es off n e';rw[e'] at hx;rcases hx with⟨_,_,rfl,ad,D6⟩|⟨b,ob,y',cap,_,D6,_⟩
     ·rcases Q5 hq with⟨hb,_⟩|⟨_,hq⟩
      ·exact absurd (of_decide_eq_true hb) (by omega)
      ·exact⟨_,ad,0,0,hq,D6,.inr rfl⟩
     ·rcases Q5 hq with⟨_,hq⟩|⟨_,hq⟩
      ·exact⟨_,_,n,cap,hq,D6,.inl rfl⟩
      ·exact⟨_,_,n,cap,hq,D6,.inr rfl⟩
    ·cases hq
   split at hk
   ·rename_i hy;obtain⟨q,ad,n,c,hk,D6,hb⟩:=nilQ hk;rcases hb with rfl|rfl
    ·refine⟨_,hk,Dq (Dp _ ?_)⟩;cases ad<;>simp[eqGuard,binOp,D6,Df h hy,Z8 hu]
    ·refine⟨_,hk,Cz (val:=.bool ad.isNone) (Dp _ ?_) (A4.ub _) (by intro i hi;cases hi)⟩
     simp[eqGuard,binOp,D6,Df h hy,Z8 hu]
   ·rename_i hy;obtain⟨q,ad,n,c,hk,D6,hb⟩:=nilQ hk;rcases hb with rfl|rfl
    ·refine⟨_,hk,Dq (Dp _ ?_)⟩;cases ad<;>simp[eqGuard,binOp,D6,Df h hy,Z8 hu]
    ·refine⟨_,hk,Cz (val:=.bool !ad.isNone) (Dp _ ?_) (A4.ub _) (by intro i hi;cases hi)⟩
     simp[eqGuard,binOp,D6,Df h hy,Z8 hu]
   ·cases hk
  ·cases hk
end
open Go.RowKit
section
variable {R:Type} {r:R} {P:Program} {N:Nat} {w0:World} {X0:Fz} {Y:Nat->Prop} {β β':Bt} {s:St} {a:Act} {w w':World} {o:Oper} {A:Nat->Prop}
theorem Y7:∀{c:List PV}{l:List UInt8},bytesOf c=some l->∃ns:List Int,c=ns.map (fun n=>.sc (.int .u8 n))∧l=ns.map fun n=>n.toNat.toUInt8
 |[],l,h=>⟨[],rfl,by simp[bytesOf] at h;subst h;rfl⟩
 |p::c,l,h=>by
  unfold bytesOf at h;split at h
  ·rename_i e;cases e
  ·rename_i n r e;cases e;cases hr:bytesOf c with
   |none=>rw[hr] at h;cases h
   |some l'=>
    rw[hr] at h;simp at h;obtain⟨ns,rfl,rfl⟩:=Y7 hr;exact⟨n::ns,rfl,h.symm⟩
  ·cases h
theorem Xd:∀(ns:List Int)(b:ByteArray),ns.foldl (fun r n=>r.push (UInt8.ofNat n.toNat)) b=⟨b.data++(ns.map fun n=>n.toNat.toUInt8).toArray⟩
 |[],b=>by simp
 |n::ns,b=>by
  simp only[List.foldl_cons];rw[Xd ns];simp[ByteArray.push]
theorem Afl (h:B3 N w0 X0 Y β s a w){es:Nat}{x:Operand}{K:Nat->List PV->Option R}(hk:Ahj (Ny s.hp) es (Cw s.tm x) K=some r):
  ∃n c,K n c=some r∧(((∃ad,a.eval x=.slice ad 0 0)∧n=0∧c=[])∨∃ad cap,a.eval x=.slice (some ad) n cap∧n<=cap∧(c=[]∨ad.block<w.heap.size)∧VH w (De s.hp β Y) ad c):=by
 have hx:=Dy h x;have TP:=G6 h x;unfold Ahj at hk;split at hk
 ·rename_i id es' off n e;rw[e] at hx TP;cases hb:Nat.beq es' es
  ·rw[hb] at hk;cases hk
  ·rw[hb] at hk;obtain⟨c,hc,hk⟩:=Dt (show F7 _ _=some r from hk)
   obtain⟨hl,hk⟩:=Ax hk;have hl:=of_decide_eq_true hl;obtain⟨f,Am6⟩:=Abm hc;refine⟨_,_,hk,?_⟩;rcases hx with⟨_,rfl,rfl,ad,D6⟩|⟨b,ob,y,cap,hβ,D6,hy,hn,_,Cc⟩
   ·exact .inl ⟨⟨ad,D6⟩,rfl,by simp⟩
   ·refine .inr ⟨_,cap,D6,hn,.inr Cc,fun j p hj=>?_⟩
    have Auw:0<n*es:=by
     rcases Nat.eq_zero_or_pos (n*es) with h0|h0
     ·rw[h0] at hj;simp at hj
     ·exact h0
    have OR:n≠0:=by rintro rfl;simp at Auw
    have hy:y=ob+off:=by rcases hy with hy|⟨h0,_⟩<;>omega
    subst hy;rw[List.getElem?_take] at hj;split at hj
    ·rw[List.getElem?_drop] at hj;rcases h.box id _ Am6 with⟨h1,_⟩|⟨b',o',h1,h2,_⟩
     ·rw[hβ] at h1;cases h1
     ·rw[hβ] at h1;simp at h1;obtain⟨rfl,rfl⟩:=h1
      obtain⟨v,hv,h3,ht⟩:=h2 (off+j) p hj;rw[Eu] at hv;exact⟨v,by rw[Eu,Nat.add_assoc];exact hv,h3,ht⟩
    ·cases hj
 ·obtain⟨z,n,c,hk,hp⟩:=Ho hk;refine⟨n,c,hk,?_⟩;rcases slice_form hp hx with h1|⟨ad,cap,D6,_,hn,h1,h2,_,h4⟩|⟨ad,cap,D6,_,rfl,rfl⟩
  ·exact .inl ⟨⟨none,h1.1⟩,h1.2⟩
  ·exact .inr ⟨ad,cap,D6,hn,.inr h2,h4⟩
  ·exact .inr ⟨ad,cap,D6,Nat.zero_le _,.inl rfl,fun j c hj=>by simp at hj⟩
theorem Amo (b:ByteArray)(j:Nat)(p:PV)(h:(Fs b)[j]?=some p):∃x,b.data[j]?=some x∧p=.sc (.int .u8 x.toNat):=by
 unfold Fs at h;rw[List.getElem?_map] at h;cases hx:b.data.toList[j]? with
 |none=>rw[hx] at h;cases h
 |some x=>
  rw[hx] at h;simp at h;exact⟨x,by simpa using hx,h.symm⟩
theorem Agl (h:B3 N w0 X0 Y β s a w){src dst:TypeId}{x:Operand}(ho:o.op=.convert src dst x){d:Nat}{K:PV->List (Nat × Bx)->Option R}
  (hk:SL P (Ny s.hp) d src dst (Cw s.tm x) K=some r):∃v nw,K v nw=some r∧F8 P a w o Y β s v [] nw:=by
 have Dp:∀v w',(convert src dst (a.eval x)).run P w=.ok v w'->(execOp a.eval o).run P w=.ok (.value v) w':=by
  intro v w' hv;unfold execOp;rw[ho];simp[hv]
 unfold SL at hk;split at hk
 ·rename_i k hu;obtain⟨hs,hk⟩:=Ax hk;obtain⟨k',n,hx,hk⟩:=D9 hk;exact⟨_,_,hk,Dq (Dp _ _ (by rw[Df h hx];obtain⟨ds,hds⟩:=Option.isSome_iff_exists.1 hs;cases ds<;>simp[convert,run_underlying hds,run_underlying hu,Conv.intToInt]))⟩
 ·rename_i hu;split at hk
  ·rename_i hs;obtain⟨b,hx,hk⟩:=Er hk;exact⟨_,_,hk,Dq (Dp _ _ (by rw[Df h hx];simp[convert,run_underlying hs,run_underlying hu]))⟩
  ·rename_i e hs;split at hk
   ·rename_i he;obtain⟨n,c,hk,hc⟩:=Afl h hk;obtain⟨hl,hk⟩:=Ax hk;have hl:=of_decide_eq_true hl;obtain⟨l,hb,hk⟩:=Dt hk;obtain⟨ns,rfl,rfl⟩:=Y7 hb;refine⟨_,_,hk,Dq (Dp _ _ ?_)⟩;rcases hc with⟨⟨ad,D6⟩,rfl,hn⟩|⟨ad,cap,D6,_,_,hrd⟩
    ·have:ns=[]:=by simpa using hn
     subst this;rw[D6,run_convert_bytes_string w src dst e ad 0 0 hs he hu];cases ad<;>rfl
    ·rw[D6,run_convert_bytes_string w src dst e _ _ _ hs he hu]
     have hld:(loadCells ad n).run P w=.ok (ns.map (Value.int .u8)).toArray w:=by
      have:=run_loadCells_list (P:=P) w ad (ns.map (Value.int .u8)) (fun j v hj=>by
       rw[List.getElem?_map] at hj;cases hn:ns[j]? with
       |none=>rw[hn] at hj;cases hj
       |some m=>
        rw[hn] at hj;simp at hj;subst hj;obtain⟨v,hv,_,ht⟩:=hrd j (.sc (.int .u8 m)) (by rw[List.getElem?_map,hn];rfl)
        rw[ht.val] at hv;exact hv)
      simp only[List.length_map] at this hl;rw[hl] at this;exact this
     rw[run_bytesToString w ad n cap ns hld,Xd];simp
   ·cases hk
  ·cases hk
 ·rename_i e hu;split at hk
  ·rename_i he hs;obtain⟨b,hx,hk⟩:=Er hk;obtain⟨Lw,hk⟩:=Ax hk;have hr:=run_bytes_of_string (P:=P) w src dst e b hs hu he;rw[←Df h hx] at hr
   have NR:b.size<=grownCap w b.size 0 e:=by
    unfold grownCap;simp[Question.cut]
   have Acx:(bytesRow b (grownCap w b.size 0 e)).size=grownCap w b.size 0 e:=by
    simp only[bytesRow,Array.size_append,Array.size_map,Array.size_replicate];have:b.data.size=b.size:=rfl;omega
   refine⟨_,_,hk,Ut (c:=bytesRow b (grownCap w b.size 0 e)) (e:=e) (by simp) (Dp _ _ hr) ?_ (fun j p hj=>?_) (.inr ⟨1,b.size,grownCap w b.size 0 e,rfl,rfl,NR,by rw[Acx];omega⟩)⟩
   ·exact⟨rfl,rfl,rfl,fun i hi=>Below.heap_alloc w.drew _ i hi,by show (w.heap.push _).size=_;simp,_,by show (w.heap.push _)[w.heap.size]?=_;simp;rfl,.inr (Nat.le_refl _)⟩
   ·obtain⟨y,hy,rfl⟩:=Amo b j p hj;refine⟨.int .u8 y.toNat,?_,rfl,A4.sc _⟩
    have Cc:j<b.data.size:=by
     rcases Nat.lt_or_ge j b.data.size with h|h
     ·exact h
     ·rw[Array.getElem?_eq_none h] at hy;cases hy
    simp only[bytesRow];rw[Array.getElem?_append_left (by simpa using Cc),Array.getElem?_map,hy]
    rfl
  ·cases hk
 ·cases hk
end
open Go.RowKit
section
variable {R:Type} {r:R} {P:Program} {N:Nat} {w0:World} {X0:Fz} {Y:Nat->Prop} {β β':Bt} {s:St} {a:Act} {w w':World} {o:Oper} {A:Nat->Prop}
theorem FU:∀{n:Nat}{l:List PV}{j:Nat}{c:PV},(Vr n l)[j]?=some c->j<n*l.length∧l[j % l.length]?=some c
 |0,l,j,c,h=>by simp[Vr] at h
 |n+1,l,j,c,h=>by
  have e:Vr (n+1) l=l++Vr n l:=by simp[Vr,List.replicate_succ]
  rw[e] at h;by_cases hj:j<l.length
  ·rw[List.getElem?_append_left hj] at h;refine⟨by rw[Nat.add_mul];omega,?_⟩
   rw[Nat.mod_eq_of_lt hj];exact h
  ·rw[List.getElem?_append_right (by omega)] at h
   obtain⟨h1,h2⟩:=FU h;refine⟨by rw[Nat.add_mul];omega,?_⟩
   rw[Nat.mod_eq_sub_mod (by omega)];exact h2
theorem Ae9 (n:Nat)(l:List PV):(Vr n l).length=n*l.length:=by
 induction n with
 |zero=>simp[Vr]
 |succ n ih=>
  have e:Vr (n+1) l=l++Vr n l:=by simp[Vr,List.replicate_succ]
  rw[e,List.length_append,ih,Nat.add_mul];omega
theorem Aey {z:Array Value}{n j:Nat}(hj:j<n){v:Value}(hv:z[j % z.size]?=some v):(madeCells z n)[j]?=some v:=by
 unfold madeCells;rw[Array.getElem?_map,Array.getElem?_range,if_pos hj];simp only[Option.map_some];rw[getElem!_def,hv]
theorem Age (h:B3 N w0 X0 Y β s a w){t:TypeId}{x y:Operand}(ho:o.op=.makeSlice t x y){d:Nat}{K:PV->List Nat->List (Nat × Bx)->Option R}
  (hk:(match P.underlying t with
   |some (.slice e)=>Ei (Cw s.tm x) fun _ n=>Ei (Cw s.tm y) fun _ m=>
     Ar (decide (0<=n)&&decide (n<=m)&&decide (m*((P.info? e).map (·.bytes)).getD 0<=1099511627776)&&decide (m<=1099511627776))
      (Jz P e fun z=>K (.view d (Bm P e) 0 n.toNat) [] [(d,.ar false (Vr n.toNat z))])
   |_=>none)=some r):∃v fz nw,K v fz nw=some r∧F8 P a w o Y β s v fz nw:=by
 split at hk
 ·rename_i e hu;obtain⟨k1,n,hx,hk⟩:=D9 hk;obtain⟨k2,m,hy,hk⟩:=D9 hk;obtain⟨hb,hk⟩:=Ax hk;simp only[Bool.and_eq_true,decide_eq_true_eq] at hb;obtain⟨⟨⟨h0,hnm⟩,Zo⟩,hm⟩:=hb;obtain⟨z,cs,hk,hz,hct,hl,Lw,hc⟩:=Tf hk
  have hzc:∃i,P.info? e=some i∧i.zero=some z:=by
   unfold EJ at hz;cases hi:P.info? e with
   |none=>rw[hi] at hz;cases hz
   |some i=>rw[hi] at hz;exact⟨i,rfl,hz⟩
  obtain⟨i,hi,hzi⟩:=hzc;have A5c:Bm P e=i.size:=by simp[Bm,hi]
  simp only[hi,Option.map_some,Option.getD_some] at Zo;have hr:=run_make (P:=P) w t e i z hu hi hzi k1 k2 n m h0 hnm (by rw[Int.mul_comm];omega) (by omega)
  have Dp:(execOp a.eval o).run P w=.ok (.value (.slice (some ⟨w.heap.size,0,none⟩) n.toNat m.toNat)) (w.alloc (.cells (madeCells z.cells (m.toNat*i.size)) e)):=by
   unfold execOp;rw[ho];simp[Df h hx,Df h hy,hr]
  have hzl:z.cells.size=Bm P e:=by
   have:z.cells.toList.length=z.cells.size:=by simp
   omega
  refine⟨_,_,_,hk,Ut (c:=madeCells z.cells (m.toNat*i.size)) (e:=e) (by simp) Dp (Im.alloc w _ e) (fun j p hj=>?_) (.inr ⟨Bm P e,n.toNat,m.toNat,rfl,rfl,by omega,by rw[size_madeCells,A5c];exact Nat.le_refl _⟩)⟩
  obtain⟨h1,h2⟩:=FU hj;obtain⟨hT,u,Mw,XK,hv⟩:=hc _ p h2;refine⟨u,Aey ?_ ?_,XK,hv _ _⟩
  ·have:n.toNat*cs.length<=m.toNat*i.size:=by
    rw[Lw,A5c];exact Nat.mul_le_mul_right _ (by omega)
   omega
  ·rw[hzl,←Lw]
   simpa using Mw
 ·cases hk
theorem All {p:PV}{v:Value}(hp:okP p=true)(hv:Ed w A β p v):Bw (Cj w A β) (cellsOf p) v.cells.toList:=by
 have one:v.oneCell'=true->Cj w A β p v->(∀x,p ≠ .agg x)->Bw (Cj w A β) (cellsOf p) v.cells.toList:=by
  intro h1 h2 h3;have:cellsOf p=[p]:=by cases p<;>first|rfl|exact absurd rfl (h3 _)
  rw[this,Ra h1];exact⟨h2,trivial⟩
 unfold okP at hp;split at hp
 ·obtain⟨vs,rfl,h2⟩:=hv;exact h2
 ·refine one ?_ hv (by simp)
  have Tv:A4 w A _ v:=hv;cases Tv<;>rfl
 ·refine one ?_ hv (by simp)
  rcases hv with⟨_,_,_,_,rfl⟩|⟨_,_,_,_,_,rfl,_⟩<;>rfl
 ·have:=L7 hv;subst this;exact one rfl hv (by simp)
 ·have:=L7 hv;subst this;exact one rfl hv (by simp)
 ·have:=L7 hv;subst this;exact one rfl hv (by simp)
 ·have:=L7 hv;subst this;exact one rfl hv (by simp)
 ·cases hp
theorem Aki:∀(vs:List Value)(k off:Nat)(cells:Array Value),off+k+vs.length<=cells.size ->
  ((vs.zipIdx k).foldl (fun cs (q:Value × Nat)=>cs.setIfInBounds (off+q.2) q.1) cells).toList=cells.toList.take (off+k)++vs++cells.toList.drop (off+k+vs.length)
 |[],k,off,cells,_=>by simp
 |v::vs,k,off,cells,h=>by
  simp only[List.zipIdx_cons,List.foldl_cons,List.length_cons] at h ⊢;rw[Aki vs (k+1) off _ (by simp;omega)]
  have Cc:off+k<cells.toList.length:=by simp;omega
  simp only[Array.toList_setIfInBounds];rw[show off+(k+1)=off+k+1 from by omega,List.take_succ_eq_append_getElem (by simpa using Cc)]
  rw[List.getElem_set_self,List.take_set_of_le (Nat.le_refl _),List.drop_set_of_lt (by omega)]
  simp only[List.append_assoc,List.cons_append,List.nil_append];rw[show off+k+1+vs.length=off+k+(vs.length+1) from by omega]
theorem RE (h:B3 N w0 X0 Y β s a w){Jt:Nat->Option (Nat × Nat)}:∀{parts:List (Nat × Operand)} {pc:List PV}{vc:Array Value}{K:List PV->Option R},
  Yl Jt (parts.map fun q=>(q.1,Cw s.tm q.2)) pc K=some r->Bw (Cj w (De s.hp β Y) β) pc vc.toList->(∀c∈pc,∀id∈Az c,s.hp id≠none) ->
  ∃pc' vc',K pc'=some r∧Instr.fill Jt vc (parts.map fun q=>(q.1,a.eval q.2))=some vc'∧Bw (Cj w (De s.hp β Y) β) pc' vc'.toList∧pc'.length=pc.length∧∀c∈pc',∀id∈Az c,s.hp id≠none
 |[],pc,vc,K,hk,hv,hr=>⟨pc,vc,hk,rfl,hv,rfl,hr⟩
 |(i,x)::parts,pc,vc,K,hk,hv,hr=>by
  simp only[List.map_cons] at hk;unfold Yl at hk;obtain⟨⟨off,size⟩,MZ,hk⟩:=Dt hk;obtain⟨hb,hk⟩:=Ax hk;simp only[Bool.and_eq_true] at hb;obtain⟨⟨hok,Lw⟩,AK⟩:=hb;have Lw:(cellsOf (Cw s.tm x)).length=size:=Nat.eq_of_beq_eq_true Lw;have AK:off+size<=pc.length:=Nat.le_of_ble_eq_true AK;have hxc:=All hok (Dy h x);have hxl:=hxc.len;have hvl:=hv.len;have Ui:vc.toList.length=vc.size:=by simp
  have YQ:(a.eval x).cells.toList.length=(a.eval x).cells.size:=by simp
  have AZ:=Aki (a.eval x).cells.toList 0 off vc (by omega)
  simp only[Nat.add_zero] at AZ
  have A2z:((a.eval x).cells.zipIdx.foldl (fun cs (q:Value × Nat)=>cs.setIfInBounds (off+q.2) q.1) vc).toList=vc.toList.take off++(a.eval x).cells.toList++vc.toList.drop (off+(a.eval x).cells.toList.length):=by
   rw[←AZ,←Array.foldl_toList];simp
  obtain⟨pc',vc',hk,hf,h2,hl,hr'⟩:=RE h (pc:=Bq pc (cellsOf (Cw s.tm x)) off) (vc:=(a.eval x).cells.zipIdx.foldl (fun cs (q:Value × Nat)=>cs.setIfInBounds (off+q.2) q.1) vc) hk (by
    rw[A2z,←hxl];exact (((hv.take off).app hxc).app (hv.drop _))) (by
    intro c hc id Br;unfold Bq at hc;rcases List.mem_append.1 hc with hc|hc
    ·rcases List.mem_append.1 hc with hc|hc
     ·exact hr c (List.mem_of_mem_take hc) id Br
     ·refine G6 h x id ?_;cases hp:Cw s.tm x with
      |agg cs=>rw[hp] at hc;exact List.mem_flatMap.2 ⟨c,hc,Br⟩
      |tup cs=>rw[hp] at hc;simp[cellsOf] at hc;subst hc;cases Br
      |_=>rw[hp] at hc;simp[cellsOf] at hc;subst hc;exact Br
    ·exact hr c (List.mem_of_mem_drop hc) id Br)
  refine⟨pc',vc',hk,?_,h2,?_,hr'⟩
  ·simp only[List.map_cons,Instr.fill,MZ];rw[if_neg (by simp;omega)]
   exact hf
  ·rw[hl];simp[Bq];omega
theorem Ac7 {t:TypeId}{z:Value}{cs:List PV}(hl:cs.length=z.cells.toList.length)(hc:∀(j:Nat) c,cs[j]?=some c->BL c∧∃u,z.cells.toList[j]?=some u∧u.oneCell'=true∧∀(w:World)(A:Nat->Prop),A4 w A c u) (_ht:EJ P t=some z):
  Bw (Cj w A β) cs z.cells.toList∧∀c∈cs,Az c=[]:=by
 refine⟨Bw.of_at hl fun i c u hci hu=>?_,fun c hcm=>?_⟩
 ·obtain⟨hT,u',Mw,_,hv⟩:=hc i c hci;rw[hu] at Mw;cases Mw;exact (Pu hT).2 (hv _ _)
 ·obtain⟨j,hj⟩:=List.mem_iff_getElem?.1 hcm;exact Kt (hc j c hj).1
theorem PY:∀{fs:List Field},(fs.all fun f=>PB P f.type)=true->fs.mapM (fun f=>(P.info? f.type).map fun i=>(f.offset,i.size))=some (fs.map fun f=>(f.offset,Bm P f.type))
 |[],_=>rfl
 |f::fs,h=>by
  simp only[List.all_cons,Bool.and_eq_true] at h;obtain⟨i,hi⟩:=Option.isSome_iff_exists.1 h.1;simp[List.mapM_cons,hi,PY h.2,Bm]
theorem DM {p q:Nat->Option (Nat × Nat)} (h:∀i,p i=q i)(cells:Array Value)(parts:List (Nat × Value)):Instr.fill p cells parts=Instr.fill q cells parts:=by
 have:p=q:=funext h;rw[this]
theorem Aci (h:B3 N w0 X0 Y β s a w){t:TypeId}{ps:Array (Nat × Operand)} (ho:o.op=.build t ps){K:PV->Option R}
  (hk:(Ar (U8 P t&&Cx P t)<|Jz P t fun z=>Yl (Wf P t) (ps.toList.map fun q=>(q.1,Cw s.tm q.2)) z fun cs=>Ue (K5 P t) cs 0 fun cs'=>K (.agg cs'))=some r):∃v,K v=some r∧F8 P a w o Y β s v [] []:=by
 obtain⟨MZ,hk⟩:=Ax hk;simp only[Bool.and_eq_true] at MZ;obtain⟨MZ,H8⟩:=MZ;obtain⟨z,cs,hk,hz,hct,hl,Lw,hc⟩:=Tf hk;obtain⟨hzr,RX⟩:=Ac7 (w:=w) (A:=De s.hp β Y) (β:=β) hl hc hz;obtain⟨pc',vc',hk,hf,h2,Ou,hr'⟩:=RE h hk hzr (fun c hcm id Br=>by rw[RX c hcm] at Br;cases Br)
 obtain⟨qs,hk,hql,JK,hq⟩:=Yo hk
 have A1q:P.built t (ps.toList.map fun q=>(q.1,a.eval q.2))=some vc':=by
  have hzi:∃i,P.info? t=some i∧i.zero=some z:=by
   unfold EJ at hz;cases hi:P.info? t with
   |none=>rw[hi] at hz;cases hz
   |some i=>rw[hi] at hz;exact⟨i,rfl,hz⟩
  obtain⟨i,hi,hzi⟩:=hzi;unfold U8 at MZ;unfold Program.built;split at MZ
  ·rename_i fs hu
   have YZ:Instr.fill (((fs.toList.map fun f=>(f.offset,Bm P f.type)).toArray)[·]?) z.cells (ps.toList.map fun q=>(q.1,a.eval q.2))=some vc':=by
    rw[←hf];refine DM (fun j=>?_) _ _
    simp[Wf,hu]
   simp only[hi,hu,hzi,PY MZ];exact YZ
  ·rename_i n e hu;obtain⟨ie,hie⟩:=Option.isSome_iff_exists.1 MZ
   have YZ:Instr.fill (fun j=>some (j*ie.size,ie.size)) z.cells (ps.toList.map fun q=>(q.1,a.eval q.2))=some vc':=by
    rw[←hf];refine DM (fun j=>?_) _ _
    simp[Wf,hu,Bm,hie]
   simp only[hi,hu,hzi,hie];exact YZ
  ·rename_i e hu;simp[Cx,hu] at H8
  ·cases MZ
 refine⟨_,hk,Cz (val:=.agg vc') ?_ ⟨vc'.toList,rfl,?_⟩ ?_⟩
 ·unfold execOp;rw[ho];have:=run_build (P:=P) w t (ps.map fun q=>(q.1,a.eval q.2)) vc' (by simpa using A1q)
  simp[this]
 ·refine Bw.of_at (by have:=h2.len;omega) fun j c u hcj hu=>?_
  obtain⟨p,hp,_,_,EI⟩:=hq j c hcj;rw[Nat.zero_add] at hp;exact (EI _ _ _ _ (h2.at_ hp hu)).1
 ·intro id Br;obtain⟨c,hcm,Br⟩:=List.mem_flatMap.1 (show id∈qs.flatMap Az from Br)
  obtain⟨j,hj⟩:=List.mem_iff_getElem?.1 hcm;obtain⟨p,hp,_,hpr,_⟩:=hq j c hj;rw[Nat.zero_add] at hp;exact hr' p (List.mem_of_getElem? hp) id (hpr id Br)
end
open Go.RowKit
section
variable {R:Type} {r:R} {P:Program} {N:Nat} {w0:World} {X0:Fz} {Y:Nat->Prop} {β β':Bt} {s:St} {a:Act} {w w':World} {o:Oper} {A:Nat->Prop}
theorem Ahw (h:B3 N w0 X0 Y β s a w){fz:List Nat}(JB:∀id∈fz,∃f c,s.hp id=some (.ar f c)) {id:Nat}(hm:id∈fz){f:Bool}{c:List PV}(hb:s.hp id=some (.ar f c)) {b ob:Nat}(hβ:β id=some (b,ob)):
  ¬De (Ag s.hp fz) β Y b∧VH w (De (Ag s.hp fz) β Y) ⟨b,ob,none⟩ c∧b<w.heap.size:=by
 have hf:=h.freeze JB;have he:Ag s.hp fz id=some (.ar true c):=by rw[Co,if_pos hm,hb];rfl
 rcases hf.box id _ he with⟨h1,_⟩|⟨b',o',h1,h2,_,h4⟩
 ·rw[hβ] at h1;cases h1
 ·rw[hβ] at h1;simp at h1;obtain⟨rfl,rfl⟩:=h1;exact⟨h4 rfl,h2,h.blt id b ob (by rw[hb];simp) hβ⟩
theorem Ali (h:B3 N w0 X0 Y β s a w){fz:List Nat}(JB:∀id∈fz,∃f c,s.hp id=some (.ar f c)) {id es off n:Nat}(hm:id∈fz){f:Bool}{c:List PV}(hb:s.hp id=some (.ar f c)) {v:Value}
  (hv:Cj w (De s.hp β Y) β (.view id es off n) v):A4 w (De (Ag s.hp fz) β Y) (.lst false es n ((c.drop off).take (n*es))) v:=by
 rcases hv with⟨_,rfl,rfl,ad,rfl⟩|⟨b,ob,y,cap,hβ,rfl,hy,hn,_,Cc⟩
 ·simp only[Nat.zero_mul,List.take_zero];cases ad with
  |none=>exact A4.lnil false es
  |some p=>exact A4.lemp es p 0
 ·obtain⟨h1,h2,_⟩:=Ahw h JB hm hb hβ;by_cases OR:n*es=0
  ·rw[OR,List.take_zero];exact A4.lst es n [] ⟨b,y,none⟩ cap (fun _=>undef) rfl Cc h1 hn (by simp) (by simp) (by simp)
  ·have hy:y=ob+off:=by
    rcases hy with hy|⟨h0,_⟩
    ·exact hy
    ·rw[h0] at OR;simp at OR
   subst hy
   have hcell:∀(j:Nat) q,((c.drop off).take (n*es))[j]?=some q->c[off+j]?=some q:=by
    intro j q hq;rw[List.getElem?_take] at hq;split at hq
    ·rw[List.getElem?_drop] at hq;exact hq
    ·cases hq
   refine A4.lst es n _ ⟨b,ob+off,none⟩ cap (fun j=>(w.cell? ⟨b,ob+off+j,none⟩).getD undef) rfl Cc h1 hn (fun j q hq=>?_) (fun j q hq=>?_) (fun j q hq=>?_)
   ·obtain⟨v,hv,_⟩:=h2 _ q (hcell j q hq);rw[Eu,←Nat.add_assoc] at hv;rw[Eu,hv];rfl
   ·obtain⟨v,hv,h3,_⟩:=h2 _ q (hcell j q hq);rw[Eu,←Nat.add_assoc] at hv;rw[hv];exact h3
   ·obtain⟨v,hv,_,ht⟩:=h2 _ q (hcell j q hq);rw[Eu,←Nat.add_assoc] at hv;rw[hv];exact ht
theorem A4.zf {A:Nat->Prop}{z:Bool}{es n:Nat}{c:List PV}{v:Value}(h:A4 w A (.lst z es n c) v):A4 w A (.lst false es n c) v:=by
 cases h with
 |lnil=>exact .lnil _ _
 |lemp=>exact .lemp _ _ _
 |lst _ _ _ a cap f hs hb hA hn hc h1 hr=>exact .lst _ _ _ a cap f hs hb hA hn hc h1 hr
theorem SE (h:B3 N w0 X0 Y β s a w){t:CT}{p:PV}{K:PV->List Nat->Option R}(hk:Sy (Ny s.hp) t p K=some r):
  ∃c m,K c m=some r∧BL c∧UO p∧(∀id∈m,∃f cc,s.hp id=some (.ar f cc))∧∀fz:List Nat,(∀id∈m,id∈fz)->(∀id∈fz,∃f cc,s.hp id=some (.ar f cc))->∀v,Cj w (De s.hp β Y) β p v->A4 w (De (Ag s.hp fz) β Y) c v∧v.oneCell'=true:=by
 have tree:∀t',(JL t' p fun c=>K c [])=some r->∃c m,K c m=some r∧BL c∧UO p∧(∀id∈m,∃f cc,s.hp id=some (.ar f cc))∧∀fz:List Nat,(∀id∈m,id∈fz)->(∀id∈fz,∃f cc,s.hp id=some (.ar f cc))->∀v,Cj w (De s.hp β Y) β p v->A4 w (De (Ag s.hp fz) β Y) c v∧v.oneCell'=true:=by
  intro t' hk;obtain⟨c,hk,hT,QV,hv⟩:=Q0 hk;refine⟨c,[],hk,hT,V7 QV,by simp,fun fz _ JB v EI=>?_⟩
  obtain⟨h1,h2⟩:=hv _ _ _ _ EI;exact⟨h1.step (Cq.refl _ _) (fun b _ hb=>hb.imp Ux id),h2⟩
 cases t with
 |sl es=>
  unfold Sy at hk;dsimp only at hk;split at hk
  ·rename_i id es' off n;cases hb:Nat.beq es' es
   ·rw[hb] at hk;cases hk
   ·rw[hb] at hk;have:=Nat.eq_of_beq_eq_true hb;subst this;obtain⟨c,hc,hk⟩:=Dt (show F7 _ _=some r from hk)
    obtain⟨_,hk⟩:=Ax hk;obtain⟨f,Nv⟩:=Abm hc;refine⟨_,[id],hk,trivial,trivial,?_,fun fz hm JB v hv=>⟨Ali h JB (hm id (by simp)) Nv hv,?_⟩⟩
    ·intro i hi;simp at hi;subst hi;exact⟨f,c,Nv⟩
    ·rcases hv with⟨_,_,_,_,rfl⟩|⟨_,_,_,_,_,rfl,_⟩<;>rfl
  ·obtain⟨z,n,c,hk,hp⟩:=Ho hk;refine⟨_,[],hk,trivial,?_,by simp,fun fz _ JB v EI=>?_⟩
   ·rcases hp with rfl|⟨rfl,_⟩<;>trivial
   ·have ht:=DD hp EI;refine⟨A4.zf (ht.step (Cq.refl _ _) (fun b _ hb=>hb.imp Ux id)),?_⟩
    cases ht<;>rfl
 |int k=>exact tree (.int k) hk
 |bool=>exact tree .bool hk
 |str=>exact tree .str hk
 |any=>exact tree .any hk
theorem Vf (h:B3 N w0 X0 Y β s a w):∀{ts:List CT}{ps:List PV}{K:List PV->List Nat->Option R},R2 (Ny s.hp) ts ps K=some r ->
  ∃cs m,K cs m=some r∧cs.length=ts.length∧ps.length=ts.length∧(∀c∈cs,BL c)∧(∀p∈ps,UO p)∧(∀id∈m,∃f cc,s.hp id=some (.ar f cc)) ∧
   ∀fz:List Nat,(∀id∈m,id∈fz)->(∀id∈fz,∃f cc,s.hp id=some (.ar f cc))->∀vs,Bw (Cj w (De s.hp β Y) β) ps vs->Bw (A4 w (De (Ag s.hp fz) β Y)) cs vs∧∀v∈vs,v.oneCell'=true
 |[],[],K,hk=>⟨[],[],hk,rfl,rfl,by simp,by simp,by simp,fun fz _ _ vs hv=>by
   cases vs with
   |nil=>exact⟨trivial,by simp⟩
   |cons v vs=>exact hv.elim⟩
 |[],_::_,K,hk=>by cases hk
 |_::_,[],K,hk=>by cases hk
 |t::ts,p::ps,K,hk=>by
  unfold R2 at hk;obtain⟨c,m,hk,hT,hF,hm,hv⟩:=SE h hk;obtain⟨cs,ms,hk,hl,Ou,hTs,hFs,OY,Ui⟩:=Vf h hk;refine⟨c::cs,m++ms,hk,by simp[hl],by simp[Ou],?_,?_,?_,fun fz hfm JB vs h2=>?_⟩
  ·intro x hx;rcases List.mem_cons.1 hx with rfl|hx
   ·exact hT
   ·exact hTs x hx
  ·intro x hx;rcases List.mem_cons.1 hx with rfl|hx
   ·exact hF
   ·exact hFs x hx
  ·intro x hx;rcases List.mem_append.1 hx with hx|hx
   ·exact hm x hx
   ·exact OY x hx
  ·cases vs with
   |nil=>exact h2.elim
   |cons v vs=>
    obtain⟨h3,h4⟩:=hv fz (fun i hi=>hfm i (by simp[hi])) JB v h2.1
    obtain⟨h5,h6⟩:=Ui fz (fun i hi=>hfm i (by simp[hi])) JB vs h2.2
    refine⟨⟨h3,h5⟩,?_⟩;intro x hx;rcases List.mem_cons.1 hx with rfl|hx
    ·exact h4
    ·exact h6 x hx
theorem And {R':PV->Value->Prop}{cs:List PV}{z:Array Value}(h:Bw R' cs z.toList)(n:Nat):Bw R' (Vr n cs) (madeCells z (n*cs.length)).toList:=by
 have hzl:z.size=cs.length:=by have:=h.len;simp at this;exact this.symm
 refine Bw.of_at ?_ fun j c v hc hv=>?_
 ·rw[Ae9];simp[size_madeCells]
 ·obtain⟨h1,h2⟩:=FU hc
  have Cc:j % cs.length<cs.length:=by
   rcases Nat.lt_or_ge (j % cs.length) cs.length with h|h
   ·exact h
   ·rw[List.getElem?_eq_none h] at h2;cases h2
  obtain⟨u,hu,hcu⟩:=h.get h2;have:(madeCells z (n*cs.length))[j]?=some u:=Aey h1 (by rw[hzl];simpa using hu)
  have Tv:(madeCells z (n*cs.length))[j]?=some v:=by simpa using hv
  rw[this] at Tv;cases Tv;exact hcu
theorem IW (h:B3 N w0 X0 Y β s a w){t:TypeId}{n:Nat}{ps:Array (Nat × Operand)} (ho:o.op=.buildSlice t n ps){d:Nat}{K:PV->List Nat->List (Nat × Bx)->Option R}
  (hk:(match P.underlying t with
   |some (.slice e)=>Ar (U8 P t&&Nat.ble (n*Bm P e) 16777216) (Jz P e fun z=>Yl (Wf P t) (ps.toList.map fun q=>(q.1,Cw s.tm q.2)) (Vr n z) fun cs=>
     R2 (Ny s.hp) (List.replicate n (K5 P e)).flatten cs fun cs' m=>K (.view d (Bm P e) 0 n) m [(d,.ar false cs')])
   |_=>none)=some r):∃v fz nw,K v fz nw=some r∧F8 P a w o Y β s v fz nw:=by
 split at hk
 ·rename_i e hu;obtain⟨hb,hk⟩:=Ax hk;simp only[Bool.and_eq_true] at hb;have AK:n*Bm P e<=16777216:=Nat.le_of_ble_eq_true hb.2;have T7:(P.info? e).isSome=true:=by have:=hb.1;unfold U8 at this;rw[hu] at this;exact this
  obtain⟨z,cs,hk,hz,hct,hl,Lw,hc⟩:=Tf hk;obtain⟨hzr,RX⟩:=Ac7 (w:=w) (A:=De s.hp β Y) (β:=β) hl hc hz;have A9v:=And hzr n
  obtain⟨pc',vc',hk,hf,h2,Ou,hr'⟩:=RE h hk A9v (fun c hcm id Br=>by
   obtain⟨j,hj⟩:=List.mem_iff_getElem?.1 hcm;obtain⟨_,hg⟩:=FU hj;rw[RX c (List.mem_of_getElem? hg)] at Br;cases Br)
  obtain⟨qs,m,hk,hql,MZ,hqT,_,hm,hqv⟩:=Vf h hk;obtain⟨h3,h3'⟩:=hqv m (fun _ hi=>hi) hm _ h2
  have YZ:Instr.fill (fun i=>some (i*Bm P e,Bm P e)) (madeCells z.cells (n*cs.length)) (ps.toList.map fun q=>(q.1,a.eval q.2))=some vc':=by
   rw[←hf];refine DM (fun i=>?_) _ _
   simp[Wf,hu]
  have hvl:vc'.size=n*Bm P e:=by
   have h4:=h2.len;rw[Ou,Ae9] at h4;simp at h4;rw[←h4,Lw]
  have Dp:(execOp a.eval o).run P w=.ok (.value (.slice (some ⟨w.heap.size,0,none⟩) n n)) (w.alloc (.cells vc' e)):=by
   unfold execOp;rw[ho];have A3z:¬(n*Bm P e>2 ^ 24):=by omega
   rw[Lw] at YZ;by_cases OR:n*Bm P e=0
   ·simp only[Instr.buildSlice,Sem.run_bind,run_underlying hu,Result.andThen_ok,Dn T7,if_neg A3z,OR];rw[OR] at YZ;have e0:madeCells z.cells 0=(Array.range 0).map (fun _=>default):=by simp[madeCells]
    rw[e0] at YZ;simp[YZ,newRow]
   ·simp only[Instr.buildSlice,Sem.run_bind,run_underlying hu,Result.andThen_ok,Dn T7,if_neg A3z,if_neg OR,BW hz];unfold madeCells at YZ;simp[YZ,newRow]
  refine⟨_,_,_,hk,Ut (c:=vc') (e:=e) hm Dp (Im.alloc w vc' e) (fun j p hj=>?_) (.inr ⟨Bm P e,n,n,rfl,rfl,Nat.le_refl _,by rw[hvl];exact Nat.le_refl _⟩)⟩
  obtain⟨u,Mw,hp⟩:=h3.get hj;exact⟨u,by simpa using Mw,h3' u (List.mem_of_getElem? Mw),hp⟩
 ·cases hk
end
end
end Go.Proofs.YtpogefhpiaaliaaGreatDoor.Pv
