/-
  The proof of AttestationModels, part 1 (texts PvX1 PvX2).
-/
import Derived.Orders
import Derived.LoopN
import Derived.Below
import Derived.Lib.ValidU
import Derived.Lib.Bytealg
import Derived.IntWalk
import Derived.WalkKit
import Derived.WalkLawsBesides
import Derived.Laws.IdiomStrings
import Derived.Laws.MakeOwn
import Derived.Laws.Tables
set_option linter.unusedSimpArgs false
set_option linter.unusedVariables false
namespace Go.Proofs.YtgfgmbpmghgbkaaGreatDoor.Pv
section
inductive PV where
 |sc (v:Value)
 |lst (z:Bool) (es n:Nat) (cells:List PV)
 |own (es n:Nat) (cells:List PV)
 |view (id es off n:Nat)
 |ptr (id off:Nat)
 |iptr (cells:List PV) (off:Nat)
 |pbox (cells:List PV)
 |agg (cells:List PV)
 |tup (vs:List PV)
 |top
 |ub
inductive Ck where
 |st (cells:List PV)
 |ar (fz:Bool) (cells:List PV)
 |mv
structure St where
 tm:Nat->PV
 hp:Nat->Option Ck
structure Ay where
 vals:List PV
 outs:List (List PV)
structure Jf where
 shr:FuncId->Bool
 mvd:FuncId->Nat->Bool
 lnd:FuncId->Nat->Bool
 kz:FuncId->Bool
 ext:FuncId->Option (List PV->Option Ay)
def Dg {α:Type}(f:Nat->α)(i:Nat)(v:α):Nat->α:=fun j=>bif Nat.beq j i then v else f j
def rd (hp:Nat->Option Ck)(id:Nat):Option (List PV):=
 match hp id with
 |some (.st c)=>some c
 |some (.ar _ c)=>some c
 |_=>none
def L5 (hp:Nat->Option Ck)(id:Nat):Option (List PV):=
 match hp id with
 |some (.ar _ c)=>some c
 |_=>none
inductive CT where
 |int (k:IntKind)
 |bool
 |str
 |sl (es:Nat)
 |any
def Bu (P:Program)(t:TypeId):Nat:=((P.info? t).map (·.size)).getD 0
def Df (P:Program)(t:TypeId):Bool:=
 match P.underlying t with
 |some (.struct _)=>true
 |some (.array _ _)=>true
 |_=>false
def A60 (P:Program):Nat->TypeId->List CT
 |0,_=>[]
 |d+1,t=>
  match P.underlying t with
  |some (.int k)=>[.int k]
  |some .bool=>[.bool]
  |some .string=>[.str]
  |some (.slice e)=>[.sl (Bu P e)]
  |some (.struct fs)=>fs.toList.flatMap fun f=>A60 P d f.type
  |some (.array n e)=>(List.replicate n (A60 P d e)).flatten
  |_=>[.any]
abbrev Jg (P:Program)(t:TypeId):List CT:=A60 P 9 t
def Kg (P:Program)(t:TypeId):Bool:=(P.underlying t).isSome&&Nat.beq (Jg P t).length (Bu P t)
abbrev E9 (k:IntKind)(a b:Int):Int:=k.wrap (BitVec.ofInt k.bits a &&& BitVec.ofInt k.bits b).toNat
abbrev Y9 (k:IntKind)(a b:Int):Int:=k.wrap (BitVec.ofInt k.bits a ||| BitVec.ofInt k.bits b).toNat
abbrev Em (k:IntKind)(a b:Int):Int:=k.wrap (BitVec.ofInt k.bits a ^^^ BitVec.ofInt k.bits b).toNat
abbrev Api (k:IntKind)(a b:Int):Int:=k.wrap (BitVec.ofInt k.bits a &&& ~~~BitVec.ofInt k.bits b).toNat
abbrev Fb (k:IntKind)(a b:Int):Int:=k.wrap (a*2 ^ (min b.toNat k.bits))
abbrev Eg (k:IntKind)(a b:Int):Int:=a.fdiv (2 ^ (min b.toNat k.bits))
abbrev A9w (k:IntKind)(n:Int):Int:=k.wrap (BitVec.ofInt k.bits (if k.signed then -1 else k.max) ^^^ BitVec.ofInt k.bits n).toNat
section
variable {R:Type}
def Af (k:IntKind)(p:PV)(K:Int->Option R):Option R:=
 match p with
 |.sc (.int k' n)=>if k'=k then K n else none
 |_=>none
def Bz (p:PV)(K:Bool->Option R):Option R:=
 match p with
 |.sc (.bool b)=>K b
 |_=>none
def Cn (p:PV)(K:ByteArray->Option R):Option R:=
 match p with
 |.sc (.string s)=>K s
 |_=>none
def Ih (es:Nat)(p:PV)(K:Bool->Nat->List PV->Option R):Option R:=
 match p with
 |.lst z es' n c=>bif Nat.beq es' es then K z n c else none
 |.sc (.slice none 0 0)=>K true 0 []
 |_=>none
def fsK (es:Nat)(p:PV)(K:PV->Option R):Option R:=
 match p with
 |.view id es' off n=>bif Nat.beq es' es then K (.view id es off n) else none
 |p=>Ih es p fun z n c=>K (.lst z es n c)
def Dk (es:Nat)(p:PV)(K:Nat->List PV->Option R):Option R:=
 match p with
 |.own es' n c=>bif Nat.beq es' es then K n c else none
 |_=>none
def Aq (b:Bool)(K:Option R):Option R:=bif b then K else none
abbrev Aa {α:Type}(x:α)(K:α->Option R):Option R:=K x
def Aw7 (b:Bool)(x y:Option R):Option R:=bif b then x else y
abbrev Bbv (x:Nat)(K:Nat->Option R):Option R:=K x
def A5y (x:List (List Nat)) (K:List (List Nat)->Option R):Option R:=K x
def A4 (b:Bool)(x y:Option R):Option R:=bif b then x else y
def Ez {α:Type}(o:Option α)(K:α->Option R):Option R:=
 match o with
 |some a=>K a
 |none=>none
def Ab {α:Type}(l:List α)(K:α->List α->Option R):Option R:=
 match l with
 |a::r=>K a r
 |[]=>none
def Ac {α:Type}(l:List α)(K:Option R):Option R:=
 match l with
 |[]=>K
 |_::_=>none
def Cu (p:PV)(K:List PV->Option R):Option R:=
 match p with
 |.agg c=>K c
 |_=>none
def Adn (p:PV)(K:List PV->Option R):Option R:=
 match p with
 |.pbox c=>K c
 |_=>none
def Ag (r:Option Ay)(K:List PV->List (List PV)->Option R):Option R:=
 match r with
 |some ⟨v,o⟩=>K v o
 |none=>none
def fnK (p:PV)(K:Value->Option R):Option R:=
 match p with
 |.sc (.func f a b)=>K (.func f a b)
 |_=>none
def fvK (p:PV)(K:FuncId->Option R):Option R:=
 match p with
 |.sc (.func (.func f) a b)=>bif a.isEmpty&&b.isEmpty then K f else none
 |_=>none
def tcK (t:CT)(p:PV)(K:PV->Option R):Option R:=
 match t with
 |.int k=>Af k p fun n=>K (.sc (.int k n))
 |.bool=>Bz p fun b=>K (.sc (.bool b))
 |.str=>Cn p fun s=>K (.sc (.string s))
 |.sl es=>Ih es p fun z n c=>K (.lst z es n c)
 |.any=>fnK p fun v=>K (.sc v)
def fcK (t:CT)(p:PV)(K:PV->Option R):Option R:=
 match t with
 |.sl es=>fsK es p K
 |t=>tcK t p K
def Xy:List CT->List PV->Nat->(List PV->Option R)->Option R
 |[],_,_,K=>K []
 |t::ts,cells,off,K=>tcK t (cells.getD off .top) fun c=>Xy ts cells (off+1) fun r=>K (c::r)
def Sr:List CT->List PV->Nat->(List PV->Option R)->Option R
 |[],_,_,K=>K []
 |t::ts,cells,off,K=>fcK t (cells.getD off .top) fun c=>Sr ts cells (off+1) fun r=>K (c::r)
def mkV (agg:Bool)(cells:List PV)(K:PV->Option R):Option R:=
 bif agg then K (.agg cells) else Ab cells fun c r=>Ac r (K c)
def cellsOf:PV->List PV
 |.agg c=>c
 |p=>[p]
def cvK (P:Program)(t:TypeId)(v:Value)(K:PV->Option R):Option R:=
 match v with
 |.agg cs=>Aq (Nat.beq cs.toList.length (Jg P t).length) (Xy (Jg P t) (cs.toList.map .sc) 0 fun c=>K (.agg c))
 |.slice none 0 0=>
  match P.underlying t with
  |some (.slice e)=>K (.lst true (Bu P e) 0 [])
  |_=>none
 |v=>K (.sc v)
end
def C1 (tm:Nat->PV):Operand->PV
 |.tmp t=>tm t
 |.const (.agg cs)=>.agg (cs.toList.map .sc)
 |.const v=>.sc v
 |.func f=>.sc (.func (.func f) #[] #[])
 |.global g=>.sc (.pointer (some ⟨g,0,none⟩))
section
variable {R:Type}
def Ec (p:PV)(K:IntKind->Int->Option R):Option R:=
 match p with
 |.sc (.int k n)=>K k n
 |_=>none
def Aty (rdf:Nat->Option (List PV)) (es:Nat)(p:PV)(K:Nat->List PV->Option R):Option R:=
 match p with
 |.view id es' off n=>bif Nat.beq es' es then Ez (rdf id) fun c=>Aq (decide (off+n*es<=c.length)) (K n ((c.drop off).take (n*es))) else none
 |p=>Ih es p fun _ n c=>K n c
def Re (rdf:Nat->Option (List PV)) (t:CT)(p:PV)(K:PV->List Nat->Option R):Option R:=
 match t with
 |.sl es=>
  match p with
  |.view id es' off n=>bif Nat.beq es' es then Ez (rdf id) fun c=>Aq (decide (off+n*es<=c.length)) (K (.lst false es n ((c.drop off).take (n*es))) [id]) else none
  |p=>Ih es p fun _ n c=>K (.lst false es n c) []
 |t=>tcK t p fun c=>K c []
def P3 (rdf:Nat->Option (List PV)):List CT->List PV->(List PV->List Nat->Option R)->Option R
 |[],[],K=>K [] []
 |t::ts,p::ps,K=>Re rdf t p fun c m=>P3 rdf ts ps fun cs ms=>K (c::cs) (m++ms)
 |_,_,_=>none
def As3 (P:Program)(rdf:Nat->Option (List PV)) (t:TypeId)(p:PV)(K:PV->List Nat->Option R):Option R:=
 bif Df P t then Cu p fun ps=>P3 rdf (Jg P t) ps fun cs m=>K (.agg cs) m
 else P3 rdf (Jg P t) [p] fun cs m=>Ab cs fun c r=>Ac r (K c m)
def Akp (P:Program)(rdf:Nat->Option (List PV)):List TypeId->List PV->(List PV->List Nat->Option R)->Option R
 |[],[],K=>K [] []
 |t::ts,p::ps,K=>As3 P rdf t p fun v m=>Akp P rdf ts ps fun vs ms=>K (v::vs) (m++ms)
 |_,_,_=>none
def A0q (shr:Bool)(id:Nat)(t:CT)(p:PV)(K:PV->List (Nat × Ck)->Option R):Option R:=
 match t with
 |.sl es=>bif shr then Ih es p fun z n c=>K (.lst z es n c) [] else Dk es p fun n c=>K (.view id es 0 n) [(id,.ar false c)]
 |t=>tcK t p fun c=>K c []
def V4 (shr:Bool)(N:Nat):Nat->List CT->List PV->(List PV->List (Nat × Ck)->Option R)->Option R
 |_,[],ps,K=>Ac ps (K [] [])
 |id,t::ts,ps,K=>Ab ps fun p ps=>A0q shr id t p fun c b=>V4 shr N (id+N) ts ps fun cs bs=>K (c::cs) (b++bs)
def Ac0 (P:Program)(t:TypeId):Option TypeId:=
 match P.underlying t with
 |some (.pointer e)=>some e
 |_=>none
def Arf (P:Program)(t:TypeId):Nat:=
 match Ac0 P t with
 |some e=>1+(Jg P e).length
 |none=>(Jg P t).length
def Axo (P:Program)(shr:Bool)(N:Nat)(id:Nat)(t:TypeId)(p:PV)(K:PV->List (Nat × Ck)->Option R):Option R:=
 match Ac0 P t with
 |some e=>Adn p fun ps=>V4 shr N (id+N) (Jg P e) ps fun cs bs=>K (.ptr id 0) ((id,.st cs)::bs)
 |none=>
 bif Df P t then Cu p fun ps=>V4 shr N id (Jg P t) ps fun cs bs=>K (.agg cs) bs
 else V4 shr N id (Jg P t) [p] fun cs bs=>Ab cs fun c r=>Ac r (K c bs)
def Agq (P:Program)(shr:Bool)(N:Nat):Nat->List TypeId->List PV->(List PV->List (Nat × Ck)->Option R)->Option R
 |_,[],ps,K=>Ac ps (K [] [])
 |id,t::ts,ps,K=>Ab ps fun p ps=>Axo P shr N id t p fun v bs=>Agq P shr N (id+N*Arf P t) ts ps fun vs bs'=>K (v::vs) (bs++bs')
def P8 (P:Program)(t:TypeId):List TypeId:=
 match P.underlying t with
 |some (.tuple ts)=>ts.toList
 |_=>[t]
def Q4 (vs:List PV)(t:Bool):PV:=bif t then .tup vs else vs.headD .top
def R9 (P:Program)(t:TypeId):Bool:=
 match P.underlying t with
 |some (.tuple _)=>true
 |_=>false
def A4l (op:BinOp)(a b:Int)(K:Bool->Option R):Option R:=
 match op with
 |.eql=>K (a==b)
 |.neq=>K (a != b)
 |.lss=>K (decide (a<b))
 |.leq=>K (decide (a<=b))
 |.gtr=>K (decide (a>b))
 |.geq=>K (decide (a>=b))
 |_=>none
def Aka (op:BinOp)(k:IntKind)(a b:Int)(K:PV->Option R):Option R:=
 match op with
 |.add=>Aa ((k.wrap (a+b))) fun n=>K (.sc (.int k n))
 |.sub=>Aa ((k.wrap (a-b))) fun n=>K (.sc (.int k n))
 |.mul=>Aa ((k.wrap (a*b))) fun n=>K (.sc (.int k n))
 |.quo=>Aq (decide (b≠0)) (Aa ((k.wrap (a.tdiv b))) fun n=>K (.sc (.int k n)))
 |.rem=>Aq (decide (b≠0)) (Aa ((a.tmod b)) fun n=>K (.sc (.int k n)))
 |.and=>Aa (E9 k a b) fun n=>K (.sc (.int k n))
 |.or=>Aa (Y9 k a b) fun n=>K (.sc (.int k n))
 |.xor=>Aa (Em k a b) fun n=>K (.sc (.int k n))
 |.andNot=>Aa (Api k a b) fun n=>K (.sc (.int k n))
 |op=>A4l op a b fun r=>K (.sc (.bool r))
def Aid (op:BinOp)(x y:ByteArray)(K:PV->Option R):Option R:=
 match op with
 |.add=>Aq (decide (x.size+y.size<=9223372036854775807)) (Aa (x++y) fun s=>K (.sc (.string s)))
 |.eql=>K (.sc (.bool (x.data.toList==y.data.toList)))
 |.neq=>K (.sc (.bool !(x.data.toList==y.data.toList)))
 |.lss=>K (.sc (.bool (Op.bytesLess x.data.toList y.data.toList)))
 |.leq=>K (.sc (.bool (Op.bytesLess x.data.toList y.data.toList||x.data.toList==y.data.toList)))
 |.gtr=>K (.sc (.bool !(Op.bytesLess x.data.toList y.data.toList||x.data.toList==y.data.toList)))
 |.geq=>K (.sc (.bool !(Op.bytesLess x.data.toList y.data.toList)))
 |_=>none
def Ak0 (e:Bool)(p:PV)(K:PV->Option R):Option R:=
 match p with
 |.sc (.slice none 0 0)=>K (.sc (.bool e))
 |.lst z _ n _=>A4 z (K (.sc (.bool e))) (A4 (decide (0<n)) (K (.sc (.bool !e))) (K .ub))
 |.view _ _ _ n=>A4 (decide (0<n)) (K (.sc (.bool !e))) (K .ub)
 |_=>none
def Ai6 (P:Program):List Field->Nat->Bool
 |[],_=>true
 |f::r,i=>Nat.beq f.offset i&&(f.name != "_")&&(match P.underlying f.type with|some (.int _)=>true|some .bool=>true|some .string=>true|_=>false)&&Ai6 P r (i+1)
def Ap6 (P:Program)(t:TypeId)(fs:Array Field):Bool:=Ai6 P fs.toList 0 && !P.stoodInHeld t && !P.eqGuardType P.depth t
def fty (P:Program)(f:Field):CT:=
 match P.underlying f.type with
 |some (.int k)=>.int k
 |some .bool=>.bool
 |some .string=>.str
 |_=>.any
def Aku:List CT->List PV->List PV->(Bool->Option R)->Option R
 |[],[],[],K=>K true
 |.int k::ts,p::ps,q::qs,K=>Af k p fun a=>Af k q fun b=>Aku ts ps qs fun r=>K ((a==b)&&r)
 |.bool::ts,p::ps,q::qs,K=>Bz p fun a=>Bz q fun b=>Aku ts ps qs fun r=>K ((a==b)&&r)
 |.str::ts,p::ps,q::qs,K=>Cn p fun a=>Cn q fun b=>Aku ts ps qs fun r=>K ((a==b)&&r)
 |_,_,_,_=>none
def A08 (P:Program)(op:BinOp)(t:TypeId)(x y:PV)(K:PV->Option R):Option R:=
 match P.underlying t with
 |some (.int k)=>
  match op with
  |.shl=>Af k x fun a=>Ec y fun _ b=>Aq (decide (0<=b)) (Aa (Fb k a b) fun n=>K (.sc (.int k n)))
  |.shr=>Af k x fun a=>Ec y fun _ b=>Aq (decide (0<=b)) (Aa (Eg k a b) fun n=>K (.sc (.int k n)))
  |op=>Af k x fun a=>Af k y fun b=>Aka op k a b K
 |some .string=>Cn x fun a=>Cn y fun b=>Aid op a b K
 |some .bool=>
  match op with
  |.eql=>Bz x fun a=>Bz y fun b=>K (.sc (.bool (a==b)))
  |.neq=>Bz x fun a=>Bz y fun b=>K (.sc (.bool !(a==b)))
  |_=>none
 |some (.slice _)=>
  match op,y with
  |.eql,.sc (.slice none 0 0)=>Ak0 true x K
  |.neq,.sc (.slice none 0 0)=>Ak0 false x K
  |_,_=>none
 |_=>none
def Y2 (P:Program)(op:BinOp)(t:TypeId)(x y:PV)(K:PV->Option R):Option R:=
 match P.underlying t with
 |some (.struct fs)=>
  match op with
  |.eql=>Aq (Ap6 P t fs) (Cu x fun xs=>Cu y fun ys=>Aku (fs.toList.map (fty P)) xs ys fun b=>K (.sc (.bool b)))
  |.neq=>Aq (Ap6 P t fs) (Cu x fun xs=>Cu y fun ys=>Aku (fs.toList.map (fty P)) xs ys fun b=>K (.sc (.bool !b)))
  |_=>none
 |_=>A08 P op t x y K
def unK (op:UnOp)(x:PV)(K:PV->Option R):Option R:=
 match op with
 |.not=>Bz x fun b=>K (.sc (.bool !b))
 |.neg=>Ec x fun k n=>Aa (k.wrap (0-n)) fun n=>K (.sc (.int k n))
 |.xor=>Ec x fun k n=>Aa (A9w k n) fun n=>K (.sc (.int k n))
 |_=>none
def bytesOf:List PV->Option (List UInt8)
 |[]=>some []
 |.sc (.int .u8 n)::r=>(bytesOf r).map (n.toNat.toUInt8 :: ·)
 |_::_=>none
def Co (s:ByteArray):List PV:=s.data.toList.map fun b=>.sc (.int .u8 b.toNat)
def Ai4 (P:Program)(rdf:Nat->Option (List PV)) (d:Nat)(src dst:TypeId)(x:PV)(K:PV->List (Nat × Ck)->Option R):Option R:=
 match P.underlying dst with
 |some (.int k)=>Aq (P.underlying src).isSome (Ec x fun _ n=>Aa (k.wrap n) fun n=>K (.sc (.int k n)) [])
 |some .string=>
  match P.underlying src with
  |some .string=>Cn x fun s=>K (.sc (.string s)) []
  |some (.slice e)=>
   match P.underlying e with
   |some (.int .u8)=>Aty rdf 1 x fun n c=>Aq (decide (c.length=n)) (Ez (bytesOf c) fun b=>K (.sc (.string ⟨b.toArray⟩)) [])
   |_=>none
  |_=>none
 |some (.slice e)=>
  match P.underlying e,P.underlying src with
  |some (.int .u8),some .string=>Cn x fun s=>Aq (decide (s.size<=1099511627776)) (K (.view d 1 0 s.size) [(d,.ar false (Co s))])
  |_,_=>none
 |_=>none
def Od (p:Option PV)(dflt:Nat)(K:Nat->Option R):Option R:=
 match p with
 |none=>K dflt
 |some p=>Ec p fun _ i=>Aq (decide (0<=i)) (K i.toNat)
def Aep (P:Program)(rdf:Nat->Option (List PV)) (t:TypeId)(x:PV)(lo hi:Option PV)(K:PV->Option R):Option R:=
 match P.underlying t with
 |some .string=>Cn x fun s=>Od lo 0 fun l=>Od hi s.size fun h=>Aq (decide (l<=h)&&decide (h<=s.size)) (Aa (s.extract l h) fun s=>K (.sc (.string s)))
 |some (.slice e)=>Aq (P.info? e).isSome (
  match x with
  |.view id es off n=>Aq (Nat.beq es (Bu P e)) (Od lo 0 fun l=>Od hi n fun h=>Aq (decide (l<=h)&&decide (h<=n)) (Aa (off+l*es) fun o=>Aa (h-l) fun n=>K (.view id es o n)))
  |x=>Ih (Bu P e) x fun z n c=>Od lo 0 fun l=>Od hi n fun h=>Aq (decide (l<=h)&&decide (h<=n)) (Aa (h-l) fun n=>Aa ((c.drop (l*Bu P e)).take (n*Bu P e)) fun c=>K (.lst z (Bu P e) n c)))
 |some (.array n e)=>Aq (P.info? e).isSome (
  match x with
  |.ptr id off=>Ez (rdf id) fun c=>Aq (decide (1<=n*Bu P e)&&decide (off+n*Bu P e<=c.length))<|Od lo 0 fun l=>Od hi n fun h=>Aq (decide (l<=h)&&decide (h<=n)) (Aa (off+l*Bu P e) fun o=>Aa (h-l) fun n=>K (.view id (Bu P e) o n))
  |_=>none)
 |_=>none
def X1 (x:PV)(d:Nat)(K:PV->Option R):Option R:=
 match x with
 |.ptr id off=>K (.ptr id (off+d))
 |.iptr c off=>K (.iptr c (off+d))
 |_=>none
def Ajv (P:Program)(e:TypeId):Bool:=(P.info? e).isSome
def Tv (P:Program)(t:TypeId)(f:Nat):Option (Nat × TypeId):=
 match P.underlying t with
 |some (.struct fs)=>(fs[f]?).map fun g=>(g.offset,g.type)
 |_=>none
def M2 (P:Program)(t:TypeId)(x:PV)(i:Int)(K:PV->Option R):Option R:=
 match P.underlying t with
 |some (.array n e)=>Aq (Ajv P e) (Aq (decide (0<=i)&&decide (i<n)) (X1 x (i.toNat*Bu P e) K))
 |some (.slice e)=>Aq (Ajv P e) (
  match x with
  |.view id es off n=>Aq (Nat.beq es (Bu P e)) (Aq (decide (0<=i)&&decide (i<n)) (K (.ptr id (off+i.toNat*es))))
  |x=>Ih (Bu P e) x fun _ n c=>Aq (decide (0<=i)&&decide (i<n)) (K (.iptr c (i.toNat*Bu P e))))
 |_=>none
def Ajl (P:Program)(rdf:Nat->Option (List PV)) (t:TypeId)(x:PV)(K:PV->Option R):Option R:=
 match x with
 |.ptr id off=>Aq (Kg P t) (Ez (rdf id) fun c=>Sr (Jg P t) c off fun cs=>mkV (Df P t) cs K)
 |.iptr c off=>Aq (Kg P t) (Xy (Jg P t) c off fun cs=>mkV (Df P t) cs K)
 |_=>none
def Ay4:PV->PV
 |.lst _ es n c=>.lst false es n c
 |p=>p
def Azh:PV->PV
 |.agg cs=>.agg (cs.map Ay4)
 |p=>Ay4 p
def Aea (P:Program)(rdf rdaf:Nat->Option (List PV)) (t:TypeId)(x:PV)(K:PV->Option R):Option R:=
 match x with
 |.ptr id off=>Aq (Kg P t) (
  match rdaf id with
  |some c=>Xy (Jg P t) c off fun cs=>mkV (Df P t) cs fun v=>K (Azh v)
  |none=>Ez (rdf id) fun c=>Sr (Jg P t) c off fun cs=>mkV (Df P t) cs K)
 |.iptr c off=>Aq (Kg P t) (Xy (Jg P t) c off fun cs=>mkV (Df P t) cs fun v=>K (Azh v))
 |_=>none
def B8 (cells new:List PV)(off:Nat):List PV:=cells.take off++new++cells.drop (off+new.length)
def okP:PV->Bool
 |.agg _=>true
 |.lst _ _ _ _=>true
 |.view _ _ _ _=>true
 |.sc (.int _ _)=>true
 |.sc (.bool _)=>true
 |.sc (.string _)=>true
 |.sc (.slice none 0 0)=>true
 |_=>false
def X6 (H8:Nat->Option (Nat × Nat)):List (Nat × PV)->List PV->(List PV->Option R)->Option R
 |[],cells,K=>K cells
 |(i,p)::r,cells,K=>Ez (H8 i) fun q=>Aq (okP p&&Nat.beq (cellsOf p).length q.2&&Nat.ble (q.1+q.2) cells.length) (Aa (B8 cells (cellsOf p) q.1) fun cells=>X6 H8 r cells K)
def Vq (P:Program)(t:TypeId)(i:Nat):Option (Nat × Nat):=
 match P.underlying t with
 |some (.struct fs)=>(fs[i]?).map fun f=>(f.offset,Bu P f.type)
 |some (.array _ e)=>some (i*Bu P e,Bu P e)
 |some (.slice e)=>some (i*Bu P e,Bu P e)
 |_=>none
def Te (P:Program)(t:TypeId):Bool:=
 match P.underlying t with
 |some (.struct fs)=>fs.toList.all fun f=>Ajv P f.type
 |some (.array _ e)=>Ajv P e
 |some (.slice e)=>Ajv P e
 |_=>false
def Aas (P:Program)(t:TypeId):Option Value:=(P.info? t).bind (·.zero)
def Ia (P:Program)(t:TypeId)(K:List PV->Option R):Option R:=
 Ez (Aas P t) fun v=>Aq (Nat.beq v.cells.toList.length (Jg P t).length&&Kg P t) (Xy (Jg P t) (v.cells.toList.map .sc) 0 K)
def Xh (P:Program)(t:TypeId):Bool:=
 match P.underlying t with
 |some (.array _ _)=>true
 |_=>false
def A00 (P:Program)(t:TypeId)(cells:List PV):Ck:=bif Xh P t then .ar false cells else .st cells
def Wr (n:Nat)(l:List PV):List PV:=(List.replicate n l).flatten
def A4b (a b:PV)(K:PV->Option R):Option R:=Ec a fun k x=>Af k b fun y=>Aa (if y<x then y else x) fun n=>K (.sc (.int k n))
def A5c (a b:PV)(K:PV->Option R):Option R:=Ec a fun k x=>Af k b fun y=>Aa (if x<y then y else x) fun n=>K (.sc (.int k n))
def Awx (P:Program)(t:TypeId)(x:PV)(K:Nat->Option R):Option R:=
 match P.underlying t with
 |some .string=>Cn x fun s=>K s.size
 |some (.array n _)=>K n
 |some (.slice e)=>
  match x with
  |.view _ es _ n=>Aq (Nat.beq es (Bu P e)) (K n)
  |x=>Ih (Bu P e) x fun _ n _=>K n
 |_=>none
end
abbrev Am:=FuncId->List PV->Option Ay
section
variable {R:Type}
def Kz (P:Program)(ts:List TypeId):Bool:=ts.any fun t=>(Ac0 P t).isSome||(Jg P t).any fun c=>match c with | .sl _=>true|_=>false
def Aey (P:Program)(t:TypeId)(tm:Nat->PV)(x:Operand)(K:PV->Option R):Option R:=
 match x with
 |.const v=>cvK P t v K
 |x=>K (C1 tm x)
def Apk (P:Program)(e:TypeId):Bool:=
 match P.info? e with
 |some i=>(match i.zero with|some z=>Nat.beq z.cells.size i.size|none=>false)
 |none=>false
def At8 (P:Program)(rdaf:Nat->Option (List PV)) (es:Nat)(t:TypeId)(x:PV)(K:Nat->List PV->Option R):Option R:=
 match P.underlying t with
 |some .string=>Aq (Nat.beq es 1) (Cn x fun b=>K b.size (Co b))
 |some (.slice _)=>Aty rdaf es x K
 |_=>none
abbrev Asy (P:Program)(s:St)(es:Nat)(t:TypeId)(x:PV)(K:Nat->List PV->Option R):Option R:=At8 P (L5 s.hp) es t x K
def Acw (c:Call):Bool:=
 match c.args.toList with
 |.const (.slice none 0 0)::_=>true
 |_=>false
def Yl (P:Program)(rdaf:Nat->Option (List PV)) (d:Nat)(t tx:TypeId)(x:PV)(K:PV->List (Nat × Ck)->Option R):Option R:=
 match P.underlying t with
 |some (.slice e)=>Aq (Apk P e) <|
  At8 P rdaf (Bu P e) tx x fun m new=>
   Aq (decide (new.length=m*Bu P e)&&decide (m*((P.info? e).map (·.bytes)).getD 0<=1099511627776)&&decide (m<=1099511627776)) (K (.view d (Bu P e) 0 m) [(d,.ar false new)])
 |_=>none
def Kq (k:Bool):List Operand->List PV->List PV
  |x::xs,p::ps=>
    (match x,p with
     |.const (.slice none 0 0),.lst z es 0 []=>.lst (k||z) es 0 []
     |_,p=>p)::Kq k xs ps
  |_,ps=>ps
def Axm (P:Program)(t:TypeId)(x:PV)(K:Nat->Option R):Option R:=
 match P.underlying t with
 |some (.slice e)=>Ih (Bu P e) x fun z _ _=>Aq z (K 0)
 |_=>none
def Akg (P:Program)(f:FuncId)(c:Call):List TypeId:=
 match P.funcs[f]? with
 |some fn=>fn.params.toList
 |none=>c.argTypes.toList
def Ai9 (C:Jf)(P:Program)(N:Nat)(call:Am)(tm:Nat->PV)(rdaf:Nat->Option (List PV)) (o:Oper)(c:Call)(f:FuncId)(K:PV->List Nat->List (Nat × Ck)->Option R):Option R:=
 Akp P rdaf (Akg P f c) (c.args.toList.map (C1 tm)) fun vs m=>
  Ag (call f (Kq (C.kz f) c.args.toList vs)) fun rv ro=>Ac ro (Aq (Nat.blt 0 N)<|Agq P (C.shr f) N (o.dst.getD 0) (P8 P o.type) rv fun ws bs=>
   Aq (bif R9 P o.type then !Nat.beq ws.length 1 else Nat.beq ws.length 1)<|K (Q4 ws (R9 P o.type)) (bif Kz P (P8 P o.type) then m else []) bs)
def Ajq (C:Jf)(P:Program)(N:Nat)(call:Am)(tm:Nat->PV)(rdf rdaf:Nat->Option (List PV)) (o:Oper)(K:PV->List Nat->List (Nat × Ck)->Option R):Option R:=
  match o.op with
  |.move x=>Aey P o.type tm x fun p=>K p [] []
  |.assign x=>Aey P o.type tm x fun p=>K p [] []
  |.pick c a b=>Bz (C1 tm c) fun t=>A4 t (K (C1 tm a) [] []) (K (C1 tm b) [] [])
  |.alloc t=>Ez o.dst fun d=>Ia P t fun cs=>K (.ptr d 0) [] [(d,A00 P t cs)]
  |.box t x=>Ez o.dst fun d=>Aq (Kg P t&&Nat.beq (cellsOf (C1 tm x)).length (Jg P t).length)
      (bif Xh P t then Xy (Jg P t) (cellsOf (C1 tm x)) 0 fun cs=>K (.ptr d 0) [] [(d,.ar false cs)]
       else Sr (Jg P t) (cellsOf (C1 tm x)) 0 fun cs=>K (.ptr d 0) [] [(d,.st cs)])
  |.build t ps=>Aq (Te P t&&Df P t)<|Ia P t fun z=>X6 (Vq P t) (ps.toList.map fun q=>(q.1,C1 tm q.2)) z fun cs=>Sr (Jg P t) cs 0 fun cs'=>K (.agg cs') [] []
  |.buildSlice t n ps=>Ez o.dst fun d=>
      match P.underlying t with
      |some (.slice e)=>Aq (Te P t&&Nat.ble (n*Bu P e) 16777216) (Ia P e fun z=>X6 (Vq P t) (ps.toList.map fun q=>(q.1,C1 tm q.2)) (Wr n z) fun cs=>
          P3 rdaf (List.replicate n (Jg P e)).flatten cs fun cs' m=>K (.view d (Bu P e) 0 n) m [(d,.ar false cs')])
      |_=>none
  |.load t a=>Aea P rdf rdaf t (C1 tm a) fun v=>K v [] []
  |.nilCheck x=>X1 (C1 tm x) 0 fun p=>K p [] []
  |.binOp op t x y _=>
      Y2 P op t (C1 tm x) (C1 tm y) fun v=>K v [] []
  |.unOp op _ x=>unK op (C1 tm x) fun v=>K v [] []
  |.convert src dst x=>Ai4 P rdaf (o.dst.getD 0) src dst (C1 tm x) fun v b=>Ez o.dst fun _=>K v [] b
  |.makeSlice t l c=>Ez o.dst fun d=>
      match P.underlying t with
      |some (.slice e)=>Ec (C1 tm l) fun _ n=>Ec (C1 tm c) fun _ m=>
          Aq (decide (0<=n)&&decide (n<=m)&&decide (m*((P.info? e).map (·.bytes)).getD 0<=1099511627776)&&decide (m<=1099511627776))
            (Ia P e fun z=>K (.view d (Bu P e) 0 n.toNat) [] [(d,.ar false (Wr n.toNat z))])
      |_=>none
  |.slice t x lo hi mx=>
      match mx with
      |none=>Aep P rdf t (C1 tm x) (lo.map (C1 tm)) (hi.map (C1 tm)) fun v=>K v [] []
      |some _=>none
  |.fieldAddr t x f=>Ez (Tv P t f) fun q=>Aq (Nat.ble 1 (Bu P q.2)) (X1 (C1 tm x) q.1 fun p=>K p [] [])
  |.field t x f=>Ez (Tv P t f) fun q=>Aq (Kg P q.2)<|Cu (C1 tm x) fun cs=>Sr (Jg P q.2) cs q.1 fun c=>mkV (Df P q.2) c fun v=>K v [] []
  |.indexAddr t x i=>Ec (C1 tm i) fun _ n=>M2 P t (C1 tm x) n fun p=>K p [] []
  |.index t x i=>Ec (C1 tm i) fun _ n=>
      match P.underlying t with
      |some .string=>Cn (C1 tm x) fun s=>Aq (decide (0<=n)) (Ez (s.data.toList[n.toNat]?) fun b=>K (.sc (.int .u8 b.toNat)) [] [])
      |some (.array len e)=>Cu (C1 tm x) fun cs=>Aq (decide (0<=n)&&decide (n<len)&&Kg P e) (Sr (Jg P e) cs (n.toNat*Bu P e) fun c=>mkV (Df P e) c fun v=>K v [] [])
      |_=>none
  |.extract x i=>
      match C1 tm x with
      |.tup vs=>Ez vs[i]? fun p=>K p [] []
      |_=>none
  |.call c=>
      match c.callee with
      |.builtin .len=>Ab c.args.toList fun x _=>Ab c.argTypes.toList fun t _=>Awx P t (C1 tm x) fun n=>K (.sc (.int .i64 n)) [] []
      |.builtin .cap=>Ab c.args.toList fun x _=>Ab c.argTypes.toList fun t _=>Axm P t (C1 tm x) fun n=>K (.sc (.int .i64 n)) [] []
      |.builtin .min=>Ab c.args.toList fun x r=>Ab r fun y r'=>Ac r' (A4b (C1 tm x) (C1 tm y) fun v=>K v [] [])
      |.builtin .max=>Ab c.args.toList fun x r=>Ab r fun y r'=>Ac r' (A5c (C1 tm x) (C1 tm y) fun v=>K v [] [])
      |.builtin .append=>Aq (Acw c) (Ez o.dst fun d=>Ab c.args.toList fun _ r=>Ab r fun x r'=>Ac r' (Ab c.argTypes.toList fun t u=>Ab u fun tx _=>Yl P rdaf d t tx (C1 tm x) fun v nw=>K v [] nw))
      |.value (.func f)=>Ai9 C P N call tm rdaf o c f K
      |.value (.tmp t)=>fvK (tm t) fun f=>Ai9 C P N call tm rdaf o c f K
      |_=>none
  |_=>none
def Vo (C:Jf)(P:Program)(o:Op):Bool:=
 match o with
 |.store .. =>true
 |.call c=>
  match c.callee with
  |.builtin .append=> !Acw c
  |.builtin .copy=>true
  |.builtin _=>false
  |.value (.func f)=>((Akg P f c).any fun t=>(Ac0 P t).isSome)||((Akg P f c).zipIdx.any fun q=>C.mvd f q.2||C.lnd f q.2)
  |_=>false
 |_=>false
def W8 (b:Ck):Ck:=
 match b with
 |.ar _ c=>.ar true c
 |b=>b
def Ao (hp:Nat->Option Ck)(ids:List Nat):Nat->Option Ck:=fun i=>bif ids.any (Nat.beq i) then (hp i).map W8 else hp i
def Be (hp:Nat->Option Ck):List (Nat × Ck)->Nat->Option Ck
 |[]=>hp
 |(i,b)::r=>Be (Dg hp i (some b)) r
def Cp (hp:Nat->Option Ck):List (Nat × Ck)->Bool
 |[]=>true
 |(i,_)::r=>(hp i).isNone && !(r.any fun q=>Nat.beq q.1 i)&&Cp hp r
def Cb (tm:Nat->PV)(d:Option Tmp)(v:PV):Nat->PV:=
 match d with
 |some i=>Dg tm i v
 |none=>tm
def Hm (N:Nat)(d:Option Tmp):Bool:=
 match d with
 |some i=>Nat.blt i N
 |none=>true
def Afv (N:Nat)(s:St)(d:Option Tmp)(v:PV)(fz:List Nat)(nw:List (Nat × Ck)) (K:St->Option R):Option R:=
 Aq (Hm N d&&Cp s.hp nw) (K ⟨Cb s.tm d v,Be (Ao s.hp fz) nw⟩)
def Afu (P:Program)(s:St)(t:TypeId)(a x:PV)(K:St->Option R):Option R:=
 match a with
 |.ptr id off=>
  match s.hp id with
  |some (.st c)=>Aq (Kg P t&&Nat.beq (cellsOf x).length (Jg P t).length&&decide (off+(Jg P t).length<=c.length)) (Sr (Jg P t) (cellsOf x) 0 fun cs=>Aa (B8 c cs off) fun c=>K ⟨s.tm,Dg s.hp id (some (.st c))⟩)
  |some (.ar false c)=>Aq (Kg P t&&decide (off+(Jg P t).length<=c.length)) (P3 (L5 s.hp) (Jg P t) (cellsOf x) fun cs m=>Aq (!m.any (Nat.beq id)) (Aa (B8 c cs off) fun c=>K ⟨s.tm,Dg (Ao s.hp m) id (some (.ar false c))⟩))
  |_=>none
 |_=>none
def Adv (P:Program)(t:TypeId):Bool:=
 match P.underlying t with
 |some (.int _)=>true
 |_=>false
def W7 (P:Program)(N:Nat)(s:St)(d:Nat)(e:TypeId)(b x:PV)(K:St->Option R):Option R:=
 Ec x fun _ n=>Ih (Bu P e) b fun z _ _=>
  Aq (z&&Nat.blt d N&&(s.hp d).isNone&&decide (0<=n)&&decide (n.toNat*((P.info? e).map (·.bytes)).getD 0<=1099511627776)&&decide (n<=1099511627776))
   (K ⟨Dg s.tm d (.view d (Bu P e) 0 n.toNat),Dg s.hp d (some (.ar false []))⟩)
def R4 (P:Program)(N:Nat)(s:St)(d:Nat)(t tx:TypeId)(b x:PV)(K:St->Option R):Option R:=
 match P.underlying t with
 |some (.slice e)=>Aq (Apk P e) <|
  bif Adv P tx then W7 P N s d e b x K else
  Asy P s (Bu P e) tx x fun m new=>
  match b with
  |.view id es off n=>
   match s.hp id with
   |some (.ar false c)=>
    Aq (Nat.beq es (Bu P e)&&Nat.beq off 0&&Nat.blt d N&&(s.hp d).isNone&&decide (n*es<=c.length)&&decide (new.length=m*es)
     && decide ((n+m)*((P.info? e).map (·.bytes)).getD 0<=1099511627776)&&decide (n+m<=1099511627776))
     (Aa (n+m) fun n'=>Aa (c.take (n*es)++new) fun c=>K ⟨Dg s.tm d (.view d es 0 n'),Dg (Dg s.hp id (some .mv)) d (some (.ar false c))⟩)
   |_=>none
  |b=>Ih (Bu P e) b fun z _ _=>
    Aq (z&&Nat.blt d N&&(s.hp d).isNone&&decide (new.length=m*Bu P e)&&decide (m*((P.info? e).map (·.bytes)).getD 0<=1099511627776)&&decide (m<=1099511627776))
     (K ⟨Dg s.tm d (.view d (Bu P e) 0 m),Dg s.hp d (some (.ar false new))⟩)
 |_=>none
def An6 (P:Program)(N:Nat)(s:St)(d:Option Tmp)(t tx:TypeId)(b x:PV)(K:St->Option R):Option R:=
 match P.underlying t with
 |some (.slice e)=>Aq (Ajv P e&&Hm N d) <|
  Asy P s (Bu P e) tx x fun m new=>
  match b with
  |.view id es off n=>
   match s.hp id with
   |some (.ar false c)=>Aq (Nat.beq es (Bu P e)&&decide (off+n*es<=c.length)&&decide (new.length=m*es))
     (Aa (min m n) fun k=>Aa (B8 c (new.take (k*es)) off) fun c=>K ⟨Cb s.tm d (.sc (.int .i64 k)),Dg s.hp id (some (.ar false c))⟩)
   |_=>none
  |_=>none
 |_=>none
def Aw5 (mv:Bool)(hp:Nat->Option Ck)(t:CT)(p:PV)(K:PV->List Nat->List Nat->Option R):Option R:=
 match t with
 |.sl es=>
  bif mv then
   match p with
   |.view id es' off n=>
    match hp id with
    |some (.ar false c)=>
     bif Nat.beq es' es&&Nat.beq off 0 then Aq (decide (n*es<=c.length)) (K (.own es n (c.take (n*es))) [] [id])
     else Re (L5 hp) (.sl es) (.view id es' off n) fun c m=>K c m []
    |_=>Re (L5 hp) (.sl es) (.view id es' off n) fun c m=>K c m []
   |p=>Ih es p fun z n c=>bif z then K (.own es 0 []) [] [] else K (.lst false es n c) [] []
  else Re (L5 hp) (.sl es) p fun c m=>K c m []
 |t=>tcK t p fun c=>K c [] []
def Ag1 (mv:Bool)(hp:Nat->Option Ck):List CT->List PV->(List PV->List Nat->List Nat->Option R)->Option R
 |[],[],K=>K [] [] []
 |t::ts,p::ps,K=>Aw5 mv hp t p fun c m x=>Ag1 mv hp ts ps fun cs ms xs=>K (c::cs) (m++ms) (x++xs)
 |_,_,_=>none
inductive Hw where
 |var (id off:Nat) (cts:List CT) (ws:List PV)
 |row (id:Nat)
 |none
def Hw.ids:Hw->List Nat
 |.var id _ _ _=>[id]
 |.row id=>[id]
 |.none=>[]
def Bah (P:Program)(t:TypeId):Option TypeId:=
 match P.underlying t with
 |some (.slice e)=>some e
 |_=>none
def A0t (hp:Nat->Option Ck)(es:Nat)(p:PV)(K:PV->List Hw->Option R):Option R:=
 match p with
 |.view id es' off n=>
  match hp id with
  |some (.ar false c)=>Aq (Nat.beq es' es&&Nat.beq off 0) (K (.tup [.own es n c]) [.row id])
  |_=>none
 |p=>Ih es p fun z _ _=>Aq z (K (.tup [.own es 0 []]) [.none])
def Ae9 (C:Jf)(P:Program)(f:FuncId)(hp:Nat->Option Ck)(i:Nat)(t:TypeId)(p:PV)(K:PV->List Nat->List Nat->List Hw->Option R):Option R:=
 match Ac0 P t with
 |some e=>
  match p with
  |.ptr id off=>
   match hp id with
   |some (.st c)=>Aq (Kg P e&&decide (off+(Jg P e).length<=c.length)) (Ag1 (C.mvd f i) hp (Jg P e) ((c.drop off).take (Jg P e).length) fun cs m x=>K (.pbox cs) m x [.var id off (Jg P e) cs])
   |_=>none
  |_=>none
 |none=>
  bif C.lnd f i then Ez (Bah P t) fun e=>A0t hp (Bu P e) p fun v l=>K v [] [] l
  else bif Df P t then Cu p fun ps=>Ag1 (C.mvd f i) hp (Jg P t) ps fun cs m x=>K (.agg cs) m x []
  else Ag1 (C.mvd f i) hp (Jg P t) [p] fun cs m x=>Ab cs fun c r=>Ac r (K c m x [])
def Ant (C:Jf)(P:Program)(f:FuncId)(hp:Nat->Option Ck):Nat->List TypeId->List PV->(List PV->List Nat->List Nat->List Hw->Option R)->Option R
 |_,[],[],K=>K [] [] [] []
 |i,t::ts,p::ps,K=>Ae9 C P f hp i t p fun v m x l=>Ant C P f hp (i+1) ts ps fun vs ms xs ls=>K (v::vs) (m++ms) (x++xs) (l++ls)
 |_,_,_,_=>none
def Yb (hp:Nat->Option Ck)(ids:List Nat):Nat->Option Ck:=fun i=>bif ids.any (Nat.beq i) then (hp i).map (fun _=>Ck.mv) else hp i
def nid (N t:Nat):Nat:=N*(1000+t)
def Ark (N:Nat)(hp:Nat->Option Ck):Nat->Nat->Nat
 |0,t=>t
 |k+1,t=>bif (hp (nid N t)).isNone then t else Ark N hp k (t+1)
def Aw6 (N t:Nat)(ct:CT)(was p:PV)(K:Nat->PV->List (Nat × Ck)->Option R):Option R:=
 match ct with
 |.sl es=>
  match was with
  |.own _ _ _=>Dk es p fun n c=>K (t+1) (.view (nid N t) es 0 n) [(nid N t,.ar false c)]
  |_=>Ih es p fun _ n c=>K t (.lst false es n c) []
 |ct=>tcK ct p fun c=>K t c []
def An5 (N:Nat):Nat->List CT->List PV->List PV->(Nat->List PV->List (Nat × Ck)->Option R)->Option R
 |t,[],[],ps,K=>Ac ps (K t [] [])
 |t,ct::cts,w::ws,ps,K=>Ab ps fun p ps=>Aw6 N t ct w p fun t' c b=>An5 N t' cts ws ps fun t'' cs bs=>K t'' (c::cs) (b++bs)
 |_,_,_,_,_=>none
def Aa6 (N:Nat):Nat->List Hw->List (List PV)->(Nat->Option Ck)->((Nat->Option Ck)->List (Nat × Ck)->Option R)->Option R
 |_,[],ro,hp,K=>Ac ro (K hp [])
 |t,.var id off cts ws::l,ro,hp,K=>Ab ro fun cs ro=>An5 N t cts ws cs fun t' cs' bs=>
   match hp id with
   |some (.st c)=>Aa (B8 c cs' off) fun c=>Aa6 N t' l ro (Dg hp id (some (.st c))) fun hp' bs'=>K hp' (bs++bs')
   |_=>none
 |t,.row id::l,ro,hp,K=>Ab ro fun cs ro=>Aa6 N t l ro (Dg hp id (some (.ar false cs))) K
 |t,.none::l,ro,hp,K=>Ab ro fun _ ro=>Aa6 N t l ro hp K
def Ey:List Nat->Bool
 |[]=>true
 |a::r=> !(r.any (Nat.beq a))&&Ey r
def Aft (C:Jf)(P:Program)(N:Nat)(call:Am)(s:St)(o:Oper)(f:FuncId)(c:Call)(K:St->Option R):Option R:=
 Ant C P f s.hp 0 (Akg P f c) (c.args.toList.map (C1 s.tm)) fun vs m x l=>
  Aq (Ey (l.flatMap Hw.ids++x)&&m.all (fun i=> !((l.flatMap Hw.ids++x).any (Nat.beq i)))&&Nat.blt 0 N&&Hm N o.dst) <|
  Ag (call f (Kq (C.kz f) c.args.toList vs)) fun rv ro=>
   Agq P (C.shr f) N (o.dst.getD N) (P8 P o.type) rv fun ws bs=>
    Aq (bif R9 P o.type then !Nat.beq ws.length 1 else Nat.beq ws.length 1) <|
    Bbv (Ark N s.hp 100 0) fun t0=>Aa6 N t0 l ro (Yb (Ao s.hp m) x) fun hp' bs'=>
     Aq (Cp hp' (bs++bs')) (K ⟨Cb s.tm o.dst (Q4 ws (R9 P o.type)),Be hp' (bs++bs')⟩)
def Zn (C:Jf)(P:Program)(N:Nat)(call:Am)(s:St)(o:Oper)(K:St->Option R):Option R:=
 match o.op with
 |.store t a x=>Aq (o.dst.isNone) (Afu P s t (C1 s.tm a) (C1 s.tm x) K)
 |.call c=>
  match c.callee with
  |.builtin .append=>Ez o.dst fun d=>Ab c.args.toList fun b r=>Ab r fun x r'=>Ac r' (Ab c.argTypes.toList fun t u=>Ab u fun tx _=>R4 P N s d t tx (C1 s.tm b) (C1 s.tm x) K)
  |.builtin .copy=>Ab c.args.toList fun b r=>Ab r fun x r'=>Ac r' (Ab c.argTypes.toList fun t u=>Ab u fun tx _=>An6 P N s o.dst t tx (C1 s.tm b) (C1 s.tm x) K)
  |.value (.func f)=>Aft C P N call s o f c K
  |_=>none
 |_=>none
def Arh (C:Jf)(P:Program)(N:Nat)(call:Am)(o:Oper)(s:St)(K:St->Option R):Option R:=
 bif Vo C P o.op then Zn C P N call s o K
 else Ajq C P N call s.tm (rd s.hp) (L5 s.hp) o fun v fz nw=>Afv N s o.dst v fz nw K
def Ee (C:Jf)(P:Program)(N:Nat)(call:Am)(ops:Array Oper)(o:Oper)(s:St)(K:St->Option R):Option R:=
 match o.guard with
 |none=>Arh C P N call o s K
 |some (j,want)=>
  match (ops[j]?).bind (·.dst) with
  |none=>none
  |some d=>
   match s.tm d with
   |.sc (.bool b)=>
    A4 b (bif want then Arh C P N call o ⟨Dg s.tm d (.sc (.bool true)),s.hp⟩ K else Aq (Hm N o.dst) (K ⟨Cb (Dg s.tm d (.sc (.bool true))) o.dst (.sc undef),s.hp⟩))
     (bif want then Aq (Hm N o.dst) (K ⟨Cb (Dg s.tm d (.sc (.bool false))) o.dst (.sc undef),s.hp⟩) else Arh C P N call o ⟨Dg s.tm d (.sc (.bool false)),s.hp⟩ K)
   |.sc (.tuple _)=>Aq (Hm N o.dst) (K ⟨Cb s.tm o.dst (.sc undef),s.hp⟩)
   |_=>none
def R7 (C:Jf)(P:Program)(N:Nat)(call:Am)(ops:Array Oper):List Oper->St->(St->Option R)->Option R
 |[],s,K=>K s
 |o::r,s,K=>Ee C P N call ops o s fun s'=>R7 C P N call ops r s' K
noncomputable def Aaa (x y:Option R):Option R:=open Classical in if x=y then x else none
noncomputable def Au4 (ops:Array Oper)(o:Oper)(s:St)(F:St->Option R):Option R:=
 match o.guard with
 |none=>F s
 |some (j,_)=>
  match (ops[j]?).bind (·.dst) with
  |none=>F s
  |some d=>
   match s.tm d with
   |.ub=>Aaa (F ⟨Dg s.tm d (.sc (.bool true)),s.hp⟩) (F ⟨Dg s.tm d (.sc (.bool false)),s.hp⟩)
   |_=>F s
noncomputable def Aob (C:Jf)(P:Program)(N:Nat)(call:Am)(ops:Array Oper):List Oper->St->(St->Option R)->Option R
 |[],s,K=>K s
 |o::r,s,K=>Au4 ops o s fun s1=>Ee C P N call ops o s1 fun s'=>Aob C P N call ops r s' K
end
def A0e (o:Oper):List Nat:=o.op.operands.toList.filterMap fun x=>match x with | .tmp t=>some t|_=>none
def looks (ops:Array Oper)(o:Oper):List Nat:=
 A0e o++(match o.guard with|some (g,_)=>((ops[g]?).bind (·.dst)).toList|none=>[])
def I0 (P:Program)(o:Op):Bool:=
 match o with
 |.slice t .. =>match P.underlying t with|some (.array _ _)=>true|_=>false
 |.buildSlice t _ _=>match P.underlying t with|some (.slice e)=>Kz P [e]|_=>true
 |.convert _ dst _=>match P.underlying dst with|some .string=>true|_=>false
 |.alloc _ | .box .. | .makeSlice .. =>false
 |.move _ | .assign _ | .pick .. | .build .. | .binOp .. | .unOp .. | .fieldAddr .. | .field .. | .index .. | .indexAddr .. | .extract .. | .nilCheck _=>false
 |.call c=>match c.callee with | .builtin .len=>false | .builtin .min=>false | .builtin .max=>false|_=>true
 |_=>true
def Ako (C:Jf)(P:Program)(ops:Array Oper)(x y:Oper):Bool:=
 (match x.dst with|some d=>(looks ops y).any (Nat.beq d)||(match y.dst with|some e=>Nat.beq d e|none=>false)|none=>false) ||
 (match y.dst with|some e=>(looks ops x).any (Nat.beq e)|none=>false) ||
 (Vo C P x.op&&I0 P y.op)||(Vo C P y.op&&I0 P x.op)
def Kn (ops:List Oper):List Nat->List Nat
 |acc=>match ops with
  |[]=>acc
  |o::r=>Kn r (acc++[o.after.toList.foldl (fun s e=>bif Region.binds .any e then s ||| 2 ^ e.on ||| acc.getD e.on 0 else s) 0])
def Ah3 (C:Jf)(P:Program)(ops:Array Oper)(bs:List Nat):List Oper->Nat->Bool
 |[],_=>true
 |o::r,i=>(ops.toList.zipIdx.all fun q=> !Nat.blt q.2 i || !Ako C P ops q.1 o||(bs.getD i 0).testBit q.2)&&Ah3 C P ops bs r (i+1)
def Ar7 (C:Jf)(P:Program)(ops:Array Oper):Bool:=
 ops.toList.zipIdx.all (fun q=>q.1.after.toList.all fun e=> !Region.binds .any e||Nat.blt e.on q.2)&&Ah3 C P ops (Kn ops.toList []) ops.toList 0
def Bd:PV->List Nat
 |.view id _ _ _=>[id]
 |.ptr id _=>[id]
 |_=>[]
def Dc:PV->List Nat
 |.agg cs=>cs.flatMap Bd
 |p=>Bd p
def Cs:PV->List Nat
 |.tup ps=>ps.flatMap Dc
 |p=>Dc p
def W5 (P:Program)(o:Op):Bool:=
 match o with
 |.load .. =>true
 |.convert _ dst _=>(match P.underlying dst with|some .string=>true|_=>false)
 |_=>false
def Qq (o:Op):Bool:=
 match o with
 |.call c=>(match c.callee with | .builtin .append=> !Acw c|_=>false)
 |_=>false
def Azu (ops:Array Oper)(x y:Oper):Bool:=
 (match x.dst with|some d=>(looks ops y).any (Nat.beq d)||(match y.dst with|some e=>Nat.beq d e|none=>false)|none=>false) ||
 (match y.dst with|some e=>(looks ops x).any (Nat.beq e)|none=>false)
def Vs (C:Jf)(P:Program)(x y:Oper):Bool:=(Vo C P x.op&&I0 P y.op)||(Vo C P y.op&&I0 P x.op)
def Mc (C:Jf)(P:Program)(x y:Oper):Bool:=(Vo C P x.op&&W5 P y.op)||(Vo C P y.op&&W5 P x.op)||(Qq x.op&&Qq y.op)
def A1o (C:Jf)(P:Program)(ops:Array Oper)(x y:Oper):Bool:=Azu ops x y||(Vs C P x y && !Mc C P x y)
def Ad7 (C:Jf)(P:Program)(ops:Array Oper)(bs:List Nat):List Oper->Nat->Bool
 |[],_=>true
 |o::r,i=>(ops.toList.zipIdx.all fun q=> !Nat.blt q.2 i || !A1o C P ops q.1 o||(bs.getD i 0).testBit q.2)&&Ad7 C P ops bs r (i+1)
def Aol (C:Jf)(P:Program)(ops:Array Oper):Bool:=
 ops.toList.zipIdx.all (fun q=>q.1.after.toList.all fun e=> !Region.binds .any e||Nat.blt e.on q.2)&&Ad7 C P ops (Kn ops.toList []) ops.toList 0
def Pb (C:Jf)(P:Program)(s:St)(o:Oper):List Nat:=
 let l:=o.op.operands.toList.flatMap fun y=>Cs (C1 s.tm y)
 bif Vo C P o.op && !Qq o.op then l++l.flatMap (fun i=>match s.hp i with|some (.st c)=>c.flatMap Bd|_=>[])
 else bif W5 P o.op||Qq o.op then l else []
def Axb (a b:List Nat):Bool:=a.all fun i=> !b.any (Nat.beq i)
def Aei (C:Jf)(P:Program)(ops:Array Oper)(bs:List Nat)(i:Nat)(o:Oper):List Nat:=
 (ops.toList.zipIdx.filter fun q=>Mc C P q.1 o && !(Nat.blt q.2 i&&(bs.getD i 0).testBit q.2) && !(Nat.blt i q.2&&(bs.getD q.2 0).testBit i)).map (·.2)
def Aiq (C:Jf)(P:Program)(ops:Array Oper)(bs:List Nat):List (List Nat):=ops.toList.zipIdx.map fun q=>Aei C P ops bs q.2 q.1
def rch (C:Jf)(P:Program)(sm:List (List Nat)) (s:St)(i:Nat)(o:Oper):List Nat:=
 match sm.getD i [] with
 |[]=>[]
 |_::_=>Pb C P s o
def Al5 (C:Jf)(P:Program)(sm:List (List Nat)) (s:St)(i:Nat)(o:Oper)(q:Nat × Oper × List Nat):Bool:=
 !((sm.getD i []).any (Nat.beq q.1))||Axb q.2.2 (rch C P sm s i o)
def Jy {R:Type}(C:Jf)(P:Program)(N:Nat)(call:Am)(ops:Array Oper)(sm:List (List Nat)):List (Nat × Oper × List Nat)->List Nat->St->(St->Option R)->Option R
 |_,[],s,K=>K s
 |dn,i::l,s,K=>Ez ops[i]? fun o=>Aq (dn.all (Al5 C P sm s i o)&&(rch C P sm s i o).all (fun k=>(s.hp k).isSome)) (Ee C P N call ops o s fun s'=>Jy C P N call ops sm ((i,o,rch C P sm s i o)::dn) l s' K)
def A1b (m i:Nat):Nat:=m ||| 2 ^ i
def Bbx (m i:Nat):Nat:=bif m.testBit i then m ^^^ 2 ^ i else m
def Awp (ops:Array Oper):List Oper->Nat->Nat
 |[],m=>m
 |o::r,m=>
  let m1:=Awp ops r m
  let m2:=match o.dst with|some d=>Bbx m1 d|none=>m1
  (looks ops o).foldl A1b m2
def Tg:Code->Nat->(Nat->Nat)->Nat->Nat
 |.skip,ln,_,_=>ln
 |.region _ ops _,ln,_,_=>Awp ops ops.toList ln
 |.seq a b,ln,lx,lr=>Tg a (Tg b ln lx lr) lx lr
 |.cond c a b,ln,lx,lr=>let m:=Tg a ln lx lr ||| Tg b ln lx lr;match c with | .tmp d=>A1b m d|_=>m
 |.block id c,ln,lx,lr=>Tg c ln (fun j=>bif Nat.beq j id then ln else lx j) lr
 |.loop c,_,lx,lr=>Tg c (Tg c 0 lx lr) lx lr
 |.exit id,_,lx,_=>lx id
 |.ret,_,_,lr=>lr
 |_,_,_,_=>0
def A0h (ops:List Oper):List Nat:=(ops.filterMap fun o=>o.guard.map (·.1)).eraseDups
def Aaj:Code->Nat
 |.region _ _ _=>1
 |.seq a b=>Aaj a+Aaj b
 |.cond _ a b=>Aaj a+Aaj b
 |.block _ c=>Aaj c
 |.loop c=>Aaj c
 |_=>0
def Aly:Code->Nat
 |.skip=>1
 |.region _ ops _=>2 ^ min 6 (A0h ops.toList).length
 |.seq a b=>bif (Nat.ble 7 (Aly a)&&Nat.ble 6 (Aaj b))||(Nat.ble 5 (Aly a)&&Nat.ble 9 (Aaj b)) then Aly b else min 1000 (Aly a*Aly b)
 |.cond _ a b=>Aly a+Aly b
 |.block _ c=>Aly c
 |.loop _=>1
 |.exit _=>1
 |_=>0
def A50 (P:Program)(o:Oper):Bool:=
 match o.op with
 |.load t _=>Xh P t&&Nat.ble 8 (Bu P t)
 |.store t _ _=>Xh P t&&Nat.ble 8 (Bu P t)
 |_=>false
def Arg (P:Program):Code->Bool
 |.region _ ops _=>ops.toList.any (A50 P)
 |.seq a _=>Arg P a
 |_=>false
def Awd (P:Program):Code->Bool
 |.region _ ops _=>ops.toList.any (A50 P)
 |.seq _ b=>Awd P b
 |_=>false
def Azx (P:Program)(a b:Code):Bool:=(Nat.ble 7 (Aly a)&&Nat.ble 6 (Aaj b))||(Nat.ble 5 (Aly a)&&Nat.ble 9 (Aaj b))||Arg P b||Awd P a
def W3 (m:Nat):Nat->List Nat
 |0=>[]
 |n+1=>W3 m n++(bif m.testBit n then [n] else [])
def lk (l:List (Nat × PV)) (i:Nat):PV:=
 match l with
 |[]=>.top
 |(j,p)::r=>bif Nat.beq i j then p else lk r i
def Gn (l:List (Nat × Ck)) (i:Nat):Option Ck:=
 match l with
 |[]=>none
 |(j,b)::r=>bif Nat.beq i j then some b else Gn r i
def Z1 (l:List (Nat × Nat)) (i:Nat):Option Nat:=
 match l with
 |[]=>none
 |(j,b)::r=>bif Nat.beq i j then some b else Z1 r i
def Aoy (s:St)(i:Nat):St:=
 match s.tm i with
 |.lst true es 0 []=>bif (s.hp i).isNone then ⟨Dg s.tm i (.view i es 0 0),Dg s.hp i (some (.ar false []))⟩ else s
 |_=>s
def Apd (N:Nat)(id:Nat)(s:St)(j:Nat):St:=
 match s.hp id with
 |some (.st c)=>
  match c[j]? with
  |some (.lst true es 0 [])=>bif (s.hp (id+N*(j+1))).isNone then ⟨s.tm,Dg (Dg s.hp id (some (.st (c.set j (.view (id+N*(j+1)) es 0 0))))) (id+N*(j+1)) (some (.ar false []))⟩ else s
  |_=>s
 |_=>s
def Au8 (N:Nat)(s:St)(i:Nat):St:=
 match s.tm i with
 |.ptr id _=>
  match s.hp id with
  |some (.st c)=>(List.range c.length).foldl (Apd N id) s
  |_=>s
 |_=>s
def Ani (m:List (Nat × Nat)) (old new:Nat):List (Nat × Nat):=
 match Z1 m old with
 |some _=>m
 |none=>m++[(old,new)]
def Vt (N new:Nat):List PV->Nat->List (Nat × Nat)->List (Nat × Nat)
 |[],_,m=>m
 |.view id _ _ _::r,j,m=>Vt N new r (j+1) (Ani m id (new+N*(j+1)))
 |_::r,j,m=>Vt N new r (j+1) m
def Ahz (N:Nat)(s:St)(m:List (Nat × Nat)) (i:Nat):List (Nat × Nat):=
 match s.tm i with
 |.view id _ _ _=>Ani m id i
 |.ptr id _=>
  match Z1 m id with
  |some _=>m
  |none=>
   match s.hp id with
   |some (.st c)=>Vt N i c 0 (Ani m id i)
   |_=>Ani m id i
 |.agg c=>Vt N i c 0 m
 |_=>m
def Auv (m:List (Nat × Nat)):PV->PV
 |.view id es off n=>match Z1 m id with|some j=>.view j es off n|none=>.top
 |.ptr id off=>match Z1 m id with|some j=>.ptr j off|none=>.top
 |.sc v=>.sc v
 |.lst z es n c=>.lst z es n c
 |.iptr c off=>.iptr c off
 |_=>.top
def Ayd (m:List (Nat × Nat)):PV->PV
 |.agg c=>.agg (c.map (Auv m))
 |p=>Auv m p
def A42 (m:List (Nat × Nat)):Ck->Ck
 |.st c=>.st (c.map (Auv m))
 |b=>b
def D9 (N i:Nat):Nat:=i+N*2000
def Arp (N:Nat)(hp:Nat->Option Ck):Nat->List (Nat × Nat)
 |0=>[]
 |i+1=>bif (hp (D9 N i)).isSome then Arp N hp i++[(D9 N i,D9 N i)] else Arp N hp i
def Xi (N:Nat)(hp:Nat->Option Ck):Nat->List (Nat × Nat)->List (Nat × Nat)
 |0,m=>m
 |i+1,m=>
  match hp (D9 N i) with
  |some (.st c)=>Vt N (D9 N i) c 0 (Xi N hp i m)
  |_=>Xi N hp i m
def Ba5 (N:Nat)(hp:Nat->Option Ck)(k:Nat):List (Nat × Nat):=Xi N hp k (Arp N hp k)
def O4 (m:List (Nat × Nat)) (hp:Nat->Option Ck):List (Nat × Nat)->List (Nat × Ck)
 |[]=>[]
 |(old,new)::r=>match hp old with
  |some b=>(new,A42 m b)::O4 m hp r
  |none=>O4 m hp r
section
variable {R:Type}
def A5x (N:Nat)(ls:List Nat)(s:St)(K:St->Option R):Option R:=
 let s1:=ls.foldl Aoy s
 let s2:=ls.foldl (Au8 N) s1
 let m:=ls.foldl (Ahz N s2) (Ba5 N s2.hp 8)
 Aq (Ey (m.map (·.1))&&Ey (m.map (·.2))) (K ⟨lk (ls.map fun i=>(i,Ayd m (s2.tm i))),Gn (O4 m s2.hp m)⟩)
def Aac (N L:Nat)(s:St)(K:St->Option R):Option R:=A5x N (W3 L N) s K
def A19 (F:(St->Option R)->St->Option R) (nm:St->(St->Option R)->Option R):Nat->St->Option R
 |0,_=>none
 |n+1,s=>F (fun s'=>nm s' (A19 F nm n)) s
def Aro (n:Nat)(F:St->Option R)(s:St):Option R:=
 match n with
 |0=>none
 |_+1=>F s
noncomputable def A0y (s:St)(c:Operand)(kt kf:St->Option R):Option R:=
 match c with
 |.tmp d=>
  match s.tm d with
  |.sc (.bool b)=>A4 b (kt ⟨Dg s.tm d (.sc (.bool true)),s.hp⟩) (kf ⟨Dg s.tm d (.sc (.bool false)),s.hp⟩)
  |.ub=>Aaa (kt s) (kf s)
  |_=>none
 |.const (.bool true)=>kt s
 |.const (.bool false)=>kf s
 |_=>none
noncomputable def Vn (C:Jf)(P:Program)(fu N:Nat)(call:Am):Code->Nat->(Nat->Nat)->Nat->(St->Option R)->(Nat->St->Option R)->(St->Option R)->St->Option R
 |.skip,_,_,_,kn,_,_,s=>kn s
 |.region _ ops draw,_,_,_,kn,_,_,s=>Aw7 (draw && !Ar7 C P ops) (Aq (Aol C P ops) (A5y (Aiq C P ops (Kn ops.toList [])) fun sm=>Jy C P N call ops sm [] (List.range ops.size) s kn)) (Aw7 draw (R7 C P N call ops ops.toList s kn) (Aob C P N call ops ops.toList s kn))
 |.seq a b,ln,lx,lr,kn,kx,kr,s=>Vn C P fu N call a (Tg b ln lx lr) lx lr (fun s'=>Aw7 (Azx P a b) (Aac N (Tg b ln lx lr) s' (Aro fu fun s''=>Vn C P fu N call b ln lx lr kn kx kr s'')) (Vn C P fu N call b ln lx lr kn kx kr s')) kx kr s
 |.cond c a b,ln,lx,lr,kn,kx,kr,s=>A0y s c (Vn C P fu N call a ln lx lr kn kx kr) (Vn C P fu N call b ln lx lr kn kx kr)
 |.block id c,ln,lx,lr,kn,kx,kr,s=>Vn C P fu N call c ln (fun j=>bif Nat.beq j id then ln else lx j) lr kn (fun j s'=>bif Nat.beq j id then kn s' else kx j s') kr s
 |.loop c,ln,lx,lr,_,kx,kr,s=>
  Aac N (Tg (.loop c) ln lx lr) s (A19 (fun k s'=>Vn C P fu N call c (Tg (.loop c) ln lx lr) lx lr k kx kr s') (Aac N (Tg (.loop c) ln lx lr)) fu)
 |.exit id,_,_,_,_,kx,_,s=>kx id s
 |.ret,_,_,_,_,_,kr,s=>kr s
 |_,_,_,_,_,_,_,_=>none
def A24 (id:Nat)(t:CT)(p:PV)(K:PV->List (Nat × Ck)->Option R):Option R:=
 match t with
 |.sl es=>
  match p with
  |.own es' n c=>bif Nat.beq es' es then K (.view id es 0 n) [(id,.ar false c)] else none
  |p=>Ih es p fun z n c=>K (.lst z es n c) []
 |t=>tcK t p fun c=>K c []
def Agi (N:Nat):Nat->List CT->List PV->(List PV->List (Nat × Ck)->Option R)->Option R
 |_,[],ps,K=>Ac ps (K [] [])
 |id,t::ts,ps,K=>Ab ps fun p ps=>A24 id t p fun c b=>Agi N (id+N) ts ps fun cs bs=>K (c::cs) (b++bs)
def inK (P:Program)(N i:Nat)(t:TypeId)(p:PV)(K:PV->List (Nat × Ck)->Option R):Option R:=
 match Ac0 P t with
 |some e=>Adn p fun ps=>Aq (Nat.blt i 8) (Agi N (D9 N i+N) (Jg P e) ps fun cs bs=>K (.ptr (D9 N i) 0) ((D9 N i,.st cs)::bs))
 |none=>
  match p with
  |.tup ps=>Ez (Bah P t) fun e=>Aq (Nat.blt i 8) (Ab ps fun q r=>Ac r (Dk (Bu P e) q fun n c=>K (.view (D9 N i) (Bu P e) 0 n) [(D9 N i,.ar false c)]))
  |p=>
   bif Df P t then Cu p fun ps=>Agi N (i+N) (Jg P t) ps fun cs bs=>K (.agg cs) bs
   else Agi N (i+N) (Jg P t) [p] fun cs bs=>Ab cs fun c r=>Ac r (K c bs)
def A2r (P:Program)(N:Nat):Nat->List TypeId->List PV->(List (Nat × PV)->List (Nat × Ck)->Option R)->Option R
 |_,[],ps,K=>Ac ps (K [] [])
 |i,t::ts,ps,K=>Ab ps fun p ps=>inK P N i t p fun v bs=>A2r P N (i+1) ts ps fun vs bs'=>K ((i,v)::vs) (bs++bs')
def A5o (hp:Nat->Option Ck)(t:CT)(p:PV)(K:PV->List Nat->List Nat->Option R):Option R:=
  match t with
  |.sl es=>
    match p with
    |.view id es' off n=>bif Nat.beq es' es&&Nat.beq off 0 then
        (match hp id with
         |some (.ar false c)=>Aq (decide (n*es<=c.length)) (K (.own es n (c.take (n*es))) [id] [])
         |_=>none) else none
    |p=>Ih es p fun z _ _=>Aq z (K (.own es 0 []) [] [])
  |t=>tcK t p fun c=>K c [] []
def Avz (shr:Bool)(hp:Nat->Option Ck)(t:CT)(p:PV)(K:PV->List Nat->List Nat->Option R):Option R:=
 bif shr then Re (L5 hp) t p fun c m=>K c [] m else A5o hp t p K
def Aen (shr:Bool)(hp:Nat->Option Ck):List CT->List PV->(List PV->List Nat->List Nat->Option R)->Option R
 |[],[],K=>K [] [] []
 |t::ts,p::ps,K=>Avz shr hp t p fun c m z=>Aen shr hp ts ps fun cs ms zs=>K (c::cs) (m++ms) (z++zs)
 |_,_,_=>none
def A3a (P:Program)(shr:Bool)(hp:Nat->Option Ck)(t:TypeId)(p:PV)(K:PV->List Nat->List Nat->Option R):Option R:=
 match Ac0 P t with
 |some e=>
  match p with
  |.ptr id off=>
   match hp id with
   |some (.st c)=>Aq (Nat.beq off 0) (Aen shr hp (Jg P e) c fun cs m z=>K (.pbox cs) (id::m) z)
   |_=>none
  |_=>none
 |none=>
  bif Df P t then Cu p fun ps=>Aen shr hp (Jg P t) ps fun cs m z=>K (.agg cs) m z
  else Aen shr hp (Jg P t) [p] fun cs m z=>Ab cs fun c r=>Ac r (K c m z)
def A1w (P:Program)(s:St)(r:ResultVar)(K:PV->Option R):Option R:=
 match r with
 |.tmp t=>K (s.tm t)
 |.cell a t=>Aea P (rd s.hp) (L5 s.hp) t (s.tm a) K
def Aou (P:Program)(shr:Bool)(s:St):List ResultVar->List TypeId->(List PV->List Nat->List Nat->Option R)->Option R
 |[],[],K=>K [] [] []
 |r::rs,t::ts,K=>A1w P s r fun p=>A3a P shr s.hp t p fun v m z=>Aou P shr s rs ts fun vs ms zs=>K (v::vs) (m++ms) (z++zs)
 |_,_,_=>none
def Ah4 (hp:Nat->Option Ck):List CT->List PV->List PV->(List PV->List Nat->List Nat->Option R)->Option R
 |[],[],[],K=>K [] [] []
 |t::ts,w::ws,p::ps,K=>Avz (match w with | .own _ _ _=>false|_=>true) hp t p fun c m z=>Ah4 hp ts ws ps fun cs ms zs=>K (c::cs) (m++ms) (z++zs)
 |_,_,_,_=>none
def Afy (P:Program)(N:Nat)(hp:Nat->Option Ck):Nat->List TypeId->List PV->(List (List PV)->List Nat->List Nat->List Nat->Option R)->Option R
 |_,[],ps,K=>Ac ps (K [] [] [] [])
 |i,t::ts,ps,K=>Ab ps fun p ps=>
  match p with
  |.pbox ws=>Ez (Ac0 P t) fun e=>
    match hp (D9 N i) with
    |some (.st c)=>Ah4 hp (Jg P e) ws c fun cs m z=>Afy P N hp (i+1) ts ps fun r m' z' q=>K (cs::r) (m++m') (z++z') (D9 N i::q)
    |_=>none
  |.tup _=>
    match hp (D9 N i) with
    |some (.ar false c)=>Afy P N hp (i+1) ts ps fun r m' z' q=>K (c::r) m' z' (D9 N i::q)
    |_=>none
  |_=>Afy P N hp (i+1) ts ps K
def Avx (rs:List ResultVar):Nat:=rs.foldl (fun m r=>match r with | .tmp t=>A1b m t | .cell a _=>A1b m a) 0
end
def Aip (P:Program):Nat->List TypeId->Nat->Nat
 |_,[],m=>m
 |i,t::ts,m=>Aip P (i+1) ts (match P.underlying t with|some (.pointer _)=>A1b m i|_=>m)
def Axw (C:Jf)(P:Program)(f:FuncId)(fn:Func)(args:List PV)(s:St):Option Ay:=
 Aou P (C.shr f) s fn.results.toList fn.resultTypes.toList fun vs m z=>Afy P fn.ntmps s.hp 0 fn.params.toList args fun os m' z' q=>
  Aq (Ey ((m++m')++q)&&(z++z').all (fun i=> !(((m++m')++q).any (Nat.beq i)))) (some ⟨vs,os⟩)
noncomputable def A8p (C:Jf)(P:Program)(fu:Nat)(call:Am)(f:FuncId)(fn:Func)(c:Code)(args:List PV):Option Ay:=
  A2r P fn.ntmps 0 fn.params.toList args fun tms bs=>Aq (Nat.ble args.length fn.ntmps&&Cp (fun _=>none) bs)
    (let lr:=Aip P 0 fn.params.toList (Avx fn.results.toList)
     Vn C P fu fn.ntmps call c lr (fun _=>0) lr (Axw C P f fn args) (fun _ _=>none) (Axw C P f fn args) ⟨lk tms,Gn bs⟩)
noncomputable def Ae (C:Jf)(P:Program)(fu:Nat):Nat->FuncId->List PV->Option Ay
 |0,_,_=>none
 |d+1,f,args=>
  match C.ext f with
  |some g=>g args
  |none=>
   match P.funcs[f]? with
   |none=>none
   |some fn=>match fn.body with
    |none=>none
    |some c=>A8p C P fu (Ae C P fu d) f fn c args
inductive Dir where
 |l
 |r
 |i (m:Nat)
section
variable {R:Type}
noncomputable def Aa9 (C:Jf)(P:Program)(fu N:Nat)(call:Am):List Dir->Code->Nat->(Nat->Nat)->Nat->(St->Option R)->(Nat->St->Option R)->(St->Option R)->Nat->St->Option R
 |[],.seq _ b,ln,lx,lr,kn,kx,kr,n,s=>Aro n (fun s''=>Vn C P fu N call b ln lx lr kn kx kr s'') s
 |[],.loop c,ln,lx,lr,_,kx,kr,n,s=>A19 (fun k s'=>Vn C P fu N call c (Tg (.loop c) ln lx lr) lx lr k kx kr s') (Aac N (Tg (.loop c) ln lx lr)) n s
 |.l::p,.seq a b,ln,lx,lr,kn,kx,kr,n,s=>Aa9 C P fu N call p a (Tg b ln lx lr) lx lr (fun s'=>Aw7 (Azx P a b) (Aac N (Tg b ln lx lr) s' (Aro fu fun s''=>Vn C P fu N call b ln lx lr kn kx kr s'')) (Vn C P fu N call b ln lx lr kn kx kr s')) kx kr n s
 |.r::p,.seq _ b,ln,lx,lr,kn,kx,kr,n,s=>Aa9 C P fu N call p b ln lx lr kn kx kr n s
 |.l::p,.cond _ a _,ln,lx,lr,kn,kx,kr,n,s=>Aa9 C P fu N call p a ln lx lr kn kx kr n s
 |.r::p,.cond _ _ b,ln,lx,lr,kn,kx,kr,n,s=>Aa9 C P fu N call p b ln lx lr kn kx kr n s
 |.l::p,.block id c,ln,lx,lr,kn,kx,kr,n,s=>Aa9 C P fu N call p c ln (fun j=>bif Nat.beq j id then ln else lx j) lr kn (fun j s'=>bif Nat.beq j id then kn s' else kx j s') kr n s
 |.i m::p,.loop c,ln,lx,lr,_,kx,kr,n,s=>
  Aa9 C P fu N call p c (Tg (.loop c) ln lx lr) lx lr
   (fun s'=>Aac N (Tg (.loop c) ln lx lr) s' (A19 (fun k s'=>Vn C P fu N call c (Tg (.loop c) ln lx lr) lx lr k kx kr s') (Aac N (Tg (.loop c) ln lx lr)) m)) kx kr n s
 |_,_,_,_,_,_,_,_,_,_=>none
end
noncomputable def Db (C:Jf)(P:Program)(fu:Nat)(call:Am)(f:FuncId)(fn:Func)(c:Code)(args:List PV)(p:List Dir)(n:Nat)(s:St):Option Ay:=
 let lr:=Aip P 0 fn.params.toList (Avx fn.results.toList)
 Aa9 C P fu fn.ntmps call p c lr (fun _=>0) lr (Axw C P f fn args) (fun _ _=>none) (Axw C P f fn args) n s
def A44:List Nat:=[
 1000000]
def A6i:List Nat:=[
 7,
 57,
 21,
 78,
 26,
 24,
 10,
 8,
 1000000]
def A63:List Nat:=[
 1000000]
def A7q:List Nat:=[
 135,
 142,
 139,
 109,
 134,
 121,
 122,
 137,
 144,
 110,
 120,
 66,
 94,
 1000000]
def Ajp (args:List PV):Option Ay:=
 match args with
 |[.sc (.string s)]=>bif decide (s.size<=9223372036854775807) then some ⟨[.sc (.bool (Lib.validD s.data.toList))],[]⟩ else none
 |_=>none
def X2 (args:List PV):Option Ay:=
  match args with
  |[.lst _ 1 n c,.lst _ 1 m c']=>bif Nat.beq c.length n&&Nat.beq c'.length m then
      (match bytesOf c,bytesOf c' with
       |some a,some b=>some ⟨[.sc (.int .i64 (Lib.compareBytes a b))],[]⟩
       |_,_=>none) else none
  |_=>none
def A2f (f:FuncId):Option (List PV->Option Ay):=
 bif Nat.beq f 67 then some Ajp else
 bif Nat.beq f 143 then some X2 else
 bif Nat.beq f 1000000 then some (fun _=>none) else none
def C0:Jf:=⟨fun f=>A6i.any (Nat.beq f),fun f i=>Nat.beq i 0&&A7q.any (Nat.beq f),fun f i=>Nat.beq i 0&&A63.any (Nat.beq f),fun f=>A44.any (Nat.beq f),fun f=>A2f f⟩
def Ch (f:Func):Code:=match f.body with|some c=>c|none=>.skip
section
variable {R:Type} {r:Option R}
theorem As {k:IntKind}{p:PV}{K:Int->Option R}{n:Int}(h:p=.sc (.int k n)) (hk:K n=r):Af k p K=r:=by
 subst h;unfold Af;simp [hk]
theorem Bbe {p:PV}{K:IntKind->Int->Option R}{k:IntKind}{n:Int}(h:p=.sc (.int k n)) (hk:K k n=r):Ec p K=r:=by
 subst h;exact hk
theorem Ax {p:PV}{K:Bool->Option R}{b:Bool}(h:p=.sc (.bool b)) (hk:K b=r):Bz p K=r:=by
 subst h;exact hk
theorem Az {p:PV}{K:ByteArray->Option R}{s:ByteArray}(h:p=.sc (.string s)) (hk:K s=r):Cn p K=r:=by
 subst h;exact hk
theorem Cm {es:Nat}{p:PV}{K:Bool->Nat->List PV->Option R}{z:Bool}{n:Nat}{c:List PV}(h:p=.lst z es n c)(hk:K z n c=r):Ih es p K=r:=by
 subst h;unfold Ih;simp [Nat.beq_refl,hk]
theorem A5 {es:Nat}{p:PV}{K:Nat->List PV->Option R}{n:Nat}{c:List PV}(h:p=.own es n c)(hk:K n c=r):Dk es p K=r:=by
 subst h;unfold Dk;simp [Nat.beq_refl,hk]
theorem Ar {b:Bool}{K:Option R}(h:b=true)(hk:K=r):Aq b K=r:=by
 subst h;exact hk
theorem A3f {b:Bool}{x y:Option R}(hx:b=true->x=r)(hy:b=false->y=r):A4 b x y=r:=by
 cases b
 ·exact hy rfl
 ·exact hx rfl
theorem Au {b:Bool}{x y:Option R}(h:b=true)(hx:x=r):A4 b x y=r:=by
 subst h;exact hx
theorem Aw {b:Bool}{x y:Option R}(h:b=false)(hx:y=r):A4 b x y=r:=by
 subst h;exact hx
theorem B9 {α:Type}{o:Option α}{K:α->Option R}{a:α}(h:o=some a)(hk:K a=r):Ez o K=r:=by
 subst h;exact hk
theorem Aj {α:Type}{l:List α}{K:α->List α->Option R}{a:α}{t:List α}(h:l=a::t)(hk:K a t=r):Ab l K=r:=by
 subst h;exact hk
theorem At {α:Type}{l:List α}{K:Option R}(h:l=[]) (hk:K=r):Ac l K=r:=by
 subst h;exact hk
theorem Bb {p:PV}{K:List PV->Option R}{c:List PV}(h:p=.agg c)(hk:K c=r):Cu p K=r:=by
 subst h;exact hk
theorem Bas {p:PV}{K:List PV->Option R}{c:List PV}(h:p=.pbox c)(hk:K c=r):Adn p K=r:=by
 subst h;exact hk
theorem Ai {o:Option Ay}{K:List PV->List (List PV)->Option R} {v:List PV}{q:List (List PV)} (h:o=some ⟨v,q⟩)(hk:K v q=r):Ag o K=r:=by
 subst h;exact hk
theorem Apf {x y:Option R}(hx:x=r)(hy:y=r):Aaa x y=r:=by subst hx;subst hy;unfold Aaa;simp
end
theorem Ahr (a b:Int):(a != b)=decide (a≠b):=by by_cases h:a=b<;>simp [h,bne]
theorem Ayl (a b:Int):(a==b)=decide (a=b):=by by_cases h:a=b<;>simp [h]
section
variable {R:Type}
theorem Avq (v:List PV)(o:List (List PV)) (K:List PV->List (List PV)->Option R):Ag (some ⟨v,o⟩) K=K v o:=by exact id rfl
theorem A1v {α:Type}(K:Option R):Ac ([]:List α) K=K:=by exact id rfl
theorem Awj {α:Type}(a:α)(r:List α)(K:α->List α->Option R):Ab (a::r) K=K a r:=by exact id rfl
theorem Awq (b:Bool)(K:Bool->Option R):Bz (.sc (.bool b)) K=K b:=by exact id rfl
theorem A0l (s:ByteArray)(K:ByteArray->Option R):Cn (.sc (.string s)) K=K s:=by exact id rfl
theorem Apz (k:IntKind)(n:Int)(K:Int->Option R):Af k (.sc (.int k n)) K=K n:=by unfold Af;simp
theorem A2z (k:IntKind)(n:Int)(K:IntKind->Int->Option R):Ec (.sc (.int k n)) K=K k n:=by exact id rfl
theorem A6c (z:Bool)(es n:Nat)(c:List PV)(K:Bool->Nat->List PV->Option R):Ih es (.lst z es n c) K=K z n c:=by unfold Ih;simp
theorem A56 (es n:Nat)(c:List PV)(K:Nat->List PV->Option R):Dk es (.own es n c) K=K n c:=by unfold Dk;simp
theorem A14 (c:List PV)(K:List PV->Option R):Cu (.agg c) K=K c:=by exact id rfl
theorem Av7 (c:List PV)(K:List PV->Option R):Adn (.pbox c) K=K c:=by exact id rfl
theorem Auf {α:Type}(a:α)(K:α->Option R):Ez (some a) K=K a:=by exact id rfl
theorem Hj {α:Type}(a:α)(K:α->Option R):Aa a K=K a:=by exact id rfl
theorem A0m (K:Option R):Aq true K=K:=by exact id rfl
theorem Yu (p:Prop) [Decidable p] (K:Option R)(h:p):Aq (decide p) K=K:=by simp [Aq,h]
theorem Avt (b c:Bool)(K:Option R):Aq (b&&c) K=Aq b (Aq c K):=by cases b<;>rfl
theorem Auc (x y:Option R):A4 true x y=x:=by exact id rfl
theorem Akn (x y:Option R):A4 false x y=y:=by exact id rfl
theorem Aj3 (p:Prop) [Decidable p] (x y:Option R)(h:p):A4 (decide p) x y=x:=by simp [A4,h]
theorem Dw (p:Prop) [Decidable p] (x y:Option R)(h:¬p):A4 (decide p) x y=y:=by simp [A4,h]
theorem Afq (p:Prop) [Decidable p] (x y:Option R):A4 (decide p) x y=if p then x else y:=by by_cases h:p<;>simp [A4,h]
theorem Fd (a b:Int)(x y:Option R):A4 (a==b) x y=if a=b then x else y:=by
 rw [Ayl,Afq]
theorem Di (a b:Int)(x y:Option R):A4 (a != b) x y=if a=b then y else x:=by
 rw [Ahr,Afq];by_cases h:a=b<;>simp [h]
theorem Aws (x:Option R):Aaa x x=x:=by unfold Aaa;simp
end
theorem Ap {x:Int}(h1: -9223372036854775808<=x)(h2:x<=9223372036854775807):IntKind.wrap .i64 x=x:=by
 have:=IntWalk.i64_in x (by omega)
 exact this
theorem B6 {x:Int}(h1:0<=x)(h2:x<=18446744073709551615):IntKind.wrap .u64 x=x:=by
 simp only [IntKind.wrap,IntKind.signed,IntKind.bits];simp;omega
theorem F7 {x:Int}(h1:0<=x)(h2:x<=255):IntKind.wrap .u8 x=x:=by
 simp only [IntKind.wrap,IntKind.signed,IntKind.bits];simp;omega
theorem Lw (x:Int):0<=IntKind.wrap .u64 x∧IntKind.wrap .u64 x<=18446744073709551615:=by
 simp only [IntKind.wrap,IntKind.signed,IntKind.bits];simp;omega
theorem Ct {α:Type}{l r:List α}{x:α}{i:Nat}(h:l.drop i=x::r):i<l.length∧l[i]?=some x∧l.drop (i+1)=r:=by
 have h1:i<l.length:=by
  rcases Nat.lt_or_ge i l.length with h1|h1
  ·exact h1
  ·rw [List.drop_of_length_le h1] at h;cases h
 rw [List.drop_eq_getElem_cons h1] at h;injection h with h2 h3;exact ⟨h1,by rw [List.getElem?_eq_getElem h1,h2],h3⟩
theorem drop_nil {α:Type}{l:List α}{i:Nat}(h:l.drop i=[]):l.length<=i:=by
 have:=congrArg List.length h;simp at this;omega
section
variable {α:Type} {f:α->List PV} {k:Nat}
theorem Air (hf:∀x,(f x).length=k):∀(l:List α),(l.flatMap f).length=l.length*k
 |[]=>by simp
 |x::l=>by simp [hf x,Air hf l,Nat.succ_mul];omega
theorem Aop (hf:∀x,(f x).length=k):∀(l:List α)(i:Nat),(l.flatMap f).drop (i*k)=(l.drop i).flatMap f
 |l,0=>by simp
 |[],i+1=>by simp
 |x::l,i+1=>by
  rw [List.flatMap_cons,Nat.succ_mul,Nat.add_comm,←List.drop_drop,List.drop_append_of_le_length (by rw [hf x];omega)]
  rw [show (f x).drop k=[] from List.drop_of_length_le (by rw [hf x];omega),List.nil_append]
  exact Aop hf l i
theorem Awm (hf:∀x,(f x).length=k):∀(l:List α)(i:Nat),(l.flatMap f).take (i*k)=(l.take i).flatMap f
 |l,0=>by simp
 |[],i+1=>by simp
 |x::l,i+1=>by
  rw [List.flatMap_cons,Nat.succ_mul,Nat.add_comm,List.take_succ_cons,List.flatMap_cons,←Awm hf l i];rw [show k+i*k=(f x).length+i*k by rw [hf x],List.take_length_add_append]
theorem Ep (hf:∀x,(f x).length=k) {l:List α}{i:Nat}{x:α}(h:l[i]?=some x) {j:Nat}(hj:j<k):(l.flatMap f).getD (i*k+j) .top=(f x).getD j .top:=by
 have h1:((l.flatMap f).drop (i*k))[j]?=(l.flatMap f)[i*k+j]?:=List.getElem?_drop;rw [Aop hf] at h1
 have h2:i<l.length:=by
  rcases Nat.lt_or_ge i l.length with h1|h1
  ·exact h1
  ·rw [List.getElem?_eq_none h1] at h;cases h
 rw [List.drop_eq_getElem_cons h2,List.flatMap_cons] at h1;have h3:l[i]=x:=by rw [List.getElem?_eq_getElem h2] at h;injection h
 rw [h3,List.getElem?_append_left (by rw [hf x];exact hj)] at h1
 simp only [List.getD_eq_getElem?_getD,←h1]
theorem J1 {c:List PV}{p:PV}{i:Nat}(h:i<c.length):B8 c [p] i=c.set i p:=by
 unfold B8;rw [List.set_eq_take_append_cons_drop,if_pos h];simp
end
theorem A6l {α:Type}{l:List α}{i:Nat}{x:α}(h:l[i]?=some x):i<l.length:=by
 rcases Nat.lt_or_ge i l.length with h1|h1
 ·exact h1
 ·rw [List.getElem?_eq_none h1] at h;cases h
abbrev Bag (k:IntKind)(n:Int):List PV:=[.sc (.int k n)]
abbrev Ah (k:IntKind)(l:List Int):List PV:=l.flatMap (Bag k)
theorem Acr (k:IntKind)(n:Int):(Bag k n).length=1:=rfl
theorem Ps {k:IntKind}{l:List Int}{i:Nat}{n:Int}(h:l[i]?=some n):(Ah k l).getD i .top=.sc (.int k n):=by
 have:=Ep (Acr k) h (j:=0) (by omega)
 simpa using this
theorem Al (k:IntKind)(l:List Int):(Ah k l).length=l.length:=by rw [Air (Acr k)];omega
theorem Fg (k:IntKind)(l:List Int)(n:Int):Ah k l++[.sc (.int k n)]=Ah k (l++[n]):=by simp
theorem Gs (k:IntKind)(l:List Int):List.take l.length (Ah k l)=Ah k l:=List.take_of_length_le (by rw [Al];omega)
theorem B3:type_of% @Avq∧type_of% @A1v∧type_of% @Awj∧type_of% @Awq∧type_of% @A0l∧type_of% @Apz∧type_of% @A2z∧type_of% @A6c∧type_of% @A56∧type_of% @A14∧type_of% @Av7∧type_of% @Auf∧type_of% @Hj∧type_of% @A0m∧type_of% @Yu∧type_of% @Avt∧type_of% @Auc∧type_of% @Akn∧type_of% @Aj3∧type_of% @Dw∧type_of% @Aws∧type_of% @Bool.not_true∧type_of% @Bool.not_false∧type_of% @Bool.false_eq_true∧type_of% @if_true.{1}∧type_of% @if_false.{1}∧type_of% @Bool.true_and∧type_of% @Bool.and_true∧type_of% @Bool.false_and∧type_of% @Bool.and_false∧type_of% @decide_true∧type_of% @decide_false:=
 ⟨@Avq,@A1v,@Awj,@Awq,@A0l,@Apz,@A2z,@A6c,@A56,@A14,@Av7,@Auf,@Hj,@A0m,@Yu,@Avt,@Auc,@Akn,@Aj3,@Dw,@Aws,@Bool.not_true,@Bool.not_false,@Bool.false_eq_true,@if_true.{1},@if_false.{1},@Bool.true_and,@Bool.and_true,@Bool.false_and,@Bool.and_false,@decide_true,@decide_false⟩
theorem gT:type_of% @Bool.and_eq_true∧type_of% @decide_eq_true_eq∧type_of% @beq_iff_eq.{0}∧type_of% @bne_iff_ne.{0}∧type_of% @ne_eq.{1}∧type_of% @Bool.not_eq_true'∧type_of% @true_and∧type_of% @and_true:=
 ⟨@Bool.and_eq_true,@decide_eq_true_eq,@beq_iff_eq.{0},@bne_iff_ne.{0},@ne_eq.{1},@Bool.not_eq_true',@true_and,@and_true⟩
theorem gF:type_of% @decide_eq_false_iff_not∧type_of% @beq_eq_false_iff_ne.{0}∧type_of% @bne_eq_false_iff_eq.{0}∧type_of% @ne_eq.{1}∧type_of% @Bool.not_eq_false':=
 ⟨@decide_eq_false_iff_not,@beq_eq_false_iff_ne.{0},@bne_eq_false_iff_eq.{0},@ne_eq.{1},@Bool.not_eq_false'⟩
end
section
open Go.RowKit
def B5 {α β:Type}(R:α->β->Prop):List α->List β->Prop
 |[],[]=>True
 |a::zs,b::bs=>R a b∧B5 R zs bs
 |_,_=>False
section
variable {α β γ:Type} {R S:α->β->Prop}
theorem B5.len:∀{zs:List α}{bs:List β},B5 R zs bs->zs.length=bs.length
 |[],[],_=>rfl
 |_::_,_::_,h=>by simp [B5.len h.2]
 |[],_::_,h=>h.elim
 |_::_,[],h=>h.elim
theorem B5.at_:∀{zs:List α}{bs:List β},B5 R zs bs->∀{i:Nat} {a b},zs[i]?=some a->bs[i]?=some b->R a b
 |[],[],_,i,a,b,h,_=>by simp at h
 |_::_,_::_,h,0,a,b,ha,hb=>by simp at ha hb;subst ha;subst hb;exact h.1
 |_::_,_::_,h,i+1,a,b,ha,hb=>by simp at ha hb;exact B5.at_ h.2 ha hb
 |[],_::_,h,_,_,_,_,_=>h.elim
 |_::_,[],h,_,_,_,_,_=>h.elim
theorem B5.of_at:∀{zs:List α}{bs:List β},zs.length=bs.length->(∀(i:Nat) a b,zs[i]?=some a->bs[i]?=some b->R a b)->B5 R zs bs
 |[],[],_,_=>trivial
 |a::zs,b::bs,hl,h=>⟨h 0 a b rfl rfl,B5.of_at (by simpa using hl) fun i x y hx hy=>h (i+1) x y hx hy⟩
 |[],_::_,hl,_=>by simp at hl
 |_::_,[],hl,_=>by simp at hl
theorem B5.mono (hRS:∀a b,R a b->S a b):∀{zs:List α}{bs:List β},B5 R zs bs->B5 S zs bs
 |[],[],_=>trivial
 |_::_,_::_,h=>⟨hRS _ _ h.1,B5.mono hRS h.2⟩
 |[],_::_,h=>h.elim
 |_::_,[],h=>h.elim
theorem B5.mono_mem:∀{zs:List α}{bs:List β},(∀a∈zs,∀b,R a b->S a b)->B5 R zs bs->B5 S zs bs
 |[],[],_,_=>trivial
 |a::_,_::_,hRS,h=>⟨hRS a (by simp) _ h.1,B5.mono_mem (fun x hx=>hRS x (by simp [hx])) h.2⟩
 |[],_::_,_,h=>h.elim
 |_::_,[],_,h=>h.elim
theorem B5.app:∀{zs:List α}{bs:List β}{as':List α}{bs':List β},B5 R zs bs->B5 R as' bs'->B5 R (zs++as') (bs++bs')
 |[],[],_,_,_,h'=>h'
 |_::_,_::_,_,_,h,h'=>⟨h.1,B5.app h.2 h'⟩
 |[],_::_,_,_,h,_=>h.elim
 |_::_,[],_,_,h,_=>h.elim
theorem B5.take:∀(n:Nat){zs:List α}{bs:List β},B5 R zs bs->B5 R (zs.take n) (bs.take n)
 |0,_,_,_=>by simp [B5]
 |_+1,[],[],_=>trivial
 |n+1,_::_,_::_,h=>⟨h.1,B5.take n h.2⟩
 |_+1,[],_::_,h=>h.elim
 |_+1,_::_,[],h=>h.elim
theorem B5.drop:∀(n:Nat){zs:List α}{bs:List β},B5 R zs bs->B5 R (zs.drop n) (bs.drop n)
 |0,_,_,h=>h
 |_+1,[],[],_=>trivial
 |n+1,_::_,_::_,h=>B5.drop n h.2
 |_+1,[],_::_,h=>h.elim
 |_+1,_::_,[],h=>h.elim
end
inductive Bq (w:World) (A:Nat->Prop):PV->Value->Prop where
 |sc (v:Value):Bq w A (.sc v) v
 |top (v:Value):Bq w A .top v
 |ub (b:Bool):Bq w A .ub (.bool b)
 |lnil (z:Bool) (es:Nat):Bq w A (.lst z es 0 []) (.slice none 0 0)
 |lemp (es:Nat) (a:Addr) (cap:Nat):Bq w A (.lst false es 0 []) (.slice (some a) 0 cap)
 |lst (es n:Nat) (cells:List PV) (a:Addr) (cap:Nat) (f:Nat->Value) (hs:a.spot=none) (hb:a.block<w.heap.size) (hA:¬A a.block) (hn:n<=cap)
   (hc:∀j c,cells[j]?=some c->w.cell? (a.add j)=some (f j)) (h1:∀j c,cells[j]?=some c->(f j).oneCell'=true) (hr:∀j c,cells[j]?=some c->Bq w A c (f j)):Bq w A (.lst false es n cells) (.slice (some a) n cap)
def bsz (w:World)(b:Nat):Nat:=
 match w.heap[b]? with
 |some (.cells c _ _)=>c.size
 |_=>0
def RdT (w:World)(A:Nat->Prop)(a:Addr)(cells:List PV):Prop:=∀j c,cells[j]?=some c->∃v,w.cell? (a.add j)=some v∧v.oneCell'=true∧Bq w A c v
def Cz (w:World)(A:Nat->Prop)(β:Nat->Option (Nat × Nat)) (p:PV)(v:Value):Prop:=
 match p with
 |.view id es off n=>(β id=none∧off=0∧n=0∧v=.slice none 0 0) ∨
   ∃b o x cap,β id=some (b,o)∧v=.slice (some ⟨b,x,none⟩) n cap∧(x=o+off∨(n=0∧off≠0))∧n<=cap∧x+cap*es<=bsz w b∧b<w.heap.size
 |.ptr id off=>∃b o,β id=some (b,o)∧v=.pointer (some ⟨b,o+off,none⟩)
 |.iptr c off=>∃a:Addr,v=.pointer (some (a.add off))∧a.spot=none∧a.block<w.heap.size∧¬A a.block∧RdT w A a c
 |p=>Bq w A p v
def I6 (w:World)(A:Nat->Prop)(β:Nat->Option (Nat × Nat)) (p:PV)(v:Value):Prop:=
 match p with
 |.agg cs=>∃vs,v=.agg ⟨vs⟩∧B5 (Cz w A β) cs vs
 |p=>Cz w A β p v
def Fj (w:World)(A:Nat->Prop)(β:Nat->Option (Nat × Nat)) (p:PV)(v:Value):Prop:=
 match p with
 |.tup ps=>∃vs,v=.tuple ⟨vs⟩∧B5 (I6 w A β) ps vs
 |p=>I6 w A β p v
structure Cx (A:Nat->Prop) (w w':World):Prop where
 size:w.heap.size<=w'.heap.size
 keep:∀b,b<w.heap.size->¬A b->w'.heap[b]?=w.heap[b]?
 bs:∀b,b<w.heap.size->bsz w b<=bsz w' b
theorem Hb (a:Addr)(j:Nat):(a.add j).block=a.block:=by unfold Addr.add;split<;>rfl
theorem add_add (a:Addr)(i j:Nat):(a.add i).add j=a.add (i+j):=by
 unfold Addr.add;by_cases hi:i=0<;>by_cases hj:j=0<;>simp [hi,hj,Nat.add_assoc]
theorem Fz (b o j:Nat):(⟨b,o,none⟩:Addr).add j=⟨b,o+j,none⟩:=by
 unfold Addr.add;by_cases hj:j=0<;>simp [hj]
theorem A3l {a:Addr}(h:a.spot=none)(j:Nat):(a.add j).spot=none:=by unfold Addr.add;split<;>simp [h]
section
variable {w w':World} {A A':Nat->Prop} {β β':Nat->Option (Nat × Nat)}
theorem Cx.cell (h:Cx A w w'){a:Addr}(hb:a.block<w.heap.size)(hA:¬A a.block):w'.cell? a=w.cell? a:=
 World.cell?_of_block (h.keep a.block hb hA)
theorem Bq.step (h:Cx A w w')(hA:∀b,b<w.heap.size->A' b->A b){p:PV}{v:Value}(t:Bq w A p v):Bq w' A' p v:=by
 induction t with
 |sc v=>exact .sc v
 |top v=>exact .top v
 |ub b=>exact .ub b
 |lnil z es=>exact .lnil z es
 |lemp es a cap=>exact .lemp es a cap
 |lst es n cells a cap f hs hb hA1 hn hc h1 hr ih=>
  refine .lst es n cells a cap f hs (Nat.lt_of_lt_of_le hb h.size) (fun x=>hA1 (hA _ hb x)) hn (fun j c hj=>?_) h1 (fun j c hj=>ih j c hj)
  rw [h.cell (by rw [Hb];exact hb) (by rw [Hb];exact hA1)]
  exact hc j c hj
theorem RdT.step (h:Cx A w w')(hA:∀b,b<w.heap.size->A' b->A b){a:Addr}(hb:a.block<w.heap.size)(hn:¬A a.block){cells:List PV}(t:RdT w A a cells):RdT w' A' a cells:=by
 intro j c hj;obtain ⟨v,hv,h1,ht⟩:=t j c hj;exact ⟨v,by rw [h.cell (by rw [Hb];exact hb) (by rw [Hb];exact hn)];exact hv,h1,ht.step h hA⟩
theorem Cz.step (h:Cx A w w')(hA:∀b,b<w.heap.size->A' b->A b){p:PV}{v:Value}(hβ:∀id∈Bd p,β' id=β id)(t:Cz w A β p v):Cz w' A' β' p v:=by
 cases p with
 |view id es off n=>
  have e:=hβ id (by simp [Bd])
  rcases t with ⟨h1,h2,h3,h4⟩|⟨b,o,x,cap,h1,h2,hx,h3,h4,h5⟩
  ·exact .inl ⟨by rw [e];exact h1,h2,h3,h4⟩
  ·exact .inr ⟨b,o,x,cap,by rw [e];exact h1,h2,hx,h3,Nat.le_trans h4 (h.bs b h5),Nat.lt_of_lt_of_le h5 h.size⟩
 |ptr id off=>
  have e:=hβ id (by simp [Bd])
  obtain ⟨b,o,h1,h2⟩:=t;exact ⟨b,o,by rw [e];exact h1,h2⟩
 |iptr c off=>
  obtain ⟨a,h1,h2,h3,h4,h5⟩:=t;exact ⟨a,h1,h2,Nat.lt_of_lt_of_le h3 h.size,fun x=>h4 (hA _ h3 x),h5.step h hA h3 h4⟩
 |sc v=>exact Bq.step h hA t
 |lst z es n c=>exact Bq.step h hA t
 |own es n c=>exact Bq.step h hA t
 |pbox c=>exact Bq.step h hA t
 |agg c=>exact Bq.step h hA t
 |tup c=>exact Bq.step h hA t
 |top=>exact Bq.step h hA t
 |ub=>exact Bq.step h hA t
theorem I6.step (h:Cx A w w')(hA:∀b,b<w.heap.size->A' b->A b){p:PV}{v:Value}(hβ:∀id∈Dc p,β' id=β id)(t:I6 w A β p v):I6 w' A' β' p v:=by
 cases p with
 |agg cs=>
  obtain ⟨vs,rfl,h2⟩:=t;exact ⟨vs,rfl,h2.mono_mem fun c hc v hv=>hv.step h hA fun id hid=>hβ id (by simp only [Dc,List.mem_flatMap];exact ⟨c,hc,hid⟩)⟩
 |sc x=>exact Cz.step (p:=.sc x) h hA hβ t
 |lst x y z u=>exact Cz.step (p:=.lst x y z u) h hA hβ t
 |own x y z=>exact Cz.step (p:=.own x y z) h hA hβ t
 |view x y z u=>exact Cz.step (p:=.view x y z u) h hA hβ t
 |ptr x y=>exact Cz.step (p:=.ptr x y) h hA hβ t
 |iptr x y=>exact Cz.step (p:=.iptr x y) h hA hβ t
 |pbox x=>exact Cz.step (p:=.pbox x) h hA hβ t
 |tup x=>exact Cz.step (p:=.tup x) h hA hβ t
 |top=>exact Cz.step (p:=.top) h hA hβ t
 |ub=>exact Cz.step (p:=.ub) h hA hβ t
theorem Fj.step (h:Cx A w w')(hA:∀b,b<w.heap.size->A' b->A b){p:PV}{v:Value}(hβ:∀id∈Cs p,β' id=β id)(t:Fj w A β p v):Fj w' A' β' p v:=by
 cases p with
 |tup cs=>
  obtain ⟨vs,rfl,h2⟩:=t;exact ⟨vs,rfl,h2.mono_mem fun c hc v hv=>hv.step h hA fun id hid=>hβ id (by simp only [Cs,List.mem_flatMap];exact ⟨c,hc,hid⟩)⟩
 |sc x=>exact I6.step (p:=.sc x) h hA hβ t
 |lst x y z u=>exact I6.step (p:=.lst x y z u) h hA hβ t
 |own x y z=>exact I6.step (p:=.own x y z) h hA hβ t
 |view x y z u=>exact I6.step (p:=.view x y z u) h hA hβ t
 |ptr x y=>exact I6.step (p:=.ptr x y) h hA hβ t
 |iptr x y=>exact I6.step (p:=.iptr x y) h hA hβ t
 |pbox x=>exact I6.step (p:=.pbox x) h hA hβ t
 |top=>exact I6.step (p:=.top) h hA hβ t
 |ub=>exact I6.step (p:=.ub) h hA hβ t
 |agg x=>exact I6.step (p:=.agg x) h hA hβ t
theorem Cx.refl (A:Nat->Prop)(w:World):Cx A w w:=⟨Nat.le_refl _,fun _ _ _=>rfl,fun _ _=>Nat.le_refl _⟩
theorem RdT.weak (hA:∀b,b<w.heap.size->A' b->A b){a:Addr}{cells:List PV}(t:RdT w A a cells):RdT w A' a cells:=by
 intro j c hj;obtain ⟨v,hv,h1,ht⟩:=t j c hj;exact ⟨v,hv,h1,ht.step (Cx.refl A w) hA⟩
theorem Cx.trans {w'':World}(h:Cx A w w')(h':Cx A' w' w'')(hA:∀b,b<w.heap.size->A' b->A b):Cx A w w'':=
  ⟨Nat.le_trans h.size h'.size,fun b hb hn=>(h'.keep b (Nat.lt_of_lt_of_le hb h.size) (fun x=>hn (hA b hb x))).trans (h.keep b hb hn),
   fun b hb=>Nat.le_trans (h.bs b hb) (h'.bs b (Nat.lt_of_lt_of_le hb h.size))⟩
theorem Cx.weaken (h:Cx A w w')(hA:∀b,b<w.heap.size->A b->A' b):Cx A' w w':=⟨h.size,fun b hb hn=>h.keep b hb (fun x=>hn (hA b hb x)),h.bs⟩
end
section
variable {R:Type} {r:R}
theorem Ik {k:IntKind}{p:PV}{K:Int->Option R}(h:Af k p K=some r):∃n,p=.sc (.int k n)∧K n=some r:=by
 unfold Af at h;split at h
 ·split at h
  ·rename_i hk;subst hk;exact ⟨_,rfl,h⟩
  ·cases h
 ·cases h
theorem Hk {p:PV}{K:Bool->Option R}(h:Bz p K=some r):∃b,p=.sc (.bool b)∧K b=some r:=by
 unfold Bz at h;split at h
 ·exact ⟨_,rfl,h⟩
 ·cases h
theorem Gg {p:PV}{K:ByteArray->Option R}(h:Cn p K=some r):∃b,p=.sc (.string b)∧K b=some r:=by
 unfold Cn at h;split at h
 ·exact ⟨_,rfl,h⟩
 ·cases h
theorem Ea {p:PV}{K:IntKind->Int->Option R}(h:Ec p K=some r):∃k n,p=.sc (.int k n)∧K k n=some r:=by
 unfold Ec at h;split at h
 ·exact ⟨_,_,rfl,h⟩
 ·cases h
theorem A7 {b:Bool}{K:Option R}(h:Aq b K=some r):b=true∧K=some r:=by
 unfold Aq at h;cases b
 ·cases h
 ·exact ⟨rfl,h⟩
theorem Dv {α:Type}{o:Option α}{K:α->Option R}(h:Ez o K=some r):∃a,o=some a∧K a=some r:=by
 unfold Ez at h;split at h
 ·exact ⟨_,rfl,h⟩
 ·cases h
theorem Bo {α:Type}{l:List α}{K:α->List α->Option R}(h:Ab l K=some r):∃a t,l=a::t∧K a t=some r:=by
 unfold Ab at h;split at h
 ·exact ⟨_,_,rfl,h⟩
 ·cases h
theorem Eb {α:Type}{l:List α}{K:Option R}(h:Ac l K=some r):l=[]∧K=some r:=by
 unfold Ac at h;split at h
 ·exact ⟨rfl,h⟩
 ·cases h
theorem Is {p:PV}{K:List PV->Option R}(h:Cu p K=some r):∃c,p=.agg c∧K c=some r:=by
 unfold Cu at h;split at h
 ·exact ⟨_,rfl,h⟩
 ·cases h
theorem Anz {p:PV}{K:List PV->Option R}(h:Adn p K=some r):∃c,p=.pbox c∧K c=some r:=by
 unfold Adn at h;split at h
 ·exact ⟨_,rfl,h⟩
 ·cases h
theorem App {p:PV}{K:Value->Option R}(h:fnK p K=some r):∃f a b,p=.sc (.func f a b)∧K (.func f a b)=some r:=by
 unfold fnK at h;split at h
 ·exact ⟨_,_,_,rfl,h⟩
 ·cases h
theorem A4g {p:PV}{K:FuncId->Option R}(h:fvK p K=some r):∃f,p=.sc (.func (.func f) #[] #[])∧K f=some r:=by
 unfold fvK at h;split at h
 ·rename_i f a b;cases hb:(a.isEmpty&&b.isEmpty)<;>rw [hb] at h
  ·cases h
  ·simp only [Bool.and_eq_true,Array.isEmpty_iff] at hb;rw [hb.1,hb.2];exact ⟨f,rfl,h⟩
 ·cases h
theorem Amw {o:Option Ay}{K:List PV->List (List PV)->Option R} (h:Ag o K=some r):∃v x,o=some ⟨v,x⟩∧K v x=some r:=by
 unfold Ag at h;split at h
 ·exact ⟨_,_,rfl,h⟩
 ·cases h
theorem Pd {b:Bool}{x y:Option R}(h:A4 b x y=some r):(b=true∧x=some r)∨(b=false∧y=some r):=by
 unfold A4 at h;cases b
 ·exact .inr ⟨rfl,h⟩
 ·exact .inl ⟨rfl,h⟩
theorem Gz {es:Nat}{p:PV}{K:Bool->Nat->List PV->Option R}(h:Ih es p K=some r):
  ∃z n c,K z n c=some r∧(p=.lst z es n c∨(p=.sc (.slice none 0 0)∧z=true∧n=0∧c=[])):=by
 unfold Ih at h;split at h
 ·rename_i z es' n c;cases hb:Nat.beq es' es
  ·rw [hb] at h;cases h
  ·rw [hb] at h;have:=Nat.eq_of_beq_eq_true hb;subst this;exact ⟨z,n,c,h,.inl rfl⟩
 ·exact ⟨true,0,[],h,.inr ⟨rfl,rfl,rfl,rfl⟩⟩
 ·cases h
def isT:PV->Prop
 |.sc _=>True
 |.lst _ _ _ _=>True
 |_=>False
def isF:PV->Prop
 |.sc _=>True
 |.lst _ _ _ _=>True
 |.view _ _ _ _=>True
 |_=>False
theorem Yz {c:PV}(h:isT c):isF c:=by
 cases c<;>first|trivial|exact h.elim
theorem Kc {c:PV}(h:isT c):Bd c=[]:=by
 cases c<;>first|rfl|exact h.elim
variable {w:World} {A:Nat->Prop} {β:Nat->Option (Nat × Nat)}
theorem Qx {c:PV}{v:Value}(h:isT c):Cz w A β c v↔Bq w A c v:=by
 cases c<;>first|exact Iff.rfl|exact h.elim
theorem Adc {c:PV}{v:Value}(h:∀cs,c ≠ .agg cs):I6 w A β c v↔Cz w A β c v:=by
 cases c<;>first|exact Iff.rfl|exact absurd rfl (h _)
theorem U8 {c:PV}{v:Value}(h:∀cs,c ≠ .tup cs):Fj w A β c v↔I6 w A β c v:=by
 cases c<;>first|exact Iff.rfl|exact absurd rfl (h _)
theorem Ahy {c:PV}(h:isT c)(cs:List PV):c ≠ .agg cs:=by rintro rfl;exact h
theorem Avy {c:PV}(h:isT c)(cs:List PV):c ≠ .tup cs:=by rintro rfl;exact h
theorem Bq.val {v u:Value}(h:Bq w A (.sc v) u):u=v:=by cases h;rfl
theorem Aa4 {es n:Nat}{z:Bool}{c:List PV}{p:PV}{v:Value}(h:p=.lst z es n c∨(p=.sc (.slice none 0 0)∧z=true∧n=0∧c=[])) (hv:Cz w A β p v):Bq w A (.lst z es n c) v:=by
 rcases h with rfl|⟨rfl,rfl,rfl,rfl⟩
 ·exact hv
 ·have:=Bq.val (w:=w) (A:=A) hv;subst this;exact .lnil true es
theorem Ph {t:CT}{p:PV}{K:PV->Option R}(h:tcK t p K=some r):
  ∃c,K c=some r∧isT c∧isT p∧∀(w:World) (A:Nat->Prop) (β:Nat->Option (Nat × Nat)) (v:Value),Cz w A β p v->Bq w A c v∧v.oneCell'=true:=by
 cases t with
 |int k=>obtain ⟨n,rfl,h2⟩:=Ik h;exact ⟨_,h2,trivial,trivial,fun w A β v hv=>⟨hv,by have:=Bq.val (w:=w) (A:=A) hv;subst this;rfl⟩⟩
 |bool=>obtain ⟨n,rfl,h⟩:=Hk h;exact ⟨_,h,trivial,trivial,fun w A β v hv=>⟨hv,by have:=Bq.val (w:=w) (A:=A) hv;subst this;rfl⟩⟩
 |str=>obtain ⟨n,rfl,h⟩:=Gg h;exact ⟨_,h,trivial,trivial,fun w A β v hv=>⟨hv,by have:=Bq.val (w:=w) (A:=A) hv;subst this;rfl⟩⟩
 |sl es=>
  obtain ⟨z,n,c,h,hp⟩:=Gz h;refine ⟨_,h,trivial,?_,fun w A β v hv=>⟨Aa4 hp hv,?_⟩⟩
  ·rcases hp with rfl|⟨rfl,_⟩<;>trivial
  ·have ht:=Aa4 hp hv;cases ht<;>rfl
 |any=>
  obtain ⟨f,a,b,rfl,h2⟩:=App (show fnK p (fun v=>K (.sc v))=some r from h)
  exact ⟨_,h2,trivial,trivial,fun w A β v hv=>⟨hv,by have:=Bq.val (w:=w) (A:=A) hv;subst this;rfl⟩⟩
theorem A41 {t:CT}{p:PV}{K:PV->Option R}(h:fcK t p K=some r):
  ∃c,K c=some r∧(isT c∨c=p)∧isF p∧p ≠ .top∧(∀cs,c ≠ .agg cs)∧(∀cs,c ≠ .tup cs)∧(∀id,id∈Bd c->id∈Bd p)∧∀(w:World) (A:Nat->Prop) (β:Nat->Option (Nat × Nat)) (v:Value),Cz w A β p v->Cz w A β c v∧v.oneCell'=true:=by
 have tree:∀t',tcK t' p K=some r->∃c,K c=some r∧(isT c∨c=p)∧isF p∧p ≠ .top∧(∀cs,c ≠ .agg cs)∧(∀cs,c ≠ .tup cs)∧(∀id,id∈Bd c->id∈Bd p)∧∀(w:World) (A:Nat->Prop) (β:Nat->Option (Nat × Nat)) (v:Value),Cz w A β p v->Cz w A β c v∧v.oneCell'=true:=by
  intro t' h;obtain ⟨c,h,hc,hp,hv⟩:=Ph h;exact ⟨c,h,.inl hc,Yz hp,by rintro rfl;exact hp,Ahy hc,Avy hc,by rw [Kc hc];simp,fun w A β v h=>⟨(Qx hc).2 (hv w A β v h).1,(hv w A β v h).2⟩⟩
 cases t with
 |sl es=>
  unfold fcK fsK at h;dsimp only at h;split at h
  ·rename_i id es' off n;cases hb:Nat.beq es' es
   ·rw [hb] at h;cases h
   ·rw [hb] at h;have:=Nat.eq_of_beq_eq_true hb;subst this;exact ⟨_,h,.inr rfl,trivial,by simp,by simp,by simp,fun _ h=>h,fun _ _ _ _ h=>⟨h,by rcases h with ⟨_,_,_,rfl⟩|⟨_,_,_,_,_,rfl,_⟩<;>rfl⟩⟩
  ·exact tree (.sl es) h
 |int k=>exact tree (.int k) h
 |bool=>exact tree (.bool) h
 |str=>exact tree (.str) h
 |any=>exact tree (.any) h
theorem Ag0 {cells:List PV}{i:Nat}{p:PV}(h:cells.getD i .top=p)(hp:p ≠ .top):cells[i]?=some p:=by
 rw [List.getD_eq_getElem?_getD] at h;cases hc:cells[i]? with
 |none=>rw [hc] at h;exact absurd h.symm hp
 |some q=>rw [hc] at h;simp at h;rw [h]
theorem W6:∀{ts:List CT}{cells:List PV}{off:Nat}{K:List PV->Option R},Xy ts cells off K=some r ->
  ∃cs,K cs=some r∧cs.length=ts.length∧∀j c,cs[j]?=some c->isT c∧∃p,cells[off+j]?=some p∧isT p ∧
   ∀(w:World) (A:Nat->Prop) (β:Nat->Option (Nat × Nat)) (v:Value),Cz w A β p v->Bq w A c v∧v.oneCell'=true
 |[],_,_,_,h=>⟨[],h,rfl,fun j c hj=>by simp at hj⟩
 |t::ts,cells,off,K,h=>by
  unfold Xy at h;obtain ⟨c,h,hc,hp,hv⟩:=Ph h;obtain ⟨cs,h,hl,hcs⟩:=W6 h;refine ⟨c::cs,h,by simp [hl],fun j c' hj=>?_⟩
  cases j with
  |zero=>
   simp at hj;subst hj;refine ⟨hc,cells.getD off .top,Ag0 rfl ?_,hp,hv⟩;intro e;rw [e] at hp;exact hp
  |succ j=>
   simp at hj;have:=hcs j c' hj
   rwa [Nat.add_right_comm,Nat.add_assoc] at this
theorem Xm:∀{ts:List CT}{cells:List PV}{off:Nat}{K:List PV->Option R},Sr ts cells off K=some r ->
  ∃cs,K cs=some r∧cs.length=ts.length∧(∀c∈cs,(∀x,c ≠ .agg x)∧(∀x,c ≠ .tup x))∧∀j c,cs[j]?=some c->∃p,cells[off+j]?=some p∧isF p∧(∀id,id∈Bd c->id∈Bd p) ∧
   ∀(w:World) (A:Nat->Prop) (β:Nat->Option (Nat × Nat)) (v:Value),Cz w A β p v->Cz w A β c v∧v.oneCell'=true
 |[],_,_,_,h=>⟨[],h,rfl,by simp,fun j c hj=>by simp at hj⟩
 |t::ts,cells,off,K,h=>by
  unfold Sr at h;obtain ⟨c,h,hc,hf,hp,ha,ht,hr,hv⟩:=A41 h;obtain ⟨cs,h,hl,hna,hcs⟩:=Xm h;refine ⟨c::cs,h,by simp [hl],?_,fun j c' hj=>?_⟩
  ·intro x hx;rcases List.mem_cons.1 hx with rfl|hx
   ·exact ⟨ha,ht⟩
   ·exact hna x hx
  ·cases j with
   |zero=>
    simp at hj;subst hj;exact ⟨cells.getD off .top,Ag0 rfl hp,hf,hr,hv⟩
   |succ j=>
    simp at hj;have:=hcs j c' hj
    rwa [Nat.add_right_comm,Nat.add_assoc] at this
theorem Aor {agg:Bool}{cells:List PV}{K:PV->Option R}(h:mkV agg cells K=some r):
  (agg=true∧K (.agg cells)=some r)∨(agg=false∧∃c,cells=[c]∧K c=some r):=by
 unfold mkV at h;cases agg
 ·obtain ⟨c,t,rfl,h⟩:=Bo h;obtain ⟨rfl,h⟩:=Eb h;exact .inr ⟨rfl,c,rfl,h⟩
 ·exact .inl ⟨rfl,h⟩
end
open Go.RowKit
def D1 (b:Option Ck):Prop:=
 match b with
 |some (.st _)=>True
 |some (.ar false _)=>True
 |_=>False
abbrev Bt:=Nat->Option (Nat × Nat)
def Xof (hp:Nat->Option Ck)(β:Bt)(b:Nat):Prop:=∃id o,D1 (hp id)∧β id=some (b,o)
def D3 (hp:Nat->Option Ck)(β:Bt)(Y:Nat->Prop)(b:Nat):Prop:=Xof hp β b∨Y b
def Ux (w:World)(A:Nat->Prop)(β:Bt)(id:Nat)(bx:Ck):Prop:=
 match bx with
 |.st cells=>∃b o,β id=some (b,o)∧(∀j c,cells[j]?=some c->∃v,w.cell? ⟨b,o+j,none⟩=some v∧Cz w A β c v)∧∀j,j<cells.length->w.frozen? ⟨b,o+j,none⟩=false
 |.ar fz cells=>(β id=none∧cells=[])∨∃b o,β id=some (b,o)∧RdT w A ⟨b,o,none⟩ cells∧(fz=false->∀j,o<=j->j<bsz w b->w.frozen? ⟨b,j,none⟩=false)∧(fz=true->¬A b)
 |.mv=>True
structure Jc where
 X:Nat->Prop
 L:Nat->Nat->Prop
 pn:Nat->Prop
 pt:Nat->Option (Nat × Nat)
 p8:∀i,pn i->i<8
def BR (bx:Ck)(o j:Nat):Prop:=
 match bx with
 |.st c=>o<=j∧j<o+c.length
 |.ar _ _=>o<=j
 |.mv=>False
structure Fr (X0:Jc) (w0 w:World):Prop where
 os:w.os=w0.os
 tape:w.tape=w0.tape
 output:w.output=w0.output
 step:Cx X0.X w0 w
 rng:∀b j,b<w0.heap.size->¬X0.L b j->w.cell? ⟨b,j,none⟩=w0.cell? ⟨b,j,none⟩∧w.frozen? ⟨b,j,none⟩=w0.frozen? ⟨b,j,none⟩
structure D0 (N:Nat) (w0:World) (X0:Jc) (Y:Nat->Prop) (β:Bt) (s:St) (a:Act) (w:World):Prop where
 dfr:a.defers=[]
 tsz:a.tmps.size=N
 tmo:∀i,N<=i->s.tm i=.top
 tms:∀i,i<N->Fj w (D3 s.hp β Y) β (s.tm i) (a.tmps.getD i undef)
 box:∀id b,s.hp id=some b->Ux w (D3 s.hp β Y) β id b
 inj:∀id id' b o o',D1 (s.hp id)->D1 (s.hp id')->β id=some (b,o)->β id'=some (b,o')->id=id'
 blt:∀id b o,s.hp id≠none->β id=some (b,o)->b<w.heap.size
 wfT:∀i,i<N->∀id∈Cs (s.tm i),s.hp id≠none
 wfB:∀id cells,s.hp id=some (.st cells)->∀c∈cells,∀id'∈Bd c,s.hp id'≠none
 ownd:∀b,Xof s.hp β b->X0.X b∨w0.heap.size<=b
 rngB:∀id bx b o,s.hp id=some bx->D1 (some bx)->β id=some (b,o)->b<w0.heap.size->∀j,BR bx o j->X0.L b j
 pin:∀i,X0.pn i->s.hp (D9 N i)≠none∧β (D9 N i)=X0.pt i
 stp:∀id c b o,s.hp id=some (.st c)->β id=some (b,o)->b<w0.heap.size->∃i,id=D9 N i∧X0.pn i
 Yx:∀b,Y b->¬Xof s.hp β b
 Ylt:∀b,Y b->b<w0.heap.size
 fr:Fr X0 w0 w
theorem Dr {b:Option Ck}(h:D1 b):b≠none:=by rintro rfl;exact h
theorem A8 {α:Type}(f:Nat->α)(i:Nat)(v:α):Dg f i v i=v:=by simp [Dg,Nat.beq_refl]
theorem A3 {α:Type}(f:Nat->α){i j:Nat}(v:α)(h:j≠i):Dg f i v j=f j:=by
 have:Nat.beq j i=false:=by
  cases hb:Nat.beq j i
  ·rfl
  ·exact absurd (Nat.eq_of_beq_eq_true hb) h
 simp [Dg,this]
theorem Ad4 {α:Type}(f:Nat->α){i:Nat}{v:α}(h:f i=v):Dg f i v=f:=by
 funext j
 by_cases e:j=i
 ·subst e;rw [A8];exact h.symm
 ·exact A3 f v e
theorem Aq0 {α:Type}(f:Nat->α){i j:Nat}(u v:α)(h:i≠j):Dg (Dg f i u) j v=Dg (Dg f j v) i u:=by
 funext k
 by_cases e:k=j
 ·subst e;rw [A8,A3 _ _ (Ne.symm h),A8]
 ·rw [A3 _ _ e];by_cases e':k=i
  ·subst e';rw [A8,A8]
  ·rw [A3 _ _ e',A3 _ _ e',A3 _ _ e]
theorem Ali {a:Act}{d:Nat}{v:Value}(h:d<a.tmps.size):(a.put (some d) v).tmps.getD d undef=v:=by
 simp [Act.put,h]
theorem Aj7 {a:Act}{d i:Nat}{v:Value}(h:i≠d):(a.put (some d) v).tmps.getD i undef=a.tmps.getD i undef:=by
 have h':d≠i:=fun e=>h e.symm
 simp [Act.put,Array.getElem?_setIfInBounds_ne h']
section
variable {N:Nat} {w0:World} {X0:Jc} {Y:Nat->Prop} {β β':Bt} {s:St} {a:Act} {w w':World}
theorem Acu (d:Option Tmp)(v:Value):(a.put d v).tmps.size=a.tmps.size:=by cases d<;>simp [Act.put]
theorem Va (d:Option Tmp)(v:Value):(a.put d v).defers=a.defers:=by cases d<;>rfl
theorem Ub {d:Option Tmp}(h:Hm N d=true){i:Nat}(e:d=some i):i<N:=by
 subst e;exact Nat.lt_of_succ_le (Nat.le_of_ble_eq_true h)
theorem R1 {Q:Nat->PV->Value->Prop}{tm:Nat->PV}{d:Option Tmp}{v:PV}{val:Value}(hN:a.tmps.size=N)(hd:Hm N d=true)
  (h:∀i,i<N->Q i (tm i) (a.tmps.getD i undef)) (hv:∀i,Q i v val):∀i,i<N->Q i (Cb tm d v i) ((a.put d val).tmps.getD i undef):=by
 intro i hi;cases d with
 |none=>exact h i hi
 |some d=>
  have hlt:=Ub hd rfl;by_cases e:i=d
  ·subst e;show Q i (Dg tm i v i) _;rw [A8,Ali (by omega)]
   exact hv i
  ·show Q i (Dg tm d v i) _;rw [A3 _ _ e,Aj7 e];exact h i hi
theorem Ap7 {tm:Nat->PV}{d:Option Tmp}{v:PV}(hd:Hm N d=true)(h:∀i,N<=i->tm i=.top):∀i,N<=i->Cb tm d v i=.top:=by
 intro i hi;cases d with
 |none=>exact h i hi
 |some d=>
  have:=Ub hd rfl;show Dg tm d v i=_;rw [A3 _ _ (by omega)]
  exact h i hi
theorem D0.put (h:D0 N w0 X0 Y β s a w){d:Option Tmp}{v:PV}{val:Value}(hd:Hm N d=true)(hv:Fj w (D3 s.hp β Y) β v val) (hr:∀id∈Cs v,s.hp id≠none):
  D0 N w0 X0 Y β ⟨Cb s.tm d v,s.hp⟩ (a.put d val) w where
 dfr:=by rw [Va];exact h.dfr
 tsz:=by rw [Acu];exact h.tsz
 tmo:=Ap7 hd h.tmo
 tms:=R1 (Q:=fun _ p u=>Fj w (D3 s.hp β Y) β p u) h.tsz hd h.tms (fun _=>hv)
 box:=h.box
 inj:=h.inj
 blt:=h.blt
 wfT:=by
  have:=R1 (Q:=fun _ p _=>∀id∈Cs p,s.hp id≠none) (val:=val) h.tsz hd h.wfT (fun _=>hr)
  exact this
 wfB:=h.wfB
 ownd:=h.ownd
 rngB:=h.rngB
 pin:=h.pin
 stp:=h.stp
 Yx:=h.Yx
 Ylt:=h.Ylt
 fr:=h.fr
theorem Cr (hp:Nat->Option Ck)(ids:List Nat)(i:Nat):Ao hp ids i=if i∈ids then (hp i).map W8 else hp i:=by
 unfold Ao;by_cases hi:i∈ids
 ·have:ids.any (Nat.beq i)=true:=List.any_eq_true.2 ⟨i,hi,Nat.beq_refl i⟩;rw [this,if_pos hi];rfl
 ·have:ids.any (Nat.beq i)=false:=by
   cases hb:ids.any (Nat.beq i)
   ·rfl
   ·obtain ⟨j,hj,e⟩:=List.any_eq_true.1 hb;exact absurd (Nat.eq_of_beq_eq_true e ▸ hj) hi
  rw [this,if_neg hi];rfl
theorem Ex {hp:Nat->Option Ck}{ids:List Nat}{i:Nat}:Ao hp ids i=none↔hp i=none:=by
 rw [Cr];split<;>simp
theorem R3 {hp:Nat->Option Ck}{ids:List Nat}{i:Nat}(h:D1 (Ao hp ids i)):D1 (hp i):=by
 rw [Cr] at h;split at h
 ·cases hb:hp i with
  |none=>rw [hb] at h;exact h
  |some b=>cases b with
   |st c=>trivial
   |ar fz c=>rw [hb] at h;exact h.elim
   |mv=>rw [hb] at h;exact h
 ·exact h
theorem J5 {hp:Nat->Option Ck}{ids:List Nat}{i:Nat}{bx:Ck}(h:Ao hp ids i=some bx)(hl:D1 (some bx)):hp i=some bx:=by
 rw [Cr] at h;split at h
 ·cases hb:hp i with
  |none=>rw [hb] at h;cases h
  |some b=>
   rw [hb] at h;cases b with
   |st c=>exact h
   |ar fz c=>simp only [Option.map_some,W8,Option.some.injEq] at h;subst h;exact hl.elim
   |mv=>simp only [Option.map_some,W8,Option.some.injEq] at h;subst h;exact hl.elim
 ·exact h
theorem Ta {hp:Nat->Option Ck}{ids:List Nat}{b:Nat}(h:Xof (Ao hp ids) β b):Xof hp β b:=by
 obtain ⟨id,o,hl,hb⟩:=h;exact ⟨id,o,R3 hl,hb⟩
theorem Ux.step' {A A':Nat->Prop}{id:Nat}{bx:Ck}(hA:∀b,A' b->A b)(h:Ux w A β id bx):Ux w A' β id bx:=by
 have hs:=Cx.refl A w;cases bx with
 |st c=>
  obtain ⟨b,o,h1,h2,h3⟩:=h;exact ⟨b,o,h1,fun j c hj=>let ⟨v,hv,hc⟩:=h2 j c hj;⟨v,hv,hc.step hs (fun b _=>hA b) (fun _ _=>rfl)⟩,h3⟩
 |ar fz c=>
  rcases h with h|⟨b,o,h1,h2,h3,h4⟩
  ·exact .inl h
  ·exact .inr ⟨b,o,h1,h2.weak (fun b _=>hA b),h3,fun e x=>h4 e (hA b x)⟩
 |mv=>trivial
theorem D0.freeze (h:D0 N w0 X0 Y β s a w){fz:List Nat}(hfz:∀id∈fz,∃f c,s.hp id=some (.ar f c)):D0 N w0 X0 Y β ⟨s.tm,Ao s.hp fz⟩ a w:=by
 have hA:∀b,D3 (Ao s.hp fz) β Y b->D3 s.hp β Y b:=fun b hb=>hb.imp Ta id
 refine ⟨h.dfr,h.tsz,h.tmo,fun i hi=>(h.tms i hi).step (Cx.refl _ _) (fun b _=>hA b) (fun _ _=>rfl),fun id b hb=>?_,fun id id' b o o' h1 h2=>h.inj id id' b o o' (R3 h1) (R3 h2),
  fun id b o hn=>h.blt id b o (fun e=>hn (Ex.2 e)),fun i hi id hid e=>h.wfT i hi id hid (Ex.1 e),fun id cells hc c hcm id' hid e=>?_,fun b hb=>h.ownd b (Ta hb),
  fun id bx b o hb hl=>h.rngB id bx b o (J5 hb hl) hl,fun i hi=>⟨fun e=>(h.pin i hi).1 (Ex.1 e),(h.pin i hi).2⟩,fun id c b o hc=>h.stp id c b o (J5 hc trivial),fun b hb x=>h.Yx b hb (Ta x),h.Ylt,h.fr⟩
 ·simp only at hb;rw [Cr] at hb;split at hb
  ·rename_i hm;obtain ⟨f,c,hc⟩:=hfz id hm;rw [hc] at hb;simp only [Option.map_some,W8,Option.some.injEq] at hb;subst hb;have hbx:=h.box id _ hc;rcases hbx with hbx|⟨b,o,h1,h2,h3,h4⟩
   ·exact .inl hbx
   ·refine .inr ⟨b,o,h1,h2.weak (fun b _=>hA b),(fun e=>by cases e),fun _ hb=>?_⟩
    rcases hb with ⟨id',o',hl,hb⟩|hY
    ·have hl0:=R3 hl;cases f with
     |true=>exact h4 rfl (.inl ⟨id',o',hl0,hb⟩)
     |false=>
      have e:=h.inj id' id b o' o hl0 (by rw [hc];trivial) hb h1
      subst e;simp only at hl;rw [Cr,if_pos hm,hc] at hl;exact hl
    ·cases f with
     |true=>exact h4 rfl (.inr hY)
     |false=>exact h.Yx b hY ⟨id,o,by rw [hc];trivial,h1⟩
  ·exact (h.box id b hb).step' hA
 ·simp only at hc;rw [Cr] at hc;refine h.wfB id cells ?_ c hcm id' hid (Ex.1 e);split at hc
  ·rename_i hm;obtain ⟨f,c,hc'⟩:=hfz id hm;rw [hc'] at hc;cases hc
  ·exact hc
theorem Cc:∀{nw:List (Nat × Ck)} {hp:Nat->Option Ck},Cp hp nw=true ->
  (∀id bx,(id,bx)∈nw->hp id=none)∧(∀id bx bx',(id,bx)∈nw->(id,bx')∈nw->bx=bx')
 |[],_,_=>⟨by simp,by simp⟩
 |(i,b)::r,hp,h=>by
  simp only [Cp,Bool.and_eq_true,Option.isNone_iff_eq_none,Bool.not_eq_true'] at h;obtain ⟨⟨h1,h2⟩,h3⟩:=h;obtain ⟨h4,h5⟩:=Cc h3
  have hne:∀bx,(i,bx) ∉ r:=by
   intro bx hm;have:r.any (fun q=>Nat.beq q.1 i)=true:=List.any_eq_true.2 ⟨_,hm,Nat.beq_refl i⟩
   rw [this] at h2;cases h2
  refine ⟨fun id bx hm=>?_,fun id bx bx' hm hm'=>?_⟩
  ·rcases List.mem_cons.1 hm with e|hm
   ·cases e;exact h1
   ·exact h4 id bx hm
  ·rcases List.mem_cons.1 hm with e|hm
   ·cases e;rcases List.mem_cons.1 hm' with e|hm'
    ·cases e;rfl
    ·exact absurd hm' (hne _)
   ·rcases List.mem_cons.1 hm' with e|hm'
    ·cases e;exact absurd hm (hne _)
    ·exact h5 id bx bx' hm hm'
theorem Fe:∀{nw:List (Nat × Ck)} {hp:Nat->Option Ck},(∀id bx bx',(id,bx)∈nw->(id,bx')∈nw->bx=bx') ->
  (∀id bx,(id,bx)∈nw->Be hp nw id=some bx)∧(∀id,(∀bx,(id,bx) ∉ nw)->Be hp nw id=hp id)
 |[],_,_=>⟨by simp,fun _ _=>rfl⟩
 |(i,b)::r,hp,h=>by
  obtain ⟨h1,h2⟩:=Fe (nw:=r) (hp:=Dg hp i (some b)) (fun id bx bx' hm hm'=>h id bx bx' (by simp [hm]) (by simp [hm']))
  refine ⟨fun id bx hm=>?_,fun id hn=>?_⟩
  ·by_cases hr:∃bx',(id,bx')∈r
   ·obtain ⟨bx',hr⟩:=hr;have:=h id bx bx' hm (by simp [hr])
    subst this;exact h1 id bx hr
   ·rcases List.mem_cons.1 hm with e|hm
    ·cases e;show Be (Dg hp i (some b)) r i=_;rw [h2 i (fun bx' hb=>hr ⟨bx',hb⟩),A8]
    ·exact absurd ⟨bx,hm⟩ hr
  ·show Be (Dg hp i (some b)) r id=_;rw [h2 id (fun bx hb=>hn bx (by simp [hb])),A3]
   rintro rfl
   exact hn b (by simp)
structure An0 (Y:Nat->Prop) (β:Bt) (s:St) (w:World) (v:PV) (nw:List (Nat × Ck)) (val:Value) (w':World) (β':Bt):Prop where
 os:w'.os=w.os
 tape:w'.tape=w.tape
 output:w'.output=w.output
 ext:Cx (fun _=>False) w w'
 old:∀id,s.hp id≠none->β' id=β id
 nlive:∀id bx,(id,bx)∈nw->D1 (some bx)
 nbox:∀id bx,(id,bx)∈nw->Ux w' (D3 (Be s.hp nw) β' Y) β' id bx
 nblk:∀id bx b o,(id,bx)∈nw->β' id=some (b,o)->w.heap.size<=b∧b<w'.heap.size
 ninj:∀id bx id' bx' b o o',(id,bx)∈nw->(id',bx')∈nw->β' id=some (b,o)->β' id'=some (b,o')->id=id'
 nwf:∀id cells,(id,.st cells)∈nw->∀c∈cells,∀id'∈Bd c,s.hp id'≠none∨∃bx,(id',bx)∈nw
 val:Fj w' (D3 (Be s.hp nw) β' Y) β' v val
 vwf:∀id∈Cs v,s.hp id≠none∨∃bx,(id,bx)∈nw
theorem D0.stepR (h:D0 N w0 X0 Y β s a w){d:Option Tmp}{v:PV}{nw:List (Nat × Ck)} {val:Value}(hd:Hm N d=true)(hab:Cp s.hp nw=true)
  (st:An0 Y β s w v nw val w' β'):D0 N w0 X0 Y β' ⟨Cb s.tm d v,Be s.hp nw⟩ (a.put d val) w':=by
 obtain ⟨ha1,ha2⟩:=Cc hab;obtain ⟨hg1,hg2⟩:=Fe (hp:=s.hp) ha2
 have hcase:∀id,(∃bx,(id,bx)∈nw)∨Be s.hp nw id=s.hp id:=fun id=>by
  by_cases hx:∃bx,(id,bx)∈nw
  ·exact .inl hx
  ·exact .inr (hg2 id fun bx hb=>hx ⟨bx,hb⟩)
 have hpres:∀id,s.hp id≠none->Be s.hp nw id=s.hp id:=fun id hn=>by
  rcases hcase id with ⟨bx,hx⟩|e
  ·exact absurd (ha1 id bx hx) hn
  ·exact e
 have hnn:∀id,(s.hp id≠none∨∃bx,(id,bx)∈nw)->Be s.hp nw id≠none:=by
  rintro id (hn|⟨bx,hx⟩)
  ·rw [hpres id hn];exact hn
  ·rw [hg1 id bx hx];simp
 have hXold:∀b,b<w.heap.size->Xof (Be s.hp nw) β' b->Xof s.hp β b:=by
  rintro b hb ⟨id,o,hl,hβ⟩
  rcases hcase id with ⟨bx,hx⟩|e
  ·have:=(st.nblk id bx b o hx hβ).1;omega
  ·rw [e] at hl;exact ⟨id,o,hl,by rw [←st.old id (Dr hl)];exact hβ⟩
 have hAold:∀b,b<w.heap.size->D3 (Be s.hp nw) β' Y b->D3 s.hp β Y b:=fun b hb hA=>hA.imp (hXold b hb) id
 have hstep:Cx (D3 s.hp β Y) w w':=st.ext.weaken (fun _ _ x=>x.elim)
 refine ⟨by rw [Va];exact h.dfr,by rw [Acu];exact h.tsz,Ap7 hd h.tmo,?_,?_,?_,?_,?_,?_,?_,?_,?_,?_,?_,h.Ylt,?_⟩
 ·refine R1 (Q:=fun _ p u=>Fj w' (D3 (Be s.hp nw) β' Y) β' p u) h.tsz hd (fun i hi=>?_) (fun _=>st.val)
  exact (h.tms i hi).step hstep hAold fun id hid=>st.old id (h.wfT i hi id hid)
 ·intro id b hb;simp only at hb;rcases hcase id with ⟨bx,hx⟩|e
  ·rw [hg1 id bx hx] at hb;cases hb;exact st.nbox id _ hx
  ·rw [e] at hb;have hβ:=st.old id (by rw [hb];simp)
   have hbx:=h.box id b hb;have hlt:=h.blt id;have hne:s.hp id≠none:=by rw [hb];simp
   cases b with
   |st c=>
    obtain ⟨b,o,h1,h2,h3⟩:=hbx;have hb':=hlt b o hne h1;have hbl:=st.ext.keep b hb' (fun x=>x)
    refine ⟨b,o,by rw [hβ];exact h1,fun j c hj=>?_,fun j hj=>?_⟩
    ·obtain ⟨v,hv,hc⟩:=h2 j c hj;refine ⟨v,by rw [World.cell?_of_block (w:=w) hbl];exact hv,hc.step hstep hAold fun id' hid=>st.old id' ?_⟩
     exact h.wfB id _ hb c (List.mem_of_getElem? hj) id' hid
    ·rw [World.frozen?_of_block (w:=w) hbl];exact h3 j hj
   |ar fz c=>
    rcases hbx with ⟨h1,h2⟩|⟨b,o,h1,h2,h3,h4⟩
    ·exact .inl ⟨by rw [hβ];exact h1,h2⟩
    ·have hb':=hlt b o hne h1;have hbl:=st.ext.keep b hb' (fun x=>x)
     have hbs:bsz w' b=bsz w b:=by unfold bsz;rw [hbl]
     refine .inr ⟨b,o,by rw [hβ];exact h1,fun j c hj=>?_,fun e j hj hj'=>?_,fun e x=>h4 e (hAold b hb' x)⟩
     ·obtain ⟨v,hv,h5,hc⟩:=h2 j c hj;exact ⟨v,by rw [World.cell?_of_block (w:=w) (by rw [Hb];exact hbl)];exact hv,h5,hc.step hstep hAold⟩
     ·rw [World.frozen?_of_block (w:=w) hbl];exact h3 e j hj (by rw [←hbs];exact hj')
   |mv=>trivial
 ·intro id id' b o o' hl hl' hb hb';simp only at hl hl';rcases hcase id with ⟨bx,hx⟩|e
  ·rcases hcase id' with ⟨bx',hx'⟩|e'
   ·exact st.ninj id bx id' bx' b o o' hx hx' hb hb'
   ·rw [e'] at hl';have h1:=(st.nblk id bx b o hx hb).1;have h2:=h.blt id' b o' (Dr hl') (by rw [←st.old id' (Dr hl')];exact hb')
    omega
  ·rw [e] at hl;rcases hcase id' with ⟨bx',hx'⟩|e'
   ·have h1:=(st.nblk id' bx' b o' hx' hb').1;have h2:=h.blt id b o (Dr hl) (by rw [←st.old id (Dr hl)];exact hb)
    omega
   ·rw [e'] at hl';exact h.inj id id' b o o' hl hl' (by rw [←st.old id (Dr hl)];exact hb) (by rw [←st.old id' (Dr hl')];exact hb')
 ·intro id b o hn hb;simp only at hn;rcases hcase id with ⟨bx,hx⟩|e
  ·exact (st.nblk id bx b o hx hb).2
  ·rw [e] at hn;exact Nat.lt_of_lt_of_le (h.blt id b o hn (by rw [←st.old id hn];exact hb)) st.ext.size
 ·have:=R1 (Q:=fun _ p _=>∀id∈Cs p,Be s.hp nw id≠none) (val:=val) (d:=d) (v:=v) h.tsz hd (fun i hi id hid=>hnn id (.inl (h.wfT i hi id hid))) (fun _ id hid=>hnn id (st.vwf id hid))
  exact this
 ·intro id cells hc c hcm id' hid;simp only at hc;rcases hcase id with ⟨bx,hx⟩|e
  ·rw [hg1 id bx hx] at hc;cases hc;exact hnn id' (st.nwf id _ hx c hcm id' hid)
  ·rw [e] at hc;exact hnn id' (.inl (h.wfB id cells hc c hcm id' hid))
 ·rintro b ⟨id,o,hl,hb⟩
  simp only at hl;rcases hcase id with ⟨bx,hx⟩|e
  ·exact .inr (Nat.le_trans h.fr.step.size (st.nblk id bx b o hx hb).1)
  ·rw [e] at hl;exact h.ownd b ⟨id,o,hl,by rw [←st.old id (Dr hl)];exact hb⟩
 ·intro id bx b o hb hl hβ hlt;simp only at hb;rcases hcase id with ⟨bx',hx⟩|e
  ·have:=(st.nblk id bx' b o hx hβ).1;have:=h.fr.step.size;omega
  ·rw [e] at hb;exact h.rngB id bx b o hb hl (by rw [←st.old id (by rw [hb];simp)];exact hβ) hlt
 ·intro i hi;obtain ⟨h1,h2⟩:=h.pin i hi;exact ⟨hnn _ (.inl h1),by rw [st.old _ h1];exact h2⟩
 ·intro id c b o hb hβ hlt;simp only at hb;rcases hcase id with ⟨bx',hx⟩|e
  ·have:=(st.nblk id bx' b o hx hβ).1;have:=h.fr.step.size;omega
  ·rw [e] at hb;exact h.stp id c b o hb (by rw [←st.old id (by rw [hb];simp)];exact hβ) hlt
 ·rintro b hY hX
  have hb:b<w.heap.size:=Nat.lt_of_lt_of_le (h.Ylt b hY) h.fr.step.size;exact h.Yx b hY (hXold b hb hX)
 ·refine ⟨st.os.trans h.fr.os,st.tape.trans h.fr.tape,st.output.trans h.fr.output,h.fr.step.trans st.ext (fun _ _ x=>x.elim),fun b j hb hL=>?_⟩
  have hbl:=st.ext.keep b (Nat.lt_of_lt_of_le hb h.fr.step.size) (fun x=>x)
  have hc:w'.cell? ⟨b,j,none⟩=w.cell? ⟨b,j,none⟩:=World.cell?_of_block (w:=w) hbl;have hf:w'.frozen? ⟨b,j,none⟩=w.frozen? ⟨b,j,none⟩:=World.frozen?_of_block (w:=w) hbl;rw [hc,hf];exact h.fr.rng b j hb hL
end
open Go.RowKit
section
variable {P:Program} {N:Nat} {w0:World} {X0:Jc} {Y:Nat->Prop} {β β':Bt} {s:St} {a:Act} {w w':World} {o:Oper}
theorem Aqj (cs:List Value)(A:Nat->Prop):B5 (Cz w A β) (cs.map PV.sc) cs:=by
 induction cs with
 |nil=>trivial
 |cons v r ih=>exact ⟨Bq.sc v,ih⟩
theorem Ate (cs:List Value):(cs.map PV.sc).flatMap Bd=[]:=by
 induction cs with
 |nil=>rfl
 |cons v r ih=>exact ih
theorem Dy (h:D0 N w0 X0 Y β s a w)(x:Operand):Fj w (D3 s.hp β Y) β (C1 s.tm x) (a.eval x):=by
 cases x with
 |tmp t=>
  show Fj _ _ _ (s.tm t) (a.tmps.getD t undef);by_cases ht:t<N
  ·exact h.tms t ht
  ·rw [h.tmo t (Nat.le_of_not_lt ht)];exact Bq.top _
 |const v=>
  cases v with
  |agg cs=>exact ⟨cs.toList,by simp [Act.eval],Aqj cs.toList _⟩
  |_=>exact Bq.sc _
 |func f=>exact Bq.sc _
 |global g=>exact Bq.sc _
theorem F3 (h:D0 N w0 X0 Y β s a w)(x:Operand):∀id∈Cs (C1 s.tm x),s.hp id≠none:=by
 cases x with
 |tmp t=>
  show ∀id∈Cs (s.tm t),_;by_cases ht:t<N
  ·exact h.wfT t ht
  ·rw [h.tmo t (Nat.le_of_not_lt ht)];intro id hid;cases hid
 |const v=>
  cases v with
  |agg cs=>
   intro id hid;have:Cs (.agg (cs.toList.map .sc))=[]:=Ate cs.toList;simp only [C1] at hid;rw [this] at hid;cases hid
  |_=>intro id hid;cases hid
 |func f=>intro id hid;cases hid
 |global g=>intro id hid;cases hid
theorem Ae8 {A:Nat->Prop}{v u:Value}(h:Fj w A β (.sc v) u):u=v:=Bq.val h
theorem De (h:D0 N w0 X0 Y β s a w){x:Operand}{v:Value}(e:C1 s.tm x=.sc v):a.eval x=v:=by
 have:=Dy h x;rw [e] at this;exact Ae8 this
def Fu (P:Program)(a:Act)(w:World)(o:Oper)(Y:Nat->Prop)(β:Bt)(s:St)(v:PV)(fz:List Nat)(nw:List (Nat × Ck)):Prop:=
 (∀id∈fz,∃f c,s.hp id=some (.ar f c))∧∃val w',(execOp a.eval o).run P w=.ok (.value val) w'∧(Cp s.hp nw=true->∃β',An0 Y β ⟨s.tm,Ao s.hp fz⟩ w v nw val w' β')
theorem Atd {v:PV}{val:Value}(hv:Fj w (D3 s.hp β Y) β v val) (hr:∀id∈Cs v,s.hp id≠none):An0 Y β s w v [] val w β:=
 ⟨rfl,rfl,rfl,Cx.refl _ _,fun _ _=>rfl,by simp,by simp,by simp,by simp,by simp,hv,fun id hid=>.inl (hr id hid)⟩
theorem Cv {v:PV}{val:Value}(hrun:(execOp a.eval o).run P w=.ok (.value val) w) (hv:Fj w (D3 s.hp β Y) β v val) (hr:∀id∈Cs v,s.hp id≠none):Fu P a w o Y β s v [] []:=
 ⟨by simp,val,w,hrun,fun _=>⟨β,Atd (s:=⟨s.tm,Ao s.hp []⟩) hv hr⟩⟩
theorem Dm {v:Value}(hrun:(execOp a.eval o).run P w=.ok (.value v) w):Fu P a w o Y β s (.sc v) [] []:=Cv hrun (Bq.sc v) (by intro id hid;cases hid)
structure Ho (w w':World) (c:Array Value) (e:TypeId):Prop where
 os:w'.os=w.os
 tape:w'.tape=w.tape
 output:w'.output=w.output
 old:∀b,b<w.heap.size->w'.heap[b]?=w.heap[b]?
 size:w'.heap.size=w.heap.size+1
 new:∃fz:Nat × Nat,w'.heap[w.heap.size]?=some (.cells c e fz)∧(fz.1=fz.2∨c.size<=fz.1)
theorem Ho.alloc (w:World)(c:Array Value)(e:TypeId):Ho w (w.alloc (.cells c e)) c e:=
 ⟨rfl,rfl,rfl,fun b hb=>Below.heap_alloc w _ b hb,by show (w.heap.push _).size=_;simp,(0,0),by show (w.heap.push _)[w.heap.size]?=_;simp,.inl rfl⟩
theorem Ho.drew {c:Array Value}{e:TypeId}(h:Ho w w' c e):Ho w w'.drew c e:=⟨h.os,h.tape,h.output,h.old,h.size,h.new⟩
section
variable {c:Array Value} {e:TypeId}
theorem Ho.step (h:Ho w w' c e):Cx (fun _=>False) w w':=
 ⟨by rw [h.size];omega,fun b hb _=>h.old b hb,fun b hb=>by unfold bsz;rw [h.old b hb];exact Nat.le_refl _⟩
theorem Ho.cell (h:Ho w w' c e)(j:Nat):w'.cell? ⟨w.heap.size,j,none⟩=c[j]?:=by
 obtain ⟨fz,hn,_⟩:=h.new;simp [World.cell?,hn]
theorem Ho.frozen (h:Ho w w' c e){j:Nat}(hj:j<c.size):w'.frozen? ⟨w.heap.size,j,none⟩=false:=by
 obtain ⟨fz,hn,hf⟩:=h.new;simp only [World.frozen?,hn];rcases hf with hf|hf<;>simp<;>omega
theorem Ho.bsz (h:Ho w w' c e):bsz w' w.heap.size=c.size:=by
 obtain ⟨fz,hn,_⟩:=h.new;simp [Pv.bsz,hn]
end
theorem Th {c:Array Value}{e:TypeId}{d:Nat}{bx:Ck}{v:PV}{val:Value}(hg:Ho w w' c e)(hd:s.hp d=none)(hl:D1 (some bx))
  (hbx:Ux w' (D3 (Dg s.hp d (some bx)) (Dg β d (some (w.heap.size,0))) Y) (Dg β d (some (w.heap.size,0))) d bx)
  (hcw:∀cells,bx=.st cells->∀x∈cells,∀id'∈Bd x,s.hp id'≠none)
  (hv:Fj w' (D3 (Dg s.hp d (some bx)) (Dg β d (some (w.heap.size,0))) Y) (Dg β d (some (w.heap.size,0))) v val)
  (hvr:∀id∈Cs v,s.hp id≠none∨id=d):An0 Y β s w v [(d,bx)] val w' (Dg β d (some (w.heap.size,0))) where
 os:=hg.os
 tape:=hg.tape
 output:=hg.output
 ext:=hg.step
 old:=fun id hn=>A3 _ _ (by rintro rfl;exact hn hd)
 nlive:=by intro id b hm;simp at hm;obtain ⟨rfl,rfl⟩:=hm;exact hl
 nbox:=by intro id b hm;simp at hm;obtain ⟨rfl,rfl⟩:=hm;exact hbx
 nblk:=by
  intro id b x y hm hb;simp at hm;obtain ⟨rfl,rfl⟩:=hm;rw [A8] at hb;simp at hb;have:=hg.size;omega
 ninj:=by intro id b id' b' x y z hm hm' _ _;simp at hm hm';rw [hm.1,hm'.1]
 nwf:=by intro id cells hm x hx id' hid;simp at hm;exact .inl (hcw cells hm.2.symm x hx id' hid)
 val:=hv
 vwf:=by
  intro id hid;rcases hvr id hid with h|rfl
  ·exact .inl h
  ·exact .inr ⟨bx,by simp⟩
theorem Avd {c:Array Value}{e:TypeId}(hg:Ho w w' c e){A A':Nat->Prop}(hA:∀b,b<w.heap.size->A' b->A b){cells:List PV}
  (h:∀(j:Nat) p,cells[j]?=some p->∃v,c[j]?=some v∧v.oneCell'=true∧Bq w A p v):RdT w' A' ⟨w.heap.size,0,none⟩ cells:=by
 intro j p hj;obtain ⟨v,hv,h1,ht⟩:=h j p hj;exact ⟨v,by rw [Fz,Nat.zero_add,hg.cell];exact hv,h1,ht.step (hg.step.weaken (fun _ _ x=>x.elim)) hA⟩
theorem Avm {d:Nat}{bx:Ck}(hwf:s.hp d=none):∀b,b<w.heap.size->D3 (Dg s.hp d (some bx)) (Dg β d (some (w.heap.size,0))) Y b->D3 s.hp β Y b:=by
 intro b hb hA;rcases hA with ⟨id,o,hl,hβ⟩|hY
 ·by_cases e:id=d
  ·subst e;rw [A8] at hβ;simp at hβ;omega
  ·rw [A3 _ _ e] at hl hβ;exact .inl ⟨id,o,hl,hβ⟩
 ·exact .inr hY
theorem Tk {c:Array Value}{e:TypeId}{d:Nat}{cells:List PV}{fz:List Nat}{v:PV}{val:Value}
  (hfz:∀id∈fz,∃f c,s.hp id=some (.ar f c))
  (hrun:(execOp a.eval o).run P w=.ok (.value val) w') (hg:Ho w w' c e)
  (hc:∀(j:Nat) p,cells[j]?=some p->∃u,c[j]?=some u∧u.oneCell'=true∧Bq w (D3 (Ao s.hp fz) β Y) p u)
  (hv:(v=.ptr d 0∧val=.pointer (some ⟨w.heap.size,0,none⟩))∨∃es n cap,v=.view d es 0 n∧val=.slice (some ⟨w.heap.size,0,none⟩) n cap∧n<=cap∧cap*es<=c.size):
  Fu P a w o Y β s v fz [(d,.ar false cells)]:=by
 refine ⟨hfz,val,w',hrun,fun hab=>⟨Dg β d (some (w.heap.size,0)),?_⟩⟩
 have hd:s.hp d=none:=(Cc hab).1 d (.ar false cells) (by simp)
 have hd':Ao s.hp fz d=none:=Ex.2 hd;refine Th (s:=⟨s.tm,Ao s.hp fz⟩) hg hd' trivial ?_ (fun cells hx=>by cases hx) ?_ ?_
 ·refine .inr ⟨w.heap.size,0,A8 _ _ _,?_,fun _ j _ hj=>?_,(fun x=>by cases x)⟩
  ·exact Avd hg (Avm (s:=⟨s.tm,Ao s.hp fz⟩) hd') hc
  ·rw [hg.bsz] at hj;exact hg.frozen hj
 ·rcases hv with ⟨rfl,rfl⟩|⟨es,n,cap,rfl,rfl,hn,hcap⟩
  ·exact ⟨w.heap.size,0,A8 _ _ _,rfl⟩
  ·exact .inr ⟨w.heap.size,0,0,cap,A8 _ _ _,rfl,.inl rfl,hn,by rw [hg.bsz];omega,by rw [hg.size];omega⟩
 ·intro id hid;rcases hv with ⟨rfl,_⟩|⟨es,n,cap,rfl,_⟩<;>(simp [Cs,Dc,Bd] at hid;exact .inr hid)
theorem Ang {c:Array Value}{e:TypeId}{d:Nat}{cells:List PV}
  (hrun:(execOp a.eval o).run P w=.ok (.value (.pointer (some ⟨w.heap.size,0,none⟩))) w') (hg:Ho w w' c e)
  (hc:∀(j:Nat) p,cells[j]?=some p->∃u,c[j]?=some u∧Cz w (D3 s.hp β Y) β p u) (hr:∀x∈cells,∀id∈Bd x,s.hp id≠none):
  Fu P a w o Y β s (.ptr d 0) [] [(d,.st cells)]:=by
 refine ⟨by simp,_,w',hrun,fun hab=>⟨Dg β d (some (w.heap.size,0)),?_⟩⟩
 have hd:s.hp d=none:=(Cc hab).1 d (.st cells) (by simp)
 refine Th (s:=⟨s.tm,Ao s.hp []⟩) hg hd trivial ?_ (fun cs hx x hxm id hid=>?_) ?_ ?_
 ·refine ⟨w.heap.size,0,A8 _ _ _,fun j p hj=>?_,fun j hj=>?_⟩
  ·obtain ⟨u,hu,hp⟩:=hc j p hj;refine ⟨u,by rw [Nat.zero_add,hg.cell];exact hu,hp.step (hg.step.weaken (fun _ _ x=>x.elim)) (Avm (s:=⟨s.tm,Ao s.hp []⟩) hd) fun id hid=>A3 _ _ ?_⟩
   rintro rfl
   exact hr p (List.mem_of_getElem? hj) id hid hd
  ·rw [Nat.zero_add];obtain ⟨u,hu,_⟩:=hc j _ (List.getElem?_eq_getElem hj)
   exact hg.frozen (by
    rcases Nat.lt_or_ge j c.size with h|h
    ·exact h
    ·rw [Array.getElem?_eq_none h] at hu;cases hu)
 ·injection hx with hx;subst hx;exact hr x hxm id hid
 ·exact ⟨w.heap.size,0,A8 _ _ _,rfl⟩
 ·intro id hid;simp [Cs,Dc,Bd] at hid;exact .inr hid
end
open Go.RowKit
section
variable {R:Type} {r:R} {P:Program} {N:Nat} {w0:World} {X0:Jc} {Y:Nat->Prop} {β β':Bt} {s:St} {a:Act} {w w':World} {o:Oper}
theorem Mw {t:TypeId}{n:Nat}(h:(P.info? t).map (·.size)=some n) (w:World):(sizeOf t).run P w=.ok n w:=by
 cases hi:P.info? t with
 |none=>rw [hi] at h;cases h
 |some i=>rw [hi] at h;simp at h;simp [sizeOf,typeInfo,hi,h]
theorem A04 {t:TypeId}{n:Nat}(h:Bu P t=n)(hn:0<n):(P.info? t).map (·.size)=some n:=by
 unfold Bu at h;cases hi:(P.info? t).map (·.size) with
 |none=>rw [hi] at h;simp at h;omega
 |some i=>rw [hi] at h;simp at h;rw [h]
theorem T0 {t:TypeId}{d:TypeDesc}(h:P.underlying t=some d)(w:World):(isAgg t).run P w=.ok (Df P t) w:=by
 unfold isAgg Df;rw [h];simp only [Sem.run_bind,run_underlying h,Result.andThen_ok];cases d<;>rfl
theorem A4c {t:TypeId}{v:Value}{K:PV->Option R}(h:cvK P t v K=some r):∃p,K p=some r∧Cs p=[]∧∀(w:World)(A:Nat->Prop)(β:Bt),Fj w A β p v:=by
 have sc:∀v:Value,K (.sc v)=some r->∃p,K p=some r∧Cs p=[]∧∀(w:World) (A:Nat->Prop) (β:Bt),Fj w A β p v:=fun v h=>⟨_,h,rfl,fun w A β=>Bq.sc v⟩
 unfold cvK at h;split at h
 ·rename_i cs;obtain ⟨hl,h⟩:=A7 h;obtain ⟨xs,h,hxl,hx⟩:=W6 h;have hl:=Nat.eq_of_beq_eq_true hl;refine ⟨_,h,?_,fun w A β=>⟨cs.toList,by simp,?_⟩⟩
  ·show xs.flatMap Bd=[];rw [List.flatMap_eq_nil_iff];intro c hc;obtain ⟨j,hj⟩:=List.mem_iff_getElem?.1 hc;exact Kc (hx j c hj).1
  ·refine B5.of_at (by rw [hxl,hl]) fun i c u hc hu=>?_
   obtain ⟨hT,p,hp,_,hpv⟩:=hx i c hc;refine (Qx hT).2 (hpv w A β u ?_).1;rw [Nat.zero_add,List.getElem?_map,hu] at hp;simp at hp;subst hp;exact Bq.sc u
 ·split at h
  ·exact ⟨_,h,rfl,fun w A β=>Bq.lnil true _⟩
  ·cases h
 ·exact sc _ h
theorem Ack (h:D0 N w0 X0 Y β s a w){x:Operand}(hrun:(execOp a.eval o).run P w=.ok (.value (a.eval x)) w) {K:PV->Option R}(hk:Aey P o.type s.tm x K=some r):
  ∃v,K v=some r∧Fu P a w o Y β s v [] []:=by
 have dflt:K (C1 s.tm x)=some r->∃v,K v=some r∧Fu P a w o Y β s v [] []:=fun hk=>⟨_,hk,Cv hrun (Dy h x) (F3 h x)⟩
 cases x with
 |const v=>
  obtain ⟨p,hk,hr,hv⟩:=A4c hk;exact ⟨p,hk,Cv hrun (hv _ _ _) (by rw [hr];simp)⟩
 |tmp t=>exact dflt hk
 |func f=>exact dflt hk
 |global g=>exact dflt hk
theorem Ax8 {x:Operand}(ho:o.op=.move x):(execOp a.eval o).run P w=.ok (.value (a.eval x)) w:=by unfold execOp;rw [ho];rfl
theorem Aq5 {x:Operand}(ho:o.op=.assign x):(execOp a.eval o).run P w=.ok (.value (a.eval x)) w:=by unfold execOp;rw [ho];rfl
theorem Aug (h:D0 N w0 X0 Y β s a w){c x y:Operand}(ho:o.op=.pick c x y){K:PV->Option R}(hk:(Bz (C1 s.tm c) fun t=>A4 t (K (C1 s.tm x)) (K (C1 s.tm y)))=some r):
  ∃v,K v=some r∧Fu P a w o Y β s v [] []:=by
 obtain ⟨b,hb,hk⟩:=Hk hk;have hc:=De h hb;rcases Pd hk with ⟨rfl,hk⟩|⟨rfl,hk⟩
 ·exact ⟨_,hk,Cv (by unfold execOp;rw [ho];simp [asBool,hc]) (Dy h x) (F3 h x)⟩
 ·exact ⟨_,hk,Cv (by unfold execOp;rw [ho];simp [asBool,hc]) (Dy h y) (F3 h y)⟩
theorem Sl {t:TypeId}{K:List PV->Option R}(h:Ia P t K=some r):∃(v:Value)(cs:List PV),K cs=some r∧Aas P t=some v∧cs.length=(Jg P t).length∧cs.length=v.cells.toList.length∧cs.length=Bu P t ∧
  ∀(j:Nat) c,cs[j]?=some c->isT c∧∃u,v.cells.toList[j]?=some u∧u.oneCell'=true∧∀(w:World) (A:Nat->Prop),Bq w A c u:=by
 unfold Ia at h;obtain ⟨v,hz,h⟩:=Dv h;obtain ⟨hl,h⟩:=A7 h;obtain ⟨cs,h,hcl,hc⟩:=W6 h;simp only [Bool.and_eq_true] at hl;have hl1:=Nat.eq_of_beq_eq_true hl.1
 have hl2:(Jg P t).length=Bu P t:=by
  have:=hl.2;simp only [Kg,Bool.and_eq_true] at this;exact Nat.eq_of_beq_eq_true this.2
 refine ⟨v,cs,h,hz,hcl,by rw [hcl,hl1],by rw [hcl,hl2],fun j c hj=>?_⟩
 obtain ⟨hT,p,hp,_,hpv⟩:=hc j c hj;rw [Nat.zero_add,List.getElem?_map] at hp;cases hu:v.cells.toList[j]? with
 |none=>rw [hu] at hp;cases hp
 |some u=>
  rw [hu] at hp;simp at hp;subst hp;exact ⟨hT,u,rfl,(hpv default (fun _=>False) (fun _=>none) u (Bq.sc u)).2,fun w A=>(hpv w A (fun _=>none) u (Bq.sc u)).1⟩
theorem Z8 {t:TypeId}{v:Value}(h:Aas P t=some v)(w:World):(zeroValue t).run P w=.ok v w:=by
 unfold Aas at h;cases hi:P.info? t with
 |none=>rw [hi] at h;cases h
 |some i=>rw [hi] at h;simp at h;simp [zeroValue,typeInfo,hi,h]
theorem Aqi {t:TypeId}(ho:o.op=.alloc t){d:Nat}{K:PV->List Nat->List (Nat × Ck)->Option R}
  (hk:(Ia P t fun cs=>K (.ptr d 0) [] [(d,A00 P t cs)])=some r):∃v fz nw,K v fz nw=some r∧Fu P a w o Y β s v fz nw:=by
 obtain ⟨z,cs,hk,hz,_,hl,_,hc⟩:=Sl hk
 have hrun:(execOp a.eval o).run P w=.ok (.value (.pointer (some ⟨w.heap.size,0,none⟩))) (w.alloc (.cells z.cells t)):=by
  unfold execOp;rw [ho];simp [Instr.alloc,Z8 hz,newVar,newRow]
 have hg:=Ho.alloc w z.cells t;refine ⟨_,_,_,hk,?_⟩;unfold A00;cases Xh P t
 ·refine Ang hrun hg (fun j p hj=>?_) fun x hx id hid=>?_
  ·obtain ⟨hT,u,hu,_,hv⟩:=hc j p hj;exact ⟨u,by simpa using hu,(Qx hT).2 (hv _ _)⟩
  ·obtain ⟨j,hj⟩:=List.mem_iff_getElem?.1 hx;rw [Kc (hc j x hj).1] at hid;cases hid
 ·refine Tk (by simp) hrun hg (fun j p hj=>?_) (.inl ⟨rfl,rfl⟩)
  obtain ⟨hT,u,hu,h1,hv⟩:=hc j p hj;exact ⟨u,by simpa using hu,h1,hv _ _⟩
end
open Go.RowKit
section
variable {R:Type} {r:R} {P:Program} {N:Nat} {w0:World} {X0:Jc} {Y:Nat->Prop} {β β':Bt} {s:St} {a:Act} {w w':World} {o:Oper} {A:Nat->Prop}
theorem Un {t:TypeId}(h:Kg P t=true):(∃d,P.underlying t=some d)∧(Jg P t).length=Bu P t∧(P.info? t).map (·.size)=some (Bu P t):=by
 simp only [Kg,Bool.and_eq_true] at h;refine ⟨Option.isSome_iff_exists.1 h.1,Nat.eq_of_beq_eq_true h.2,?_⟩;unfold Bu;cases hi:P.info? t with
 |none=>unfold Program.underlying at h;rw [hi] at h;cases h.1
 |some i=>simp
theorem Pz {v:Value}(h:v.oneCell'=true):v.cells = #[v]:=by cases v<;>first|rfl|cases h
theorem Av8 {p:PV}{v:Value}{ts:List CT}{K:List PV->Option R}(hv:Fj w A β p v)(hl:(cellsOf p).length=ts.length) (h:Sr ts (cellsOf p) 0 K=some r):
  ∃cs,K cs=some r∧cs.length=ts.length∧B5 (Cz w A β) cs v.cells.toList∧(∀u∈v.cells.toList,u.oneCell'=true)∧(∀c∈cs,∀id∈Bd c,id∈Cs p)∧∀c∈cs,(∀x,c ≠ .agg x)∧(∀x,c ≠ .tup x):=by
 obtain ⟨cs,h,hcl,hna,hc⟩:=Xm h;refine ⟨cs,h,hcl,?_⟩
 have single:(∀x,p ≠ .agg x)->cellsOf p=[p]:=by
  intro hp;cases p<;>first|rfl|exact absurd rfl (hp _)
 by_cases hagg:∃x,p=.agg x
 ·obtain ⟨x,rfl⟩:=hagg;obtain ⟨vs,rfl,h2⟩:=hv;have hlen:cs.length=vs.length:=by rw [hcl,←hl];exact h2.len
  have key:∀(i:Nat) c u,cs[i]?=some c->vs[i]?=some u->Cz w A β c u∧u.oneCell'=true:=by
   intro i c u hc' hu;obtain ⟨q,hq,_,_,hqv⟩:=hc i c hc';rw [Nat.zero_add] at hq;exact hqv w A β u (h2.at_ hq hu)
  refine ⟨B5.of_at hlen fun i c u hc' hu=>(key i c u hc' hu).1,?_,?_,hna⟩
  ·intro u hu;obtain ⟨i,hi⟩:=List.mem_iff_getElem?.1 (show u∈vs from hu)
   have hlt:i<vs.length:=by
    rcases Nat.lt_or_ge i vs.length with h|h
    ·exact h
    ·rw [List.getElem?_eq_none h] at hi;cases hi
   exact (key i _ u (List.getElem?_eq_getElem (by omega)) hi).2
  ·intro c hcm id hid;obtain ⟨i,hi⟩:=List.mem_iff_getElem?.1 hcm;obtain ⟨q,hq,_,hr,_⟩:=hc i c hi;rw [Nat.zero_add] at hq;show id∈x.flatMap Bd;exact List.mem_flatMap.2 ⟨q,List.mem_of_getElem? hq,hr id hid⟩
 ·have hp:∀x,p ≠ .agg x:=fun x e=>hagg ⟨x,e⟩
  rw [single hp] at hl hc;have hl1:cs.length=1:=by rw [hcl,←hl];rfl
  match cs,hl1 with
  |[c],_=>
   obtain ⟨q,hq,hf,hr,hqv⟩:=hc 0 c rfl;simp at hq;subst hq;have htup:∀x,p ≠ .tup x:=by rintro x rfl;exact hf
   have hv':Cz w A β p v:=(Adc hp).1 ((U8 htup).1 hv);obtain ⟨h5,h6⟩:=hqv w A β v hv';rw [Pz h6];refine ⟨⟨h5,trivial⟩,?_,?_,hna⟩
   ·intro u hu;simp at hu;subst hu;exact h6
   ·intro c' hc' id hid;simp at hc';subst hc';have:=hr id hid;cases p<;>first|exact this|exact absurd rfl (hp _)|exact absurd rfl (htup _)
end
open Go.RowKit
section
variable {R:Type} {r:R} {P:Program} {N:Nat} {w0:World} {X0:Jc} {Y:Nat->Prop} {β β':Bt} {s:St} {a:Act} {w w':World} {o:Oper} {A:Nat->Prop}
theorem B5.get {α β':Type}{R':α->β'->Prop}{zs:List α}{bs:List β'}(h:B5 R' zs bs){i:Nat}{x:α}(hx:zs[i]?=some x):∃y,bs[i]?=some y∧R' x y:=by
 have hlt:i<zs.length:=by
  rcases Nat.lt_or_ge i zs.length with h|h
  ·exact h
  ·rw [List.getElem?_eq_none h] at hx;cases hx
 have hb:bs[i]?=some (bs[i]'(by rw [←h.len];exact hlt)):=List.getElem?_eq_getElem _
 exact ⟨_,hb,h.at_ hx hb⟩
theorem A4q {p:PV}{v:Value}{ts:List CT}{K:List PV->Option R}(hv:Fj w A β p v)(hl:(cellsOf p).length=ts.length) (h:Xy ts (cellsOf p) 0 K=some r):
  ∃cs,K cs=some r∧cs.length=ts.length∧B5 (Bq w A) cs v.cells.toList∧∀u∈v.cells.toList,u.oneCell'=true:=by
 obtain ⟨cs,h,hcl,hc⟩:=W6 h;refine ⟨cs,h,hcl,?_⟩;by_cases hagg:∃x,p=.agg x
 ·obtain ⟨x,rfl⟩:=hagg;obtain ⟨vs,rfl,h2⟩:=hv;have hlen:cs.length=vs.length:=by rw [hcl,←hl];exact h2.len
  have key:∀(i:Nat) c u,cs[i]?=some c->vs[i]?=some u->Bq w A c u∧u.oneCell'=true:=by
   intro i c u hc' hu;obtain ⟨_,q,hq,_,hqv⟩:=hc i c hc';rw [Nat.zero_add] at hq;exact hqv w A β u (h2.at_ hq hu)
  refine ⟨B5.of_at hlen fun i c u hc' hu=>(key i c u hc' hu).1,?_⟩
  intro u hu;obtain ⟨i,hi⟩:=List.mem_iff_getElem?.1 (show u∈vs from hu)
  have hlt:i<vs.length:=by
   rcases Nat.lt_or_ge i vs.length with h|h
   ·exact h
   ·rw [List.getElem?_eq_none h] at hi;cases hi
  exact (key i _ u (List.getElem?_eq_getElem (by omega)) hi).2
 ·have hp:∀x,p ≠ .agg x:=fun x e=>hagg ⟨x,e⟩
  have single:cellsOf p=[p]:=by cases p<;>first|rfl|exact absurd rfl (hp _)
  rw [single] at hl hc;have hl1:cs.length=1:=by rw [hcl,←hl];rfl
  match cs,hl1 with
  |[c],_=>
   obtain ⟨_,q,hq,hf,hqv⟩:=hc 0 c rfl;simp at hq;subst hq;have htup:∀x,p ≠ .tup x:=by rintro x rfl;exact hf
   have hv':Cz w A β p v:=(Adc hp).1 ((U8 htup).1 hv);obtain ⟨h5,h6⟩:=hqv w A β v hv';rw [Pz h6];exact ⟨⟨h5,trivial⟩,fun u hu=>by simp at hu;subst hu;exact h6⟩
theorem Axd (h:D0 N w0 X0 Y β s a w){t:TypeId}{x:Operand}(ho:o.op=.box t x){d:Nat}{K:PV->List Nat->List (Nat × Ck)->Option R}
    (hk:(Aq (Kg P t&&Nat.beq (cellsOf (C1 s.tm x)).length (Jg P t).length)
      (bif Xh P t then Xy (Jg P t) (cellsOf (C1 s.tm x)) 0 fun cs=>K (.ptr d 0) [] [(d,.ar false cs)]
       else Sr (Jg P t) (cellsOf (C1 s.tm x)) 0 fun cs=>K (.ptr d 0) [] [(d,.st cs)]))=some r):∃v fz nw,K v fz nw=some r∧Fu P a w o Y β s v fz nw:=by
  obtain ⟨hl,hk⟩:=A7 hk
  simp only [Bool.and_eq_true] at hl
  have hl:=Nat.eq_of_beq_eq_true hl.2
  have hrun:(execOp a.eval o).run P w=.ok (.value (.pointer (some ⟨w.heap.size,0,none⟩))) (w.alloc (.cells (a.eval x).cells t)):=by
    unfold execOp
    rw [ho]
    simp [Instr.box,newVar,newRow]
  have hg:=Ho.alloc w (a.eval x).cells t
  cases ha:Xh P t
  · rw [ha] at hk
    obtain ⟨cs,hk,_,h2,_,hr,_⟩:=Av8 (Dy h x) hl hk
    refine ⟨_,_,_,hk,Ang hrun hg (fun j p hj=>?_) fun c hc id hid=>F3 h x id (hr c hc id hid)⟩
    obtain ⟨u,hu,hp⟩:=h2.get hj
    exact ⟨u,by simpa using hu,hp⟩
  · rw [ha] at hk
    obtain ⟨cs,hk,_,h2,h1⟩:=A4q (Dy h x) hl hk
    refine ⟨_,_,_,hk,Tk (by simp) hrun hg (fun j p hj=>?_) (.inl ⟨rfl,rfl⟩)⟩
    obtain ⟨u,hu,hp⟩:=h2.get hj
    exact ⟨u,by simpa using hu,h1 u (List.mem_of_getElem? hu),hp⟩
theorem As7 {c:PV}(h1:∀x,c ≠ .agg x)(h2:∀x,c ≠ .tup x):Cs c=Bd c:=by
 cases c<;>first|rfl|exact absurd rfl (h1 _)|exact absurd rfl (h2 _)
theorem Ac5 {t:TypeId}{ad:Addr}{cs:List PV}{p:PV}(hok:Kg P t=true)(hlen:cs.length=(Jg P t).length)
  (hna:∀c∈cs,(∀x,c ≠ .agg x)∧(∀x,c ≠ .tup x))
  (hc:∀(j:Nat) c,cs[j]?=some c->∃v,w.cell? (ad.add j)=some v∧Cz w A β c v)
  (hp:(Df P t=true∧p=.agg cs)∨(Df P t=false∧cs=[p])):∃val,(loadVar t ad).run P w=.ok val w∧Fj w A β p val:=by
 obtain ⟨⟨d,hd⟩,hl,hi⟩:=Un hok;rcases hp with ⟨hagg,rfl⟩|⟨hagg,rfl⟩
 ·have hf:∀j,j<Bu P t->w.cell? (ad.add j)=some ((w.cell? (ad.add j)).getD undef):=by
   intro j hj;obtain ⟨v,hv,_⟩:=hc j _ (List.getElem?_eq_getElem (by omega))
   rw [hv];rfl
  refine ⟨_,?_,(List.range (Bu P t)).map (fun j=>(w.cell? (ad.add j)).getD undef),rfl,?_⟩
  ·simp only [loadVar,Sem.run_bind,T0 hd,hagg,Result.andThen_ok,if_true,Mw hi,run_loadCells w ad (Bu P t) _ hf];simp
  ·refine B5.of_at (by simp;omega) fun i c u hc' hu=>?_
   obtain ⟨v,hv,hcv⟩:=hc i c hc'
   have hlt:i<Bu P t:=by
    rcases Nat.lt_or_ge i cs.length with h|h
    ·omega
    ·rw [List.getElem?_eq_none h] at hc';cases hc'
   rw [List.getElem?_map,List.getElem?_range hlt] at hu;simp [hv] at hu;subst hu;exact hcv
 ·obtain ⟨v,hv,hcv⟩:=hc 0 p rfl;have hn:=hna p (by simp)
  have h0:ad.add 0=ad:=by simp [Addr.add]
  rw [h0] at hv;refine ⟨v,?_,(U8 hn.2).2 ((Adc hn.1).2 hcv)⟩;simp only [loadVar,Sem.run_bind,T0 hd,hagg,Result.andThen_ok];simp [hv]
theorem A1r {hp:Nat->Option Ck}{id:Nat}{c:List PV}(h:rd hp id=some c):hp id=some (.st c)∨∃f,hp id=some (.ar f c):=by
 unfold rd at h;split at h
 ·rename_i e;simp at h;subst h;exact .inl e
 ·rename_i f _ e;simp at h;subst h;exact .inr ⟨_,e⟩
 ·cases h
theorem Apm {hp:Nat->Option Ck}{id:Nat}{c:List PV}(h:L5 hp id=some c):∃f,hp id=some (.ar f c):=by
 unfold L5 at h;split at h
 ·rename_i e;simp at h;subst h;exact ⟨_,e⟩
 ·cases h
theorem Aki (h:D0 N w0 X0 Y β s a w){id:Nat}{c:List PV}(hr:rd s.hp id=some c){b ob:Nat}(hβ:β id=some (b,ob)) {j:Nat}{p:PV}(hj:c[j]?=some p):
  ∃v,w.cell? ⟨b,ob+j,none⟩=some v∧Cz w (D3 s.hp β Y) β p v:=by
 rcases A1r hr with hb|⟨f,hb⟩
 ·obtain ⟨b',o',h1,h2,_⟩:=h.box id _ hb;rw [hβ] at h1;simp at h1;obtain ⟨rfl,rfl⟩:=h1;exact h2 j p hj
 ·rcases h.box id _ hb with ⟨h1,_⟩|⟨b',o',h1,h2,_⟩
  ·rw [hβ] at h1;cases h1
  ·rw [hβ] at h1;simp at h1;obtain ⟨rfl,rfl⟩:=h1
   obtain ⟨v,hv,_,ht⟩:=h2 j p hj;rw [Fz] at hv;refine ⟨v,hv,?_⟩;cases ht with
   |sc=>exact Bq.sc _
   |top=>exact Bq.top _
   |ub=>exact Bq.ub _
   |lnil=>exact Bq.lnil _ _
   |lemp=>exact Bq.lemp _ _ _
   |lst es n cells a cap f hs hb hA hn hc h1 hr=>exact Bq.lst es n cells a cap f hs hb hA hn hc h1 hr
theorem M0:∀{ts:List CT}{cells:List PV}{off:Nat}{K:List PV->Option R},Xy ts cells off K=some r->Sr ts cells off K=some r
 |[],_,_,_,h=>h
 |.int k::ts,cells,off,K,h=>by
  obtain ⟨n,hp,h⟩:=Ik (show Af k (cells.getD off .top) _=some r from h)
  show Af k _ _=_;rw [hp];simp only [Af,if_true];exact M0 h
 |.bool::ts,cells,off,K,h=>by
  obtain ⟨n,hp,h⟩:=Hk (show Bz (cells.getD off .top) _=some r from h)
  show Bz _ _=_;rw [hp];exact M0 h
 |.str::ts,cells,off,K,h=>by
  obtain ⟨n,hp,h⟩:=Gg (show Cn (cells.getD off .top) _=some r from h)
  show Cn _ _=_;rw [hp];exact M0 h
 |.sl es::ts,cells,off,K,h=>by
  obtain ⟨z,n,c,h,hp⟩:=Gz (show Ih es (cells.getD off .top) _=some r from h)
  change fcK (.sl es) (cells.getD off .top) (fun c=>Sr ts cells (off+1) fun r=>K (c::r))=some r
  unfold fcK;dsimp only;unfold fsK;rcases hp with hp|⟨hp,rfl,rfl,rfl⟩
  ·rw [hp];simp only [Ih,Nat.beq_refl,cond_true];exact M0 h
  ·rw [hp];exact M0 h
 |.any::ts,cells,off,K,h=>by
  obtain ⟨f,a,b,hp,h⟩:=App (show fnK (cells.getD off .top) (fun v=>Xy ts cells (off+1) fun r=>K (.sc v::r))=some r from h)
  show fnK (cells.getD off .top) (fun v=>Sr ts cells (off+1) fun r=>K (.sc v::r))=some r
  rw [hp];exact M0 h
theorem Bq.unz {w:World}{A:Nat->Prop}{z:Bool}{es n:Nat}{c:List PV}{u:Value}(h:Bq w A (.lst z es n c) u):Bq w A (.lst false es n c) u:=by
 cases h with
 |lnil z es=>exact .lnil false es
 |lemp es a cap=>exact .lemp es a cap
 |lst es n c a cap f h1 h2 h3 h4 h5 h6 h7=>exact .lst es n c a cap f h1 h2 h3 h4 h5 h6 h7
theorem Ax2 {w:World}{A:Nat->Prop}{β:Bt}{p:PV}{u:Value}(h:Cz w A β p u):Cz w A β (Ay4 p) u:=by
 cases p with
 |lst z es n c=>exact Bq.unz h
 |_=>exact h
theorem Auu (p:PV):Bd (Ay4 p)=Bd p:=by cases p<;>rfl
theorem Amq {w:World}{A:Nat->Prop}{β:Bt}:∀{cs:List PV}{vs:List Value},B5 (Cz w A β) cs vs->B5 (Cz w A β) (cs.map Ay4) vs
 |[],[],_=>trivial
 |_::_,_::_,h=>⟨Ax2 h.1,Amq h.2⟩
 |[],_::_,h=>h.elim
 |_::_,[],h=>h.elim
theorem Aza {w:World}{A:Nat->Prop}{β:Bt}{p:PV}{u:Value}(h:Fj w A β p u):Fj w A β (Azh p) u:=by
 cases p with
 |agg cs=>
  obtain ⟨vs,h1,h2⟩:=(show I6 w A β (.agg cs) u from h)
  exact ⟨vs,h1,Amq h2⟩
 |lst z es n c=>exact Bq.unz (show Bq w A (.lst z es n c) u from h)
 |_=>exact h
theorem Axs (p:PV):Cs (Azh p)=Cs p:=by
 cases p with
 |agg cs=>
  show (cs.map Ay4).flatMap Bd=cs.flatMap Bd
  induction cs with
  |nil=>rfl
  |cons a l ih=>rw [List.map_cons,List.flatMap_cons,List.flatMap_cons,ih,Auu]
 |_=>rfl
theorem A5i {hp:Nat->Option Ck}{t:TypeId}{x:PV}{K:PV->Option R}(h:Aea P (rd hp) (L5 hp) t x K=some r):
  Ajl P (rd hp) t x K=some r∨Ajl P (rd hp) t x (fun v=>K (Azh v))=some r:=by
 unfold Aea at h;unfold Ajl;split at h
 ·rename_i id off;obtain ⟨hb,h⟩:=A7 h;rw [hb];show Ez _ _=_∨Ez _ _=_;split at h
  ·rename_i c hc;obtain ⟨f,hbx⟩:=Apm hc;have:rd hp id=some c:=by unfold rd;rw [hbx]
   rw [this];exact .inr (M0 h)
  ·exact .inl h
 ·exact .inr h
 ·cases h
theorem Amk (h:D0 N w0 X0 Y β s a w){t:TypeId}{x:PV}{u:Value}(hx:Fj w (D3 s.hp β Y) β x u) {K:PV->Option R}(hk:Ajl P (rd s.hp) t x K=some r):
  ∃v ad val,K v=some r∧u=.pointer (some ad)∧(loadVar t ad).run P w=.ok val w∧Fj w (D3 s.hp β Y) β v val∧∀i∈Cs v,s.hp i≠none:=by
 unfold Ajl at hk;split at hk
 ·rename_i id off;obtain ⟨hok,hk⟩:=A7 hk;obtain ⟨c,hr,hk⟩:=Dv hk;obtain ⟨cs,hk,hl,hna,hc⟩:=Xm hk;obtain ⟨b,ob,hβ,hax⟩:=hx
  have hcell:∀(j:Nat) q,cs[j]?=some q->∃v,w.cell? ((⟨b,ob+off,none⟩:Addr).add j)=some v∧Cz w (D3 s.hp β Y) β q v:=by
   intro j q hq;obtain ⟨p,hp,_,_,hpv⟩:=hc j q hq;obtain ⟨v,hv,hcv⟩:=Aki h hr hβ hp;exact ⟨v,by rw [Fz,Nat.add_assoc];exact hv,(hpv _ _ _ _ hcv).1⟩
  have hrefs:∀q∈cs,∀i∈Bd q,s.hp i≠none:=by
   intro q hq i hi;obtain ⟨j,hj⟩:=List.mem_iff_getElem?.1 hq;obtain ⟨p,hp,_,hpr,_⟩:=hc j q hj;rcases A1r hr with hb|⟨f,hb⟩
   ·exact h.wfB id c hb p (List.mem_of_getElem? hp) i (hpr i hi)
   ·obtain ⟨v,hv,hcv⟩:=Aki h hr hβ hp;exfalso;have hp':=hpr i hi;rcases h.box id _ hb with ⟨_,rfl⟩|⟨b',o',h1,h2,_⟩
    ·simp at hp
    ·obtain ⟨v',_,_,ht⟩:=h2 _ p hp;cases ht<;>cases hp'
  rcases Aor hk with ⟨hagg,hk2⟩|⟨hagg,q,rfl,hk2⟩
  ·obtain ⟨val,hlv,hv⟩:=Ac5 hok hl hna hcell (.inl ⟨hagg,rfl⟩);refine ⟨_,_,val,hk2,hax,hlv,hv,fun i hi=>?_⟩
   obtain ⟨q,hq,hi⟩:=List.mem_flatMap.1 (show i∈cs.flatMap Bd from hi)
   exact hrefs q hq i hi
  ·obtain ⟨val,hlv,hv⟩:=Ac5 hok hl hna hcell (.inr ⟨hagg,rfl⟩);refine ⟨_,_,val,hk2,hax,hlv,hv,fun i hi=>hrefs q (by simp) i ?_⟩
   have hn:=hna q (by simp)
   rw [As7 hn.1 hn.2] at hi;exact hi
 ·rename_i c off;obtain ⟨hok,hk⟩:=A7 hk;obtain ⟨cs,hk,hl,hc⟩:=W6 hk;obtain ⟨ad,hax,hs,hb,hA,hrd⟩:=hx
  have hna:∀q∈cs,(∀x,q ≠ .agg x)∧(∀x,q ≠ .tup x):=by
   intro q hq;obtain ⟨j,hj⟩:=List.mem_iff_getElem?.1 hq;exact ⟨Ahy (hc j q hj).1,Avy (hc j q hj).1⟩
  have hcell:∀(j:Nat) q,cs[j]?=some q->∃v,w.cell? ((ad.add off).add j)=some v∧Cz w (D3 s.hp β Y) β q v:=by
   intro j q hq;obtain ⟨hT,p,hp,hpT,hpv⟩:=hc j q hq;obtain ⟨v,hv,_,ht⟩:=hrd (off+j) p hp;exact ⟨v,by rw [add_add];exact hv,(Qx hT).2 (hpv w (D3 s.hp β Y) β v ((Qx hpT).2 ht)).1⟩
  have hrefs:∀q∈cs,Bd q=[]:=by
   intro q hq;obtain ⟨j,hj⟩:=List.mem_iff_getElem?.1 hq;exact Kc (hc j q hj).1
  rcases Aor hk with ⟨hagg,hk2⟩|⟨hagg,q,rfl,hk2⟩
  ·obtain ⟨val,hlv,hv⟩:=Ac5 hok hl hna hcell (.inl ⟨hagg,rfl⟩);refine ⟨_,_,val,hk2,hax,hlv,hv,fun i hi=>?_⟩
   obtain ⟨q,hq,hi⟩:=List.mem_flatMap.1 (show i∈cs.flatMap Bd from hi)
   rw [hrefs q hq] at hi;cases hi
  ·obtain ⟨val,hlv,hv⟩:=Ac5 hok hl hna hcell (.inr ⟨hagg,rfl⟩);refine ⟨_,_,val,hk2,hax,hlv,hv,fun i hi=>?_⟩
   have hn:=hna q (by simp)
   rw [As7 hn.1 hn.2,hrefs q (by simp)] at hi
   cases hi
 ·cases hk
theorem Asq (h:D0 N w0 X0 Y β s a w){t:TypeId}{x:PV}{u:Value}(hx:Fj w (D3 s.hp β Y) β x u) {K:PV->Option R}(hk:Aea P (rd s.hp) (L5 s.hp) t x K=some r):
  ∃v ad val,K v=some r∧u=.pointer (some ad)∧(loadVar t ad).run P w=.ok val w∧Fj w (D3 s.hp β Y) β v val∧∀i∈Cs v,s.hp i≠none:=by
 rcases A5i hk with hk|hk
 ·exact Amk h hx hk
 ·obtain ⟨v,ad,val,h1,h2,h3,h4,h5⟩:=Amk h hx hk;exact ⟨Azh v,ad,val,h1,h2,h3,Aza h4,by rw [Axs];exact h5⟩
theorem Aus (h:D0 N w0 X0 Y β s a w){t:TypeId}{x:Operand}(ho:o.op=.load t x){K:PV->Option R}(hk:Aea P (rd s.hp) (L5 s.hp) t (C1 s.tm x) K=some r):
  ∃v,K v=some r∧Fu P a w o Y β s v [] []:=by
 obtain ⟨v,ad,val,hk1,hax,hl,hv,hr⟩:=Asq h (Dy h x) hk;refine ⟨v,hk1,Cv ?_ hv hr⟩;unfold execOp;rw [ho];simp [Instr.loadAt,Instr.sureAddr,hax,hl]
theorem Axq {x:PV}{d:Nat}{K:PV->Option R}(h:X1 x d K=some r):(∃id off,x=.ptr id off∧K (.ptr id (off+d))=some r)∨∃c off,x=.iptr c off∧K (.iptr c (off+d))=some r:=by
 unfold X1 at h;split at h
 ·exact .inl ⟨_,_,rfl,h⟩
 ·exact .inr ⟨_,_,rfl,h⟩
 ·cases h
theorem Ab8 (h:D0 N w0 X0 Y β s a w){x:Operand}{d:Nat}{K:PV->Option R}(hk:X1 (C1 s.tm x) d K=some r)
  (hrun:∀ad:Addr,a.eval x=.pointer (some ad)->(execOp a.eval o).run P w=.ok (.value (.pointer (some (ad.add d)))) w):∃v,K v=some r∧Fu P a w o Y β s v [] []:=by
 have hx:=Dy h x;have hxr:=F3 h x;rcases Axq hk with ⟨id,off,e,hk⟩|⟨c,off,e,hk⟩
 ·rw [e] at hx hxr;obtain ⟨b,ob,hβ,hax⟩:=hx;refine ⟨_,hk,Cv (hrun _ hax) ⟨b,ob,hβ,by rw [Fz,Nat.add_assoc]⟩ hxr⟩
 ·rw [e] at hx;obtain ⟨ad,hax,h1,h2,h3,h4⟩:=hx;exact ⟨_,hk,Cv (hrun _ hax) ⟨ad,by rw [add_add],h1,h2,h3,h4⟩ (by intro i hi;cases hi)⟩
theorem Ajt (h:D0 N w0 X0 Y β s a w){x:Operand}(ho:o.op=.nilCheck x){K:PV->Option R}(hk:X1 (C1 s.tm x) 0 K=some r):∃v,K v=some r∧Fu P a w o Y β s v [] []:=by
 refine Ab8 h hk fun ad hax=>?_
 unfold execOp;rw [ho];simp [hax,Addr.add]
theorem Adx {t:TypeId}{f:Nat}{q:Nat × TypeId}(h:Tv P t f=some q):∃fs g,P.underlying t=some (.struct fs)∧fs[f]?=some g∧q=(g.offset,g.type):=by
 unfold Tv at h;split at h
 ·rename_i fs e;cases hg:fs[f]? with
  |none=>rw [hg] at h;cases h
  |some g=>rw [hg] at h;simp at h;exact ⟨fs,g,e,hg,h.symm⟩
 ·cases h
theorem Ahm (h:D0 N w0 X0 Y β s a w){t:TypeId}{x:Operand}{f:Nat}(ho:o.op=.fieldAddr t x f){K:PV->Option R}
  (hk:(Ez (Tv P t f) fun q=>Aq (Nat.ble 1 (Bu P q.2)) (X1 (C1 s.tm x) q.1 K))=some r):∃v,K v=some r∧Fu P a w o Y β s v [] []:=by
 obtain ⟨q,hq,hk⟩:=Dv hk;obtain ⟨hs,hk⟩:=A7 hk;obtain ⟨fs,g,hu,hg,rfl⟩:=Adx hq;have hs:1<=Bu P g.type:=Nat.le_of_ble_eq_true hs;have hsz:=A04 (P:=P) (t:=g.type) rfl (by omega)
 refine Ab8 h hk fun ad hax=>?_
 unfold execOp;rw [ho];have hne:¬Bu P g.type=0:=by omega
 simp [Instr.fieldAt,run_underlying hu,hg,Instr.sureAddr,hax,fieldPlace,Mw hsz,hne]
end
open Go.RowKit
section
variable {R:Type} {r:R} {P:Program} {N:Nat} {w0:World} {X0:Jc} {Y:Nat->Prop} {β β':Bt} {s:St} {a:Act} {w w':World} {o:Oper} {A:Nat->Prop}
theorem Aky (h:D0 N w0 X0 Y β s a w){t:TypeId}{cs:List PV}{vs:List Value}{off:Nat}{K:PV->Option R}{x:Operand}(hx:C1 s.tm x=.agg cs)(hv:B5 (Cz w (D3 s.hp β Y) β) cs vs)
  (hk:Aq (Kg P t) (Sr (Jg P t) cs off fun c=>mkV (Df P t) c K)=some r)
  (hrun:∀val,(part t ⟨vs⟩ off).run P w=.ok val w->(execOp a.eval o).run P w=.ok (.value val) w):∃v,K v=some r∧Fu P a w o Y β s v [] []:=by
 obtain ⟨hok,hk⟩:=A7 hk;obtain ⟨⟨d,hd⟩,hl,hi⟩:=Un hok;obtain ⟨qs,hk,hql,hna,hq⟩:=Xm hk;have hxr:=F3 h x;rw [hx] at hxr
 have hcell:∀(j:Nat) q,qs[j]?=some q->∃v,vs[off+j]?=some v∧Cz w (D3 s.hp β Y) β q v:=by
  intro j q hj;obtain ⟨p,hp,_,_,hpv⟩:=hq j q hj;obtain ⟨v,hv',hc⟩:=hv.get hp;exact ⟨v,hv',(hpv _ _ _ _ hc).1⟩
 have hrefs:∀q∈qs,∀i∈Bd q,s.hp i≠none:=by
  intro q hqm i hi;obtain ⟨j,hj⟩:=List.mem_iff_getElem?.1 hqm;obtain ⟨p,hp,_,hpr,_⟩:=hq j q hj;exact hxr i (List.mem_flatMap.2 ⟨p,List.mem_of_getElem? hp,hpr i hi⟩)
 rcases Aor hk with ⟨hagg,hk2⟩|⟨hagg,q,rfl,hk2⟩
 ·have hle:Bu P t=0∨off+Bu P t<=vs.length:=by
   rcases Nat.eq_zero_or_pos (Bu P t) with h0|h0
   ·exact .inl h0
   ·obtain ⟨v,hv',_⟩:=hcell (Bu P t-1) _ (List.getElem?_eq_getElem (by omega))
    have:off+(Bu P t-1)<vs.length:=by
     rcases Nat.lt_or_ge (off+(Bu P t-1)) vs.length with h|h
     ·exact h
     ·rw [List.getElem?_eq_none h] at hv';cases hv'
    exact .inr (by omega)
  refine ⟨_,hk2,Cv (hrun (.agg ⟨(vs.drop off).take (Bu P t)⟩) ?_) ⟨(vs.drop off).take (Bu P t),rfl,?_⟩ fun i hi=>?_⟩
  ·simp only [part,Sem.run_bind,T0 hd,hagg,Result.andThen_ok,if_true,Mw hi];simp [List.extract_eq_take_drop]
  ·refine B5.of_at ?_ fun i c u hc hu=>?_
   ·simp only [List.length_take,List.length_drop];omega
   ·obtain ⟨v,hv',hcv⟩:=hcell i c hc
    have hlt:i<Bu P t:=by
     rcases Nat.lt_or_ge i qs.length with h|h
     ·omega
     ·rw [List.getElem?_eq_none h] at hc;cases hc
    rw [List.getElem?_take_of_lt hlt,List.getElem?_drop,hv'] at hu;cases hu;exact hcv
  ·obtain ⟨q,hqm,hi⟩:=List.mem_flatMap.1 (show i∈qs.flatMap Bd from hi)
   exact hrefs q hqm i hi
 ·obtain ⟨v,hv',hcv⟩:=hcell 0 q rfl;have hn:=hna q (by simp)
  refine ⟨_,hk2,Cv (hrun v ?_) ((U8 hn.2).2 ((Adc hn.1).2 hcv)) fun i hi=>?_⟩
  ·simp only [part,Sem.run_bind,T0 hd,hagg,Result.andThen_ok];rw [Nat.add_zero] at hv';simp [hv']
  ·rw [As7 hn.1 hn.2] at hi;exact hrefs q (by simp) i hi
theorem Ar8 (h:D0 N w0 X0 Y β s a w){t:TypeId}{x:Operand}{f:Nat}(ho:o.op=.field t x f){K:PV->Option R}
  (hk:(Ez (Tv P t f) fun q=>Aq (Kg P q.2)<|Cu (C1 s.tm x) fun cs=>Sr (Jg P q.2) cs q.1 fun c=>mkV (Df P q.2) c K)=some r):∃v,K v=some r∧Fu P a w o Y β s v [] []:=by
 obtain ⟨q,hq,hk⟩:=Dv hk;obtain ⟨hok,hk⟩:=A7 hk;obtain ⟨cs,hx,hk⟩:=Is hk;obtain ⟨fs,g,hu,hg,rfl⟩:=Adx hq;have hxv:=Dy h x;rw [hx] at hxv;obtain ⟨vs,hax,hv⟩:=hxv;refine Aky (t:=g.type) (off:=g.offset) h hx hv (by rw [show Kg P g.type=true from hok];exact hk) fun val hp=>?_
 unfold execOp;rw [ho];simp [Instr.field,run_underlying hu,hg,asAgg,hax,hp]
theorem Al0 (h:D0 N w0 X0 Y β s a w){x:Operand}{i:Nat}(ho:o.op=.extract x i){K:PV->Option R}
  (hk:(match C1 s.tm x with | .tup vs=>Ez vs[i]? K|_=>none)=some r):∃v,K v=some r∧Fu P a w o Y β s v [] []:=by
 have hx:=Dy h x;have hxr:=F3 h x;split at hk
 ·rename_i ps e;rw [e] at hx hxr;obtain ⟨p,hp,hk⟩:=Dv hk;obtain ⟨vs,hax,hv⟩:=hx;obtain ⟨v,hv',hpv⟩:=hv.get hp
  have hntup:∀y,p ≠ .tup y:=by
   rintro y rfl
   have hpv':Bq _ _ (.tup y) v:=hpv;cases hpv'
  refine ⟨p,hk,Cv (val:=v) ?_ ((U8 hntup).2 hpv) fun id hid=>hxr id ?_⟩
  ·unfold execOp;rw [ho];simp [Instr.extract,hax,hv']
  ·refine List.mem_flatMap.2 ⟨p,List.mem_of_getElem? hp,?_⟩;cases p<;>first|exact hid|exact absurd rfl (hntup _)
 ·cases hk
theorem Iq {es:Nat}{p:PV}{z:Bool}{n:Nat}{c:List PV}{v:Value}(hp:p=.lst z es n c∨(p=.sc (.slice none 0 0)∧z=true∧n=0∧c=[])) (hv:Fj w A β p v):
  (v=.slice none 0 0∧n=0∧c=[])∨(∃ad cap,v=.slice (some ad) n cap∧z=false∧n<=cap∧ad.spot=none∧ad.block<w.heap.size∧¬A ad.block∧RdT w A ad c)∨∃ad cap,v=.slice (some ad) 0 cap∧z=false∧n=0∧c=[]:=by
 have hv':Cz w A β p v:=by rcases hp with rfl|⟨rfl,_⟩<;>exact hv
 have ht:=Aa4 hp hv';cases ht with
 |lnil=>exact .inl ⟨rfl,rfl,rfl⟩
 |lst _ _ _ ad cap f hs hb hA hn hc h1 hr=>exact .inr (.inl ⟨ad,cap,rfl,rfl,hn,hs,hb,hA,fun j q hj=>⟨f j,hc j q hj,h1 j q hj,hr j q hj⟩⟩)
 |lemp _ ad cap=>exact .inr (.inr ⟨ad,cap,rfl,rfl,rfl,rfl⟩)
theorem Ahq (h:D0 N w0 X0 Y β s a w){t:TypeId}{x i:Operand}(ho:o.op=.indexAddr t x i){K:PV->Option R}
  (hk:(Ec (C1 s.tm i) fun _ n=>M2 P t (C1 s.tm x) n K)=some r):∃v,K v=some r∧Fu P a w o Y β s v [] []:=by
 obtain ⟨ik,n,hi,hk⟩:=Ea hk;have hai:=De h hi;have hx:=Dy h x;have hxr:=F3 h x;unfold M2 at hk;split at hk
 ·rename_i len e hu;obtain ⟨hz,hk⟩:=A7 hk;obtain ⟨hb,hk⟩:=A7 hk;simp only [Bool.and_eq_true,decide_eq_true_eq] at hb;obtain ⟨inf,hinf⟩:=Option.isSome_iff_exists.1 hz;refine Ab8 h hk fun ad hax=>?_
  unfold execOp;rw [ho];simp [Instr.indexAt,asIntOf,hai,hax,run_underlying hu,Instr.sureAddr,hb.1,hb.2,sizeOf,typeInfo,hinf,Bu]
 ·rename_i e hu;obtain ⟨hz,hk⟩:=A7 hk;obtain ⟨inf,hinf⟩:=Option.isSome_iff_exists.1 hz;have hsz:Bu P e=inf.size:=by simp [Bu,hinf]
  split at hk
  ·rename_i id es off n' e';rw [e'] at hx hxr;obtain ⟨hes,hk⟩:=A7 hk;have hes:=Nat.eq_of_beq_eq_true hes;subst hes;obtain ⟨hb,hk⟩:=A7 hk;simp only [Bool.and_eq_true,decide_eq_true_eq] at hb;rcases hx with ⟨_,_,rfl,_⟩|⟨b,ob,y,cap,hβ,hax,hy,_⟩
   ·omega
   ·have hy:y=ob+off:=by rcases hy with hy|⟨rfl,_⟩<;>omega
    subst hy;refine ⟨_,hk,Cv (val:=.pointer (some ⟨b,ob+(off+n.toNat*Bu P e),none⟩)) ?_ ⟨b,ob,hβ,rfl⟩ hxr⟩;unfold execOp;rw [ho];simp [Instr.indexAt,asIntOf,hai,hax,run_underlying hu,hb.1,hb.2,sizeOf,typeInfo,hinf,hsz,Fz,Nat.add_assoc]
  ·obtain ⟨z,n',c,hk,hp⟩:=Gz hk;obtain ⟨hb,hk⟩:=A7 hk;simp only [Bool.and_eq_true,decide_eq_true_eq] at hb;rcases Iq hp hx with ⟨_,rfl,_⟩|⟨ad,cap,hax,_,_,h1,h2,h3,h4⟩|⟨_,_,_,_,rfl,_⟩
   ·omega
   rotate_left
   ·omega
   ·refine ⟨_,hk,Cv (val:=.pointer (some (ad.add (n.toNat*Bu P e)))) ?_ ⟨ad,rfl,h1,h2,h3,h4⟩ (by intro i hi;cases hi)⟩
    unfold execOp;rw [ho];simp [Instr.indexAt,asIntOf,hai,hax,run_underlying hu,hb.1,hb.2,sizeOf,typeInfo,hinf,hsz]
 ·cases hk
theorem Aqg (h:D0 N w0 X0 Y β s a w){t:TypeId}{x i:Operand}(ho:o.op=.index t x i){K:PV->Option R}
  (hk:(Ec (C1 s.tm i) fun _ n=>
   match P.underlying t with
   |some .string=>Cn (C1 s.tm x) fun s=>Aq (decide (0<=n)) (Ez (s.data.toList[n.toNat]?) fun b=>K (.sc (.int .u8 b.toNat)))
   |some (.array len e)=>Cu (C1 s.tm x) fun cs=>Aq (decide (0<=n)&&decide (n<len)&&Kg P e) (Sr (Jg P e) cs (n.toNat*Bu P e) fun c=>mkV (Df P e) c K)
   |_=>none)=some r):∃v,K v=some r∧Fu P a w o Y β s v [] []:=by
 obtain ⟨ik,n,hi,hk⟩:=Ea hk;have hai:=De h hi;split at hk
 ·rename_i hu;obtain ⟨sb,hx,hk⟩:=Gg hk;have hax:=De h hx;obtain ⟨h0,hk⟩:=A7 hk;obtain ⟨b,hb,hk⟩:=Dv hk;have h0:=of_decide_eq_true h0;refine ⟨_,hk,Dm ?_⟩
  have hlt:n.toNat<sb.size:=by
   rcases Nat.lt_or_ge n.toNat sb.data.toList.length with h|h
   ·simpa using h
   ·rw [List.getElem?_eq_none h] at hb;cases hb
  have hb':sb[n.toNat]=b:=by
   have:sb.data.toList[n.toNat]?=some sb[n.toNat]:=by
    rw [List.getElem?_eq_getElem (by simpa using hlt)]
    rfl
   rw [hb] at this;injection this with this;exact this.symm
  unfold execOp;rw [ho];simp [Instr.index,asIntOf,hai,hax,run_underlying hu,h0,hlt,hb']
 ·rename_i len e hu;obtain ⟨cs,hx,hk⟩:=Is hk;obtain ⟨hb,hk⟩:=A7 hk;simp only [Bool.and_eq_true,decide_eq_true_eq] at hb;have hxv:=Dy h x;rw [hx] at hxv;obtain ⟨vs,hax,hv⟩:=hxv;obtain ⟨_,_,hsz⟩:=Un hb.2;refine Aky (t:=e) (off:=n.toNat*Bu P e) h hx hv (by rw [hb.2];exact hk) fun val hp=>?_
  unfold execOp;rw [ho];simp [Instr.index,asIntOf,hai,hax,run_underlying hu,hb.1.1,hb.1.2,Mw hsz,hp]
 ·cases hk
end
open Go.RowKit
section
variable {R:Type} {r:R} {P:Program} {N:Nat} {w0:World} {X0:Jc} {Y:Nat->Prop} {β β':Bt} {s:St} {a:Act} {w w':World} {o:Oper} {A:Nat->Prop}
theorem Iu (h:D0 N w0 X0 Y β s a w){x:Option Operand}{dflt:Nat}{K:Nat->Option R}(hk:Od (x.map (C1 s.tm)) dflt K=some r):
  ∃l,K l=some r∧((x=none∧l=dflt)∨∃y k,x=some y∧a.eval y=.int k (l:Int)):=by
 cases x with
 |none=>exact ⟨dflt,hk,.inl ⟨rfl,rfl⟩⟩
 |some y=>
  obtain ⟨k,i,hi,hk⟩:=Ea (show Ec (C1 s.tm y) _=some r from hk)
  obtain ⟨h0,hk⟩:=A7 hk;have h0:=of_decide_eq_true h0;exact ⟨i.toNat,hk,.inr ⟨y,k,rfl,by rw [De h hi,Int.toNat_of_nonneg h0]⟩⟩
theorem Jw {lo hi:Option Operand}{isS:Bool}{len cap l u:Nat}(hl:(lo=none∧l=0)∨∃y k,lo=some y∧a.eval y=.int k (l:Int))
  (hu:(hi=none∧u=len)∨∃y k,hi=some y∧a.eval y=.int k (u:Int)) (h1:l<=u)(h2:u<=cap):
  (Instr.sliceBounds isS len cap (lo.map a.eval) (hi.map a.eval) none).run P w=.ok (l,u,cap) w:=by
 rcases hl with ⟨rfl,rfl⟩|⟨y,k,rfl,hy⟩<;>rcases hu with ⟨rfl,rfl⟩|⟨y',k',rfl,hy'⟩
 ·simp [Instr.sliceBounds]
 ·simp [Instr.sliceBounds,Instr.sliceBound,asIntOf,hy',h2]
 ·simp [Instr.sliceBounds,Instr.sliceBound,asIntOf,hy,h1]
 ·simp [Instr.sliceBounds,Instr.sliceBound,asIntOf,hy,hy',h1,h2]
theorem Ew {e:TypeId}(h:(P.info? e).isSome=true) (w:World):(sizeOf e).run P w=.ok (Bu P e) w:=by
 obtain ⟨i,hi⟩:=Option.isSome_iff_exists.1 h;exact Mw (by simp [Bu,hi]) w
theorem Akc {b j:Nat}{v:Value}(h:w.cell? ⟨b,j,none⟩=some v):j<bsz w b:=by
 unfold World.cell? at h;unfold bsz;split at h
 ·rename_i c e fz hb;simp only at hb;rw [hb];simp only [Option.isSome_none,Bool.false_eq_true,if_false] at h;rcases Nat.lt_or_ge j c.size with hlt|hge
  ·exact hlt
  ·rw [Array.getElem?_eq_none hge] at h;cases h
 ·cases h
theorem Aru (h:D0 N w0 X0 Y β s a w){t:TypeId}{x:Operand}{lo hi:Option Operand}(ho:o.op=.slice t x lo hi none){K:PV->Option R}
  (hk:Aep P (rd s.hp) t (C1 s.tm x) (lo.map (C1 s.tm)) (hi.map (C1 s.tm)) K=some r):∃v,K v=some r∧Fu P a w o Y β s v [] []:=by
 have hx:=Dy h x;have hxr:=F3 h x;unfold Aep at hk;split at hk
 ·rename_i hu;obtain ⟨sb,hxs,hk⟩:=Gg hk;have hax:=De h hxs;obtain ⟨l,hk,hl⟩:=Iu h hk;obtain ⟨u,hk,hu'⟩:=Iu h hk;obtain ⟨hb,hk⟩:=A7 hk;simp only [Bool.and_eq_true,decide_eq_true_eq] at hb;refine ⟨_,hk,Dm ?_⟩;unfold execOp;rw [ho];simp [Instr.sliceAt,Instr.slice,run_underlying hu,hax,Jw hl hu' hb.1 hb.2]
 ·rename_i e hu;obtain ⟨hinf,hk⟩:=A7 hk;split at hk
  ·rename_i id es off n e';rw [e'] at hx hxr;obtain ⟨hes,hk⟩:=A7 hk;have hes:=Nat.eq_of_beq_eq_true hes;subst hes;obtain ⟨l,hk,hl⟩:=Iu h hk;obtain ⟨u,hk,hu'⟩:=Iu h hk;obtain ⟨hb,hk⟩:=A7 hk;simp only [Bool.and_eq_true,decide_eq_true_eq] at hb;rcases hx with ⟨hβ,rfl,rfl,hax⟩|⟨b,ob,y,cap,hβ,hax,hy,hn,hcap,hlt⟩
   ·have hu0:u=0:=by omega
    have hl0:l=0:=by omega
    subst hu0 hl0;refine ⟨_,hk,Cv (val:=.slice none 0 0) ?_ (.inl ⟨hβ,by simp,rfl,rfl⟩) hxr⟩
    unfold execOp;rw [ho];simp [Instr.sliceAt,Instr.slice,run_underlying hu,hax,Jw hl hu' (Nat.le_refl 0) (Nat.le_refl 0),Ew hinf]
   ·have hrun:(execOp a.eval o).run P w=.ok (.value (.slice (some (if cap=l then ⟨b,y,none⟩ else ⟨b,y+l*Bu P e,none⟩)) (u-l) (cap-l))) w:=by
     unfold execOp;rw [ho];have hbr:=Jw (P:=P) (w:=w) (isS:=true) hl hu' hb.1 (Nat.le_trans hb.2 hn);simp [Instr.sliceAt,Instr.slice,run_underlying hu,hax,hbr,Ew hinf,Fz];split<;>rfl
    refine ⟨_,hk,Cv hrun (.inr ?_) hxr⟩;by_cases hc:cap=l
    ·rw [if_pos hc];refine ⟨b,ob,y,cap-l,hβ,rfl,?_,by omega,by rw [hc,Nat.sub_self];omega,hlt⟩
     by_cases h0:l*Bu P e=0
     ·rw [h0,Nat.add_zero];rcases hy with hy|⟨hn0,hoff⟩
      ·exact .inl hy
      ·exact .inr ⟨by omega,hoff⟩
     ·exact .inr ⟨by omega,by omega⟩
    ·rw [if_neg hc];refine ⟨b,ob,y+l*Bu P e,cap-l,hβ,rfl,?_,by omega,?_,hlt⟩
     ·rcases hy with hy|⟨hn0,hoff⟩
      ·exact .inl (by omega)
      ·exact .inr ⟨by omega,by omega⟩
     ·have:l*Bu P e+(cap-l)*Bu P e=cap*Bu P e:=by
       rw [←Nat.add_mul]
       congr 1
       omega
      omega
  ·obtain ⟨z,n,c,hk,hp⟩:=Gz hk;obtain ⟨l,hk,hl⟩:=Iu h hk;obtain ⟨u,hk,hu'⟩:=Iu h hk;obtain ⟨hb,hk⟩:=A7 hk;simp only [Bool.and_eq_true,decide_eq_true_eq] at hb;rcases Iq hp hx with ⟨hax,rfl,rfl⟩|⟨ad,cap,hax,rfl,hn,h1,h2,h3,h4⟩|⟨ad,cap,hax,rfl,rfl,rfl⟩
   rotate_right
   ·have hu0:u=0:=by omega
    have hl0:l=0:=by omega
    subst hu0 hl0;refine ⟨_,hk,Cv (val:=.slice (some (if cap=0 then ad else ad.add (0*Bu P e))) (0-0) (cap-0)) ?_ ?_ (by intro i hi;cases hi)⟩
    ·unfold execOp;rw [ho];have hbr:=Jw (P:=P) (w:=w) (isS:=true) hl hu' (Nat.le_refl 0) (Nat.zero_le cap);simp [Instr.sliceAt,Instr.slice,run_underlying hu,hax,hbr,Ew hinf];split<;>rfl
    ·have:((([]:List PV).drop (0*Bu P e)).take ((0-0)*Bu P e))=[]:=by simp
     rw [this];exact Bq.lemp _ _ _
   ·have hu0:u=0:=by omega
    have hl0:l=0:=by omega
    subst hu0 hl0;refine ⟨_,hk,Cv (val:=.slice none 0 0) ?_ ?_ (by intro i hi;cases hi)⟩
    ·unfold execOp;rw [ho];simp [Instr.sliceAt,Instr.slice,run_underlying hu,hax,Jw hl hu' (Nat.le_refl 0) (Nat.le_refl 0),Ew hinf]
    ·have:((([]:List PV).drop (0*Bu P e)).take ((0-0)*Bu P e))=[]:=by simp
     rw [this];exact Bq.lnil z _
   ·have hrun:(execOp a.eval o).run P w=.ok (.value (.slice (some (if cap=l then ad else ad.add (l*Bu P e))) (u-l) (cap-l))) w:=by
     unfold execOp;rw [ho];have hbr:=Jw (P:=P) (w:=w) (isS:=true) hl hu' hb.1 (Nat.le_trans hb.2 hn);simp [Instr.sliceAt,Instr.slice,run_underlying hu,hax,hbr,Ew hinf];split<;>rfl
    refine ⟨_,hk,Cv hrun ?_ (by intro i hi;cases hi)⟩
    by_cases hc:cap=l
    ·rw [if_pos hc];have:u-l=0:=by omega
     rw [this];simp only [Nat.zero_mul,List.take_zero];exact Bq.lst _ _ [] ad _ (fun _=>undef) h1 h2 h3 (by omega) (by simp) (by simp) (by simp)
    ·rw [if_neg hc]
     have hcell:∀(j:Nat) q,((c.drop (l*Bu P e)).take ((u-l)*Bu P e))[j]?=some q->c[l*Bu P e+j]?=some q:=by
      intro j q hq;rw [List.getElem?_take] at hq;split at hq
      ·rw [List.getElem?_drop] at hq;exact hq
      ·cases hq
     refine Bq.lst _ _ _ (ad.add (l*Bu P e)) _ (fun j=>(w.cell? (ad.add (l*Bu P e+j))).getD undef) (A3l h1 _) (by rw [Hb];exact h2) (by rw [Hb];exact h3) (by omega) (fun j q hq=>?_) (fun j q hq=>?_) (fun j q hq=>?_)
     ·obtain ⟨v,hv,_⟩:=h4 _ q (hcell j q hq);rw [add_add,hv];rfl
     ·obtain ⟨v,hv,h5,_⟩:=h4 _ q (hcell j q hq);rw [hv];exact h5
     ·obtain ⟨v,hv,_,ht⟩:=h4 _ q (hcell j q hq);rw [hv];exact ht
 ·rename_i n e hu;obtain ⟨hinf,hk⟩:=A7 hk;split at hk
  ·rename_i id off e';rw [e'] at hx hxr;obtain ⟨c,hrc,hk⟩:=Dv hk;obtain ⟨hlen,hk⟩:=A7 hk;simp only [Bool.and_eq_true,decide_eq_true_eq] at hlen;obtain ⟨l,hk,hl⟩:=Iu h hk;obtain ⟨u,hk,hu'⟩:=Iu h hk;obtain ⟨hb,hk⟩:=A7 hk;simp only [Bool.and_eq_true,decide_eq_true_eq] at hb;obtain ⟨b,ob,hβ,hax⟩:=hx
   have hbs:ob+off+n*Bu P e<=bsz w b:=by
    obtain ⟨v,hv,_⟩:=Aki h hrc hβ (j:=off+n*Bu P e-1) (List.getElem?_eq_getElem (by omega))
    have:=Akc hv;omega
   have hlt:b<w.heap.size:=h.blt id b ob (hxr id (by simp [Cs,Dc,Bd])) hβ
   have hrun:(execOp a.eval o).run P w=.ok (.value (.slice (some (if n=l then ⟨b,ob+off,none⟩ else ⟨b,ob+off+l*Bu P e,none⟩)) (u-l) (n-l))) w:=by
    unfold execOp;rw [ho];have hbr:=Jw (P:=P) (w:=w) (isS:=false) hl hu' hb.1 hb.2;simp [Instr.sliceAt,Instr.sureAddr,run_underlying hu,hax,hbr,Ew hinf,Fz]
   refine ⟨_,hk,Cv hrun (.inr ?_) hxr⟩;by_cases hc:n=l
   ·rw [if_pos hc];refine ⟨b,ob,ob+off,n-l,hβ,rfl,?_,by omega,by rw [hc,Nat.sub_self];omega,hlt⟩
    by_cases h0:l*Bu P e=0
    ·rw [h0,Nat.add_zero];exact .inl rfl
    ·exact .inr ⟨by omega,by omega⟩
   ·rw [if_neg hc];refine ⟨b,ob,ob+off+l*Bu P e,n-l,hβ,rfl,.inl (by omega),by omega,?_,hlt⟩
    have:l*Bu P e+(n-l)*Bu P e=n*Bu P e:=by
     rw [←Nat.add_mul]
     congr 1
     omega
    omega
  ·cases hk
 ·cases hk
end
open Go.RowKit
section
variable {R:Type} {r:R} {P:Program} {N:Nat} {w0:World} {X0:Jc} {Y:Nat->Prop} {β β':Bt} {s:St} {a:Act} {w w':World} {o:Oper} {A:Nat->Prop}
theorem Axn (h:D0 N w0 X0 Y β s a w){c:Call}(ho:o.op=.call c)(hc:c.callee=.builtin .len){K:PV->Option R}
  (hk:(Ab c.args.toList fun x _=>Ab c.argTypes.toList fun t _=>Awx P t (C1 s.tm x) fun n=>K (.sc (.int .i64 n)))=some r):∃v,K v=some r∧Fu P a w o Y β s v [] []:=by
 obtain ⟨x,xs,hxs,hk⟩:=Bo hk;obtain ⟨t,ts,hts,hk⟩:=Bo hk;have hx:=Dy h x;have hargs:c.args=(x::xs).toArray:=by rw [←hxs]
 have htys:c.argTypes=(t::ts).toArray:=by rw [←hts]
 have hrun:∀n:Nat,(Builtin.len_ c.argTypes o.type (c.args.map a.eval)).run P w=.ok (.int .i64 n) w->(execOp a.eval o).run P w=.ok (.value (.int .i64 n)) w:=by
  intro n hl;unfold execOp;rw [ho];simp only [resolve,hc,invoke,builtin,Sem.run_bind,Sem.run_pure,Result.andThen_ok,hl]
 unfold Awx at hk;split at hk
 ·rename_i hu;obtain ⟨sb,hxs',hk⟩:=Gg hk;have hax:=De h hxs';refine ⟨_,hk,Dm (hrun _ ?_)⟩;simp [Builtin.len_,hargs,htys,run_underlying hu,hax,goInt]
 ·rename_i n e hu;refine ⟨_,hk,Dm (hrun _ ?_)⟩;simp [Builtin.len_,hargs,htys,run_underlying hu,goInt]
 ·rename_i e hu;split at hk
  ·rename_i id es off n e';rw [e'] at hx;obtain ⟨_,hk⟩:=A7 hk;refine ⟨_,hk,Dm (hrun _ ?_)⟩;rcases hx with ⟨_,_,rfl,hax⟩|⟨b,ob,y,cap,_,hax,_⟩<;>simp [Builtin.len_,hargs,htys,run_underlying hu,hax,goInt]
  ·obtain ⟨z,n,cc,hk,hp⟩:=Gz hk;refine ⟨_,hk,Dm (hrun _ ?_)⟩;rcases Iq hp hx with ⟨hax,rfl,_⟩|⟨ad,cap,hax,_⟩|⟨ad,cap,hax,_,rfl,_⟩<;>simp [Builtin.len_,hargs,htys,run_underlying hu,hax,goInt]
 ·cases hk
theorem Aw4 (h:D0 N w0 X0 Y β s a w){c:Call}(ho:o.op=.call c)(hc:c.callee=.builtin .cap){K:PV->Option R}
  (hk:(Ab c.args.toList fun x _=>Ab c.argTypes.toList fun t _=>Axm P t (C1 s.tm x) fun n=>K (.sc (.int .i64 n)))=some r):∃v,K v=some r∧Fu P a w o Y β s v [] []:=by
 obtain ⟨x,xs,hxs,hk⟩:=Bo hk;obtain ⟨t,ts,hts,hk⟩:=Bo hk;have hx:=Dy h x;have hargs:c.args=(x::xs).toArray:=by rw [←hxs]
 have htys:c.argTypes=(t::ts).toArray:=by rw [←hts]
 have hrun:∀n:Nat,(Builtin.cap_ c.argTypes o.type (c.args.map a.eval)).run P w=.ok (.int .i64 n) w->(execOp a.eval o).run P w=.ok (.value (.int .i64 n)) w:=by
  intro n hl;unfold execOp;rw [ho];simp only [resolve,hc,invoke,builtin,Sem.run_bind,Sem.run_pure,Result.andThen_ok,hl]
 unfold Axm at hk;split at hk
 ·rename_i e hu;obtain ⟨z,n,cc,hk,hp⟩:=Gz hk;obtain ⟨hz,hk⟩:=A7 hk;refine ⟨_,hk,Dm (hrun _ ?_)⟩;rcases Iq hp hx with ⟨hax,rfl,_⟩|⟨ad,cap,hax,hzf,_⟩|⟨ad,cap,hax,hzf,_,_⟩
  ·simp [Builtin.cap_,hargs,htys,run_underlying hu,hax,goInt]
  ·rw [hz] at hzf;cases hzf
  ·rw [hz] at hzf;cases hzf
 ·cases hk
theorem Awu (h:D0 N w0 X0 Y β s a w){c:Call}(ho:o.op=.call c)(hc:c.callee=.builtin .min){K:PV->Option R}
  (hk:(Ab c.args.toList fun x r=>Ab r fun y r'=>Ac r' (A4b (C1 s.tm x) (C1 s.tm y) K))=some r):∃v,K v=some r∧Fu P a w o Y β s v [] []:=by
 obtain ⟨x,xs,hxs,hk⟩:=Bo hk;obtain ⟨y,ys,rfl,hk⟩:=Bo hk;obtain ⟨rfl,hk⟩:=Eb hk;obtain ⟨k,n,hx,hk⟩:=Ea hk;obtain ⟨m,hy,hk⟩:=Ik hk
 have hargs:c.args = #[x,y]:=by
  have:c.args=([x,y]:List Operand).toArray:=by rw [←hxs]
  exact this
 refine ⟨_,hk,Dm ?_⟩;unfold execOp;rw [ho];simp [resolve,hc,invoke,builtin,hargs,Builtin.min_,Builtin.min2,De h hx,De h hy]
theorem Azd (h:D0 N w0 X0 Y β s a w){c:Call}(ho:o.op=.call c)(hc:c.callee=.builtin .max){K:PV->Option R}
  (hk:(Ab c.args.toList fun x r=>Ab r fun y r'=>Ac r' (A5c (C1 s.tm x) (C1 s.tm y) K))=some r):∃v,K v=some r∧Fu P a w o Y β s v [] []:=by
 obtain ⟨x,xs,hxs,hk⟩:=Bo hk;obtain ⟨y,ys,rfl,hk⟩:=Bo hk;obtain ⟨rfl,hk⟩:=Eb hk;obtain ⟨k,n,hx,hk⟩:=Ea hk;obtain ⟨m,hy,hk⟩:=Ik hk
 have hargs:c.args = #[x,y]:=by
  have:c.args=([x,y]:List Operand).toArray:=by rw [←hxs]
  exact this
 refine ⟨_,hk,Dm ?_⟩;unfold execOp;rw [ho];simp [resolve,hc,invoke,builtin,hargs,Builtin.max_,Builtin.max2,De h hx,De h hy]
theorem Ath (h:D0 N w0 X0 Y β s a w){op:UnOp}{t:TypeId}{x:Operand}(ho:o.op=.unOp op t x){K:PV->Option R}(hk:unK op (C1 s.tm x) K=some r):
  ∃v,K v=some r∧Fu P a w o Y β s v [] []:=by
 unfold unK at hk;split at hk
 ·obtain ⟨b,hb,hk⟩:=Hk hk;refine ⟨_,hk,Dm ?_⟩;unfold execOp;rw [ho];simp [Op.unary,De h hb]
 ·obtain ⟨k,n,hb,hk⟩:=Ea hk;refine ⟨_,hk,Dm ?_⟩;unfold execOp;rw [ho];simp [Op.unary,Op.intArith,De h hb]
 ·obtain ⟨k,n,hb,hk⟩:=Ea hk;refine ⟨_,hk,Dm ?_⟩;unfold execOp;rw [ho];simp [Op.unary,Op.intBits,De h hb,A9w]
 ·cases hk
theorem Awy {op:BinOp}{k:IntKind}{m n:Int}{t:TypeId}{x y:Operand}{K:PV->Option R}(hs1:op ≠ .shl)(hs2:op ≠ .shr)(hk:Aka op k m n K=some r):
  ∃v,K (.sc v)=some r∧(do eqGuard op t x y (.int k m) (.int k n);binOp op t (.int k m) (.int k n)).run P w=.ok v w:=by
 cases op<;>first
  |exact absurd rfl hs1
  |exact absurd rfl hs2
  |(obtain ⟨hb,hk⟩:=A7 hk;have hb:=of_decide_eq_true hb;exact ⟨_,hk,by simp [eqGuard,binOp,Op.intDiv,hb]⟩)
  |exact ⟨_,hk,by simp [eqGuard,binOp,-BitVec.toNat_and,-BitVec.toNat_or,-BitVec.toNat_xor,-gt_iff_lt,-ge_iff_le]<;>rfl⟩
theorem Ax3 {op:BinOp}{m n:ByteArray}{t:TypeId}{x y:Operand}{K:PV->Option R}(hk:Aid op m n K=some r):
  ∃v,K (.sc v)=some r∧(do eqGuard op t x y (.string m) (.string n);binOp op t (.string m) (.string n)).run P w=.ok v w:=by
 cases op<;>first
  |cases hk
  |(obtain ⟨hb,hk⟩:=A7 hk;have hb:=of_decide_eq_true hb;exact ⟨_,hk,by
    have hb':¬(((m.size+n.size:Nat):Int)>IntKind.i64.max):=by
     have:IntKind.i64.max=9223372036854775807:=rfl;rw [this];omega
    simp only [eqGuard,binOp,Op.stringOp,if_neg hb'];rfl⟩)
  |exact ⟨_,hk,by simp only [eqGuard,binOp,Op.stringOp,ByteArray.toList_eq];rfl⟩
end
open Go.RowKit
section
variable {R:Type} {r:R} {P:Program} {N:Nat} {w0:World} {X0:Jc} {Y:Nat->Prop} {β β':Bt} {s:St} {a:Act} {w w':World} {o:Oper} {A:Nat->Prop}
theorem Akd {t:TypeId}(hu:P.underlying t=some .bool)(x y:Bool):(Op.equal t (.bool x) (.bool y)).run P w=.ok (x==y) w:=by
 have h:∀d,(Op.equalIn (d+1) t (.bool x) (.bool y)).run P w=.ok (x==y) w:=fun d=>by simp [Op.equalIn,run_underlying hu]
 exact h 9999
theorem Ys {t e:TypeId}(hu:P.underlying t=some (.slice e)) (x:Option Addr)(n c:Nat):(Op.equal t (.slice x n c) (.slice none 0 0)).run P w=.ok x.isNone w:=by
 have h:∀d,(Op.equalIn (d+1) t (.slice x n c) (.slice none 0 0)).run P w=.ok x.isNone w:=fun d=>by
  cases x<;>simp [Op.equalIn,run_underlying hu]
 exact h 9999
theorem Xz {t:TypeId}(d:Nat){v u:Value}(hv:(∃k m n,P.underlying t=some (.int k)∧v=.int k m∧u=.int k n)∨(∃m n,P.underlying t=some .bool∧v=.bool m∧u=.bool n)∨∃m n,P.underlying t=some .string∧v=.string m∧u=.string n) {b:Bool}
  (hb:∀k m n,v=.int k m->u=.int k n->b=(m==n)) (hb':∀m n,v=.bool m->u=.bool n->b=(m==n)) (hb'':∀m n,v=.string m->u=.string n->b=(m==n)):(Op.equalIn (d+1) t v u).run P w=.ok b w:=by
 rcases hv with ⟨k,m,n,hu,rfl,rfl⟩|⟨m,n,hu,rfl,rfl⟩|⟨m,n,hu,rfl,rfl⟩
 ·rw [hb k m n rfl rfl];simp [Op.equalIn,run_underlying hu]
 ·rw [hb' m n rfl rfl];simp [Op.equalIn,run_underlying hu]
 ·rw [hb'' m n rfl rfl];simp [Op.equalIn,run_underlying hu]
theorem Aj1 {t:TypeId}{dsc:TypeDesc}(hu:P.underlying t=some dsc)(hd:Df P t=false){xs:Array Value}{i:Nat}{v:Value}(hv:xs[i]?=some v):(part t xs i).run P w=.ok v w:=by
 simp only [part,Sem.run_bind,T0 hu,hd,Result.andThen_ok];simp [hv]
theorem Avs (d : Nat) : ∀ (fs : List Field) (i : Nat) (xs ys : Array Value) (ps qs : List PV) (K : Bool -> Option R), Ai6 P fs i = true -> Aku (fs.map (fty P)) ps qs K = some r ->
    (∀ (j : Nat) p, ps[j]? = some p -> ∃ v, xs[i + j]? = some v ∧ Cz w A β p v) -> (∀ (j : Nat) p, qs[j]? = some p -> ∃ v, ys[i + j]? = some v ∧ Cz w A β p v) ->
    ∃ b, K b = some r ∧ (forIn fs ((none, ()) : Option Bool × Unit) fun (f : Field) (_ : Option Bool × Unit) =>
            if f.name = "_" then pure (ForInStep.yield ((none, ()) : Option Bool × Unit))
            else do
              let x ← part f.type xs f.offset
              let y ← part f.type ys f.offset
              let e ← Op.equalIn (d + 1) f.type x y
              if e = false then pure (ForInStep.done ((some false, ()) : Option Bool × Unit)) else pure (ForInStep.yield ((none, ()) : Option Bool × Unit)) : Sem (Option Bool × Unit)).run P w = .ok (if b then (none, ()) else (some false, ())) w
  | [], i, xs, ys, ps, qs, K, _, hk, _, _ => by
    cases ps with
    | nil => cases qs with
      | nil => exact ⟨true, hk, by simp⟩
      | cons q qs => cases hk
    | cons p ps => cases hk
  | f :: fs, i, xs, ys, ps, qs, K, hfl, hk, hp, hq => by
    simp only [Ai6, Bool.and_eq_true] at hfl
    obtain ⟨⟨⟨hoff, hname⟩, hty⟩, hrest⟩ := hfl
    have hoff := Nat.eq_of_beq_eq_true hoff
    have hname' : f.name ≠ "_" := by simpa using hname
    cases ps with
    | nil =>
      simp only [List.map_cons] at hk
      cases hfty : fty P f <;> rw [hfty] at hk <;> cases hk
    | cons p ps =>
      cases qs with
      | nil =>
        simp only [List.map_cons] at hk
        cases hfty : fty P f <;> rw [hfty] at hk <;> cases hk
      | cons q qs =>
        obtain ⟨v, hv, hpv⟩ := hp 0 p rfl
        obtain ⟨u, hu, hqu⟩ := hq 0 q rfl
        rw [Nat.add_zero] at hv hu
        have main : ∃ b0 dsc, P.underlying f.type = some dsc ∧ Df P f.type = false ∧ (Op.equalIn (d + 1) f.type v u).run P w = .ok b0 w ∧ Aku (fs.map (fty P)) ps qs (fun r => K (b0 && r)) = some r := by
          simp only [List.map_cons] at hk
          unfold fty at hk
          split at hk
          · rename_i k hun
            obtain ⟨m, hpm, hk1⟩ := Ik (show Af k p _ = some r from hk)
            obtain ⟨n, hqn, hk2⟩ := Ik hk1
            subst hpm hqn
            have hv' : v = .int k m := Bq.val (w := w) (A := A) hpv
            have hu' : u = .int k n := Bq.val (w := w) (A := A) hqu
            subst hv' hu'
            refine ⟨m == n, _, hun, by simp [Df, hun], Xz d (.inl ⟨k, m, n, hun, rfl, rfl⟩) ?_ ?_ ?_, hk2⟩
            · intro k' m' n' h1 h2; injection h1 with _ h1; injection h2 with _ h2; rw [h1, h2]
            · intro m' n' h1; cases h1
            · intro m' n' h1; cases h1
          · rename_i hun
            obtain ⟨m, hpm, hk1⟩ := Hk (show Bz p _ = some r from hk)
            obtain ⟨n, hqn, hk2⟩ := Hk hk1
            subst hpm hqn
            have hv' : v = .bool m := Bq.val (w := w) (A := A) hpv
            have hu' : u = .bool n := Bq.val (w := w) (A := A) hqu
            subst hv' hu'
            refine ⟨m == n, _, hun, by simp [Df, hun], Xz d (.inr (.inl ⟨m, n, hun, rfl, rfl⟩)) ?_ ?_ ?_, hk2⟩
            · intro k' m' n' h1; cases h1
            · intro m' n' h1 h2; injection h1 with h1; injection h2 with h2; rw [h1, h2]
            · intro m' n' h1; cases h1
          · rename_i hun
            obtain ⟨m, hpm, hk1⟩ := Gg (show Cn p _ = some r from hk)
            obtain ⟨n, hqn, hk2⟩ := Gg hk1
            subst hpm hqn
            have hv' : v = .string m := Bq.val (w := w) (A := A) hpv
            have hu' : u = .string n := Bq.val (w := w) (A := A) hqu
            subst hv' hu'
            refine ⟨m == n, _, hun, by simp [Df, hun], Xz d (.inr (.inr ⟨m, n, hun, rfl, rfl⟩)) ?_ ?_ ?_, hk2⟩
            · intro k' m' n' h1; cases h1
            · intro m' n' h1; cases h1
            · intro m' n' h1 h2; injection h1 with h1; injection h2 with h2; rw [h1, h2]
          · cases hk
        obtain ⟨b0, dsc, hun, hagg, he, hk⟩ := main
        obtain ⟨b, hkb, hrun⟩ := Avs d fs (i + 1) xs ys ps qs _ hrest hk (fun j p' hj => by have := hp (j + 1) p' hj; rwa [Nat.add_assoc, Nat.add_comm 1 j]) (fun j p' hj => by have := hq (j + 1) p' hj; rwa [Nat.add_assoc, Nat.add_comm 1 j])
        refine ⟨b0 && b, hkb, ?_⟩
        have hpx : (part f.type xs f.offset).run P w = .ok v w := Aj1 hun hagg (by rw [hoff]; exact hv)
        have hpy : (part f.type ys f.offset).run P w = .ok u w := Aj1 hun hagg (by rw [hoff]; exact hu)
        cases b0
        · simp [List.forIn_cons, hname', hpx, hpy, he]
        · simp only [Bool.true_and]
          rw [← hrun]
          simp [List.forIn_cons, hname', hpx, hpy, he]
theorem Ajo (d:Nat){t:TypeId}{fs:Array Field}(hu:P.underlying t=some (.struct fs)) (hst:P.stoodInHeld t=false)(hfl:Ai6 P fs.toList 0=true){xs ys:List PV}{vx vy:List Value}
  (hvx:B5 (Cz w A β) xs vx) (hvy:B5 (Cz w A β) ys vy) {K:Bool->Option R}(hk:Aku (fs.toList.map (fty P)) xs ys K=some r):
  ∃b,K b=some r∧(Op.equalIn (d+2) t (.agg ⟨vx⟩) (.agg ⟨vy⟩)).run P w=.ok b w:=by
 obtain ⟨b,hkb,hrun⟩:=Avs (P:=P) (w:=w) (A:=A) (β:=β) d fs.toList 0 ⟨vx⟩ ⟨vy⟩ xs ys K hfl hk (fun j p hj=>by
   obtain ⟨v,hv,hc⟩:=hvx.get hj;exact ⟨v,by simpa using hv,hc⟩) (fun j p hj=>by
   obtain ⟨v,hv,hc⟩:=hvy.get hj;exact ⟨v,by simpa using hv,hc⟩)
 refine ⟨b,hkb,?_⟩;rw [Array.forIn_toList] at hrun;rw [Op.equalIn];simp [run_underlying hu,hst];rw [hrun];cases b<;>simp
theorem Am8 (h:D0 N w0 X0 Y β s a w){t:TypeId}{fs:Array Field}{x y:Operand}{op:BinOp}(hop:op=.eql∨op=.neq)(hu:P.underlying t=some (.struct fs)) (hfl:Ap6 P t fs=true){xs ys:List PV}
  (hx:C1 s.tm x=.agg xs)(hy:C1 s.tm y=.agg ys){K:Bool->Option R}(hk:Aku (fs.toList.map (fty P)) xs ys K=some r):
  ∃b,K b=some r∧(do eqGuard op t x y (a.eval x) (a.eval y);binOp op t (a.eval x) (a.eval y)).run P w=.ok (.bool (if op=.eql then b else !b)) w:=by
 have hxv:=Dy h x;have hyv:=Dy h y;rw [hx] at hxv;rw [hy] at hyv;obtain ⟨vx,hax,hvx⟩:=hxv;obtain ⟨vy,hay,hvy⟩:=hyv;simp only [Ap6,Bool.and_eq_true,Bool.not_eq_true'] at hfl;obtain ⟨⟨hfl,hst⟩,heg⟩:=hfl;obtain ⟨b,hkb,heq⟩:=Ajo 9998 hu hst hfl hvx hvy hk;have heq:(Op.equal t (.agg ⟨vx⟩) (.agg ⟨vy⟩)).run P w=.ok b w:=heq;refine ⟨b,hkb,?_⟩;rw [hax,hay];rcases hop with rfl|rfl
 ·simp [eqGuard,binOp,heq,heg]
 ·simp [eqGuard,binOp,heq,heg]
theorem Ase (h:D0 N w0 X0 Y β s a w){op:BinOp}{t ty:TypeId}{x y:Operand}(ho:o.op=.binOp op t x y ty){K:PV->Option R}
  (hk:Y2 P op t (C1 s.tm x) (C1 s.tm y) K=some r):∃v,K v=some r∧Fu P a w o Y β s v [] []:=by
 have hrun:∀v,(do eqGuard op t x y (a.eval x) (a.eval y);binOp op t (a.eval x) (a.eval y)).run P w=.ok v w->(execOp a.eval o).run P w=.ok (.value v) w:=by
  intro v hv;unfold execOp;rw [ho];simp only [Sem.run_bind] at hv ⊢;rw [hv];rfl
 unfold Y2 at hk;split at hk
 ·rename_i fs hu;split at hk
  ·obtain ⟨hfl,hk⟩:=A7 hk;obtain ⟨xs,hx,hk⟩:=Is hk;obtain ⟨ys,hy,hk⟩:=Is hk;obtain ⟨b,hk,hr⟩:=Am8 h (.inl rfl) hu hfl hx hy hk;exact ⟨_,hk,Dm (hrun _ (by rw [hr];rfl))⟩
  ·obtain ⟨hfl,hk⟩:=A7 hk;obtain ⟨xs,hx,hk⟩:=Is hk;obtain ⟨ys,hy,hk⟩:=Is hk;obtain ⟨b,hk,hr⟩:=Am8 h (.inr rfl) hu hfl hx hy hk;exact ⟨_,hk,Dm (hrun _ (by rw [hr];rfl))⟩
  ·cases hk
 ·unfold A08 at hk;split at hk
  ·rename_i k hu;split at hk
   ·obtain ⟨m,hx,hk⟩:=Ik hk;obtain ⟨k2,n,hy,hk⟩:=Ea hk;obtain ⟨hb,hk⟩:=A7 hk;have hb:=of_decide_eq_true hb;refine ⟨_,hk,Dm (hrun _ ?_)⟩;have:¬n<0:=by omega
    simp [eqGuard,binOp,Op.shift,De h hx,De h hy,this]
   ·obtain ⟨m,hx,hk⟩:=Ik hk;obtain ⟨k2,n,hy,hk⟩:=Ea hk;obtain ⟨hb,hk⟩:=A7 hk;have hb:=of_decide_eq_true hb;refine ⟨_,hk,Dm (hrun _ ?_)⟩;have:¬n<0:=by omega
    simp [eqGuard,binOp,Op.shift,De h hx,De h hy,this]
   ·rename_i hs1 hs2;obtain ⟨m,hx,hk⟩:=Ik hk;obtain ⟨n,hy,hk⟩:=Ik hk;obtain ⟨v,hk,hr⟩:=Awy (P:=P) (w:=w) (t:=t) (x:=x) (y:=y) hs1 hs2 hk;exact ⟨_,hk,Dm (hrun _ (by rw [De h hx,De h hy];exact hr))⟩
  ·rename_i hu;obtain ⟨m,hx,hk⟩:=Gg hk;obtain ⟨n,hy,hk⟩:=Gg hk;obtain ⟨v,hk,hr⟩:=Ax3 (P:=P) (w:=w) (t:=t) (x:=x) (y:=y) hk;exact ⟨_,hk,Dm (hrun _ (by rw [De h hx,De h hy];exact hr))⟩
  ·rename_i hu;split at hk
   ·obtain ⟨m,hx,hk⟩:=Hk hk;obtain ⟨n,hy,hk⟩:=Hk hk;refine ⟨_,hk,Dm (hrun _ ?_)⟩;simp [eqGuard,binOp,De h hx,De h hy,Akd hu]
   ·obtain ⟨m,hx,hk⟩:=Hk hk;obtain ⟨n,hy,hk⟩:=Hk hk;refine ⟨_,hk,Dm (hrun _ ?_)⟩;simp [eqGuard,binOp,De h hx,De h hy,Akd hu]
   ·cases hk
  ·rename_i e hu;have hx:=Dy h x
   have nilQ:∀{e:Bool} {K':PV->Option R},Ak0 e (C1 s.tm x) K'=some r->∃q ad n c,K' q=some r∧a.eval x=.slice ad n c∧(q=.sc (.bool (if ad.isNone then e else !e))∨q=.ub):=by
    intro e K' hq;unfold Ak0 at hq;split at hq
    ·rename_i e';exact ⟨_,none,0,0,hq,De h e',.inl rfl⟩
    ·rename_i z es n c e';rcases Iq (.inl e') hx with ⟨hax,rfl,_⟩|⟨ad,cap,hax,rfl,_⟩|⟨ad,cap,hax,rfl,rfl,_⟩
     ·rcases Pd hq with ⟨_,hq⟩|⟨_,hq⟩
      ·exact ⟨_,none,0,0,hq,hax,.inl rfl⟩
      ·rcases Pd hq with ⟨hb,_⟩|⟨_,hq⟩
       ·exact absurd (of_decide_eq_true hb) (by omega)
       ·exact ⟨_,none,0,0,hq,hax,.inr rfl⟩
     ·rcases Pd hq with ⟨hz,_⟩|⟨_,hq⟩
      ·cases hz
      ·rcases Pd hq with ⟨_,hq⟩|⟨_,hq⟩
       ·exact ⟨_,some ad,n,cap,hq,hax,.inl rfl⟩
       ·exact ⟨_,some ad,n,cap,hq,hax,.inr rfl⟩
     ·rcases Pd hq with ⟨hz,_⟩|⟨_,hq⟩
      ·cases hz
      ·rcases Pd hq with ⟨hb,_⟩|⟨_,hq⟩
       ·exact absurd (of_decide_eq_true hb) (by omega)
       ·exact ⟨_,some ad,0,cap,hq,hax,.inr rfl⟩
    ·rename_i id es off n e';rw [e'] at hx;rcases hx with ⟨_,_,rfl,hax⟩|⟨b,ob,y',cap,_,hax,_⟩
     ·rcases Pd hq with ⟨hb,_⟩|⟨_,hq⟩
      ·exact absurd (of_decide_eq_true hb) (by omega)
      ·exact ⟨_,none,0,0,hq,hax,.inr rfl⟩
     ·rcases Pd hq with ⟨_,hq⟩|⟨_,hq⟩
      ·exact ⟨_,_,n,cap,hq,hax,.inl rfl⟩
      ·exact ⟨_,_,n,cap,hq,hax,.inr rfl⟩
    ·cases hq
   split at hk
   ·rename_i hy;obtain ⟨q,ad,n,c,hk,hax,hb⟩:=nilQ hk;rcases hb with rfl|rfl
    ·refine ⟨_,hk,Dm (hrun _ ?_)⟩;cases ad<;>simp [eqGuard,binOp,hax,De h hy,Ys hu]
    ·refine ⟨_,hk,Cv (val:=.bool ad.isNone) (hrun _ ?_) (Bq.ub _) (by intro i hi;cases hi)⟩
     simp [eqGuard,binOp,hax,De h hy,Ys hu]
   ·rename_i hy;obtain ⟨q,ad,n,c,hk,hax,hb⟩:=nilQ hk;rcases hb with rfl|rfl
    ·refine ⟨_,hk,Dm (hrun _ ?_)⟩;cases ad<;>simp [eqGuard,binOp,hax,De h hy,Ys hu]
    ·refine ⟨_,hk,Cv (val:=.bool !ad.isNone) (hrun _ ?_) (Bq.ub _) (by intro i hi;cases hi)⟩
     simp [eqGuard,binOp,hax,De h hy,Ys hu]
   ·cases hk
  ·cases hk
end
open Go.RowKit
section
variable {R:Type} {r:R} {P:Program} {N:Nat} {w0:World} {X0:Jc} {Y:Nat->Prop} {β β':Bt} {s:St} {a:Act} {w w':World} {o:Oper} {A:Nat->Prop}
theorem Xl:∀{c:List PV}{l:List UInt8},bytesOf c=some l->∃ns:List Int,c=ns.map (fun n=>.sc (.int .u8 n))∧l=ns.map fun n=>n.toNat.toUInt8
 |[],l,h=>⟨[],rfl,by simp [bytesOf] at h;subst h;rfl⟩
 |p::c,l,h=>by
  unfold bytesOf at h;split at h
  ·rename_i e;cases e
  ·rename_i n r e;cases e;cases hr:bytesOf c with
   |none=>rw [hr] at h;cases h
   |some l'=>
    rw [hr] at h;simp at h;obtain ⟨ns,rfl,rfl⟩:=Xl hr;exact ⟨n::ns,rfl,h.symm⟩
  ·cases h
theorem Vz:∀(ns:List Int)(b:ByteArray),ns.foldl (fun r n=>r.push (UInt8.ofNat n.toNat)) b=⟨b.data++(ns.map fun n=>n.toNat.toUInt8).toArray⟩
 |[],b=>by simp
 |n::ns,b=>by
  simp only [List.foldl_cons];rw [Vz ns];simp [ByteArray.push]
theorem Aqn (h:D0 N w0 X0 Y β s a w){es:Nat}{x:Operand}{K:Nat->List PV->Option R}(hk:Aty (L5 s.hp) es (C1 s.tm x) K=some r):
  ∃n c,K n c=some r∧((a.eval x=.slice none 0 0∧n=0∧c=[])∨∃ad cap,a.eval x=.slice (some ad) n cap∧n<=cap∧(c=[]∨ad.block<w.heap.size)∧RdT w (D3 s.hp β Y) ad c):=by
 have hx:=Dy h x;have hxr:=F3 h x;unfold Aty at hk;split at hk
 ·rename_i id es' off n e;rw [e] at hx hxr;cases hb:Nat.beq es' es
  ·rw [hb] at hk;cases hk
  ·rw [hb] at hk;obtain ⟨c,hc,hk⟩:=Dv (show Ez _ _=some r from hk)
   obtain ⟨hl,hk⟩:=A7 hk;have hl:=of_decide_eq_true hl;obtain ⟨f,hbox⟩:=Apm hc;refine ⟨_,_,hk,?_⟩;rcases hx with ⟨_,rfl,rfl,hax⟩|⟨b,ob,y,cap,hβ,hax,hy,hn,_,hlt⟩
   ·exact .inl ⟨hax,rfl,by simp⟩
   ·refine .inr ⟨_,cap,hax,hn,.inr hlt,fun j p hj=>?_⟩
    have hpos:0<n*es:=by
     rcases Nat.eq_zero_or_pos (n*es) with h0|h0
     ·rw [h0] at hj;simp at hj
     ·exact h0
    have hn0:n≠0:=by rintro rfl;simp at hpos
    have hy:y=ob+off:=by rcases hy with hy|⟨h0,_⟩<;>omega
    subst hy;rw [List.getElem?_take] at hj;split at hj
    ·rw [List.getElem?_drop] at hj;rcases h.box id _ hbox with ⟨h1,_⟩|⟨b',o',h1,h2,_⟩
     ·rw [hβ] at h1;cases h1
     ·rw [hβ] at h1;simp at h1;obtain ⟨rfl,rfl⟩:=h1
      obtain ⟨v,hv,h3,ht⟩:=h2 (off+j) p hj;rw [Fz] at hv;exact ⟨v,by rw [Fz,Nat.add_assoc];exact hv,h3,ht⟩
    ·cases hj
 ·obtain ⟨z,n,c,hk,hp⟩:=Gz hk;refine ⟨n,c,hk,?_⟩;rcases Iq hp hx with h1|⟨ad,cap,hax,_,hn,h1,h2,_,h4⟩|⟨ad,cap,hax,_,rfl,rfl⟩
  ·exact .inl h1
  ·exact .inr ⟨ad,cap,hax,hn,.inr h2,h4⟩
  ·exact .inr ⟨ad,cap,hax,Nat.zero_le _,.inl rfl,fun j c hj=>by simp at hj⟩
theorem Axl (b:ByteArray)(j:Nat)(p:PV)(h:(Co b)[j]?=some p):∃x,b.data[j]?=some x∧p=.sc (.int .u8 x.toNat):=by
 unfold Co at h;rw [List.getElem?_map] at h;cases hx:b.data.toList[j]? with
 |none=>rw [hx] at h;cases h
 |some x=>
  rw [hx] at h;simp at h;exact ⟨x,by simpa using hx,h.symm⟩
theorem Atp (h:D0 N w0 X0 Y β s a w){src dst:TypeId}{x:Operand}(ho:o.op=.convert src dst x){d:Nat}{K:PV->List (Nat × Ck)->Option R}
  (hk:Ai4 P (L5 s.hp) d src dst (C1 s.tm x) K=some r):∃v nw,K v nw=some r∧Fu P a w o Y β s v [] nw:=by
 have hrun:∀v w',(convert src dst (a.eval x)).run P w=.ok v w'->(execOp a.eval o).run P w=.ok (.value v) w':=by
  intro v w' hv;unfold execOp;rw [ho];simp [hv]
 unfold Ai4 at hk;split at hk
 ·rename_i k hu;obtain ⟨hs,hk⟩:=A7 hk;obtain ⟨k',n,hx,hk⟩:=Ea hk;exact ⟨_,_,hk,Dm (hrun _ _ (by rw [De h hx];obtain ⟨ds,hds⟩:=Option.isSome_iff_exists.1 hs;cases ds<;>simp [convert,run_underlying hds,run_underlying hu,Conv.intToInt]))⟩
 ·rename_i hu;split at hk
  ·rename_i hs;obtain ⟨b,hx,hk⟩:=Gg hk;exact ⟨_,_,hk,Dm (hrun _ _ (by rw [De h hx];simp [convert,run_underlying hs,run_underlying hu]))⟩
  ·rename_i e hs;split at hk
   ·rename_i he;obtain ⟨n,c,hk,hc⟩:=Aqn h hk;obtain ⟨hl,hk⟩:=A7 hk;have hl:=of_decide_eq_true hl;obtain ⟨l,hb,hk⟩:=Dv hk;obtain ⟨ns,rfl,rfl⟩:=Xl hb;refine ⟨_,_,hk,Dm (hrun _ _ ?_)⟩;rcases hc with ⟨hax,rfl,hn⟩|⟨ad,cap,hax,_,_,hrd⟩
    ·have:ns=[]:=by simpa using hn
     subst this;rw [hax,run_convert_bytes_string w src dst e none 0 0 hs he hu];rfl
    ·rw [hax,run_convert_bytes_string w src dst e _ _ _ hs he hu]
     have hld:(loadCells ad n).run P w=.ok (ns.map (Value.int .u8)).toArray w:=by
      have:=run_loadCells_list (P:=P) w ad (ns.map (Value.int .u8)) (fun j v hj=>by
       rw [List.getElem?_map] at hj;cases hn:ns[j]? with
       |none=>rw [hn] at hj;cases hj
       |some m=>
        rw [hn] at hj;simp at hj;subst hj;obtain ⟨v,hv,_,ht⟩:=hrd j (.sc (.int .u8 m)) (by rw [List.getElem?_map,hn];rfl)
        rw [ht.val] at hv;exact hv)
      simp only [List.length_map] at this hl;rw [hl] at this;exact this
     rw [run_bytesToString w ad n cap ns hld,Vz];simp
   ·cases hk
  ·cases hk
 ·rename_i e hu;split at hk
  ·rename_i he hs;obtain ⟨b,hx,hk⟩:=Gg hk;obtain ⟨hsz,hk⟩:=A7 hk;have hr:=run_bytes_of_string (P:=P) w src dst e b hs hu he;rw [←De h hx] at hr
   have hcap:b.size<=grownCap w b.size 0 e:=by
    unfold grownCap;simp [Question.cut]
   have hsize:(bytesRow b (grownCap w b.size 0 e)).size=grownCap w b.size 0 e:=by
    simp only [bytesRow,Array.size_append,Array.size_map,Array.size_replicate];have:b.data.size=b.size:=rfl;omega
   refine ⟨_,_,hk,Tk (c:=bytesRow b (grownCap w b.size 0 e)) (e:=e) (by simp) (hrun _ _ hr) ?_ (fun j p hj=>?_) (.inr ⟨1,b.size,grownCap w b.size 0 e,rfl,rfl,hcap,by rw [hsize];omega⟩)⟩
   ·exact ⟨rfl,rfl,rfl,fun i hi=>Below.heap_alloc w.drew _ i hi,by show (w.heap.push _).size=_;simp,_,by show (w.heap.push _)[w.heap.size]?=_;simp;rfl,.inr (Nat.le_refl _)⟩
   ·obtain ⟨y,hy,rfl⟩:=Axl b j p hj;refine ⟨.int .u8 y.toNat,?_,rfl,Bq.sc _⟩
    have hlt:j<b.data.size:=by
     rcases Nat.lt_or_ge j b.data.size with h|h
     ·exact h
     ·rw [Array.getElem?_eq_none h] at hy;cases hy
    simp only [bytesRow];rw [Array.getElem?_append_left (by simpa using hlt),Array.getElem?_map,hy]
    rfl
  ·cases hk
 ·cases hk
end
open Go.RowKit
section
variable {R:Type} {r:R} {P:Program} {N:Nat} {w0:World} {X0:Jc} {Y:Nat->Prop} {β β':Bt} {s:St} {a:Act} {w w':World} {o:Oper} {A:Nat->Prop}
theorem Ad6:∀{n:Nat}{l:List PV}{j:Nat}{c:PV},(Wr n l)[j]?=some c->j<n*l.length∧l[j % l.length]?=some c
 |0,l,j,c,h=>by simp [Wr] at h
 |n+1,l,j,c,h=>by
  have e:Wr (n+1) l=l++Wr n l:=by simp [Wr,List.replicate_succ]
  rw [e] at h;by_cases hj:j<l.length
  ·rw [List.getElem?_append_left hj] at h;refine ⟨by rw [Nat.add_mul];omega,?_⟩
   rw [Nat.mod_eq_of_lt hj];exact h
  ·rw [List.getElem?_append_right (by omega)] at h
   obtain ⟨h1,h2⟩:=Ad6 h;refine ⟨by rw [Nat.add_mul];omega,?_⟩
   rw [Nat.mod_eq_sub_mod (by omega)];exact h2
theorem Aq1 (n:Nat)(l:List PV):(Wr n l).length=n*l.length:=by
 induction n with
 |zero=>simp [Wr]
 |succ n ih=>
  have e:Wr (n+1) l=l++Wr n l:=by simp [Wr,List.replicate_succ]
  rw [e,List.length_append,ih,Nat.add_mul];omega
theorem Aqx {z:Array Value}{n j:Nat}(hj:j<n){v:Value}(hv:z[j % z.size]?=some v):(madeCells z n)[j]?=some v:=by
 unfold madeCells;rw [Array.getElem?_map,Array.getElem?_range,if_pos hj];simp only [Option.map_some];rw [getElem!_def,hv]
theorem Att (h:D0 N w0 X0 Y β s a w){t:TypeId}{x y:Operand}(ho:o.op=.makeSlice t x y){d:Nat}{K:PV->List Nat->List (Nat × Ck)->Option R}
  (hk:(match P.underlying t with
   |some (.slice e)=>Ec (C1 s.tm x) fun _ n=>Ec (C1 s.tm y) fun _ m=>
     Aq (decide (0<=n)&&decide (n<=m)&&decide (m*((P.info? e).map (·.bytes)).getD 0<=1099511627776)&&decide (m<=1099511627776))
      (Ia P e fun z=>K (.view d (Bu P e) 0 n.toNat) [] [(d,.ar false (Wr n.toNat z))])
   |_=>none)=some r):∃v fz nw,K v fz nw=some r∧Fu P a w o Y β s v fz nw:=by
 split at hk
 ·rename_i e hu;obtain ⟨k1,n,hx,hk⟩:=Ea hk;obtain ⟨k2,m,hy,hk⟩:=Ea hk;obtain ⟨hb,hk⟩:=A7 hk;simp only [Bool.and_eq_true,decide_eq_true_eq] at hb;obtain ⟨⟨⟨h0,hnm⟩,hbytes⟩,hm⟩:=hb;obtain ⟨z,cs,hk,hz,hct,hl,hsz,hc⟩:=Sl hk
  have hzc:∃i,P.info? e=some i∧i.zero=some z:=by
   unfold Aas at hz;cases hi:P.info? e with
   |none=>rw [hi] at hz;cases hz
   |some i=>rw [hi] at hz;exact ⟨i,rfl,hz⟩
  obtain ⟨i,hi,hzi⟩:=hzc;have hisz:Bu P e=i.size:=by simp [Bu,hi]
  simp only [hi,Option.map_some,Option.getD_some] at hbytes;have hr:=run_make (P:=P) w t e i z hu hi hzi k1 k2 n m h0 hnm (by rw [Int.mul_comm];omega) (by omega)
  have hrun:(execOp a.eval o).run P w=.ok (.value (.slice (some ⟨w.heap.size,0,none⟩) n.toNat m.toNat)) (w.alloc (.cells (madeCells z.cells (m.toNat*i.size)) e)):=by
   unfold execOp;rw [ho];simp [De h hx,De h hy,hr]
  have hzl:z.cells.size=Bu P e:=by
   have:z.cells.toList.length=z.cells.size:=by simp
   omega
  refine ⟨_,_,_,hk,Tk (c:=madeCells z.cells (m.toNat*i.size)) (e:=e) (by simp) hrun (Ho.alloc w _ e) (fun j p hj=>?_) (.inr ⟨Bu P e,n.toNat,m.toNat,rfl,rfl,by omega,by rw [size_madeCells,hisz];exact Nat.le_refl _⟩)⟩
  obtain ⟨h1,h2⟩:=Ad6 hj;obtain ⟨hT,u,hu',h1',hv⟩:=hc _ p h2;refine ⟨u,Aqx ?_ ?_,h1',hv _ _⟩
  ·have:n.toNat*cs.length<=m.toNat*i.size:=by
    rw [hsz,hisz];exact Nat.mul_le_mul_right _ (by omega)
   omega
  ·rw [hzl,←hsz]
   simpa using hu'
 ·cases hk
theorem Aye {p:PV}{v:Value}(hp:okP p=true)(hv:Fj w A β p v):B5 (Cz w A β) (cellsOf p) v.cells.toList:=by
 have one:v.oneCell'=true->Cz w A β p v->(∀x,p ≠ .agg x)->B5 (Cz w A β) (cellsOf p) v.cells.toList:=by
  intro h1 h2 h3;have:cellsOf p=[p]:=by cases p<;>first|rfl|exact absurd rfl (h3 _)
  rw [this,Pz h1];exact ⟨h2,trivial⟩
 unfold okP at hp;split at hp
 ·obtain ⟨vs,rfl,h2⟩:=hv;exact h2
 ·refine one ?_ hv (by simp)
  have hv':Bq w A _ v:=hv;cases hv'<;>rfl
 ·refine one ?_ hv (by simp)
  rcases hv with ⟨_,_,_,rfl⟩|⟨_,_,_,_,_,rfl,_⟩<;>rfl
 ·have:=Ae8 hv;subst this;exact one rfl hv (by simp)
 ·have:=Ae8 hv;subst this;exact one rfl hv (by simp)
 ·have:=Ae8 hv;subst this;exact one rfl hv (by simp)
 ·have:=Ae8 hv;subst this;exact one rfl hv (by simp)
 ·cases hp
theorem Awf:∀(vs:List Value)(k off:Nat)(cells:Array Value),off+k+vs.length<=cells.size ->
  ((vs.zipIdx k).foldl (fun cs (q:Value × Nat)=>cs.setIfInBounds (off+q.2) q.1) cells).toList=cells.toList.take (off+k)++vs++cells.toList.drop (off+k+vs.length)
 |[],k,off,cells,_=>by simp
 |v::vs,k,off,cells,h=>by
  simp only [List.zipIdx_cons,List.foldl_cons,List.length_cons] at h ⊢;rw [Awf vs (k+1) off _ (by simp;omega)]
  have hlt:off+k<cells.toList.length:=by simp;omega
  simp only [Array.toList_setIfInBounds];rw [show off+(k+1)=off+k+1 from by omega,List.take_succ_eq_append_getElem (by simpa using hlt)]
  rw [List.getElem_set_self,List.take_set_of_le (Nat.le_refl _),List.drop_set_of_lt (by omega)]
  simp only [List.append_assoc,List.cons_append,List.nil_append];rw [show off+k+1+vs.length=off+k+(vs.length+1) from by omega]
theorem Ak5 (h:D0 N w0 X0 Y β s a w){H8:Nat->Option (Nat × Nat)}:∀{parts:List (Nat × Operand)} {pc:List PV}{vc:Array Value}{K:List PV->Option R},
  X6 H8 (parts.map fun q=>(q.1,C1 s.tm q.2)) pc K=some r->B5 (Cz w (D3 s.hp β Y) β) pc vc.toList->(∀c∈pc,∀id∈Bd c,s.hp id≠none) ->
  ∃pc' vc',K pc'=some r∧Instr.fill H8 vc (parts.map fun q=>(q.1,a.eval q.2))=some vc'∧B5 (Cz w (D3 s.hp β Y) β) pc' vc'.toList∧pc'.length=pc.length∧∀c∈pc',∀id∈Bd c,s.hp id≠none
 |[],pc,vc,K,hk,hv,hr=>⟨pc,vc,hk,rfl,hv,rfl,hr⟩
 |(i,x)::parts,pc,vc,K,hk,hv,hr=>by
  simp only [List.map_cons] at hk;unfold X6 at hk;obtain ⟨⟨off,size⟩,hpl,hk⟩:=Dv hk;obtain ⟨hb,hk⟩:=A7 hk;simp only [Bool.and_eq_true] at hb;obtain ⟨⟨hok,hsz⟩,hle⟩:=hb;have hsz:(cellsOf (C1 s.tm x)).length=size:=Nat.eq_of_beq_eq_true hsz;have hle:off+size<=pc.length:=Nat.le_of_ble_eq_true hle;have hxc:=Aye hok (Dy h x);have hxl:=hxc.len;have hvl:=hv.len;have hvs:vc.toList.length=vc.size:=by simp
  have hcs:(a.eval x).cells.toList.length=(a.eval x).cells.size:=by simp
  have hset:=Awf (a.eval x).cells.toList 0 off vc (by omega)
  simp only [Nat.add_zero] at hset
  have hset':((a.eval x).cells.zipIdx.foldl (fun cs (q:Value × Nat)=>cs.setIfInBounds (off+q.2) q.1) vc).toList=vc.toList.take off++(a.eval x).cells.toList++vc.toList.drop (off+(a.eval x).cells.toList.length):=by
   rw [←hset,←Array.foldl_toList];simp
  obtain ⟨pc',vc',hk,hf,h2,hl,hr'⟩:=Ak5 h (pc:=B8 pc (cellsOf (C1 s.tm x)) off) (vc:=(a.eval x).cells.zipIdx.foldl (fun cs (q:Value × Nat)=>cs.setIfInBounds (off+q.2) q.1) vc) hk (by
    rw [hset',←hxl];exact (((hv.take off).app hxc).app (hv.drop _))) (by
    intro c hc id hid;unfold B8 at hc;rcases List.mem_append.1 hc with hc|hc
    ·rcases List.mem_append.1 hc with hc|hc
     ·exact hr c (List.mem_of_mem_take hc) id hid
     ·refine F3 h x id ?_;cases hp:C1 s.tm x with
      |agg cs=>rw [hp] at hc;exact List.mem_flatMap.2 ⟨c,hc,hid⟩
      |tup cs=>rw [hp] at hc;simp [cellsOf] at hc;subst hc;cases hid
      |_=>rw [hp] at hc;simp [cellsOf] at hc;subst hc;exact hid
    ·exact hr c (List.mem_of_mem_drop hc) id hid)
  refine ⟨pc',vc',hk,?_,h2,?_,hr'⟩
  ·simp only [List.map_cons,Instr.fill,hpl];rw [if_neg (by simp;omega)]
   exact hf
  ·rw [hl];simp [B8];omega
theorem Aq6 {t:TypeId}{z:Value}{cs:List PV}(hl:cs.length=z.cells.toList.length)(hc:∀(j:Nat) c,cs[j]?=some c->isT c∧∃u,z.cells.toList[j]?=some u∧u.oneCell'=true∧∀(w:World)(A:Nat->Prop),Bq w A c u) (_ht:Aas P t=some z):
  B5 (Cz w A β) cs z.cells.toList∧∀c∈cs,Bd c=[]:=by
 refine ⟨B5.of_at hl fun i c u hci hu=>?_,fun c hcm=>?_⟩
 ·obtain ⟨hT,u',hu',_,hv⟩:=hc i c hci;rw [hu] at hu';cases hu';exact (Qx hT).2 (hv _ _)
 ·obtain ⟨j,hj⟩:=List.mem_iff_getElem?.1 hcm;exact Kc (hc j c hj).1
theorem Ajk:∀{fs:List Field},(fs.all fun f=>Ajv P f.type)=true->fs.mapM (fun f=>(P.info? f.type).map fun i=>(f.offset,i.size))=some (fs.map fun f=>(f.offset,Bu P f.type))
 |[],_=>rfl
 |f::fs,h=>by
  simp only [List.all_cons,Bool.and_eq_true] at h;obtain ⟨i,hi⟩:=Option.isSome_iff_exists.1 h.1;simp [List.mapM_cons,hi,Ajk h.2,Bu]
theorem Ab9 {p q:Nat->Option (Nat × Nat)} (h:∀i,p i=q i)(cells:Array Value)(parts:List (Nat × Value)):Instr.fill p cells parts=Instr.fill q cells parts:=by
 have:p=q:=funext h;rw [this]
theorem Ar2 (h:D0 N w0 X0 Y β s a w){t:TypeId}{ps:Array (Nat × Operand)} (ho:o.op=.build t ps){K:PV->Option R}
  (hk:(Aq (Te P t&&Df P t)<|Ia P t fun z=>X6 (Vq P t) (ps.toList.map fun q=>(q.1,C1 s.tm q.2)) z fun cs=>Sr (Jg P t) cs 0 fun cs'=>K (.agg cs'))=some r):∃v,K v=some r∧Fu P a w o Y β s v [] []:=by
 obtain ⟨hpl,hk⟩:=A7 hk;simp only [Bool.and_eq_true] at hpl;obtain ⟨hpl,hagg⟩:=hpl;obtain ⟨z,cs,hk,hz,hct,hl,hsz,hc⟩:=Sl hk;obtain ⟨hzr,hzf⟩:=Aq6 (w:=w) (A:=D3 s.hp β Y) (β:=β) hl hc hz;obtain ⟨pc',vc',hk,hf,h2,hl',hr'⟩:=Ak5 h hk hzr (fun c hcm id hid=>by rw [hzf c hcm] at hid;cases hid)
 obtain ⟨qs,hk,hql,hna,hq⟩:=Xm hk
 have hbuilt:P.built t (ps.toList.map fun q=>(q.1,a.eval q.2))=some vc':=by
  have hzi:∃i,P.info? t=some i∧i.zero=some z:=by
   unfold Aas at hz;cases hi:P.info? t with
   |none=>rw [hi] at hz;cases hz
   |some i=>rw [hi] at hz;exact ⟨i,rfl,hz⟩
  obtain ⟨i,hi,hzi⟩:=hzi;unfold Te at hpl;unfold Program.built;split at hpl
  ·rename_i fs hu
   have hf':Instr.fill (((fs.toList.map fun f=>(f.offset,Bu P f.type)).toArray)[·]?) z.cells (ps.toList.map fun q=>(q.1,a.eval q.2))=some vc':=by
    rw [←hf];refine Ab9 (fun j=>?_) _ _
    simp [Vq,hu]
   simp only [hi,hu,hzi,Ajk hpl];exact hf'
  ·rename_i n e hu;obtain ⟨ie,hie⟩:=Option.isSome_iff_exists.1 hpl
   have hf':Instr.fill (fun j=>some (j*ie.size,ie.size)) z.cells (ps.toList.map fun q=>(q.1,a.eval q.2))=some vc':=by
    rw [←hf];refine Ab9 (fun j=>?_) _ _
    simp [Vq,hu,Bu,hie]
   simp only [hi,hu,hzi,hie];exact hf'
  ·rename_i e hu;simp [Df,hu] at hagg
  ·cases hpl
 refine ⟨_,hk,Cv (val:=.agg vc') ?_ ⟨vc'.toList,rfl,?_⟩ ?_⟩
 ·unfold execOp;rw [ho];have:=run_build (P:=P) w t (ps.map fun q=>(q.1,a.eval q.2)) vc' (by simpa using hbuilt)
  simp [this]
 ·refine B5.of_at (by have:=h2.len;omega) fun j c u hcj hu=>?_
  obtain ⟨p,hp,_,_,hpv⟩:=hq j c hcj;rw [Nat.zero_add] at hp;exact (hpv _ _ _ _ (h2.at_ hp hu)).1
 ·intro id hid;obtain ⟨c,hcm,hid⟩:=List.mem_flatMap.1 (show id∈qs.flatMap Bd from hid)
  obtain ⟨j,hj⟩:=List.mem_iff_getElem?.1 hcm;obtain ⟨p,hp,_,hpr,_⟩:=hq j c hj;rw [Nat.zero_add] at hp;exact hr' p (List.mem_of_getElem? hp) id (hpr id hid)
end
open Go.RowKit
section
variable {R:Type} {r:R} {P:Program} {N:Nat} {w0:World} {X0:Jc} {Y:Nat->Prop} {β β':Bt} {s:St} {a:Act} {w w':World} {o:Oper} {A:Nat->Prop}
theorem At1 (h:D0 N w0 X0 Y β s a w){fz:List Nat}(hfz:∀id∈fz,∃f c,s.hp id=some (.ar f c)) {id:Nat}(hm:id∈fz){f:Bool}{c:List PV}(hb:s.hp id=some (.ar f c)) {b ob:Nat}(hβ:β id=some (b,ob)):
  ¬D3 (Ao s.hp fz) β Y b∧RdT w (D3 (Ao s.hp fz) β Y) ⟨b,ob,none⟩ c∧b<w.heap.size:=by
 have hf:=h.freeze hfz;have he:Ao s.hp fz id=some (.ar true c):=by rw [Cr,if_pos hm,hb];rfl
 rcases hf.box id _ he with ⟨h1,_⟩|⟨b',o',h1,h2,_,h4⟩
 ·rw [hβ] at h1;cases h1
 ·rw [hβ] at h1;simp at h1;obtain ⟨rfl,rfl⟩:=h1;exact ⟨h4 rfl,h2,h.blt id b ob (by rw [hb];simp) hβ⟩
theorem Axe (h:D0 N w0 X0 Y β s a w){fz:List Nat}(hfz:∀id∈fz,∃f c,s.hp id=some (.ar f c)) {id es off n:Nat}(hm:id∈fz){f:Bool}{c:List PV}(hb:s.hp id=some (.ar f c)) {v:Value}
  (hv:Cz w (D3 s.hp β Y) β (.view id es off n) v):Bq w (D3 (Ao s.hp fz) β Y) (.lst false es n ((c.drop off).take (n*es))) v:=by
 rcases hv with ⟨_,rfl,rfl,rfl⟩|⟨b,ob,y,cap,hβ,rfl,hy,hn,_,hlt⟩
 ·simp only [Nat.zero_mul,List.take_zero];exact Bq.lnil false es
 ·obtain ⟨h1,h2,_⟩:=At1 h hfz hm hb hβ;by_cases hn0:n*es=0
  ·rw [hn0,List.take_zero];exact Bq.lst es n [] ⟨b,y,none⟩ cap (fun _=>undef) rfl hlt h1 hn (by simp) (by simp) (by simp)
  ·have hy:y=ob+off:=by
    rcases hy with hy|⟨h0,_⟩
    ·exact hy
    ·rw [h0] at hn0;simp at hn0
   subst hy
   have hcell:∀(j:Nat) q,((c.drop off).take (n*es))[j]?=some q->c[off+j]?=some q:=by
    intro j q hq;rw [List.getElem?_take] at hq;split at hq
    ·rw [List.getElem?_drop] at hq;exact hq
    ·cases hq
   refine Bq.lst es n _ ⟨b,ob+off,none⟩ cap (fun j=>(w.cell? ⟨b,ob+off+j,none⟩).getD undef) rfl hlt h1 hn (fun j q hq=>?_) (fun j q hq=>?_) (fun j q hq=>?_)
   ·obtain ⟨v,hv,_⟩:=h2 _ q (hcell j q hq);rw [Fz,←Nat.add_assoc] at hv;rw [Fz,hv];rfl
   ·obtain ⟨v,hv,h3,_⟩:=h2 _ q (hcell j q hq);rw [Fz,←Nat.add_assoc] at hv;rw [hv];exact h3
   ·obtain ⟨v,hv,_,ht⟩:=h2 _ q (hcell j q hq);rw [Fz,←Nat.add_assoc] at hv;rw [hv];exact ht
theorem Bq.zf {A:Nat->Prop}{z:Bool}{es n:Nat}{c:List PV}{v:Value}(h:Bq w A (.lst z es n c) v):Bq w A (.lst false es n c) v:=by
 cases h with
 |lnil=>exact .lnil _ _
 |lemp=>exact .lemp _ _ _
 |lst _ _ _ a cap f hs hb hA hn hc h1 hr=>exact .lst _ _ _ a cap f hs hb hA hn hc h1 hr
theorem Aiz (h:D0 N w0 X0 Y β s a w){t:CT}{p:PV}{K:PV->List Nat->Option R}(hk:Re (L5 s.hp) t p K=some r):
  ∃c m,K c m=some r∧isT c∧isF p∧(∀id∈m,∃f cc,s.hp id=some (.ar f cc))∧∀fz:List Nat,(∀id∈m,id∈fz)->(∀id∈fz,∃f cc,s.hp id=some (.ar f cc))->∀v,Cz w (D3 s.hp β Y) β p v->Bq w (D3 (Ao s.hp fz) β Y) c v∧v.oneCell'=true:=by
 have tree:∀t',(tcK t' p fun c=>K c [])=some r->∃c m,K c m=some r∧isT c∧isF p∧(∀id∈m,∃f cc,s.hp id=some (.ar f cc))∧∀fz:List Nat,(∀id∈m,id∈fz)->(∀id∈fz,∃f cc,s.hp id=some (.ar f cc))->∀v,Cz w (D3 s.hp β Y) β p v->Bq w (D3 (Ao s.hp fz) β Y) c v∧v.oneCell'=true:=by
  intro t' hk;obtain ⟨c,hk,hT,hpT,hv⟩:=Ph hk;refine ⟨c,[],hk,hT,Yz hpT,by simp,fun fz _ hfz v hpv=>?_⟩
  obtain ⟨h1,h2⟩:=hv _ _ _ _ hpv;exact ⟨h1.step (Cx.refl _ _) (fun b _ hb=>hb.imp Ta id),h2⟩
 cases t with
 |sl es=>
  unfold Re at hk;dsimp only at hk;split at hk
  ·rename_i id es' off n;cases hb:Nat.beq es' es
   ·rw [hb] at hk;cases hk
   ·rw [hb] at hk;have:=Nat.eq_of_beq_eq_true hb;subst this;obtain ⟨c,hc,hk⟩:=Dv (show Ez _ _=some r from hk)
    obtain ⟨_,hk⟩:=A7 hk;obtain ⟨f,hbx⟩:=Apm hc;refine ⟨_,[id],hk,trivial,trivial,?_,fun fz hm hfz v hv=>⟨Axe h hfz (hm id (by simp)) hbx hv,?_⟩⟩
    ·intro i hi;simp at hi;subst hi;exact ⟨f,c,hbx⟩
    ·rcases hv with ⟨_,_,_,rfl⟩|⟨_,_,_,_,_,rfl,_⟩<;>rfl
  ·obtain ⟨z,n,c,hk,hp⟩:=Gz hk;refine ⟨_,[],hk,trivial,?_,by simp,fun fz _ hfz v hpv=>?_⟩
   ·rcases hp with rfl|⟨rfl,_⟩<;>trivial
   ·have ht:=Aa4 hp hpv;refine ⟨Bq.zf (ht.step (Cx.refl _ _) (fun b _ hb=>hb.imp Ta id)),?_⟩
    cases ht<;>rfl
 |int k=>exact tree (.int k) hk
 |bool=>exact tree .bool hk
 |str=>exact tree .str hk
 |any=>exact tree .any hk
theorem Tu (h:D0 N w0 X0 Y β s a w):∀{ts:List CT}{ps:List PV}{K:List PV->List Nat->Option R},P3 (L5 s.hp) ts ps K=some r ->
  ∃cs m,K cs m=some r∧cs.length=ts.length∧ps.length=ts.length∧(∀c∈cs,isT c)∧(∀p∈ps,isF p)∧(∀id∈m,∃f cc,s.hp id=some (.ar f cc)) ∧
   ∀fz:List Nat,(∀id∈m,id∈fz)->(∀id∈fz,∃f cc,s.hp id=some (.ar f cc))->∀vs,B5 (Cz w (D3 s.hp β Y) β) ps vs->B5 (Bq w (D3 (Ao s.hp fz) β Y)) cs vs∧∀v∈vs,v.oneCell'=true
 |[],[],K,hk=>⟨[],[],hk,rfl,rfl,by simp,by simp,by simp,fun fz _ _ vs hv=>by
   cases vs with
   |nil=>exact ⟨trivial,by simp⟩
   |cons v vs=>exact hv.elim⟩
 |[],_::_,K,hk=>by cases hk
 |_::_,[],K,hk=>by cases hk
 |t::ts,p::ps,K,hk=>by
  unfold P3 at hk;obtain ⟨c,m,hk,hT,hF,hm,hv⟩:=Aiz h hk;obtain ⟨cs,ms,hk,hl,hl',hTs,hFs,hms,hvs⟩:=Tu h hk;refine ⟨c::cs,m++ms,hk,by simp [hl],by simp [hl'],?_,?_,?_,fun fz hfm hfz vs h2=>?_⟩
  ·intro x hx;rcases List.mem_cons.1 hx with rfl|hx
   ·exact hT
   ·exact hTs x hx
  ·intro x hx;rcases List.mem_cons.1 hx with rfl|hx
   ·exact hF
   ·exact hFs x hx
  ·intro x hx;rcases List.mem_append.1 hx with hx|hx
   ·exact hm x hx
   ·exact hms x hx
  ·cases vs with
   |nil=>exact h2.elim
   |cons v vs=>
    obtain ⟨h3,h4⟩:=hv fz (fun i hi=>hfm i (by simp [hi])) hfz v h2.1
    obtain ⟨h5,h6⟩:=hvs fz (fun i hi=>hfm i (by simp [hi])) hfz vs h2.2
    refine ⟨⟨h3,h5⟩,?_⟩;intro x hx;rcases List.mem_cons.1 hx with rfl|hx
    ·exact h4
    ·exact h6 x hx
theorem Axf {R':PV->Value->Prop}{cs:List PV}{z:Array Value}(h:B5 R' cs z.toList)(n:Nat):B5 R' (Wr n cs) (madeCells z (n*cs.length)).toList:=by
 have hzl:z.size=cs.length:=by have:=h.len;simp at this;exact this.symm
 refine B5.of_at ?_ fun j c v hc hv=>?_
 ·rw [Aq1];simp [size_madeCells]
 ·obtain ⟨h1,h2⟩:=Ad6 hc
  have hlt:j % cs.length<cs.length:=by
   rcases Nat.lt_or_ge (j % cs.length) cs.length with h|h
   ·exact h
   ·rw [List.getElem?_eq_none h] at h2;cases h2
  obtain ⟨u,hu,hcu⟩:=h.get h2;have:(madeCells z (n*cs.length))[j]?=some u:=Aqx h1 (by rw [hzl];simpa using hu)
  have hv':(madeCells z (n*cs.length))[j]?=some v:=by simpa using hv
  rw [this] at hv';cases hv';exact hcu
theorem Afp (h:D0 N w0 X0 Y β s a w){t:TypeId}{n:Nat}{ps:Array (Nat × Operand)} (ho:o.op=.buildSlice t n ps){d:Nat}{K:PV->List Nat->List (Nat × Ck)->Option R}
  (hk:(match P.underlying t with
   |some (.slice e)=>Aq (Te P t&&Nat.ble (n*Bu P e) 16777216) (Ia P e fun z=>X6 (Vq P t) (ps.toList.map fun q=>(q.1,C1 s.tm q.2)) (Wr n z) fun cs=>
     P3 (L5 s.hp) (List.replicate n (Jg P e)).flatten cs fun cs' m=>K (.view d (Bu P e) 0 n) m [(d,.ar false cs')])
   |_=>none)=some r):∃v fz nw,K v fz nw=some r∧Fu P a w o Y β s v fz nw:=by
 split at hk
 ·rename_i e hu;obtain ⟨hb,hk⟩:=A7 hk;simp only [Bool.and_eq_true] at hb;have hle:n*Bu P e<=16777216:=Nat.le_of_ble_eq_true hb.2;have hinf:(P.info? e).isSome=true:=by have:=hb.1;unfold Te at this;rw [hu] at this;exact this
  obtain ⟨z,cs,hk,hz,hct,hl,hsz,hc⟩:=Sl hk;obtain ⟨hzr,hzf⟩:=Aq6 (w:=w) (A:=D3 s.hp β Y) (β:=β) hl hc hz;have hrep:=Axf hzr n
  obtain ⟨pc',vc',hk,hf,h2,hl',hr'⟩:=Ak5 h hk hrep (fun c hcm id hid=>by
   obtain ⟨j,hj⟩:=List.mem_iff_getElem?.1 hcm;obtain ⟨_,hg⟩:=Ad6 hj;rw [hzf c (List.mem_of_getElem? hg)] at hid;cases hid)
  obtain ⟨qs,m,hk,hql,hpl,hqT,_,hm,hqv⟩:=Tu h hk;obtain ⟨h3,h3'⟩:=hqv m (fun _ hi=>hi) hm _ h2
  have hf':Instr.fill (fun i=>some (i*Bu P e,Bu P e)) (madeCells z.cells (n*cs.length)) (ps.toList.map fun q=>(q.1,a.eval q.2))=some vc':=by
   rw [←hf];refine Ab9 (fun i=>?_) _ _
   simp [Vq,hu]
  have hvl:vc'.size=n*Bu P e:=by
   have h4:=h2.len;rw [hl',Aq1] at h4;simp at h4;rw [←h4,hsz]
  have hrun:(execOp a.eval o).run P w=.ok (.value (.slice (some ⟨w.heap.size,0,none⟩) n n)) (w.alloc (.cells vc' e)):=by
   unfold execOp;rw [ho];have hle':¬(n*Bu P e>2 ^ 24):=by omega
   rw [hsz] at hf';by_cases hn0:n*Bu P e=0
   ·simp only [Instr.buildSlice,Sem.run_bind,run_underlying hu,Result.andThen_ok,Ew hinf,if_neg hle',hn0];rw [hn0] at hf';have e0:madeCells z.cells 0=(Array.range 0).map (fun _=>default):=by simp [madeCells]
    rw [e0] at hf';simp [hf',newRow]
   ·simp only [Instr.buildSlice,Sem.run_bind,run_underlying hu,Result.andThen_ok,Ew hinf,if_neg hle',if_neg hn0,Z8 hz];unfold madeCells at hf';simp [hf',newRow]
  refine ⟨_,_,_,hk,Tk (c:=vc') (e:=e) hm hrun (Ho.alloc w vc' e) (fun j p hj=>?_) (.inr ⟨Bu P e,n,n,rfl,rfl,Nat.le_refl _,by rw [hvl];exact Nat.le_refl _⟩)⟩
  obtain ⟨u,hu',hp⟩:=h3.get hj;exact ⟨u,by simpa using hu',h3' u (List.mem_of_getElem? hu'),hp⟩
 ·cases hk
end
end
end Go.Proofs.YtgfgmbpmghgbkaaGreatDoor.Pv
