/-
  The proof of CertificateStrict, part 1.
-/
import Derived.Orders
import Derived.LoopN
import Derived.Below
import Derived.Lib.ValidU
import Derived.Lib.Bytealg
import Derived.IntWalk
import Derived.WalkKit
import Derived.WalkLawsBesides
import Derived.Laws.IdiomStrings
import Derived.Laws.MakeOwn
import Derived.Laws.Tables
set_option linter.unusedSimpArgs false
set_option linter.unusedVariables false
namespace Go.Proofs.YtdjihiphpgkfmaaGreatDoor.Pv
section
inductive PV where
 |sc (v:Value)
 |lst (z:Bool) (es n:Nat) (cells:List PV)
 |own (es n:Nat) (cells:List PV)
 |view (id es off n:Nat)
 |ptr (id off:Nat)
 |iptr (cells:List PV) (off:Nat)
 |pbox (cells:List PV)
 |agg (cells:List PV)
 |tup (vs:List PV)
 |top
 |ub
inductive Bk where
 |st (cells:List PV)
 |ar (fz:Bool) (cells:List PV)
 |mv
structure St where
 tm:Nat->PV
 hp:Nat->Option Bk
structure A0 where
 vals:List PV
 outs:List (List PV)
structure Hb where
 shr:FuncId->Bool
 mvd:FuncId->Nat->Bool
 lnd:FuncId->Nat->Bool
 kz:FuncId->Bool
 ext:FuncId->Option (List PV->Option A0)
def Hb.core (C:Hb):Hb:={ C with ext:=fun _=>none }
def Ct {α:Type}(f:Nat->α)(i:Nat)(v:α):Nat->α:=fun j=>bif Nat.beq j i then v else f j
def rd (hp:Nat->Option Bk)(id:Nat):Option (List PV):=
 match hp id with
 |some (.st c)=>some c
 |some (.ar _ c)=>some c
 |_=>none
def J4 (hp:Nat->Option Bk)(id:Nat):Option (List PV):=
 match hp id with
 |some (.ar _ c)=>some c
 |_=>none
inductive CT where
 |int (k:IntKind)
 |bool
 |str
 |sl (es:Nat)
 |any
def Be (P:Program)(t:TypeId):Nat:=((P.info? t).map (·.size)).getD 0
def Cr (P:Program)(t:TypeId):Bool:=
 match P.underlying t with
 |some (.struct _)=>true
 |some (.array _ _)=>true
 |_=>false
def Amk (P:Program):Nat->TypeId->List CT
 |0,_=>[]
 |d+1,t=>
  match P.underlying t with
  |some (.int k)=>[.int k]
  |some .bool=>[.bool]
  |some .string=>[.str]
  |some (.slice e)=>[.sl (Be P e)]
  |some (.struct fs)=>fs.toList.flatMap fun f=>Amk P d f.type
  |some (.array n e)=>(List.replicate n (Amk P d e)).flatten
  |_=>[.any]
abbrev Ic (P:Program)(t:TypeId):List CT:=Amk P 9 t
def I9 (P:Program)(t:TypeId):Bool:=(P.underlying t).isSome&&Nat.beq (Ic P t).length (Be P t)
abbrev Qx (k:IntKind)(a b:Int):Int:=k.wrap (BitVec.ofInt k.bits a &&& BitVec.ofInt k.bits b).toNat
abbrev NP (k:IntKind)(a b:Int):Int:=k.wrap (BitVec.ofInt k.bits a ||| BitVec.ofInt k.bits b).toNat
abbrev Dw (k:IntKind)(a b:Int):Int:=k.wrap (BitVec.ofInt k.bits a ^^^ BitVec.ofInt k.bits b).toNat
abbrev Aj0 (k:IntKind)(a b:Int):Int:=k.wrap (BitVec.ofInt k.bits a &&& ~~~BitVec.ofInt k.bits b).toNat
abbrev G4 (k:IntKind)(a b:Int):Int:=k.wrap (a*2 ^ (min b.toNat k.bits))
abbrev D3 (k:IntKind)(a b:Int):Int:=a.fdiv (2 ^ (min b.toNat k.bits))
abbrev Asg (k:IntKind)(n:Int):Int:=k.wrap (BitVec.ofInt k.bits (if k.signed then -1 else k.max) ^^^ BitVec.ofInt k.bits n).toNat
section
variable {R:Type}
def Ad (k:IntKind)(p:PV)(K:Int->Option R):Option R:=
 match p with
 |.sc (.int k' n)=>if k'=k then K n else none
 |_=>none
def Bl (p:PV)(K:Bool->Option R):Option R:=
 match p with
 |.sc (.bool b)=>K b
 |_=>none
def Co (p:PV)(K:ByteArray->Option R):Option R:=
 match p with
 |.sc (.string s)=>K s
 |_=>none
def Fd (es:Nat)(p:PV)(K:Bool->Nat->List PV->Option R):Option R:=
 match p with
 |.lst z es' n c=>bif Nat.beq es' es then K z n c else none
 |.sc (.slice none 0 0)=>K true 0 []
 |_=>none
def fsK (es:Nat)(p:PV)(K:PV->Option R):Option R:=
 match p with
 |.view id es' off n=>bif Nat.beq es' es then K (.view id es off n) else none
 |p=>Fd es p fun z n c=>K (.lst z es n c)
def El (es:Nat)(p:PV)(K:Nat->List PV->Option R):Option R:=
 match p with
 |.own es' n c=>bif Nat.beq es' es then K n c else none
 |_=>none
def Ap (b:Bool)(K:Option R):Option R:=bif b then K else none
abbrev Aa {α:Type}(x:α)(K:α->Option R):Option R:=K x
def MR (b:Bool)(x y:Option R):Option R:=bif b then x else y
abbrev A05 (x:Nat)(K:Nat->Option R):Option R:=K x
def Ahz (x:List (List Nat)) (K:List (List Nat)->Option R):Option R:=K x
def Bc (b:Bool)(x y:Option R):Option R:=bif b then x else y
def Ep {α:Type}(o:Option α)(K:α->Option R):Option R:=
 match o with
 |some a=>K a
 |none=>none
def Ab {α:Type}(l:List α)(K:α->List α->Option R):Option R:=
 match l with
 |a::r=>K a r
 |[]=>none
def Ac {α:Type}(l:List α)(K:Option R):Option R:=
 match l with
 |[]=>K
 |_::_=>none
def Cy (p:PV)(K:List PV->Option R):Option R:=
 match p with
 |.agg c=>K c
 |_=>none
def W6 (p:PV)(K:List PV->Option R):Option R:=
 match p with
 |.pbox c=>K c
 |_=>none
def Ag (r:Option A0)(K:List PV->List (List PV)->Option R):Option R:=
 match r with
 |some ⟨v,o⟩=>K v o
 |none=>none
def fnK (p:PV)(K:Value->Option R):Option R:=
 match p with
 |.sc (.func f a b)=>K (.func f a b)
 |_=>none
def fvK (p:PV)(K:FuncId->Option R):Option R:=
 match p with
 |.sc (.func (.func f) a b)=>bif a.isEmpty&&b.isEmpty then K f else none
 |_=>none
def CK (t:CT)(p:PV)(K:PV->Option R):Option R:=
 match t with
 |.int k=>Ad k p fun n=>K (.sc (.int k n))
 |.bool=>Bl p fun b=>K (.sc (.bool b))
 |.str=>Co p fun s=>K (.sc (.string s))
 |.sl es=>Fd es p fun z n c=>K (.lst z es n c)
 |.any=>fnK p fun v=>K (.sc v)
def fcK (t:CT)(p:PV)(K:PV->Option R):Option R:=
 match t with
 |.sl es=>fsK es p K
 |t=>CK t p K
def Vf:List CT->List PV->Nat->(List PV->Option R)->Option R
 |[],_,_,K=>K []
 |t::ts,cells,off,K=>CK t (cells.getD off .top) fun c=>Vf ts cells (off+1) fun r=>K (c::r)
def Qr:List CT->List PV->Nat->(List PV->Option R)->Option R
 |[],_,_,K=>K []
 |t::ts,cells,off,K=>fcK t (cells.getD off .top) fun c=>Qr ts cells (off+1) fun r=>K (c::r)
def mkV (agg:Bool)(cells:List PV)(K:PV->Option R):Option R:=
 bif agg then K (.agg cells) else Ab cells fun c r=>Ac r (K c)
def cellsOf:PV->List PV
 |.agg c=>c
 |p=>[p]
def cvK (P:Program)(t:TypeId)(v:Value)(K:PV->Option R):Option R:=
 match v with
 |.agg cs=>Ap (Nat.beq cs.toList.length (Ic P t).length) (Vf (Ic P t) (cs.toList.map .sc) 0 fun c=>K (.agg c))
 |.slice none 0 0=>
  match P.underlying t with
  |some (.slice e)=>K (.lst true (Be P e) 0 [])
  |_=>none
 |v=>K (.sc v)
end
def Ch (tm:Nat->PV):Operand->PV
 |.tmp t=>tm t
 |.const (.agg cs)=>.agg (cs.toList.map .sc)
 |.const v=>.sc v
 |.func f=>.sc (.func (.func f) #[] #[])
 |.global g=>.sc (.pointer (some ⟨g,0,none⟩))
section
variable {R:Type}
def Do (p:PV)(K:IntKind->Int->Option R):Option R:=
 match p with
 |.sc (.int k n)=>K k n
 |_=>none
def XW (rdf:Nat->Option (List PV)) (es:Nat)(p:PV)(K:Nat->List PV->Option R):Option R:=
 match p with
 |.view id es' off n=>bif Nat.beq es' es then Ep (rdf id) fun c=>Ap (decide (off+n*es<=c.length)) (K n ((c.drop off).take (n*es))) else none
 |p=>Fd es p fun _ n c=>K n c
def Po (rdf:Nat->Option (List PV)) (t:CT)(p:PV)(K:PV->List Nat->Option R):Option R:=
 match t with
 |.sl es=>
  match p with
  |.view id es' off n=>bif Nat.beq es' es then Ep (rdf id) fun c=>Ap (decide (off+n*es<=c.length)) (K (.lst false es n ((c.drop off).take (n*es))) [id]) else none
  |p=>Fd es p fun _ n c=>K (.lst false es n c) []
 |t=>CK t p fun c=>K c []
def O4 (rdf:Nat->Option (List PV)):List CT->List PV->(List PV->List Nat->Option R)->Option R
 |[],[],K=>K [] []
 |t::ts,p::ps,K=>Po rdf t p fun c m=>O4 rdf ts ps fun cs ms=>K (c::cs) (m++ms)
 |_,_,_=>none
def XU (P:Program)(rdf:Nat->Option (List PV)) (t:TypeId)(p:PV)(K:PV->List Nat->Option R):Option R:=
 bif Cr P t then Cy p fun ps=>O4 rdf (Ic P t) ps fun cs m=>K (.agg cs) m
 else O4 rdf (Ic P t) [p] fun cs m=>Ab cs fun c r=>Ac r (K c m)
def KD (P:Program)(rdf:Nat->Option (List PV)):List TypeId->List PV->(List PV->List Nat->Option R)->Option R
 |[],[],K=>K [] []
 |t::ts,p::ps,K=>XU P rdf t p fun v m=>KD P rdf ts ps fun vs ms=>K (v::vs) (m++ms)
 |_,_,_=>none
def Aiy (shr:Bool)(id:Nat)(t:CT)(p:PV)(K:PV->List (Nat × Bk)->Option R):Option R:=
 match t with
 |.sl es=>bif shr then Fd es p fun _ n c=>K (.lst false es n c) [] else El es p fun n c=>K (.view id es 0 n) [(id,.ar false c)]
 |t=>CK t p fun c=>K c []
def Rc (shr:Bool)(N:Nat):Nat->List CT->List PV->(List PV->List (Nat × Bk)->Option R)->Option R
 |_,[],ps,K=>Ac ps (K [] [])
 |id,t::ts,ps,K=>Ab ps fun p ps=>Aiy shr id t p fun c b=>Rc shr N (id+N) ts ps fun cs bs=>K (c::cs) (b++bs)
def AU (P:Program)(t:TypeId):Option TypeId:=
 match P.underlying t with
 |some (.pointer e)=>some e
 |_=>none
def WB (P:Program)(t:TypeId):Nat:=
 match AU P t with
 |some e=>1+(Ic P e).length
 |none=>(Ic P t).length
def Adi (P:Program)(shr:Bool)(N:Nat)(id:Nat)(t:TypeId)(p:PV)(K:PV->List (Nat × Bk)->Option R):Option R:=
 match AU P t with
 |some e=>W6 p fun ps=>Rc shr N (id+N) (Ic P e) ps fun cs bs=>K (.ptr id 0) ((id,.st cs)::bs)
 |none=>
 bif Cr P t then Cy p fun ps=>Rc shr N id (Ic P t) ps fun cs bs=>K (.agg cs) bs
 else Rc shr N id (Ic P t) [p] fun cs bs=>Ab cs fun c r=>Ac r (K c bs)
def EN (P:Program)(shr:Bool)(N:Nat):Nat->List TypeId->List PV->(List PV->List (Nat × Bk)->Option R)->Option R
 |_,[],ps,K=>Ac ps (K [] [])
 |id,t::ts,ps,K=>Ab ps fun p ps=>Adi P shr N id t p fun v bs=>EN P shr N (id+N*WB P t) ts ps fun vs bs'=>K (v::vs) (bs++bs')
def Ol (P:Program)(t:TypeId):List TypeId:=
 match P.underlying t with
 |some (.tuple ts)=>ts.toList
 |_=>[t]
def O1 (vs:List PV)(t:Bool):PV:=bif t then .tup vs else vs.headD .top
def Qb (P:Program)(t:TypeId):Bool:=
 match P.underlying t with
 |some (.tuple _)=>true
 |_=>false
def Akp (op:BinOp)(a b:Int)(K:Bool->Option R):Option R:=
 match op with
 |.eql=>K (a==b)
 |.neq=>K (a != b)
 |.lss=>K (decide (a<b))
 |.leq=>K (decide (a<=b))
 |.gtr=>K (decide (a>b))
 |.geq=>K (decide (a>=b))
 |_=>none
def HI (op:BinOp)(k:IntKind)(a b:Int)(K:PV->Option R):Option R:=
 match op with
 |.add=>Aa ((k.wrap (a+b))) fun n=>K (.sc (.int k n))
 |.sub=>Aa ((k.wrap (a-b))) fun n=>K (.sc (.int k n))
 |.mul=>Aa ((k.wrap (a*b))) fun n=>K (.sc (.int k n))
 |.quo=>Ap (decide (b≠0)) (Aa ((k.wrap (a.tdiv b))) fun n=>K (.sc (.int k n)))
 |.rem=>Ap (decide (b≠0)) (Aa ((a.tmod b)) fun n=>K (.sc (.int k n)))
 |.and=>Aa (Qx k a b) fun n=>K (.sc (.int k n))
 |.or=>Aa (NP k a b) fun n=>K (.sc (.int k n))
 |.xor=>Aa (Dw k a b) fun n=>K (.sc (.int k n))
 |.andNot=>Aa (Aj0 k a b) fun n=>K (.sc (.int k n))
 |op=>Akp op a b fun r=>K (.sc (.bool r))
def LC (op:BinOp)(x y:ByteArray)(K:PV->Option R):Option R:=
 match op with
 |.add=>Ap (decide (x.size+y.size<=9223372036854775807)) (Aa (x++y) fun s=>K (.sc (.string s)))
 |.eql=>K (.sc (.bool (x.data.toList==y.data.toList)))
 |.neq=>K (.sc (.bool !(x.data.toList==y.data.toList)))
 |.lss=>K (.sc (.bool (Op.bytesLess x.data.toList y.data.toList)))
 |.leq=>K (.sc (.bool (Op.bytesLess x.data.toList y.data.toList||x.data.toList==y.data.toList)))
 |.gtr=>K (.sc (.bool !(Op.bytesLess x.data.toList y.data.toList||x.data.toList==y.data.toList)))
 |.geq=>K (.sc (.bool !(Op.bytesLess x.data.toList y.data.toList)))
 |_=>none
def LN (e:Bool)(p:PV)(K:PV->Option R):Option R:=
 match p with
 |.sc (.slice none 0 0)=>K (.sc (.bool e))
 |.lst z _ n _=>Bc z (K (.sc (.bool e))) (Bc (decide (0<n)) (K (.sc (.bool !e))) (K .ub))
 |.view _ _ _ n=>Bc (decide (0<n)) (K (.sc (.bool !e))) (K .ub)
 |_=>none
def II (P:Program):List Field->Nat->Bool
 |[],_=>true
 |f::r,i=>Nat.beq f.offset i&&(f.name != "_")&&(match P.underlying f.type with|some (.int _)=>true|some .bool=>true|some .string=>true|_=>false)&&II P r (i+1)
def RV (P:Program)(t:TypeId)(fs:Array Field):Bool:=II P fs.toList 0 && !P.stoodInHeld t && !P.eqGuardType P.depth t
def fty (P:Program)(f:Field):CT:=
 match P.underlying f.type with
 |some (.int k)=>.int k
 |some .bool=>.bool
 |some .string=>.str
 |_=>.any
def HP:List CT->List PV->List PV->(Bool->Option R)->Option R
 |[],[],[],K=>K true
 |.int k::ts,p::ps,q::qs,K=>Ad k p fun a=>Ad k q fun b=>HP ts ps qs fun r=>K ((a==b)&&r)
 |.bool::ts,p::ps,q::qs,K=>Bl p fun a=>Bl q fun b=>HP ts ps qs fun r=>K ((a==b)&&r)
 |.str::ts,p::ps,q::qs,K=>Co p fun a=>Co q fun b=>HP ts ps qs fun r=>K ((a==b)&&r)
 |_,_,_,_=>none
def Ahn (P:Program)(op:BinOp)(t:TypeId)(x y:PV)(K:PV->Option R):Option R:=
 match P.underlying t with
 |some (.int k)=>
  match op with
  |.shl=>Ad k x fun a=>Do y fun _ b=>Ap (decide (0<=b)) (Aa (G4 k a b) fun n=>K (.sc (.int k n)))
  |.shr=>Ad k x fun a=>Do y fun _ b=>Ap (decide (0<=b)) (Aa (D3 k a b) fun n=>K (.sc (.int k n)))
  |op=>Ad k x fun a=>Ad k y fun b=>HI op k a b K
 |some .string=>Co x fun a=>Co y fun b=>LC op a b K
 |some .bool=>
  match op with
  |.eql=>Bl x fun a=>Bl y fun b=>K (.sc (.bool (a==b)))
  |.neq=>Bl x fun a=>Bl y fun b=>K (.sc (.bool !(a==b)))
  |_=>none
 |some (.slice _)=>
  match op,y with
  |.eql,.sc (.slice none 0 0)=>LN true x K
  |.neq,.sc (.slice none 0 0)=>LN false x K
  |_,_=>none
 |_=>none
def V1 (P:Program)(op:BinOp)(t:TypeId)(x y:PV)(K:PV->Option R):Option R:=
 match P.underlying t with
 |some (.struct fs)=>
  match op with
  |.eql=>Ap (RV P t fs) (Cy x fun xs=>Cy y fun ys=>HP (fs.toList.map (fty P)) xs ys fun b=>K (.sc (.bool b)))
  |.neq=>Ap (RV P t fs) (Cy x fun xs=>Cy y fun ys=>HP (fs.toList.map (fty P)) xs ys fun b=>K (.sc (.bool !b)))
  |_=>none
 |_=>Ahn P op t x y K
def unK (op:UnOp)(x:PV)(K:PV->Option R):Option R:=
 match op with
 |.not=>Bl x fun b=>K (.sc (.bool !b))
 |.neg=>Do x fun k n=>Aa (k.wrap (0-n)) fun n=>K (.sc (.int k n))
 |.xor=>Do x fun k n=>Aa (Asg k n) fun n=>K (.sc (.int k n))
 |_=>none
def bytesOf:List PV->Option (List UInt8)
 |[]=>some []
 |.sc (.int .u8 n)::r=>(bytesOf r).map (n.toNat.toUInt8 :: ·)
 |_::_=>none
def Dl (s:ByteArray):List PV:=s.data.toList.map fun b=>.sc (.int .u8 b.toNat)
def ID (P:Program)(rdf:Nat->Option (List PV)) (d:Nat)(src dst:TypeId)(x:PV)(K:PV->List (Nat × Bk)->Option R):Option R:=
 match P.underlying dst with
 |some (.int k)=>Ap (P.underlying src).isSome (Do x fun _ n=>Aa (k.wrap n) fun n=>K (.sc (.int k n)) [])
 |some .string=>
  match P.underlying src with
  |some .string=>Co x fun s=>K (.sc (.string s)) []
  |some (.slice e)=>
   match P.underlying e with
   |some (.int .u8)=>XW rdf 1 x fun n c=>Ap (decide (c.length=n)) (Ep (bytesOf c) fun b=>K (.sc (.string ⟨b.toArray⟩)) [])
   |_=>none
  |_=>none
 |some (.slice e)=>
  match P.underlying e,P.underlying src with
  |some (.int .u8),some .string=>Co x fun s=>Ap (decide (s.size<=1099511627776)) (K (.view d 1 0 s.size) [(d,.ar false (Dl s))])
  |_,_=>none
 |_=>none
def Mp (p:Option PV)(dflt:Nat)(K:Nat->Option R):Option R:=
 match p with
 |none=>K dflt
 |some p=>Do p fun _ i=>Ap (decide (0<=i)) (K i.toNat)
def EC (P:Program)(rdf:Nat->Option (List PV)) (t:TypeId)(x:PV)(lo hi:Option PV)(K:PV->Option R):Option R:=
 match P.underlying t with
 |some .string=>Co x fun s=>Mp lo 0 fun l=>Mp hi s.size fun h=>Ap (decide (l<=h)&&decide (h<=s.size)) (Aa (s.extract l h) fun s=>K (.sc (.string s)))
 |some (.slice e)=>Ap (P.info? e).isSome (
  match x with
  |.view id es off n=>Ap (Nat.beq es (Be P e)) (Mp lo 0 fun l=>Mp hi n fun h=>Ap (decide (l<=h)&&decide (h<=n)) (Aa (off+l*es) fun o=>Aa (h-l) fun n=>K (.view id es o n)))
  |x=>Fd (Be P e) x fun z n c=>Mp lo 0 fun l=>Mp hi n fun h=>Ap (decide (l<=h)&&decide (h<=n)) (Aa (h-l) fun n=>Aa ((c.drop (l*Be P e)).take (n*Be P e)) fun c=>K (.lst z (Be P e) n c)))
 |some (.array n e)=>Ap (P.info? e).isSome (
  match x with
  |.ptr id off=>Ep (rdf id) fun c=>Ap (decide (1<=n*Be P e)&&decide (off+n*Be P e<=c.length))<|Mp lo 0 fun l=>Mp hi n fun h=>Ap (decide (l<=h)&&decide (h<=n)) (Aa (off+l*Be P e) fun o=>Aa (h-l) fun n=>K (.view id (Be P e) o n))
  |_=>none)
 |_=>none
def U9 (x:PV)(d:Nat)(K:PV->Option R):Option R:=
 match x with
 |.ptr id off=>K (.ptr id (off+d))
 |.iptr c off=>K (.iptr c (off+d))
 |_=>none
def IM (P:Program)(e:TypeId):Bool:=(P.info? e).isSome
def Rl (P:Program)(t:TypeId)(f:Nat):Option (Nat × TypeId):=
 match P.underlying t with
 |some (.struct fs)=>(fs[f]?).map fun g=>(g.offset,g.type)
 |_=>none
def Kv (P:Program)(t:TypeId)(x:PV)(i:Int)(K:PV->Option R):Option R:=
 match P.underlying t with
 |some (.array n e)=>Ap (IM P e) (Ap (decide (0<=i)&&decide (i<n)) (U9 x (i.toNat*Be P e) K))
 |some (.slice e)=>Ap (IM P e) (
  match x with
  |.view id es off n=>Ap (Nat.beq es (Be P e)) (Ap (decide (0<=i)&&decide (i<n)) (K (.ptr id (off+i.toNat*es))))
  |x=>Fd (Be P e) x fun _ n c=>Ap (decide (0<=i)&&decide (i<n)) (K (.iptr c (i.toNat*Be P e))))
 |_=>none
def KT (P:Program)(rdf:Nat->Option (List PV)) (t:TypeId)(x:PV)(K:PV->Option R):Option R:=
 match x with
 |.ptr id off=>Ap (I9 P t) (Ep (rdf id) fun c=>Qr (Ic P t) c off fun cs=>mkV (Cr P t) cs K)
 |.iptr c off=>Ap (I9 P t) (Vf (Ic P t) c off fun cs=>mkV (Cr P t) cs K)
 |_=>none
def RA:PV->PV
 |.lst _ es n c=>.lst false es n c
 |p=>p
def Aco:PV->PV
 |.agg cs=>.agg (cs.map RA)
 |p=>RA p
def BF (P:Program)(rdf rdaf:Nat->Option (List PV)) (t:TypeId)(x:PV)(K:PV->Option R):Option R:=
 match x with
 |.ptr id off=>Ap (I9 P t) (
  match rdaf id with
  |some c=>Vf (Ic P t) c off fun cs=>mkV (Cr P t) cs fun v=>K (Aco v)
  |none=>Ep (rdf id) fun c=>Qr (Ic P t) c off fun cs=>mkV (Cr P t) cs K)
 |.iptr c off=>Ap (I9 P t) (Vf (Ic P t) c off fun cs=>mkV (Cr P t) cs fun v=>K (Aco v))
 |_=>none
def Ba (cells new:List PV)(off:Nat):List PV:=cells.take off++new++cells.drop (off+new.length)
def okP:PV->Bool
 |.agg _=>true
 |.lst _ _ _ _=>true
 |.view _ _ _ _=>true
 |.sc (.int _ _)=>true
 |.sc (.bool _)=>true
 |.sc (.string _)=>true
 |.sc (.slice none 0 0)=>true
 |_=>false
def Ud (Hf:Nat->Option (Nat × Nat)):List (Nat × PV)->List PV->(List PV->Option R)->Option R
 |[],cells,K=>K cells
 |(i,p)::r,cells,K=>Ep (Hf i) fun q=>Ap (okP p&&Nat.beq (cellsOf p).length q.2&&Nat.ble (q.1+q.2) cells.length) (Aa (Ba cells (cellsOf p) q.1) fun cells=>Ud Hf r cells K)
def Sx (P:Program)(t:TypeId)(i:Nat):Option (Nat × Nat):=
 match P.underlying t with
 |some (.struct fs)=>(fs[i]?).map fun f=>(f.offset,Be P f.type)
 |some (.array _ e)=>some (i*Be P e,Be P e)
 |some (.slice e)=>some (i*Be P e,Be P e)
 |_=>none
def R8 (P:Program)(t:TypeId):Bool:=
 match P.underlying t with
 |some (.struct fs)=>fs.toList.all fun f=>IM P f.type
 |some (.array _ e)=>IM P e
 |some (.slice e)=>IM P e
 |_=>false
def Xt (P:Program)(t:TypeId):Option Value:=(P.info? t).bind (·.zero)
def Hh (P:Program)(t:TypeId)(K:List PV->Option R):Option R:=
 Ep (Xt P t) fun v=>Ap (Nat.beq v.cells.toList.length (Ic P t).length&&I9 P t) (Vf (Ic P t) (v.cells.toList.map .sc) 0 K)
def Vt (P:Program)(t:TypeId):Bool:=
 match P.underlying t with
 |some (.array _ _)=>true
 |_=>false
def Aif (P:Program)(t:TypeId)(cells:List PV):Bk:=bif Vt P t then .ar false cells else .st cells
def Q4 (n:Nat)(l:List PV):List PV:=(List.replicate n l).flatten
def Ajz (a b:PV)(K:PV->Option R):Option R:=Do a fun k x=>Ad k b fun y=>Aa (if y<x then y else x) fun n=>K (.sc (.int k n))
def Ak8 (a b:PV)(K:PV->Option R):Option R:=Do a fun k x=>Ad k b fun y=>Aa (if x<y then y else x) fun n=>K (.sc (.int k n))
def Ad8 (P:Program)(t:TypeId)(x:PV)(K:Nat->Option R):Option R:=
 match P.underlying t with
 |some .string=>Co x fun s=>K s.size
 |some (.array n _)=>K n
 |some (.slice e)=>
  match x with
  |.view _ es _ n=>Ap (Nat.beq es (Be P e)) (K n)
  |x=>Fd (Be P e) x fun _ n _=>K n
 |_=>none
end
abbrev Ai:=FuncId->List PV->Option A0
section
variable {R:Type}
def Jm (P:Program)(ts:List TypeId):Bool:=ts.any fun t=>(AU P t).isSome||(Ic P t).any fun c=>match c with | .sl _=>true|_=>false
def DF (P:Program)(t:TypeId)(tm:Nat->PV)(x:Operand)(K:PV->Option R):Option R:=
 match x with
 |.const v=>cvK P t v K
 |x=>K (Ch tm x)
def RH (P:Program)(e:TypeId):Bool:=
 match P.info? e with
 |some i=>(match i.zero with|some z=>Nat.beq z.cells.size i.size|none=>false)
 |none=>false
def YX (P:Program)(rdaf:Nat->Option (List PV)) (es:Nat)(t:TypeId)(x:PV)(K:Nat->List PV->Option R):Option R:=
 match P.underlying t with
 |some .string=>Ap (Nat.beq es 1) (Co x fun b=>K b.size (Dl b))
 |some (.slice _)=>XW rdaf es x K
 |_=>none
abbrev ZX (P:Program)(s:St)(es:Nat)(t:TypeId)(x:PV)(K:Nat->List PV->Option R):Option R:=YX P (J4 s.hp) es t x K
def AW (c:Call):Bool:=
 match c.args.toList with
 |.const (.slice none 0 0)::_=>true
 |_=>false
def V3 (P:Program)(rdaf:Nat->Option (List PV)) (d:Nat)(t tx:TypeId)(x:PV)(K:PV->List (Nat × Bk)->Option R):Option R:=
 match P.underlying t with
 |some (.slice e)=>Ap (RH P e) <|
  YX P rdaf (Be P e) tx x fun m new=>
   Ap (decide (new.length=m*Be P e)&&decide (m*((P.info? e).map (·.bytes)).getD 0<=1099511627776)&&decide (m<=1099511627776)) (K (.view d (Be P e) 0 m) [(d,.ar false new)])
 |_=>none
def Jl (k:Bool):List Operand->List PV->List PV
  |x::xs,p::ps=>
    (match x,p with
     |.const (.slice none 0 0),.lst z es 0 []=>.lst (k||z) es 0 []
     |_,p=>p)::Jl k xs ps
  |_,ps=>ps
def Ad7 (P:Program)(t:TypeId)(x:PV)(K:Nat->Option R):Option R:=
 match P.underlying t with
 |some (.slice e)=>Fd (Be P e) x fun z _ _=>Ap z (K 0)
 |_=>none
def KP (P:Program)(f:FuncId)(c:Call):List TypeId:=
 match P.funcs[f]? with
 |some fn=>fn.params.toList
 |none=>c.argTypes.toList
def KJ (C:Hb)(P:Program)(N:Nat)(call:Ai)(tm:Nat->PV)(rdaf:Nat->Option (List PV)) (o:Oper)(c:Call)(f:FuncId)(K:PV->List Nat->List (Nat × Bk)->Option R):Option R:=
 KD P rdaf (KP P f c) (c.args.toList.map (Ch tm)) fun vs m=>
  Ag (call f (Jl (C.kz f) c.args.toList vs)) fun rv ro=>Ac ro (Ap (Nat.blt 0 N)<|EN P (C.shr f) N (o.dst.getD 0) (Ol P o.type) rv fun ws bs=>
   Ap (bif Qb P o.type then !Nat.beq ws.length 1 else Nat.beq ws.length 1)<|K (O1 ws (Qb P o.type)) (bif Jm P (Ol P o.type) then m else []) bs)
def JO (C:Hb)(P:Program)(N:Nat)(call:Ai)(tm:Nat->PV)(rdf rdaf:Nat->Option (List PV)) (o:Oper)(K:PV->List Nat->List (Nat × Bk)->Option R):Option R:=
  match o.op with
  |.move x=>DF P o.type tm x fun p=>K p [] []
  |.assign x=>DF P o.type tm x fun p=>K p [] []
  |.pick c a b=>Bl (Ch tm c) fun t=>Bc t (K (Ch tm a) [] []) (K (Ch tm b) [] [])
  |.alloc t=>Ep o.dst fun d=>Hh P t fun cs=>K (.ptr d 0) [] [(d,Aif P t cs)]
  |.box t x=>Ep o.dst fun d=>Ap (I9 P t&&Nat.beq (cellsOf (Ch tm x)).length (Ic P t).length)
      (bif Vt P t then Vf (Ic P t) (cellsOf (Ch tm x)) 0 fun cs=>K (.ptr d 0) [] [(d,.ar false cs)]
       else Qr (Ic P t) (cellsOf (Ch tm x)) 0 fun cs=>K (.ptr d 0) [] [(d,.st cs)])
  |.build t ps=>Ap (R8 P t&&Cr P t)<|Hh P t fun z=>Ud (Sx P t) (ps.toList.map fun q=>(q.1,Ch tm q.2)) z fun cs=>Qr (Ic P t) cs 0 fun cs'=>K (.agg cs') [] []
  |.buildSlice t n ps=>Ep o.dst fun d=>
      match P.underlying t with
      |some (.slice e)=>Ap (R8 P t&&Nat.ble (n*Be P e) 16777216) (Hh P e fun z=>Ud (Sx P t) (ps.toList.map fun q=>(q.1,Ch tm q.2)) (Q4 n z) fun cs=>
          O4 rdaf (List.replicate n (Ic P e)).flatten cs fun cs' m=>K (.view d (Be P e) 0 n) m [(d,.ar false cs')])
      |_=>none
  |.load t a=>BF P rdf rdaf t (Ch tm a) fun v=>K v [] []
  |.nilCheck x=>U9 (Ch tm x) 0 fun p=>K p [] []
  |.binOp op t x y _=>
      V1 P op t (Ch tm x) (Ch tm y) fun v=>K v [] []
  |.unOp op _ x=>unK op (Ch tm x) fun v=>K v [] []
  |.convert src dst x=>ID P rdaf (o.dst.getD 0) src dst (Ch tm x) fun v b=>Ep o.dst fun _=>K v [] b
  |.makeSlice t l c=>Ep o.dst fun d=>
      match P.underlying t with
      |some (.slice e)=>Do (Ch tm l) fun _ n=>Do (Ch tm c) fun _ m=>
          Ap (decide (0<=n)&&decide (n<=m)&&decide (m*((P.info? e).map (·.bytes)).getD 0<=1099511627776)&&decide (m<=1099511627776))
            (Hh P e fun z=>K (.view d (Be P e) 0 n.toNat) [] [(d,.ar false (Q4 n.toNat z))])
      |_=>none
  |.slice t x lo hi mx=>
      match mx with
      |none=>EC P rdf t (Ch tm x) (lo.map (Ch tm)) (hi.map (Ch tm)) fun v=>K v [] []
      |some _=>none
  |.fieldAddr t x f=>Ep (Rl P t f) fun q=>Ap (Nat.ble 1 (Be P q.2)) (U9 (Ch tm x) q.1 fun p=>K p [] [])
  |.field t x f=>Ep (Rl P t f) fun q=>Ap (I9 P q.2)<|Cy (Ch tm x) fun cs=>Qr (Ic P q.2) cs q.1 fun c=>mkV (Cr P q.2) c fun v=>K v [] []
  |.indexAddr t x i=>Do (Ch tm i) fun _ n=>Kv P t (Ch tm x) n fun p=>K p [] []
  |.index t x i=>Do (Ch tm i) fun _ n=>
      match P.underlying t with
      |some .string=>Co (Ch tm x) fun s=>Ap (decide (0<=n)) (Ep (s.data.toList[n.toNat]?) fun b=>K (.sc (.int .u8 b.toNat)) [] [])
      |some (.array len e)=>Cy (Ch tm x) fun cs=>Ap (decide (0<=n)&&decide (n<len)&&I9 P e) (Qr (Ic P e) cs (n.toNat*Be P e) fun c=>mkV (Cr P e) c fun v=>K v [] [])
      |_=>none
  |.extract x i=>
      match Ch tm x with
      |.tup vs=>Ep vs[i]? fun p=>K p [] []
      |_=>none
  |.call c=>
      match c.callee with
      |.builtin .len=>Ab c.args.toList fun x _=>Ab c.argTypes.toList fun t _=>Ad8 P t (Ch tm x) fun n=>K (.sc (.int .i64 n)) [] []
      |.builtin .cap=>Ab c.args.toList fun x _=>Ab c.argTypes.toList fun t _=>Ad7 P t (Ch tm x) fun n=>K (.sc (.int .i64 n)) [] []
      |.builtin .min=>Ab c.args.toList fun x r=>Ab r fun y r'=>Ac r' (Ajz (Ch tm x) (Ch tm y) fun v=>K v [] [])
      |.builtin .max=>Ab c.args.toList fun x r=>Ab r fun y r'=>Ac r' (Ak8 (Ch tm x) (Ch tm y) fun v=>K v [] [])
      |.builtin .append=>Ap (AW c) (Ep o.dst fun d=>Ab c.args.toList fun _ r=>Ab r fun x r'=>Ac r' (Ab c.argTypes.toList fun t u=>Ab u fun tx _=>V3 P rdaf d t tx (Ch tm x) fun v nw=>K v [] nw))
      |.value (.func f)=>KJ C P N call tm rdaf o c f K
      |.value (.tmp t)=>fvK (tm t) fun f=>KJ C P N call tm rdaf o c f K
      |_=>none
  |_=>none
def Sb (C:Hb)(P:Program)(o:Op):Bool:=
 match o with
 |.store .. =>true
 |.call c=>
  match c.callee with
  |.builtin .append=> !AW c
  |.builtin .copy=>true
  |.builtin _=>false
  |.value (.func f)=>((KP P f c).any fun t=>(AU P t).isSome)||((KP P f c).zipIdx.any fun q=>C.mvd f q.2||C.lnd f q.2)
  |_=>false
 |_=>false
def Vq (b:Bk):Bk:=
 match b with
 |.ar _ c=>.ar true c
 |b=>b
def Ah (hp:Nat->Option Bk)(ids:List Nat):Nat->Option Bk:=fun i=>bif ids.any (Nat.beq i) then (hp i).map Vq else hp i
def Az (hp:Nat->Option Bk):List (Nat × Bk)->Nat->Option Bk
 |[]=>hp
 |(i,b)::r=>Az (Ct hp i (some b)) r
def B3 (hp:Nat->Option Bk):List (Nat × Bk)->Bool
 |[]=>true
 |(i,_)::r=>(hp i).isNone && !(r.any fun q=>Nat.beq q.1 i)&&B3 hp r
def Bn (tm:Nat->PV)(d:Option Tmp)(v:PV):Nat->PV:=
 match d with
 |some i=>Ct tm i v
 |none=>tm
def Gu (N:Nat)(d:Option Tmp):Bool:=
 match d with
 |some i=>Nat.blt i N
 |none=>true
def DT (N:Nat)(s:St)(d:Option Tmp)(v:PV)(fz:List Nat)(nw:List (Nat × Bk)) (K:St->Option R):Option R:=
 Ap (Gu N d&&B3 s.hp nw) (K ⟨Bn s.tm d v,Az (Ah s.hp fz) nw⟩)
def CC (P:Program)(s:St)(t:TypeId)(a x:PV)(K:St->Option R):Option R:=
 match a with
 |.ptr id off=>
  match s.hp id with
  |some (.st c)=>Ap (I9 P t&&Nat.beq (cellsOf x).length (Ic P t).length&&decide (off+(Ic P t).length<=c.length)) (Qr (Ic P t) (cellsOf x) 0 fun cs=>Aa (Ba c cs off) fun c=>K ⟨s.tm,Ct s.hp id (some (.st c))⟩)
  |some (.ar false c)=>Ap (I9 P t&&decide (off+(Ic P t).length<=c.length)) (O4 (J4 s.hp) (Ic P t) (cellsOf x) fun cs m=>Ap (!m.any (Nat.beq id)) (Aa (Ba c cs off) fun c=>K ⟨s.tm,Ct (Ah s.hp m) id (some (.ar false c))⟩))
  |_=>none
 |_=>none
def AH (P:Program)(t:TypeId):Bool:=
 match P.underlying t with
 |some (.int _)=>true
 |_=>false
def Vh (P:Program)(N:Nat)(s:St)(d:Nat)(e:TypeId)(b x:PV)(K:St->Option R):Option R:=
 Do x fun _ n=>Fd (Be P e) b fun z _ _=>
  Ap (z&&Nat.blt d N&&(s.hp d).isNone&&decide (0<=n)&&decide (n.toNat*((P.info? e).map (·.bytes)).getD 0<=1099511627776)&&decide (n<=1099511627776))
   (K ⟨Ct s.tm d (.view d (Be P e) 0 n.toNat),Ct s.hp d (some (.ar false []))⟩)
def Py (P:Program)(N:Nat)(s:St)(d:Nat)(t tx:TypeId)(b x:PV)(K:St->Option R):Option R:=
 match P.underlying t with
 |some (.slice e)=>Ap (RH P e) <|
  bif AH P tx then Vh P N s d e b x K else
  ZX P s (Be P e) tx x fun m new=>
  match b with
  |.view id es off n=>
   match s.hp id with
   |some (.ar false c)=>
    Ap (Nat.beq es (Be P e)&&Nat.beq off 0&&Nat.blt d N&&(s.hp d).isNone&&decide (n*es<=c.length)&&decide (new.length=m*es)
     && decide ((n+m)*((P.info? e).map (·.bytes)).getD 0<=1099511627776)&&decide (n+m<=1099511627776))
     (Aa (n+m) fun n'=>Aa (c.take (n*es)++new) fun c=>K ⟨Ct s.tm d (.view d es 0 n'),Ct (Ct s.hp id (some .mv)) d (some (.ar false c))⟩)
   |_=>none
  |b=>Fd (Be P e) b fun z _ _=>
    Ap (z&&Nat.blt d N&&(s.hp d).isNone&&decide (new.length=m*Be P e)&&decide (m*((P.info? e).map (·.bytes)).getD 0<=1099511627776)&&decide (m<=1099511627776))
     (K ⟨Ct s.tm d (.view d (Be P e) 0 m),Ct s.hp d (some (.ar false new))⟩)
 |_=>none
def NK (P:Program)(N:Nat)(s:St)(d:Option Tmp)(t tx:TypeId)(b x:PV)(K:St->Option R):Option R:=
 match P.underlying t with
 |some (.slice e)=>Ap (IM P e&&Gu N d) <|
  ZX P s (Be P e) tx x fun m new=>
  match b with
  |.view id es off n=>
   match s.hp id with
   |some (.ar false c)=>Ap (Nat.beq es (Be P e)&&decide (off+n*es<=c.length)&&decide (new.length=m*es))
     (Aa (min m n) fun k=>Aa (Ba c (new.take (k*es)) off) fun c=>K ⟨Bn s.tm d (.sc (.int .i64 k)),Ct s.hp id (some (.ar false c))⟩)
   |_=>none
  |_=>none
 |_=>none
def Aeb (mv:Bool)(hp:Nat->Option Bk)(t:CT)(p:PV)(K:PV->List Nat->List Nat->Option R):Option R:=
 match t with
 |.sl es=>
  bif mv then
   match p with
   |.view id es' off n=>
    match hp id with
    |some (.ar false c)=>
     bif Nat.beq es' es&&Nat.beq off 0 then Ap (decide (n*es<=c.length)) (K (.own es n (c.take (n*es))) [] [id])
     else Po (J4 hp) (.sl es) (.view id es' off n) fun c m=>K c m []
    |_=>Po (J4 hp) (.sl es) (.view id es' off n) fun c m=>K c m []
   |p=>Fd es p fun z n c=>bif z then K (.own es 0 []) [] [] else K (.lst false es n c) [] []
  else Po (J4 hp) (.sl es) p fun c m=>K c m []
 |t=>CK t p fun c=>K c [] []
def ER (mv:Bool)(hp:Nat->Option Bk):List CT->List PV->(List PV->List Nat->List Nat->Option R)->Option R
 |[],[],K=>K [] [] []
 |t::ts,p::ps,K=>Aeb mv hp t p fun c m x=>ER mv hp ts ps fun cs ms xs=>K (c::cs) (m++ms) (x++xs)
 |_,_,_=>none
inductive G9 where
 |var (id off:Nat) (cts:List CT) (ws:List PV)
 |row (id:Nat)
 |none
def G9.ids:G9->List Nat
 |.var id _ _ _=>[id]
 |.row id=>[id]
 |.none=>[]
def Asb (P:Program)(t:TypeId):Option TypeId:=
 match P.underlying t with
 |some (.slice e)=>some e
 |_=>none
def Afn (hp:Nat->Option Bk)(es:Nat)(p:PV)(K:PV->List G9->Option R):Option R:=
 match p with
 |.view id es' off n=>
  match hp id with
  |some (.ar false c)=>Ap (Nat.beq es' es&&Nat.beq off 0) (K (.tup [.own es n c]) [.row id])
  |_=>none
 |p=>Fd es p fun z _ _=>Ap z (K (.tup [.own es 0 []]) [.none])
def CZ (C:Hb)(P:Program)(f:FuncId)(hp:Nat->Option Bk)(i:Nat)(t:TypeId)(p:PV)(K:PV->List Nat->List Nat->List G9->Option R):Option R:=
 match AU P t with
 |some e=>
  match p with
  |.ptr id off=>
   match hp id with
   |some (.st c)=>Ap (I9 P e&&decide (off+(Ic P e).length<=c.length)) (ER (C.mvd f i) hp (Ic P e) ((c.drop off).take (Ic P e).length) fun cs m x=>K (.pbox cs) m x [.var id off (Ic P e) cs])
   |_=>none
  |_=>none
 |none=>
  bif C.lnd f i then Ep (Asb P t) fun e=>Afn hp (Be P e) p fun v l=>K v [] [] l
  else bif Cr P t then Cy p fun ps=>ER (C.mvd f i) hp (Ic P t) ps fun cs m x=>K (.agg cs) m x []
  else ER (C.mvd f i) hp (Ic P t) [p] fun cs m x=>Ab cs fun c r=>Ac r (K c m x [])
def OE (C:Hb)(P:Program)(f:FuncId)(hp:Nat->Option Bk):Nat->List TypeId->List PV->(List PV->List Nat->List Nat->List G9->Option R)->Option R
 |_,[],[],K=>K [] [] [] []
 |i,t::ts,p::ps,K=>CZ C P f hp i t p fun v m x l=>OE C P f hp (i+1) ts ps fun vs ms xs ls=>K (v::vs) (m++ms) (x++xs) (l++ls)
 |_,_,_,_=>none
def Vr (hp:Nat->Option Bk)(ids:List Nat):Nat->Option Bk:=fun i=>bif ids.any (Nat.beq i) then (hp i).map (fun _=>Bk.mv) else hp i
def XA (N t:Nat):Nat:=N*(1000+t)
def TH (N:Nat)(hp:Nat->Option Bk):Nat->Nat->Nat
 |0,t=>t
 |k+1,t=>bif (hp (XA N t)).isNone then t else TH N hp k (t+1)
def Ael (N t:Nat)(ct:CT)(was p:PV)(K:Nat->PV->List (Nat × Bk)->Option R):Option R:=
 match ct with
 |.sl es=>
  match was with
  |.own _ _ _=>El es p fun n c=>K (t+1) (.view (XA N t) es 0 n) [(XA N t,.ar false c)]
  |_=>Fd es p fun _ n c=>K t (.lst false es n c) []
 |ct=>CK ct p fun c=>K t c []
def NF (N:Nat):Nat->List CT->List PV->List PV->(Nat->List PV->List (Nat × Bk)->Option R)->Option R
 |t,[],[],ps,K=>Ac ps (K t [] [])
 |t,ct::cts,w::ws,ps,K=>Ab ps fun p ps=>Ael N t ct w p fun t' c b=>NF N t' cts ws ps fun t'' cs bs=>K t'' (c::cs) (b++bs)
 |_,_,_,_,_=>none
def Ya (N:Nat):Nat->List G9->List (List PV)->(Nat->Option Bk)->((Nat->Option Bk)->List (Nat × Bk)->Option R)->Option R
 |_,[],ro,hp,K=>Ac ro (K hp [])
 |t,.var id off cts ws::l,ro,hp,K=>Ab ro fun cs ro=>NF N t cts ws cs fun t' cs' bs=>
   match hp id with
   |some (.st c)=>Aa (Ba c cs' off) fun c=>Ya N t' l ro (Ct hp id (some (.st c))) fun hp' bs'=>K hp' (bs++bs')
   |_=>none
 |t,.row id::l,ro,hp,K=>Ab ro fun cs ro=>Ya N t l ro (Ct hp id (some (.ar false cs))) K
 |t,.none::l,ro,hp,K=>Ab ro fun _ ro=>Ya N t l ro hp K
def Eb:List Nat->Bool
 |[]=>true
 |a::r=> !(r.any (Nat.beq a))&&Eb r
def CF (C:Hb)(P:Program)(N:Nat)(call:Ai)(s:St)(o:Oper)(f:FuncId)(c:Call)(K:St->Option R):Option R:=
 OE C P f s.hp 0 (KP P f c) (c.args.toList.map (Ch s.tm)) fun vs m x l=>
  Ap (Eb (l.flatMap G9.ids++x)&&m.all (fun i=> !((l.flatMap G9.ids++x).any (Nat.beq i)))&&Nat.blt 0 N&&Gu N o.dst) <|
  Ag (call f (Jl (C.kz f) c.args.toList vs)) fun rv ro=>
   EN P (C.shr f) N (o.dst.getD N) (Ol P o.type) rv fun ws bs=>
    Ap (bif Qb P o.type then !Nat.beq ws.length 1 else Nat.beq ws.length 1) <|
    A05 (TH N s.hp 100 0) fun t0=>Ya N t0 l ro (Vr (Ah s.hp m) x) fun hp' bs'=>
     Ap (B3 hp' (bs++bs')) (K ⟨Bn s.tm o.dst (O1 ws (Qb P o.type)),Az hp' (bs++bs')⟩)
def Wt (C:Hb)(P:Program)(N:Nat)(call:Ai)(s:St)(o:Oper)(K:St->Option R):Option R:=
 match o.op with
 |.store t a x=>Ap (o.dst.isNone) (CC P s t (Ch s.tm a) (Ch s.tm x) K)
 |.call c=>
  match c.callee with
  |.builtin .append=>Ep o.dst fun d=>Ab c.args.toList fun b r=>Ab r fun x r'=>Ac r' (Ab c.argTypes.toList fun t u=>Ab u fun tx _=>Py P N s d t tx (Ch s.tm b) (Ch s.tm x) K)
  |.builtin .copy=>Ab c.args.toList fun b r=>Ab r fun x r'=>Ac r' (Ab c.argTypes.toList fun t u=>Ab u fun tx _=>NK P N s o.dst t tx (Ch s.tm b) (Ch s.tm x) K)
  |.value (.func f)=>CF C P N call s o f c K
  |_=>none
 |_=>none
def VX (C:Hb)(P:Program)(N:Nat)(call:Ai)(o:Oper)(s:St)(K:St->Option R):Option R:=
 bif Sb C P o.op then Wt C P N call s o K
 else JO C P N call s.tm (rd s.hp) (J4 s.hp) o fun v fz nw=>DT N s o.dst v fz nw K
def Dk (C:Hb)(P:Program)(N:Nat)(call:Ai)(ops:Array Oper)(o:Oper)(s:St)(K:St->Option R):Option R:=
 match o.guard with
 |none=>VX C P N call o s K
 |some (j,want)=>
  match (ops[j]?).bind (·.dst) with
  |none=>none
  |some d=>
   match s.tm d with
   |.sc (.bool b)=>
    Bc b (bif want then VX C P N call o ⟨Ct s.tm d (.sc (.bool true)),s.hp⟩ K else Ap (Gu N o.dst) (K ⟨Bn (Ct s.tm d (.sc (.bool true))) o.dst (.sc undef),s.hp⟩))
     (bif want then Ap (Gu N o.dst) (K ⟨Bn (Ct s.tm d (.sc (.bool false))) o.dst (.sc undef),s.hp⟩) else VX C P N call o ⟨Ct s.tm d (.sc (.bool false)),s.hp⟩ K)
   |.sc (.tuple _)=>Ap (Gu N o.dst) (K ⟨Bn s.tm o.dst (.sc undef),s.hp⟩)
   |_=>none
def Ob (C:Hb)(P:Program)(N:Nat)(call:Ai)(ops:Array Oper):List Oper->St->(St->Option R)->Option R
 |[],s,K=>K s
 |o::r,s,K=>Dk C P N call ops o s fun s'=>Ob C P N call ops r s' K
noncomputable def Xa (x y:Option R):Option R:=open Classical in if x=y then x else none
noncomputable def ZK (ops:Array Oper)(o:Oper)(s:St)(F:St->Option R):Option R:=
 match o.guard with
 |none=>F s
 |some (j,_)=>
  match (ops[j]?).bind (·.dst) with
  |none=>F s
  |some d=>
   match s.tm d with
   |.ub=>Xa (F ⟨Ct s.tm d (.sc (.bool true)),s.hp⟩) (F ⟨Ct s.tm d (.sc (.bool false)),s.hp⟩)
   |_=>F s
noncomputable def Mo (C:Hb)(P:Program)(N:Nat)(call:Ai)(ops:Array Oper):List Oper->St->(St->Option R)->Option R
 |[],s,K=>K s
 |o::r,s,K=>ZK ops o s fun s1=>Dk C P N call ops o s1 fun s'=>Mo C P N call ops r s' K
end
def Agn (o:Oper):List Nat:=o.op.operands.toList.filterMap fun x=>match x with | .tmp t=>some t|_=>none
def looks (ops:Array Oper)(o:Oper):List Nat:=
 Agn o++(match o.guard with|some (g,_)=>((ops[g]?).bind (·.dst)).toList|none=>[])
def H4 (P:Program)(o:Op):Bool:=
 match o with
 |.slice t .. =>match P.underlying t with|some (.array _ _)=>true|_=>false
 |.buildSlice t _ _=>match P.underlying t with|some (.slice e)=>Jm P [e]|_=>true
 |.convert _ dst _=>match P.underlying dst with|some .string=>true|_=>false
 |.alloc _ | .box .. | .makeSlice .. =>false
 |.move _ | .assign _ | .pick .. | .build .. | .binOp .. | .unOp .. | .fieldAddr .. | .field .. | .index .. | .indexAddr .. | .extract .. | .nilCheck _=>false
 |.call c=>match c.callee with | .builtin .len=>false | .builtin .min=>false | .builtin .max=>false|_=>true
 |_=>true
def HF (C:Hb)(P:Program)(ops:Array Oper)(x y:Oper):Bool:=
 (match x.dst with|some d=>(looks ops y).any (Nat.beq d)||(match y.dst with|some e=>Nat.beq d e|none=>false)|none=>false) ||
 (match y.dst with|some e=>(looks ops x).any (Nat.beq e)|none=>false) ||
 (Sb C P x.op&&H4 P y.op)||(Sb C P y.op&&H4 P x.op)
def Il (ops:List Oper):List Nat->List Nat
 |acc=>match ops with
  |[]=>acc
  |o::r=>Il r (acc++[o.after.toList.foldl (fun s e=>bif Region.binds .any e then s ||| 2 ^ e.on ||| acc.getD e.on 0 else s) 0])
def GS (C:Hb)(P:Program)(ops:Array Oper)(bs:List Nat):List Oper->Nat->Bool
 |[],_=>true
 |o::r,i=>(ops.toList.zipIdx.all fun q=> !Nat.blt q.2 i || !HF C P ops q.1 o||(bs.getD i 0).testBit q.2)&&GS C P ops bs r (i+1)
def IA (C:Hb)(P:Program)(ops:Array Oper):Bool:=
 ops.toList.zipIdx.all (fun q=>q.1.after.toList.all fun e=> !Region.binds .any e||Nat.blt e.on q.2)&&GS C P ops (Il ops.toList []) ops.toList 0
def At:PV->List Nat
 |.view id _ _ _=>[id]
 |.ptr id _=>[id]
 |_=>[]
def Cb:PV->List Nat
 |.agg cs=>cs.flatMap At
 |p=>At p
def Bq:PV->List Nat
 |.tup ps=>ps.flatMap Cb
 |p=>Cb p
def Va (P:Program)(o:Op):Bool:=
 match o with
 |.load .. =>true
 |.convert _ dst _=>(match P.underlying dst with|some .string=>true|_=>false)
 |_=>false
def Ov (o:Op):Bool:=
 match o with
 |.call c=>(match c.callee with | .builtin .append=> !AW c|_=>false)
 |_=>false
def Ag4 (ops:Array Oper)(x y:Oper):Bool:=
 (match x.dst with|some d=>(looks ops y).any (Nat.beq d)||(match y.dst with|some e=>Nat.beq d e|none=>false)|none=>false) ||
 (match y.dst with|some e=>(looks ops x).any (Nat.beq e)|none=>false)
def Sw (C:Hb)(P:Program)(x y:Oper):Bool:=(Sb C P x.op&&H4 P y.op)||(Sb C P y.op&&H4 P x.op)
def Kd (C:Hb)(P:Program)(x y:Oper):Bool:=(Sb C P x.op&&Va P y.op)||(Sb C P y.op&&Va P x.op)||(Ov x.op&&Ov y.op)
def Aic (C:Hb)(P:Program)(ops:Array Oper)(x y:Oper):Bool:=Ag4 ops x y||(Sw C P x y && !Kd C P x y)
def Zq (C:Hb)(P:Program)(ops:Array Oper)(bs:List Nat):List Oper->Nat->Bool
 |[],_=>true
 |o::r,i=>(ops.toList.zipIdx.all fun q=> !Nat.blt q.2 i || !Aic C P ops q.1 o||(bs.getD i 0).testBit q.2)&&Zq C P ops bs r (i+1)
def HW (C:Hb)(P:Program)(ops:Array Oper):Bool:=
 ops.toList.zipIdx.all (fun q=>q.1.after.toList.all fun e=> !Region.binds .any e||Nat.blt e.on q.2)&&Zq C P ops (Il ops.toList []) ops.toList 0
def M0 (C:Hb)(P:Program)(s:St)(o:Oper):List Nat:=
 let l:=o.op.operands.toList.flatMap fun y=>Bq (Ch s.tm y)
 bif Sb C P o.op && !Ov o.op then l++l.flatMap (fun i=>match s.hp i with|some (.st c)=>c.flatMap At|_=>[])
 else bif Va P o.op||Ov o.op then l else []
def Aen (a b:List Nat):Bool:=a.all fun i=> !b.any (Nat.beq i)
def AB (C:Hb)(P:Program)(ops:Array Oper)(bs:List Nat)(i:Nat)(o:Oper):List Nat:=
 (ops.toList.zipIdx.filter fun q=>Kd C P q.1 o && !(Nat.blt q.2 i&&(bs.getD i 0).testBit q.2) && !(Nat.blt i q.2&&(bs.getD q.2 0).testBit i)).map (·.2)
def FO (C:Hb)(P:Program)(ops:Array Oper)(bs:List Nat):List (List Nat):=ops.toList.zipIdx.map fun q=>AB C P ops bs q.2 q.1
def GC (C:Hb)(P:Program)(sm:List (List Nat)) (s:St)(i:Nat)(o:Oper):List Nat:=
 match sm.getD i [] with
 |[]=>[]
 |_::_=>M0 C P s o
def MB (C:Hb)(P:Program)(sm:List (List Nat)) (s:St)(i:Nat)(o:Oper)(q:Nat × Oper × List Nat):Bool:=
 !((sm.getD i []).any (Nat.beq q.1))||Aen q.2.2 (GC C P sm s i o)
def Ib {R:Type}(C:Hb)(P:Program)(N:Nat)(call:Ai)(ops:Array Oper)(sm:List (List Nat)):List (Nat × Oper × List Nat)->List Nat->St->(St->Option R)->Option R
 |_,[],s,K=>K s
 |dn,i::l,s,K=>Ep ops[i]? fun o=>Ap (dn.all (MB C P sm s i o)&&(GC C P sm s i o).all (fun k=>(s.hp k).isSome)) (Dk C P N call ops o s fun s'=>Ib C P N call ops sm ((i,o,GC C P sm s i o)::dn) l s' K)
def Aia (m i:Nat):Nat:=m ||| 2 ^ i
def A5h (m i:Nat):Nat:=bif m.testBit i then m ^^^ 2 ^ i else m
def Aca (ops:Array Oper):List Oper->Nat->Nat
 |[],m=>m
 |o::r,m=>
  let m1:=Aca ops r m
  let m2:=match o.dst with|some d=>A5h m1 d|none=>m1
  (looks ops o).foldl Aia m2
def Pj:Code->Nat->(Nat->Nat)->Nat->Nat
 |.skip,ln,_,_=>ln
 |.region _ ops _,ln,_,_=>Aca ops ops.toList ln
 |.seq a b,ln,lx,lr=>Pj a (Pj b ln lx lr) lx lr
 |.cond c a b,ln,lx,lr=>let m:=Pj a ln lx lr ||| Pj b ln lx lr;match c with | .tmp d=>Aia m d|_=>m
 |.block id c,ln,lx,lr=>Pj c ln (fun j=>bif Nat.beq j id then ln else lx j) lr
 |.loop c,_,lx,lr=>Pj c (Pj c 0 lx lr) lx lr
 |.exit id,_,lx,_=>lx id
 |.ret,_,_,lr=>lr
 |_,_,_,_=>0
def Af2 (ops:List Oper):List Nat:=(ops.filterMap fun o=>o.guard.map (·.1)).eraseDups
def Qc:Code->Nat
 |.region _ _ _=>1
 |.seq a b=>Qc a+Qc b
 |.cond _ a b=>Qc a+Qc b
 |.block _ c=>Qc c
 |.loop c=>Qc c
 |_=>0
def GD:Code->Nat
 |.skip=>1
 |.region _ ops _=>2 ^ min 6 (Af2 ops.toList).length
 |.seq a b=>bif (Nat.ble 7 (GD a)&&Nat.ble 6 (Qc b))||(Nat.ble 5 (GD a)&&Nat.ble 9 (Qc b)) then GD b else min 1000 (GD a*GD b)
 |.cond _ a b=>GD a+GD b
 |.block _ c=>GD c
 |.loop _=>1
 |.exit _=>1
 |_=>0
def Al4 (P:Program)(o:Oper):Bool:=
 match o.op with
 |.load t _=>Vt P t&&Nat.ble 8 (Be P t)
 |.store t _ _=>Vt P t&&Nat.ble 8 (Be P t)
 |_=>false
def US (P:Program):Code->Bool
 |.region _ ops _=>ops.toList.any (Al4 P)
 |.seq a _=>US P a
 |_=>false
def Abg (P:Program):Code->Bool
 |.region _ ops _=>ops.toList.any (Al4 P)
 |.seq _ b=>Abg P b
 |_=>false
def BH (a b:Code):Bool:=(Nat.beq (GD a) 4&&Nat.beq (Qc b) 3&&Nat.beq (Qc a) 7)||(match b with | .seq x y=>Nat.beq (GD x) 4&&Nat.beq (Qc y) 3&&Nat.beq (Qc x) 7|_=>false)
def Abl (P:Program)(a b:Code):Bool:=(Nat.ble 7 (GD a)&&Nat.ble 6 (Qc b))||(Nat.ble 5 (GD a)&&Nat.ble 9 (Qc b))||BH a b||US P b||Abg P a
def Ms (m:Nat):Nat->List Nat
 |0=>[]
 |n+1=>Ms m n++(bif m.testBit n then [n] else [])
def lk (l:List (Nat × PV)) (i:Nat):PV:=
 match l with
 |[]=>.top
 |(j,p)::r=>bif Nat.beq i j then p else lk r i
def B5 (l:List (Nat × Bk)) (i:Nat):Option Bk:=
 match l with
 |[]=>none
 |(j,b)::r=>bif Nat.beq i j then some b else B5 r i
def Wx (l:List (Nat × Nat)) (i:Nat):Option Nat:=
 match l with
 |[]=>none
 |(j,b)::r=>bif Nat.beq i j then some b else Wx r i
def GY (s:St)(i:Nat):St:=
 match s.tm i with
 |.lst true es 0 []=>bif (s.hp i).isNone then ⟨Ct s.tm i (.view i es 0 0),Ct s.hp i (some (.ar false []))⟩ else s
 |_=>s
def RM (N:Nat)(id:Nat)(s:St)(j:Nat):St:=
 match s.hp id with
 |some (.st c)=>
  match c[j]? with
  |some (.lst true es 0 [])=>bif (s.hp (id+N*(j+1))).isNone then ⟨s.tm,Ct (Ct s.hp id (some (.st (c.set j (.view (id+N*(j+1)) es 0 0))))) (id+N*(j+1)) (some (.ar false []))⟩ else s
  |_=>s
 |_=>s
def QV (N:Nat)(s:St)(i:Nat):St:=
 match s.tm i with
 |.ptr id _=>
  match s.hp id with
  |some (.st c)=>(List.range c.length).foldl (RM N id) s
  |_=>s
 |_=>s
def MY (m:List (Nat × Nat)) (old new:Nat):List (Nat × Nat):=
 match Wx m old with
 |some _=>m
 |none=>m++[(old,new)]
def Sc (N new:Nat):List PV->Nat->List (Nat × Nat)->List (Nat × Nat)
 |[],_,m=>m
 |.view id _ _ _::r,j,m=>Sc N new r (j+1) (MY m id (new+N*(j+1)))
 |_::r,j,m=>Sc N new r (j+1) m
def GV (N:Nat)(s:St)(m:List (Nat × Nat)) (i:Nat):List (Nat × Nat):=
 match s.tm i with
 |.view id _ _ _=>MY m id i
 |.ptr id _=>
  match Wx m id with
  |some _=>m
  |none=>
   match s.hp id with
   |some (.st c)=>Sc N i c 0 (MY m id i)
   |_=>MY m id i
 |.agg c=>Sc N i c 0 m
 |_=>m
def Aaj (m:List (Nat × Nat)):PV->PV
 |.view id es off n=>match Wx m id with|some j=>.view j es off n|none=>.top
 |.ptr id off=>match Wx m id with|some j=>.ptr j off|none=>.top
 |.sc v=>.sc v
 |.lst z es n c=>.lst z es n c
 |.iptr c off=>.iptr c off
 |_=>.top
def Aey (m:List (Nat × Nat)):PV->PV
 |.agg c=>.agg (c.map (Aaj m))
 |p=>Aaj m p
def Akg (m:List (Nat × Nat)):Bk->Bk
 |.st c=>.st (c.map (Aaj m))
 |b=>b
def C2 (N i:Nat):Nat:=i+N*2000
def UU (N:Nat)(hp:Nat->Option Bk):Nat->List (Nat × Nat)
 |0=>[]
 |i+1=>bif (hp (C2 N i)).isSome then UU N hp i++[(C2 N i,C2 N i)] else UU N hp i
def Uf (N:Nat)(hp:Nat->Option Bk):Nat->List (Nat × Nat)->List (Nat × Nat)
 |0,m=>m
 |i+1,m=>
  match hp (C2 N i) with
  |some (.st c)=>Sc N (C2 N i) c 0 (Uf N hp i m)
  |_=>Uf N hp i m
def Avd (N:Nat)(hp:Nat->Option Bk)(k:Nat):List (Nat × Nat):=Uf N hp k (UU N hp k)
def Mx (m:List (Nat × Nat)) (hp:Nat->Option Bk):List (Nat × Nat)->List (Nat × Bk)
 |[]=>[]
 |(old,new)::r=>match hp old with
  |some b=>(new,Akg m b)::Mx m hp r
  |none=>Mx m hp r
section
variable {R:Type}
def Aaw (N:Nat)(ls:List Nat)(q:Bool)(s:St)(K:St->Option R):Option R:=
 let s2:=bif q then s else ls.foldl (QV N) (ls.foldl GY s)
 let m:=ls.foldl (GV N s2) (Avd N s2.hp 8)
 Ap (Eb (m.map (·.1))&&Eb (m.map (·.2))) (K ⟨lk (ls.map fun i=>(i,Aey m (s2.tm i))),B5 (Mx m s2.hp m)⟩)
def Kf (N L:Nat)(s:St)(K:St->Option R):Option R:=Aaw N (Ms L N) false s K
def SY (N L:Nat)(s:St)(K:St->Option R):Option R:=Aaw N (Ms L N) true s K
def WS (F:(St->Option R)->St->Option R) (nm:St->(St->Option R)->Option R):Nat->St->Option R
 |0,_=>none
 |n+1,s=>F (fun s'=>nm s' (WS F nm n)) s
def JI (n:Nat)(F:St->Option R)(s:St):Option R:=
 match n with
 |0=>none
 |_+1=>F s
noncomputable def Ahp (s:St)(c:Operand)(kt kf:St->Option R):Option R:=
 match c with
 |.tmp d=>
  match s.tm d with
  |.sc (.bool b)=>Bc b (kt ⟨Ct s.tm d (.sc (.bool true)),s.hp⟩) (kf ⟨Ct s.tm d (.sc (.bool false)),s.hp⟩)
  |.ub=>Xa (kt s) (kf s)
  |_=>none
 |.const (.bool true)=>kt s
 |.const (.bool false)=>kf s
 |_=>none
noncomputable def J7 (C:Hb)(P:Program)(fu N:Nat)(call:Ai):Code->Nat->(Nat->Nat)->Nat->(St->Option R)->(Nat->St->Option R)->(St->Option R)->St->Option R
 |.skip,_,_,_,kn,_,_,s=>kn s
 |.region _ ops draw,_,_,_,kn,_,_,s=>MR (draw && !IA C P ops) (Ap (HW C P ops) (Ahz (FO C P ops (Il ops.toList [])) fun sm=>Ib C P N call ops sm [] (List.range ops.size) s kn)) (MR draw (Ob C P N call ops ops.toList s kn) (Mo C P N call ops ops.toList s kn))
 |.seq a b,ln,lx,lr,kn,kx,kr,s=>J7 C P fu N call a (Pj b ln lx lr) lx lr (fun s'=>MR (Abl P a b) (MR (BH a b) (SY N (Pj b ln lx lr) s' (JI fu fun s''=>J7 C P fu N call b ln lx lr kn kx kr s'')) (Kf N (Pj b ln lx lr) s' (JI fu fun s''=>J7 C P fu N call b ln lx lr kn kx kr s''))) (J7 C P fu N call b ln lx lr kn kx kr s')) kx kr s
 |.cond c a b,ln,lx,lr,kn,kx,kr,s=>Ahp s c (J7 C P fu N call a ln lx lr kn kx kr) (J7 C P fu N call b ln lx lr kn kx kr)
 |.block id c,ln,lx,lr,kn,kx,kr,s=>J7 C P fu N call c ln (fun j=>bif Nat.beq j id then ln else lx j) lr kn (fun j s'=>bif Nat.beq j id then kn s' else kx j s') kr s
 |.loop c,ln,lx,lr,_,kx,kr,s=>
  Kf N (Pj (.loop c) ln lx lr) s (WS (fun k s'=>J7 C P fu N call c (Pj (.loop c) ln lx lr) lx lr k kx kr s') (Kf N (Pj (.loop c) ln lx lr)) fu)
 |.exit id,_,_,_,_,kx,_,s=>kx id s
 |.ret,_,_,_,_,_,kr,s=>kr s
 |_,_,_,_,_,_,_,_=>none
def Ag1 (id:Nat)(t:CT)(p:PV)(K:PV->List (Nat × Bk)->Option R):Option R:=
 match t with
 |.sl es=>
  match p with
  |.own es' n c=>bif Nat.beq es' es then K (.view id es 0 n) [(id,.ar false c)] else none
  |p=>Fd es p fun z n c=>K (.lst z es n c) []
 |t=>CK t p fun c=>K c []
def EZ (N:Nat):Nat->List CT->List PV->(List PV->List (Nat × Bk)->Option R)->Option R
 |_,[],ps,K=>Ac ps (K [] [])
 |id,t::ts,ps,K=>Ab ps fun p ps=>Ag1 id t p fun c b=>EZ N (id+N) ts ps fun cs bs=>K (c::cs) (b++bs)
def inK (P:Program)(N i:Nat)(t:TypeId)(p:PV)(K:PV->List (Nat × Bk)->Option R):Option R:=
 match AU P t with
 |some e=>W6 p fun ps=>Ap (Nat.blt i 8) (EZ N (C2 N i+N) (Ic P e) ps fun cs bs=>K (.ptr (C2 N i) 0) ((C2 N i,.st cs)::bs))
 |none=>
  match p with
  |.tup ps=>Ep (Asb P t) fun e=>Ap (Nat.blt i 8) (Ab ps fun q r=>Ac r (El (Be P e) q fun n c=>K (.view (C2 N i) (Be P e) 0 n) [(C2 N i,.ar false c)]))
  |p=>
   bif Cr P t then Cy p fun ps=>EZ N (i+N) (Ic P t) ps fun cs bs=>K (.agg cs) bs
   else EZ N (i+N) (Ic P t) [p] fun cs bs=>Ab cs fun c r=>Ac r (K c bs)
def Ad3 (P:Program)(N:Nat):Nat->List TypeId->List PV->(List (Nat × PV)->List (Nat × Bk)->Option R)->Option R
 |_,[],ps,K=>Ac ps (K [] [])
 |i,t::ts,ps,K=>Ab ps fun p ps=>inK P N i t p fun v bs=>Ad3 P N (i+1) ts ps fun vs bs'=>K ((i,v)::vs) (bs++bs')
def Aly (hp:Nat->Option Bk)(t:CT)(p:PV)(K:PV->List Nat->List Nat->Option R):Option R:=
  match t with
  |.sl es=>
    match p with
    |.view id es' off n=>bif Nat.beq es' es&&Nat.beq off 0 then
        (match hp id with
         |some (.ar false c)=>Ap (decide (n*es<=c.length)) (K (.own es n (c.take (n*es))) [id] [])
         |_=>none) else none
    |p=>Fd es p fun z _ _=>Ap z (K (.own es 0 []) [] [])
  |t=>CK t p fun c=>K c [] []
def Abp (shr:Bool)(hp:Nat->Option Bk)(t:CT)(p:PV)(K:PV->List Nat->List Nat->Option R):Option R:=
 bif shr then Po (J4 hp) t p fun c m=>K c [] m else Aly hp t p K
def DZ (shr:Bool)(hp:Nat->Option Bk):List CT->List PV->(List PV->List Nat->List Nat->Option R)->Option R
 |[],[],K=>K [] [] []
 |t::ts,p::ps,K=>Abp shr hp t p fun c m z=>DZ shr hp ts ps fun cs ms zs=>K (c::cs) (m++ms) (z++zs)
 |_,_,_=>none
def Afo (P:Program)(shr:Bool)(hp:Nat->Option Bk)(t:TypeId)(p:PV)(K:PV->List Nat->List Nat->Option R):Option R:=
 match AU P t with
 |some e=>
  match p with
  |.ptr id off=>
   match hp id with
   |some (.st c)=>Ap (Nat.beq off 0) (DZ shr hp (Ic P e) c fun cs m z=>K (.pbox cs) (id::m) z)
   |_=>none
  |_=>none
 |none=>
  bif Cr P t then Cy p fun ps=>DZ shr hp (Ic P t) ps fun cs m z=>K (.agg cs) m z
  else DZ shr hp (Ic P t) [p] fun cs m z=>Ab cs fun c r=>Ac r (K c m z)
def Ah1 (P:Program)(s:St)(r:ResultVar)(K:PV->Option R):Option R:=
 match r with
 |.tmp t=>K (s.tm t)
 |.cell a t=>BF P (rd s.hp) (J4 s.hp) t (s.tm a) K
def SK (P:Program)(shr:Bool)(s:St):List ResultVar->List TypeId->(List PV->List Nat->List Nat->Option R)->Option R
 |[],[],K=>K [] [] []
 |r::rs,t::ts,K=>Ah1 P s r fun p=>Afo P shr s.hp t p fun v m z=>SK P shr s rs ts fun vs ms zs=>K (v::vs) (m++ms) (z++zs)
 |_,_,_=>none
def HA (hp:Nat->Option Bk):List CT->List PV->List PV->(List PV->List Nat->List Nat->Option R)->Option R
 |[],[],[],K=>K [] [] []
 |t::ts,w::ws,p::ps,K=>Abp (match w with | .own _ _ _=>false|_=>true) hp t p fun c m z=>HA hp ts ws ps fun cs ms zs=>K (c::cs) (m++ms) (z++zs)
 |_,_,_,_=>none
def CQ (P:Program)(N:Nat)(hp:Nat->Option Bk):Nat->List TypeId->List PV->(List (List PV)->List Nat->List Nat->List Nat->Option R)->Option R
 |_,[],ps,K=>Ac ps (K [] [] [] [])
 |i,t::ts,ps,K=>Ab ps fun p ps=>
  match p with
  |.pbox ws=>Ep (AU P t) fun e=>
    match hp (C2 N i) with
    |some (.st c)=>HA hp (Ic P e) ws c fun cs m z=>CQ P N hp (i+1) ts ps fun r m' z' q=>K (cs::r) (m++m') (z++z') (C2 N i::q)
    |_=>none
  |.tup _=>
    match hp (C2 N i) with
    |some (.ar false c)=>CQ P N hp (i+1) ts ps fun r m' z' q=>K (c::r) m' z' (C2 N i::q)
    |_=>none
  |_=>CQ P N hp (i+1) ts ps K
def Abv (rs:List ResultVar):Nat:=rs.foldl (fun m r=>match r with | .tmp t=>Aia m t | .cell a _=>Aia m a) 0
end
def KV (P:Program):Nat->List TypeId->Nat->Nat
 |_,[],m=>m
 |i,t::ts,m=>KV P (i+1) ts (match P.underlying t with|some (.pointer _)=>Aia m i|_=>m)
def XP (C:Hb)(P:Program)(f:FuncId)(fn:Func)(args:List PV)(s:St):Option A0:=
 SK P (C.shr f) s fn.results.toList fn.resultTypes.toList fun vs m z=>CQ P fn.ntmps s.hp 0 fn.params.toList args fun os m' z' q=>
  Ap (Eb ((m++m')++q)&&(z++z').all (fun i=> !(((m++m')++q).any (Nat.beq i)))) (some ⟨vs,os⟩)
noncomputable def Akf (C:Hb)(P:Program)(fu:Nat)(call:Ai)(f:FuncId)(fn:Func)(c:Code)(args:List PV):Option A0:=
  Ad3 P fn.ntmps 0 fn.params.toList args fun tms bs=>Ap (Nat.ble args.length fn.ntmps&&B3 (fun _=>none) bs)
    (let lr:=KV P 0 fn.params.toList (Abv fn.results.toList)
     J7 C P fu fn.ntmps call c lr (fun _=>0) lr (XP C P f fn args) (fun _ _=>none) (XP C P f fn args) ⟨lk tms,B5 bs⟩)
noncomputable def Ae (C:Hb)(P:Program)(fu:Nat):Nat->FuncId->List PV->Option A0
 |0,_,_=>none
 |d+1,f,args=>
  match C.ext f with
  |some g=>g args
  |none=>
   match P.funcs[f]? with
   |none=>none
   |some fn=>match fn.body with
    |none=>none
    |some c=>Akf C.core P fu (Ae C P fu d) f fn c args
inductive Dir where
 |l
 |r
 |i (m:Nat)
section
variable {R:Type}
noncomputable def Yq (C:Hb)(P:Program)(fu N:Nat)(call:Ai):List Dir->Code->Nat->(Nat->Nat)->Nat->(St->Option R)->(Nat->St->Option R)->(St->Option R)->Nat->St->Option R
 |[],.seq _ b,ln,lx,lr,kn,kx,kr,n,s=>JI n (fun s''=>J7 C P fu N call b ln lx lr kn kx kr s'') s
 |[],.loop c,ln,lx,lr,_,kx,kr,n,s=>WS (fun k s'=>J7 C P fu N call c (Pj (.loop c) ln lx lr) lx lr k kx kr s') (Kf N (Pj (.loop c) ln lx lr)) n s
 |.l::p,.seq a b,ln,lx,lr,kn,kx,kr,n,s=>Yq C P fu N call p a (Pj b ln lx lr) lx lr (fun s'=>MR (Abl P a b) (MR (BH a b) (SY N (Pj b ln lx lr) s' (JI fu fun s''=>J7 C P fu N call b ln lx lr kn kx kr s'')) (Kf N (Pj b ln lx lr) s' (JI fu fun s''=>J7 C P fu N call b ln lx lr kn kx kr s''))) (J7 C P fu N call b ln lx lr kn kx kr s')) kx kr n s
 |.r::p,.seq _ b,ln,lx,lr,kn,kx,kr,n,s=>Yq C P fu N call p b ln lx lr kn kx kr n s
 |.l::p,.cond _ a _,ln,lx,lr,kn,kx,kr,n,s=>Yq C P fu N call p a ln lx lr kn kx kr n s
 |.r::p,.cond _ _ b,ln,lx,lr,kn,kx,kr,n,s=>Yq C P fu N call p b ln lx lr kn kx kr n s
 |.l::p,.block id c,ln,lx,lr,kn,kx,kr,n,s=>Yq C P fu N call p c ln (fun j=>bif Nat.beq j id then ln else lx j) lr kn (fun j s'=>bif Nat.beq j id then kn s' else kx j s') kr n s
 |.i m::p,.loop c,ln,lx,lr,_,kx,kr,n,s=>
  Yq C P fu N call p c (Pj (.loop c) ln lx lr) lx lr
   (fun s'=>Kf N (Pj (.loop c) ln lx lr) s' (WS (fun k s'=>J7 C P fu N call c (Pj (.loop c) ln lx lr) lx lr k kx kr s') (Kf N (Pj (.loop c) ln lx lr)) m)) kx kr n s
 |_,_,_,_,_,_,_,_,_,_=>none
end
noncomputable def C5 (C:Hb)(P:Program)(fu:Nat)(call:Ai)(f:FuncId)(fn:Func)(c:Code)(args:List PV)(p:List Dir)(n:Nat)(s:St):Option A0:=
 let lr:=KV P 0 fn.params.toList (Abv fn.results.toList)
 Yq C P fu fn.ntmps call p c lr (fun _=>0) lr (XP C P f fn args) (fun _ _=>none) (XP C P f fn args) n s
def Ak1:List Nat:=[
 1000000]
def Are:List Nat:=[
 11,
 31,
 44,
 13,
 17,
 37,
 26,
 1000000]
def Apq:List Nat:=[
 1000000]
def Apk:List Nat:=[
 102,
 119,
 100,
 90,
 128,
 114,
 115,
 130,
 118,
 91,
 113,
 111,
 124,
 1000000]
def HX (args:List PV):Option A0:=
 match args with
 |[.sc (.string s)]=>bif decide (s.size<=9223372036854775807) then some ⟨[.sc (.bool (Lib.validD s.data.toList))],[]⟩ else none
 |_=>none
def U8 (args:List PV):Option A0:=
  match args with
  |[.lst _ 1 n c,.lst _ 1 m c']=>bif Nat.beq c.length n&&Nat.beq c'.length m then
      (match bytesOf c,bytesOf c' with
       |some a,some b=>some ⟨[.sc (.int .i64 (Lib.compareBytes a b))],[]⟩
       |_,_=>none) else none
  |_=>none
def BA:List Nat:=[
 132,
 89,
 121,
 122,
 120,
 103,
 73,
 123,
 117,
 98,
 65,
 34,
 88,
 84,
 112,
 104,
 105,
 110,
 81,
 106,
 108,
 76,
 74,
 75,
 92,
 82,
 66,
 53,
 50,
 54,
 41,
 1000000]
def CB:Hb:=⟨fun f=>Are.any (Nat.beq f),fun f i=>Nat.beq i 0&&Apk.any (Nat.beq f),fun f i=>Nat.beq i 0&&Apq.any (Nat.beq f),fun f=>Ak1.any (Nat.beq f),fun _=>none⟩
def CX (xs:FuncId->Option (List PV->Option A0)):Hb:={ CB with ext:=fun f=>bif BA.any (Nat.beq f) then none else xs f }
def Bw (f:Func):Code:=match f.body with|some c=>c|none=>.skip
section
variable {R:Type} {r:Option R}
theorem Ay {k:IntKind}{p:PV}{K:Int->Option R}{n:Int}(h:p=.sc (.int k n)) (hk:K n=r):Ad k p K=r:=by
 subst h;unfold Ad;simp [hk]
theorem At7 {p:PV}{K:IntKind->Int->Option R}{k:IntKind}{n:Int}(h:p=.sc (.int k n)) (hk:K k n=r):Do p K=r:=by
 subst h;exact hk
theorem Ar {p:PV}{K:Bool->Option R}{b:Bool}(h:p=.sc (.bool b)) (hk:K b=r):Bl p K=r:=by
 subst h;exact hk
theorem A7 {p:PV}{K:ByteArray->Option R}{s:ByteArray}(h:p=.sc (.string s)) (hk:K s=r):Co p K=r:=by
 subst h;exact hk
theorem Cc {es:Nat}{p:PV}{K:Bool->Nat->List PV->Option R}{z:Bool}{n:Nat}{c:List PV}(h:p=.lst z es n c)(hk:K z n c=r):Fd es p K=r:=by
 subst h;unfold Fd;simp [Nat.beq_refl,hk]
theorem Bg {es:Nat}{p:PV}{K:Nat->List PV->Option R}{n:Nat}{c:List PV}(h:p=.own es n c)(hk:K n c=r):El es p K=r:=by
 subst h;unfold El;simp [Nat.beq_refl,hk]
theorem Ax {b:Bool}{K:Option R}(h:b=true)(hk:K=r):Ap b K=r:=by
 subst h;exact hk
theorem Ae9 {b:Bool}{x y:Option R}(hx:b=true->x=r)(hy:b=false->y=r):Bc b x y=r:=by
 cases b
 ·exact hy rfl
 ·exact hx rfl
theorem Au {b:Bool}{x y:Option R}(h:b=true)(hx:x=r):Bc b x y=r:=by
 subst h;exact hx
theorem Av {b:Bool}{x y:Option R}(h:b=false)(hx:y=r):Bc b x y=r:=by
 subst h;exact hx
theorem Dg {α:Type}{o:Option α}{K:α->Option R}{a:α}(h:o=some a)(hk:K a=r):Ep o K=r:=by
 subst h;exact hk
theorem Al {α:Type}{l:List α}{K:α->List α->Option R}{a:α}{t:List α}(h:l=a::t)(hk:K a t=r):Ab l K=r:=by
 subst h;exact hk
theorem Aw {α:Type}{l:List α}{K:Option R}(h:l=[]) (hk:K=r):Ac l K=r:=by
 subst h;exact hk
theorem Bx {p:PV}{K:List PV->Option R}{c:List PV}(h:p=.agg c)(hk:K c=r):Cy p K=r:=by
 subst h;exact hk
theorem QZ {p:PV}{K:List PV->Option R}{c:List PV}(h:p=.pbox c)(hk:K c=r):W6 p K=r:=by
 subst h;exact hk
theorem Am {o:Option A0}{K:List PV->List (List PV)->Option R} {v:List PV}{q:List (List PV)} (h:o=some ⟨v,q⟩)(hk:K v q=r):Ag o K=r:=by
 subst h;exact hk
theorem QD {x y:Option R}(hx:x=r)(hy:y=r):Xa x y=r:=by subst hx;subst hy;unfold Xa;simp
end
theorem GO (a b:Int):(a != b)=decide (a≠b):=by by_cases h:a=b<;>simp [h,bne]
theorem Ade (a b:Int):(a==b)=decide (a=b):=by by_cases h:a=b<;>simp [h]
section
variable {R:Type}
theorem Aa2 (v:List PV)(o:List (List PV)) (K:List PV->List (List PV)->Option R):Ag (some ⟨v,o⟩) K=K v o:=by exact id rfl
theorem Ahj {α:Type}(K:Option R):Ac ([]:List α) K=K:=by exact id rfl
theorem Abf {α:Type}(a:α)(r:List α)(K:α->List α->Option R):Ab (a::r) K=K a r:=by exact id rfl
theorem Aa1 (b:Bool)(K:Bool->Option R):Bl (.sc (.bool b)) K=K b:=by exact id rfl
theorem Agb (s:ByteArray)(K:ByteArray->Option R):Co (.sc (.string s)) K=K s:=by exact id rfl
theorem PY (k:IntKind)(n:Int)(K:Int->Option R):Ad k (.sc (.int k n)) K=K n:=by unfold Ad;simp
theorem Aix (k:IntKind)(n:Int)(K:IntKind->Int->Option R):Do (.sc (.int k n)) K=K k n:=by exact id rfl
theorem Alh (z:Bool)(es n:Nat)(c:List PV)(K:Bool->Nat->List PV->Option R):Fd es (.lst z es n c) K=K z n c:=by unfold Fd;simp
theorem Alw (es n:Nat)(c:List PV)(K:Nat->List PV->Option R):El es (.own es n c) K=K n c:=by unfold El;simp
theorem Af7 (c:List PV)(K:List PV->Option R):Cy (.agg c) K=K c:=by exact id rfl
theorem Ab1 (c:List PV)(K:List PV->Option R):W6 (.pbox c) K=K c:=by exact id rfl
theorem Ag0 {α:Type}(a:α)(K:α->Option R):Ep (some a) K=K a:=by exact id rfl
theorem G6 {α:Type}(a:α)(K:α->Option R):Aa a K=K a:=by exact id rfl
theorem Ail (K:Option R):Ap true K=K:=by exact id rfl
theorem QB (p:Prop) [Decidable p] (K:Option R)(h:p):Ap (decide p) K=K:=by simp [Ap,h]
theorem Abo (b c:Bool)(K:Option R):Ap (b&&c) K=Ap b (Ap c K):=by cases b<;>rfl
theorem XZ (x y:Option R):Bc true x y=x:=by exact id rfl
theorem YY (x y:Option R):Bc false x y=y:=by exact id rfl
theorem KC (p:Prop) [Decidable p] (x y:Option R)(h:p):Bc (decide p) x y=x:=by simp [Bc,h]
theorem Dr (p:Prop) [Decidable p] (x y:Option R)(h:¬p):Bc (decide p) x y=y:=by simp [Bc,h]
theorem DB (p:Prop) [Decidable p] (x y:Option R):Bc (decide p) x y=if p then x else y:=by by_cases h:p<;>simp [Bc,h]
theorem E9 (a b:Int)(x y:Option R):Bc (a==b) x y=if a=b then x else y:=by
 rw [Ade,DB]
theorem Fq (a b:Int)(x y:Option R):Bc (a != b) x y=if a=b then y else x:=by
 rw [GO,DB];by_cases h:a=b<;>simp [h]
theorem Aap (x:Option R):Xa x x=x:=by unfold Xa;simp
end
theorem Aj {x:Int}(h1: -9223372036854775808<=x)(h2:x<=9223372036854775807):IntKind.wrap .i64 x=x:=by
 have:=IntWalk.i64_in x (by omega)
 exact this
theorem Cn {x:Int}(h1:0<=x)(h2:x<=18446744073709551615):IntKind.wrap .u64 x=x:=by
 simp only [IntKind.wrap,IntKind.signed,IntKind.bits];simp;omega
theorem Fn {x:Int}(h1:0<=x)(h2:x<=255):IntKind.wrap .u8 x=x:=by
 simp only [IntKind.wrap,IntKind.signed,IntKind.bits];simp;omega
theorem Gs (x:Int):0<=IntKind.wrap .u64 x∧IntKind.wrap .u64 x<=18446744073709551615:=by
 simp only [IntKind.wrap,IntKind.signed,IntKind.bits];simp;omega
theorem Cs {α:Type}{l r:List α}{x:α}{i:Nat}(h:l.drop i=x::r):i<l.length∧l[i]?=some x∧l.drop (i+1)=r:=by
 have h1:i<l.length:=by
  rcases Nat.lt_or_ge i l.length with h1|h1
  ·exact h1
  ·rw [List.drop_of_length_le h1] at h;cases h
 rw [List.drop_eq_getElem_cons h1] at h;injection h with h2 h3;exact ⟨h1,by rw [List.getElem?_eq_getElem h1,h2],h3⟩
theorem drop_nil {α:Type}{l:List α}{i:Nat}(h:l.drop i=[]):l.length<=i:=by
 have:=congrArg List.length h;simp at this;omega
section
variable {α:Type} {f:α->List PV} {k:Nat}
theorem Xu (hf:∀x,(f x).length=k):∀(l:List α),(l.flatMap f).length=l.length*k
 |[]=>by simp
 |x::l=>by simp [hf x,Xu hf l,Nat.succ_mul];omega
theorem Zg (hf:∀x,(f x).length=k):∀(l:List α)(i:Nat),(l.flatMap f).drop (i*k)=(l.drop i).flatMap f
 |l,0=>by simp
 |[],i+1=>by simp
 |x::l,i+1=>by
  rw [List.flatMap_cons,Nat.succ_mul,Nat.add_comm,←List.drop_drop,List.drop_append_of_le_length (by rw [hf x];omega)]
  rw [show (f x).drop k=[] from List.drop_of_length_le (by rw [hf x];omega),List.nil_append]
  exact Zg hf l i
theorem AK (hf:∀x,(f x).length=k):∀(l:List α)(i:Nat),(l.flatMap f).take (i*k)=(l.take i).flatMap f
 |l,0=>by simp
 |[],i+1=>by simp
 |x::l,i+1=>by
  rw [List.flatMap_cons,Nat.succ_mul,Nat.add_comm,List.take_succ_cons,List.flatMap_cons,←AK hf l i];rw [show k+i*k=(f x).length+i*k by rw [hf x],List.take_length_add_append]
theorem Ea (hf:∀x,(f x).length=k) {l:List α}{i:Nat}{x:α}(h:l[i]?=some x) {j:Nat}(hj:j<k):(l.flatMap f).getD (i*k+j) .top=(f x).getD j .top:=by
 have h1:((l.flatMap f).drop (i*k))[j]?=(l.flatMap f)[i*k+j]?:=List.getElem?_drop;rw [Zg hf] at h1
 have h2:i<l.length:=by
  rcases Nat.lt_or_ge i l.length with h1|h1
  ·exact h1
  ·rw [List.getElem?_eq_none h1] at h;cases h
 rw [List.drop_eq_getElem_cons h2,List.flatMap_cons] at h1;have h3:l[i]=x:=by rw [List.getElem?_eq_getElem h2] at h;injection h
 rw [h3,List.getElem?_append_left (by rw [hf x];exact hj)] at h1
 simp only [List.getD_eq_getElem?_getD,←h1]
theorem Ai6 (hf:∀x,(f x).length=k) {p:PV}{j:Nat}(hj:j<k):∀{l:List α}{i:Nat}{x y:α},l[i]?=some x->f y=(f x).set j p->(l.flatMap f).set (i*k+j) p=(l.set i y).flatMap f
 |[],i,x,y,h,_=>by simp at h
 |a::l,0,x,y,h,hy=>by
  simp at h;subst h;rw [Nat.zero_mul,Nat.zero_add,List.flatMap_cons,List.set_cons_zero,List.flatMap_cons,hy,List.set_append_left _ _ (by rw [hf];exact hj)]
 |a::l,i+1,x,y,h,hy=>by
  simp at h;rw [List.flatMap_cons,List.set_cons_succ,List.flatMap_cons,List.set_append_right _ _ (by rw [hf,Nat.succ_mul];omega),hf]
  congr 1
  rw [show (i+1)*k+j-k=i*k+j by rw [Nat.succ_mul];omega]
  exact Ai6 hf hj h hy
theorem Ev {c:List PV}{p:PV}{i:Nat}(h:i<c.length):Ba c [p] i=c.set i p:=by
 unfold Ba;rw [List.set_eq_take_append_cons_drop,if_pos h];simp
end
theorem Ag2 {α:Type}{l:List α}{i:Nat}{x:α}(h:l[i]?=some x):i<l.length:=by
 rcases Nat.lt_or_ge i l.length with h1|h1
 ·exact h1
 ·rw [List.getElem?_eq_none h1] at h;cases h
abbrev Aqg (k:IntKind)(n:Int):List PV:=[.sc (.int k n)]
abbrev Af (k:IntKind)(l:List Int):List PV:=l.flatMap (Aqg k)
theorem AE (k:IntKind)(n:Int):(Aqg k n).length=1:=rfl
theorem W5 {k:IntKind}{l:List Int}{i:Nat}{n:Int}(h:l[i]?=some n):(Af k l).getD i .top=.sc (.int k n):=by
 have:=Ea (AE k) h (j:=0) (by omega)
 simpa using this
theorem Ak (k:IntKind)(l:List Int):(Af k l).length=l.length:=by rw [Xu (AE k)];omega
theorem F1 (k:IntKind)(l:List Int)(n:Int):Af k l++[.sc (.int k n)]=Af k (l++[n]):=by simp
theorem J3 (k:IntKind)(l:List Int):List.take l.length (Af k l)=Af k l:=List.take_of_length_le (by rw [Ak];omega)
theorem Bz:type_of% @Aa2∧type_of% @Ahj∧type_of% @Abf∧type_of% @Aa1∧type_of% @Agb∧type_of% @PY∧type_of% @Aix∧type_of% @Alh∧type_of% @Alw∧type_of% @Af7∧type_of% @Ab1∧type_of% @Ag0∧type_of% @G6∧type_of% @Ail∧type_of% @QB∧type_of% @Abo∧type_of% @XZ∧type_of% @YY∧type_of% @KC∧type_of% @Dr∧type_of% @Aap∧type_of% @Bool.not_true∧type_of% @Bool.not_false∧type_of% @Bool.false_eq_true∧type_of% @if_true.{1}∧type_of% @if_false.{1}∧type_of% @Bool.true_and∧type_of% @Bool.and_true∧type_of% @Bool.false_and∧type_of% @Bool.and_false∧type_of% @decide_true∧type_of% @decide_false:=
 ⟨@Aa2,@Ahj,@Abf,@Aa1,@Agb,@PY,@Aix,@Alh,@Alw,@Af7,@Ab1,@Ag0,@G6,@Ail,@QB,@Abo,@XZ,@YY,@KC,@Dr,@Aap,@Bool.not_true,@Bool.not_false,@Bool.false_eq_true,@if_true.{1},@if_false.{1},@Bool.true_and,@Bool.and_true,@Bool.false_and,@Bool.and_false,@decide_true,@decide_false⟩
theorem gT:type_of% @Bool.and_eq_true∧type_of% @decide_eq_true_eq∧type_of% @beq_iff_eq.{0}∧type_of% @bne_iff_ne.{0}∧type_of% @ne_eq.{1}∧type_of% @Bool.not_eq_true'∧type_of% @true_and∧type_of% @and_true:=
 ⟨@Bool.and_eq_true,@decide_eq_true_eq,@beq_iff_eq.{0},@bne_iff_ne.{0},@ne_eq.{1},@Bool.not_eq_true',@true_and,@and_true⟩
theorem gF:type_of% @decide_eq_false_iff_not∧type_of% @beq_eq_false_iff_ne.{0}∧type_of% @bne_eq_false_iff_eq.{0}∧type_of% @ne_eq.{1}∧type_of% @Bool.not_eq_false':=
 ⟨@decide_eq_false_iff_not,@beq_eq_false_iff_ne.{0},@bne_eq_false_iff_eq.{0},@ne_eq.{1},@Bool.not_eq_false'⟩
end
section
open Go.RowKit
def Bj {α β:Type}(R:α->β->Prop):List α->List β->Prop
 |[],[]=>True
 |a::zs,b::bs=>R a b∧Bj R zs bs
 |_,_=>False
section
variable {α β γ:Type} {R S:α->β->Prop}
theorem Bj.len:∀{zs:List α}{bs:List β},Bj R zs bs->zs.length=bs.length
 |[],[],_=>rfl
 |_::_,_::_,h=>by simp [Bj.len h.2]
 |[],_::_,h=>h.elim
 |_::_,[],h=>h.elim
theorem Bj.at_:∀{zs:List α}{bs:List β},Bj R zs bs->∀{i:Nat} {a b},zs[i]?=some a->bs[i]?=some b->R a b
 |[],[],_,i,a,b,h,_=>by simp at h
 |_::_,_::_,h,0,a,b,ha,hb=>by simp at ha hb;subst ha;subst hb;exact h.1
 |_::_,_::_,h,i+1,a,b,ha,hb=>by simp at ha hb;exact Bj.at_ h.2 ha hb
 |[],_::_,h,_,_,_,_,_=>h.elim
 |_::_,[],h,_,_,_,_,_=>h.elim
theorem Bj.of_at:∀{zs:List α}{bs:List β},zs.length=bs.length->(∀(i:Nat) a b,zs[i]?=some a->bs[i]?=some b->R a b)->Bj R zs bs
 |[],[],_,_=>trivial
 |a::zs,b::bs,hl,h=>⟨h 0 a b rfl rfl,Bj.of_at (by simpa using hl) fun i x y hx hy=>h (i+1) x y hx hy⟩
 |[],_::_,hl,_=>by simp at hl
 |_::_,[],hl,_=>by simp at hl
theorem Bj.mono (hRS:∀a b,R a b->S a b):∀{zs:List α}{bs:List β},Bj R zs bs->Bj S zs bs
 |[],[],_=>trivial
 |_::_,_::_,h=>⟨hRS _ _ h.1,Bj.mono hRS h.2⟩
 |[],_::_,h=>h.elim
 |_::_,[],h=>h.elim
theorem Bj.mono_mem:∀{zs:List α}{bs:List β},(∀a∈zs,∀b,R a b->S a b)->Bj R zs bs->Bj S zs bs
 |[],[],_,_=>trivial
 |a::_,_::_,hRS,h=>⟨hRS a (by simp) _ h.1,Bj.mono_mem (fun x hx=>hRS x (by simp [hx])) h.2⟩
 |[],_::_,_,h=>h.elim
 |_::_,[],_,h=>h.elim
theorem Bj.app:∀{zs:List α}{bs:List β}{as':List α}{bs':List β},Bj R zs bs->Bj R as' bs'->Bj R (zs++as') (bs++bs')
 |[],[],_,_,_,h'=>h'
 |_::_,_::_,_,_,h,h'=>⟨h.1,Bj.app h.2 h'⟩
 |[],_::_,_,_,h,_=>h.elim
 |_::_,[],_,_,h,_=>h.elim
theorem Bj.take:∀(n:Nat){zs:List α}{bs:List β},Bj R zs bs->Bj R (zs.take n) (bs.take n)
 |0,_,_,_=>by simp [Bj]
 |_+1,[],[],_=>trivial
 |n+1,_::_,_::_,h=>⟨h.1,Bj.take n h.2⟩
 |_+1,[],_::_,h=>h.elim
 |_+1,_::_,[],h=>h.elim
theorem Bj.drop:∀(n:Nat){zs:List α}{bs:List β},Bj R zs bs->Bj R (zs.drop n) (bs.drop n)
 |0,_,_,h=>h
 |_+1,[],[],_=>trivial
 |n+1,_::_,_::_,h=>Bj.drop n h.2
 |_+1,[],_::_,h=>h.elim
 |_+1,_::_,[],h=>h.elim
end
inductive A5 (w:World) (A:Nat->Prop):PV->Value->Prop where
 |sc (v:Value):A5 w A (.sc v) v
 |top (v:Value):A5 w A .top v
 |ub (b:Bool):A5 w A .ub (.bool b)
 |lnil (z:Bool) (es:Nat):A5 w A (.lst z es 0 []) (.slice none 0 0)
 |lemp (es:Nat) (a:Addr) (cap:Nat):A5 w A (.lst false es 0 []) (.slice (some a) 0 cap)
 |lst (es n:Nat) (cells:List PV) (a:Addr) (cap:Nat) (f:Nat->Value) (hs:a.spot=none) (hb:a.block<w.heap.size) (hA:¬A a.block) (hn:n<=cap)
   (hc:∀j c,cells[j]?=some c->w.cell? (a.add j)=some (f j)) (h1:∀j c,cells[j]?=some c->(f j).oneCell'=true) (hr:∀j c,cells[j]?=some c->A5 w A c (f j)):A5 w A (.lst false es n cells) (.slice (some a) n cap)
def bsz (w:World)(b:Nat):Nat:=
 match w.heap[b]? with
 |some (.cells c _ _)=>c.size
 |_=>0
def NQ (w:World)(A:Nat->Prop)(a:Addr)(cells:List PV):Prop:=∀j c,cells[j]?=some c->∃v,w.cell? (a.add j)=some v∧v.oneCell'=true∧A5 w A c v
def B9 (w:World)(A:Nat->Prop)(β:Nat->Option (Nat × Nat)) (p:PV)(v:Value):Prop:=
 match p with
 |.view id es off n=>(β id=none∧off=0∧n=0∧v=.slice none 0 0) ∨
   ∃b o x cap,β id=some (b,o)∧v=.slice (some ⟨b,x,none⟩) n cap∧(x=o+off∨(n=0∧off≠0))∧n<=cap∧x+cap*es<=bsz w b∧b<w.heap.size
 |.ptr id off=>∃b o,β id=some (b,o)∧v=.pointer (some ⟨b,o+off,none⟩)
 |.iptr c off=>∃a:Addr,v=.pointer (some (a.add off))∧a.spot=none∧a.block<w.heap.size∧¬A a.block∧NQ w A a c
 |p=>A5 w A p v
def Gl (w:World)(A:Nat->Prop)(β:Nat->Option (Nat × Nat)) (p:PV)(v:Value):Prop:=
 match p with
 |.agg cs=>∃vs,v=.agg ⟨vs⟩∧Bj (B9 w A β) cs vs
 |p=>B9 w A β p v
def Dp (w:World)(A:Nat->Prop)(β:Nat->Option (Nat × Nat)) (p:PV)(v:Value):Prop:=
 match p with
 |.tup ps=>∃vs,v=.tuple ⟨vs⟩∧Bj (Gl w A β) ps vs
 |p=>Gl w A β p v
structure B7 (A:Nat->Prop) (w w':World):Prop where
 size:w.heap.size<=w'.heap.size
 keep:∀b,b<w.heap.size->¬A b->w'.heap[b]?=w.heap[b]?
 bs:∀b,b<w.heap.size->bsz w b<=bsz w' b
theorem Fv (a:Addr)(j:Nat):(a.add j).block=a.block:=by unfold Addr.add;split<;>rfl
theorem add_add (a:Addr)(i j:Nat):(a.add i).add j=a.add (i+j):=by
 unfold Addr.add;by_cases hi:i=0<;>by_cases hj:j=0<;>simp [hi,hj,Nat.add_assoc]
theorem Dz (b o j:Nat):(⟨b,o,none⟩:Addr).add j=⟨b,o+j,none⟩:=by
 unfold Addr.add;by_cases hj:j=0<;>simp [hj]
theorem Afa {a:Addr}(h:a.spot=none)(j:Nat):(a.add j).spot=none:=by unfold Addr.add;split<;>simp [h]
section
variable {w w':World} {A A':Nat->Prop} {β β':Nat->Option (Nat × Nat)}
theorem B7.cell (h:B7 A w w'){a:Addr}(hb:a.block<w.heap.size)(hA:¬A a.block):w'.cell? a=w.cell? a:=
 World.cell?_of_block (h.keep a.block hb hA)
theorem A5.step (h:B7 A w w')(hA:∀b,b<w.heap.size->A' b->A b){p:PV}{v:Value}(t:A5 w A p v):A5 w' A' p v:=by
 induction t with
 |sc v=>exact .sc v
 |top v=>exact .top v
 |ub b=>exact .ub b
 |lnil z es=>exact .lnil z es
 |lemp es a cap=>exact .lemp es a cap
 |lst es n cells a cap f hs hb hA1 hn hc h1 hr ih=>
  refine .lst es n cells a cap f hs (Nat.lt_of_lt_of_le hb h.size) (fun x=>hA1 (hA _ hb x)) hn (fun j c hj=>?_) h1 (fun j c hj=>ih j c hj)
  rw [h.cell (by rw [Fv];exact hb) (by rw [Fv];exact hA1)]
  exact hc j c hj
theorem NQ.step (h:B7 A w w')(hA:∀b,b<w.heap.size->A' b->A b){a:Addr}(hb:a.block<w.heap.size)(hn:¬A a.block){cells:List PV}(t:NQ w A a cells):NQ w' A' a cells:=by
 intro j c hj;obtain ⟨v,hv,h1,ht⟩:=t j c hj;exact ⟨v,by rw [h.cell (by rw [Fv];exact hb) (by rw [Fv];exact hn)];exact hv,h1,ht.step h hA⟩
theorem B9.step (h:B7 A w w')(hA:∀b,b<w.heap.size->A' b->A b){p:PV}{v:Value}(hβ:∀id∈At p,β' id=β id)(t:B9 w A β p v):B9 w' A' β' p v:=by
 cases p with
 |view id es off n=>
  have e:=hβ id (by simp [At])
  rcases t with ⟨h1,h2,h3,h4⟩|⟨b,o,x,cap,h1,h2,hx,h3,h4,h5⟩
  ·exact .inl ⟨by rw [e];exact h1,h2,h3,h4⟩
  ·exact .inr ⟨b,o,x,cap,by rw [e];exact h1,h2,hx,h3,Nat.le_trans h4 (h.bs b h5),Nat.lt_of_lt_of_le h5 h.size⟩
 |ptr id off=>
  have e:=hβ id (by simp [At])
  obtain ⟨b,o,h1,h2⟩:=t;exact ⟨b,o,by rw [e];exact h1,h2⟩
 |iptr c off=>
  obtain ⟨a,h1,h2,h3,h4,h5⟩:=t;exact ⟨a,h1,h2,Nat.lt_of_lt_of_le h3 h.size,fun x=>h4 (hA _ h3 x),h5.step h hA h3 h4⟩
 |sc v=>exact A5.step h hA t
 |lst z es n c=>exact A5.step h hA t
 |own es n c=>exact A5.step h hA t
 |pbox c=>exact A5.step h hA t
 |agg c=>exact A5.step h hA t
 |tup c=>exact A5.step h hA t
 |top=>exact A5.step h hA t
 |ub=>exact A5.step h hA t
theorem Gl.step (h:B7 A w w')(hA:∀b,b<w.heap.size->A' b->A b){p:PV}{v:Value}(hβ:∀id∈Cb p,β' id=β id)(t:Gl w A β p v):Gl w' A' β' p v:=by
 cases p with
 |agg cs=>
  obtain ⟨vs,rfl,h2⟩:=t;exact ⟨vs,rfl,h2.mono_mem fun c hc v hv=>hv.step h hA fun id hid=>hβ id (by simp only [Cb,List.mem_flatMap];exact ⟨c,hc,hid⟩)⟩
 |sc x=>exact B9.step (p:=.sc x) h hA hβ t
 |lst x y z u=>exact B9.step (p:=.lst x y z u) h hA hβ t
 |own x y z=>exact B9.step (p:=.own x y z) h hA hβ t
 |view x y z u=>exact B9.step (p:=.view x y z u) h hA hβ t
 |ptr x y=>exact B9.step (p:=.ptr x y) h hA hβ t
 |iptr x y=>exact B9.step (p:=.iptr x y) h hA hβ t
 |pbox x=>exact B9.step (p:=.pbox x) h hA hβ t
 |tup x=>exact B9.step (p:=.tup x) h hA hβ t
 |top=>exact B9.step (p:=.top) h hA hβ t
 |ub=>exact B9.step (p:=.ub) h hA hβ t
theorem Dp.step (h:B7 A w w')(hA:∀b,b<w.heap.size->A' b->A b){p:PV}{v:Value}(hβ:∀id∈Bq p,β' id=β id)(t:Dp w A β p v):Dp w' A' β' p v:=by
 cases p with
 |tup cs=>
  obtain ⟨vs,rfl,h2⟩:=t;exact ⟨vs,rfl,h2.mono_mem fun c hc v hv=>hv.step h hA fun id hid=>hβ id (by simp only [Bq,List.mem_flatMap];exact ⟨c,hc,hid⟩)⟩
 |sc x=>exact Gl.step (p:=.sc x) h hA hβ t
 |lst x y z u=>exact Gl.step (p:=.lst x y z u) h hA hβ t
 |own x y z=>exact Gl.step (p:=.own x y z) h hA hβ t
 |view x y z u=>exact Gl.step (p:=.view x y z u) h hA hβ t
 |ptr x y=>exact Gl.step (p:=.ptr x y) h hA hβ t
 |iptr x y=>exact Gl.step (p:=.iptr x y) h hA hβ t
 |pbox x=>exact Gl.step (p:=.pbox x) h hA hβ t
 |top=>exact Gl.step (p:=.top) h hA hβ t
 |ub=>exact Gl.step (p:=.ub) h hA hβ t
 |agg x=>exact Gl.step (p:=.agg x) h hA hβ t
theorem B7.refl (A:Nat->Prop)(w:World):B7 A w w:=⟨Nat.le_refl _,fun _ _ _=>rfl,fun _ _=>Nat.le_refl _⟩
theorem NQ.weak (hA:∀b,b<w.heap.size->A' b->A b){a:Addr}{cells:List PV}(t:NQ w A a cells):NQ w A' a cells:=by
 intro j c hj;obtain ⟨v,hv,h1,ht⟩:=t j c hj;exact ⟨v,hv,h1,ht.step (B7.refl A w) hA⟩
theorem B7.trans {w'':World}(h:B7 A w w')(h':B7 A' w' w'')(hA:∀b,b<w.heap.size->A' b->A b):B7 A w w'':=
  ⟨Nat.le_trans h.size h'.size,fun b hb hn=>(h'.keep b (Nat.lt_of_lt_of_le hb h.size) (fun x=>hn (hA b hb x))).trans (h.keep b hb hn),
   fun b hb=>Nat.le_trans (h.bs b hb) (h'.bs b (Nat.lt_of_lt_of_le hb h.size))⟩
theorem B7.weaken (h:B7 A w w')(hA:∀b,b<w.heap.size->A b->A' b):B7 A' w w':=⟨h.size,fun b hb hn=>h.keep b hb (fun x=>hn (hA b hb x)),h.bs⟩
end
section
variable {R:Type} {r:R}
theorem Hn {k:IntKind}{p:PV}{K:Int->Option R}(h:Ad k p K=some r):∃n,p=.sc (.int k n)∧K n=some r:=by
 unfold Ad at h;split at h
 ·split at h
  ·rename_i hk;subst hk;exact ⟨_,rfl,h⟩
  ·cases h
 ·cases h
theorem Gi {p:PV}{K:Bool->Option R}(h:Bl p K=some r):∃b,p=.sc (.bool b)∧K b=some r:=by
 unfold Bl at h;split at h
 ·exact ⟨_,rfl,h⟩
 ·cases h
theorem F0 {p:PV}{K:ByteArray->Option R}(h:Co p K=some r):∃b,p=.sc (.string b)∧K b=some r:=by
 unfold Co at h;split at h
 ·exact ⟨_,rfl,h⟩
 ·cases h
theorem Dh {p:PV}{K:IntKind->Int->Option R}(h:Do p K=some r):∃k n,p=.sc (.int k n)∧K k n=some r:=by
 unfold Do at h;split at h
 ·exact ⟨_,_,rfl,h⟩
 ·cases h
theorem Aq {b:Bool}{K:Option R}(h:Ap b K=some r):b=true∧K=some r:=by
 unfold Ap at h;cases b
 ·cases h
 ·exact ⟨rfl,h⟩
theorem C8 {α:Type}{o:Option α}{K:α->Option R}(h:Ep o K=some r):∃a,o=some a∧K a=some r:=by
 unfold Ep at h;split at h
 ·exact ⟨_,rfl,h⟩
 ·cases h
theorem Bd {α:Type}{l:List α}{K:α->List α->Option R}(h:Ab l K=some r):∃a t,l=a::t∧K a t=some r:=by
 unfold Ab at h;split at h
 ·exact ⟨_,_,rfl,h⟩
 ·cases h
theorem Dn {α:Type}{l:List α}{K:Option R}(h:Ac l K=some r):l=[]∧K=some r:=by
 unfold Ac at h;split at h
 ·exact ⟨rfl,h⟩
 ·cases h
theorem Hr {p:PV}{K:List PV->Option R}(h:Cy p K=some r):∃c,p=.agg c∧K c=some r:=by
 unfold Cy at h;split at h
 ·exact ⟨_,rfl,h⟩
 ·cases h
theorem PK {p:PV}{K:List PV->Option R}(h:W6 p K=some r):∃c,p=.pbox c∧K c=some r:=by
 unfold W6 at h;split at h
 ·exact ⟨_,rfl,h⟩
 ·cases h
theorem RX {p:PV}{K:Value->Option R}(h:fnK p K=some r):∃f a b,p=.sc (.func f a b)∧K (.func f a b)=some r:=by
 unfold fnK at h;split at h
 ·exact ⟨_,_,_,rfl,h⟩
 ·cases h
theorem Ajs {p:PV}{K:FuncId->Option R}(h:fvK p K=some r):∃f,p=.sc (.func (.func f) #[] #[])∧K f=some r:=by
 unfold fvK at h;split at h
 ·rename_i f a b;cases hb:(a.isEmpty&&b.isEmpty)<;>rw [hb] at h
  ·cases h
  ·simp only [Bool.and_eq_true,Array.isEmpty_iff] at hb;rw [hb.1,hb.2];exact ⟨f,rfl,h⟩
 ·cases h
theorem ND {o:Option A0}{K:List PV->List (List PV)->Option R} (h:Ag o K=some r):∃v x,o=some ⟨v,x⟩∧K v x=some r:=by
 unfold Ag at h;split at h
 ·exact ⟨_,_,rfl,h⟩
 ·cases h
theorem Nu {b:Bool}{x y:Option R}(h:Bc b x y=some r):(b=true∧x=some r)∨(b=false∧y=some r):=by
 unfold Bc at h;cases b
 ·exact .inr ⟨rfl,h⟩
 ·exact .inl ⟨rfl,h⟩
theorem Gf {es:Nat}{p:PV}{K:Bool->Nat->List PV->Option R}(h:Fd es p K=some r):
  ∃z n c,K z n c=some r∧(p=.lst z es n c∨(p=.sc (.slice none 0 0)∧z=true∧n=0∧c=[])):=by
 unfold Fd at h;split at h
 ·rename_i z es' n c;cases hb:Nat.beq es' es
  ·rw [hb] at h;cases h
  ·rw [hb] at h;have:=Nat.eq_of_beq_eq_true hb;subst this;exact ⟨z,n,c,h,.inl rfl⟩
 ·exact ⟨true,0,[],h,.inr ⟨rfl,rfl,rfl,rfl⟩⟩
 ·cases h
def Xg:PV->Prop
 |.sc _=>True
 |.lst _ _ _ _=>True
 |_=>False
def MU:PV->Prop
 |.sc _=>True
 |.lst _ _ _ _=>True
 |.view _ _ _ _=>True
 |_=>False
theorem Tb {c:PV}(h:Xg c):MU c:=by
 cases c<;>first|trivial|exact h.elim
theorem Hz {c:PV}(h:Xg c):At c=[]:=by
 cases c<;>first|rfl|exact h.elim
variable {w:World} {A:Nat->Prop} {β:Nat->Option (Nat × Nat)}
theorem Me {c:PV}{v:Value}(h:Xg c):B9 w A β c v↔A5 w A c v:=by
 cases c<;>first|exact Iff.rfl|exact h.elim
theorem S2 {c:PV}{v:Value}(h:∀cs,c ≠ .agg cs):Gl w A β c v↔B9 w A β c v:=by
 cases c<;>first|exact Iff.rfl|exact absurd rfl (h _)
theorem Nm {c:PV}{v:Value}(h:∀cs,c ≠ .tup cs):Dp w A β c v↔Gl w A β c v:=by
 cases c<;>first|exact Iff.rfl|exact absurd rfl (h _)
theorem Y8 {c:PV}(h:Xg c)(cs:List PV):c ≠ .agg cs:=by rintro rfl;exact h
theorem Ab2 {c:PV}(h:Xg c)(cs:List PV):c ≠ .tup cs:=by rintro rfl;exact h
theorem A5.val {v u:Value}(h:A5 w A (.sc v) u):u=v:=by cases h;rfl
theorem Xm {es n:Nat}{z:Bool}{c:List PV}{p:PV}{v:Value}(h:p=.lst z es n c∨(p=.sc (.slice none 0 0)∧z=true∧n=0∧c=[])) (hv:B9 w A β p v):A5 w A (.lst z es n c) v:=by
 rcases h with rfl|⟨rfl,rfl,rfl,rfl⟩
 ·exact hv
 ·have:=A5.val (w:=w) (A:=A) hv;subst this;exact .lnil true es
theorem Nl {t:CT}{p:PV}{K:PV->Option R}(h:CK t p K=some r):
  ∃c,K c=some r∧Xg c∧Xg p∧∀(w:World) (A:Nat->Prop) (β:Nat->Option (Nat × Nat)) (v:Value),B9 w A β p v->A5 w A c v∧v.oneCell'=true:=by
 cases t with
 |int k=>obtain ⟨n,rfl,h2⟩:=Hn h;exact ⟨_,h2,trivial,trivial,fun w A β v hv=>⟨hv,by have:=A5.val (w:=w) (A:=A) hv;subst this;rfl⟩⟩
 |bool=>obtain ⟨n,rfl,h⟩:=Gi h;exact ⟨_,h,trivial,trivial,fun w A β v hv=>⟨hv,by have:=A5.val (w:=w) (A:=A) hv;subst this;rfl⟩⟩
 |str=>obtain ⟨n,rfl,h⟩:=F0 h;exact ⟨_,h,trivial,trivial,fun w A β v hv=>⟨hv,by have:=A5.val (w:=w) (A:=A) hv;subst this;rfl⟩⟩
 |sl es=>
  obtain ⟨z,n,c,h,hp⟩:=Gf h;refine ⟨_,h,trivial,?_,fun w A β v hv=>⟨Xm hp hv,?_⟩⟩
  ·rcases hp with rfl|⟨rfl,_⟩<;>trivial
  ·have ht:=Xm hp hv;cases ht<;>rfl
 |any=>
  obtain ⟨f,a,b,rfl,h2⟩:=RX (show fnK p (fun v=>K (.sc v))=some r from h)
  exact ⟨_,h2,trivial,trivial,fun w A β v hv=>⟨hv,by have:=A5.val (w:=w) (A:=A) hv;subst this;rfl⟩⟩
theorem Akh {t:CT}{p:PV}{K:PV->Option R}(h:fcK t p K=some r):
  ∃c,K c=some r∧(Xg c∨c=p)∧MU p∧p ≠ .top∧(∀cs,c ≠ .agg cs)∧(∀cs,c ≠ .tup cs)∧(∀id,id∈At c->id∈At p)∧∀(w:World) (A:Nat->Prop) (β:Nat->Option (Nat × Nat)) (v:Value),B9 w A β p v->B9 w A β c v∧v.oneCell'=true:=by
 have tree:∀t',CK t' p K=some r->∃c,K c=some r∧(Xg c∨c=p)∧MU p∧p ≠ .top∧(∀cs,c ≠ .agg cs)∧(∀cs,c ≠ .tup cs)∧(∀id,id∈At c->id∈At p)∧∀(w:World) (A:Nat->Prop) (β:Nat->Option (Nat × Nat)) (v:Value),B9 w A β p v->B9 w A β c v∧v.oneCell'=true:=by
  intro t' h;obtain ⟨c,h,hc,hp,hv⟩:=Nl h;exact ⟨c,h,.inl hc,Tb hp,by rintro rfl;exact hp,Y8 hc,Ab2 hc,by rw [Hz hc];simp,fun w A β v h=>⟨(Me hc).2 (hv w A β v h).1,(hv w A β v h).2⟩⟩
 cases t with
 |sl es=>
  unfold fcK fsK at h;dsimp only at h;split at h
  ·rename_i id es' off n;cases hb:Nat.beq es' es
   ·rw [hb] at h;cases h
   ·rw [hb] at h;have:=Nat.eq_of_beq_eq_true hb;subst this;exact ⟨_,h,.inr rfl,trivial,by simp,by simp,by simp,fun _ h=>h,fun _ _ _ _ h=>⟨h,by rcases h with ⟨_,_,_,rfl⟩|⟨_,_,_,_,_,rfl,_⟩<;>rfl⟩⟩
  ·exact tree (.sl es) h
 |int k=>exact tree (.int k) h
 |bool=>exact tree (.bool) h
 |str=>exact tree (.str) h
 |any=>exact tree (.any) h
theorem EK {cells:List PV}{i:Nat}{p:PV}(h:cells.getD i .top=p)(hp:p ≠ .top):cells[i]?=some p:=by
 rw [List.getD_eq_getElem?_getD] at h;cases hc:cells[i]? with
 |none=>rw [hc] at h;exact absurd h.symm hp
 |some q=>rw [hc] at h;simp at h;rw [h]
theorem Ul:∀{ts:List CT}{cells:List PV}{off:Nat}{K:List PV->Option R},Vf ts cells off K=some r ->
  ∃cs,K cs=some r∧cs.length=ts.length∧∀j c,cs[j]?=some c->Xg c∧∃p,cells[off+j]?=some p∧Xg p ∧
   ∀(w:World) (A:Nat->Prop) (β:Nat->Option (Nat × Nat)) (v:Value),B9 w A β p v->A5 w A c v∧v.oneCell'=true
 |[],_,_,_,h=>⟨[],h,rfl,fun j c hj=>by simp at hj⟩
 |t::ts,cells,off,K,h=>by
  unfold Vf at h;obtain ⟨c,h,hc,hp,hv⟩:=Nl h;obtain ⟨cs,h,hl,hcs⟩:=Ul h;refine ⟨c::cs,h,by simp [hl],fun j c' hj=>?_⟩
  cases j with
  |zero=>
   simp at hj;subst hj;refine ⟨hc,cells.getD off .top,EK rfl ?_,hp,hv⟩;intro e;rw [e] at hp;exact hp
  |succ j=>
   simp at hj;have:=hcs j c' hj
   rwa [Nat.add_right_comm,Nat.add_assoc] at this
theorem Uj:∀{ts:List CT}{cells:List PV}{off:Nat}{K:List PV->Option R},Qr ts cells off K=some r ->
  ∃cs,K cs=some r∧cs.length=ts.length∧(∀c∈cs,(∀x,c ≠ .agg x)∧(∀x,c ≠ .tup x))∧∀j c,cs[j]?=some c->∃p,cells[off+j]?=some p∧MU p∧(∀id,id∈At c->id∈At p) ∧
   ∀(w:World) (A:Nat->Prop) (β:Nat->Option (Nat × Nat)) (v:Value),B9 w A β p v->B9 w A β c v∧v.oneCell'=true
 |[],_,_,_,h=>⟨[],h,rfl,by simp,fun j c hj=>by simp at hj⟩
 |t::ts,cells,off,K,h=>by
  unfold Qr at h;obtain ⟨c,h,hc,hf,hp,ha,ht,hr,hv⟩:=Akh h;obtain ⟨cs,h,hl,hna,hcs⟩:=Uj h;refine ⟨c::cs,h,by simp [hl],?_,fun j c' hj=>?_⟩
  ·intro x hx;rcases List.mem_cons.1 hx with rfl|hx
   ·exact ⟨ha,ht⟩
   ·exact hna x hx
  ·cases j with
   |zero=>
    simp at hj;subst hj;exact ⟨cells.getD off .top,EK rfl hp,hf,hr,hv⟩
   |succ j=>
    simp at hj;have:=hcs j c' hj
    rwa [Nat.add_right_comm,Nat.add_assoc] at this
theorem PX {agg:Bool}{cells:List PV}{K:PV->Option R}(h:mkV agg cells K=some r):
  (agg=true∧K (.agg cells)=some r)∨(agg=false∧∃c,cells=[c]∧K c=some r):=by
 unfold mkV at h;cases agg
 ·obtain ⟨c,t,rfl,h⟩:=Bd h;obtain ⟨rfl,h⟩:=Dn h;exact .inr ⟨rfl,c,rfl,h⟩
 ·exact .inl ⟨rfl,h⟩
end
open Go.RowKit
def Cd (b:Option Bk):Prop:=
 match b with
 |some (.st _)=>True
 |some (.ar false _)=>True
 |_=>False
abbrev Bt:=Nat->Option (Nat × Nat)
def Ze (hp:Nat->Option Bk)(β:Bt)(b:Nat):Prop:=∃id o,Cd (hp id)∧β id=some (b,o)
def Cw (hp:Nat->Option Bk)(β:Bt)(Y:Nat->Prop)(b:Nat):Prop:=Ze hp β b∨Y b
def Rj (w:World)(A:Nat->Prop)(β:Bt)(id:Nat)(bx:Bk):Prop:=
 match bx with
 |.st cells=>∃b o,β id=some (b,o)∧(∀j c,cells[j]?=some c->∃v,w.cell? ⟨b,o+j,none⟩=some v∧B9 w A β c v)∧∀j,j<cells.length->w.frozen? ⟨b,o+j,none⟩=false
 |.ar fz cells=>(β id=none∧cells=[])∨∃b o,β id=some (b,o)∧NQ w A ⟨b,o,none⟩ cells∧(fz=false->∀j,o<=j->j<bsz w b->w.frozen? ⟨b,j,none⟩=false)∧(fz=true->¬A b)
 |.mv=>True
structure E5 where
 X:Nat->Prop
 L:Nat->Nat->Prop
 pn:Nat->Prop
 pt:Nat->Option (Nat × Nat)
 p8:∀i,pn i->i<8
def BR (bx:Bk)(o j:Nat):Prop:=
 match bx with
 |.st c=>o<=j∧j<o+c.length
 |.ar _ _=>o<=j
 |.mv=>False
structure Fr (X0:E5) (w0 w:World):Prop where
 os:w.os=w0.os
 tape:w.tape=w0.tape
 output:w.output=w0.output
 step:B7 X0.X w0 w
 rng:∀b j,b<w0.heap.size->¬X0.L b j->w.cell? ⟨b,j,none⟩=w0.cell? ⟨b,j,none⟩∧w.frozen? ⟨b,j,none⟩=w0.frozen? ⟨b,j,none⟩
structure Bu (N:Nat) (w0:World) (X0:E5) (Y:Nat->Prop) (β:Bt) (s:St) (a:Act) (w:World):Prop where
 dfr:a.defers=[]
 tsz:a.tmps.size=N
 tmo:∀i,N<=i->s.tm i=.top
 tms:∀i,i<N->Dp w (Cw s.hp β Y) β (s.tm i) (a.tmps.getD i undef)
 box:∀id b,s.hp id=some b->Rj w (Cw s.hp β Y) β id b
 inj:∀id id' b o o',Cd (s.hp id)->Cd (s.hp id')->β id=some (b,o)->β id'=some (b,o')->id=id'
 blt:∀id b o,s.hp id≠none->β id=some (b,o)->b<w.heap.size
 wfT:∀i,i<N->∀id∈Bq (s.tm i),s.hp id≠none
 wfB:∀id cells,s.hp id=some (.st cells)->∀c∈cells,∀id'∈At c,s.hp id'≠none
 ownd:∀b,Ze s.hp β b->X0.X b∨w0.heap.size<=b
 rngB:∀id bx b o,s.hp id=some bx->Cd (some bx)->β id=some (b,o)->b<w0.heap.size->∀j,BR bx o j->X0.L b j
 pin:∀i,X0.pn i->s.hp (C2 N i)≠none∧β (C2 N i)=X0.pt i
 stp:∀id c b o,s.hp id=some (.st c)->β id=some (b,o)->b<w0.heap.size->∃i,id=C2 N i∧X0.pn i
 Yx:∀b,Y b->¬Ze s.hp β b
 Ylt:∀b,Y b->b<w0.heap.size
 fr:Fr X0 w0 w
theorem Cv {b:Option Bk}(h:Cd b):b≠none:=by rintro rfl;exact h
theorem As {α:Type}(f:Nat->α)(i:Nat)(v:α):Ct f i v i=v:=by simp [Ct,Nat.beq_refl]
theorem Ao {α:Type}(f:Nat->α){i j:Nat}(v:α)(h:j≠i):Ct f i v j=f j:=by
 have:Nat.beq j i=false:=by
  cases hb:Nat.beq j i
  ·rfl
  ·exact absurd (Nat.eq_of_beq_eq_true hb) h
 simp [Ct,this]
theorem Zu {α:Type}(f:Nat->α){i:Nat}{v:α}(h:f i=v):Ct f i v=f:=by
 funext j
 by_cases e:j=i
 ·subst e;rw [As];exact h.symm
 ·exact Ao f v e
theorem TG {α:Type}(f:Nat->α){i j:Nat}(u v:α)(h:i≠j):Ct (Ct f i u) j v=Ct (Ct f j v) i u:=by
 funext k
 by_cases e:k=j
 ·subst e;rw [As,Ao _ _ (Ne.symm h),As]
 ·rw [Ao _ _ e];by_cases e':k=i
  ·subst e';rw [As,As]
  ·rw [Ao _ _ e',Ao _ _ e',Ao _ _ e]
theorem MO {a:Act}{d:Nat}{v:Value}(h:d<a.tmps.size):(a.put (some d) v).tmps.getD d undef=v:=by
 simp [Act.put,h]
theorem LJ {a:Act}{d i:Nat}{v:Value}(h:i≠d):(a.put (some d) v).tmps.getD i undef=a.tmps.getD i undef:=by
 have h':d≠i:=fun e=>h e.symm
 simp [Act.put,Array.getElem?_setIfInBounds_ne h']
section
variable {N:Nat} {w0:World} {X0:E5} {Y:Nat->Prop} {β β':Bt} {s:St} {a:Act} {w w':World}
theorem Ie (d:Option Tmp)(v:Value):(a.put d v).tmps.size=a.tmps.size:=by cases d<;>simp [Act.put]
theorem Kr (d:Option Tmp)(v:Value):(a.put d v).defers=a.defers:=by cases d<;>rfl
theorem Qy {d:Option Tmp}(h:Gu N d=true){i:Nat}(e:d=some i):i<N:=by
 subst e;exact Nat.lt_of_succ_le (Nat.le_of_ble_eq_true h)
theorem Qf {Q:Nat->PV->Value->Prop}{tm:Nat->PV}{d:Option Tmp}{v:PV}{val:Value}(hN:a.tmps.size=N)(hd:Gu N d=true)
  (h:∀i,i<N->Q i (tm i) (a.tmps.getD i undef)) (hv:∀i,Q i v val):∀i,i<N->Q i (Bn tm d v i) ((a.put d val).tmps.getD i undef):=by
 intro i hi;cases d with
 |none=>exact h i hi
 |some d=>
  have hlt:=Qy hd rfl;by_cases e:i=d
  ·subst e;show Q i (Ct tm i v i) _;rw [As,MO (by omega)]
   exact hv i
  ·show Q i (Ct tm d v i) _;rw [Ao _ _ e,LJ e];exact h i hi
theorem SL {tm:Nat->PV}{d:Option Tmp}{v:PV}(hd:Gu N d=true)(h:∀i,N<=i->tm i=.top):∀i,N<=i->Bn tm d v i=.top:=by
 intro i hi;cases d with
 |none=>exact h i hi
 |some d=>
  have:=Qy hd rfl;show Ct tm d v i=_;rw [Ao _ _ (by omega)]
  exact h i hi
theorem Bu.put (h:Bu N w0 X0 Y β s a w){d:Option Tmp}{v:PV}{val:Value}(hd:Gu N d=true)(hv:Dp w (Cw s.hp β Y) β v val) (hr:∀id∈Bq v,s.hp id≠none):
  Bu N w0 X0 Y β ⟨Bn s.tm d v,s.hp⟩ (a.put d val) w where
 dfr:=by rw [Kr];exact h.dfr
 tsz:=by rw [Ie];exact h.tsz
 tmo:=SL hd h.tmo
 tms:=Qf (Q:=fun _ p u=>Dp w (Cw s.hp β Y) β p u) h.tsz hd h.tms (fun _=>hv)
 box:=h.box
 inj:=h.inj
 blt:=h.blt
 wfT:=by
  have:=Qf (Q:=fun _ p _=>∀id∈Bq p,s.hp id≠none) (val:=val) h.tsz hd h.wfT (fun _=>hr)
  exact this
 wfB:=h.wfB
 ownd:=h.ownd
 rngB:=h.rngB
 pin:=h.pin
 stp:=h.stp
 Yx:=h.Yx
 Ylt:=h.Ylt
 fr:=h.fr
theorem B6 (hp:Nat->Option Bk)(ids:List Nat)(i:Nat):Ah hp ids i=if i∈ids then (hp i).map Vq else hp i:=by
 unfold Ah;by_cases hi:i∈ids
 ·have:ids.any (Nat.beq i)=true:=List.any_eq_true.2 ⟨i,hi,Nat.beq_refl i⟩;rw [this,if_pos hi];rfl
 ·have:ids.any (Nat.beq i)=false:=by
   cases hb:ids.any (Nat.beq i)
   ·rfl
   ·obtain ⟨j,hj,e⟩:=List.any_eq_true.1 hb;exact absurd (Nat.eq_of_beq_eq_true e ▸ hj) hi
  rw [this,if_neg hi];rfl
theorem D7 {hp:Nat->Option Bk}{ids:List Nat}{i:Nat}:Ah hp ids i=none↔hp i=none:=by
 rw [B6];split<;>simp
theorem Pp {hp:Nat->Option Bk}{ids:List Nat}{i:Nat}(h:Cd (Ah hp ids i)):Cd (hp i):=by
 rw [B6] at h;split at h
 ·cases hb:hp i with
  |none=>rw [hb] at h;exact h
  |some b=>cases b with
   |st c=>trivial
   |ar fz c=>rw [hb] at h;exact h.elim
   |mv=>rw [hb] at h;exact h
 ·exact h
theorem I1 {hp:Nat->Option Bk}{ids:List Nat}{i:Nat}{bx:Bk}(h:Ah hp ids i=some bx)(hl:Cd (some bx)):hp i=some bx:=by
 rw [B6] at h;split at h
 ·cases hb:hp i with
  |none=>rw [hb] at h;cases h
  |some b=>
   rw [hb] at h;cases b with
   |st c=>exact h
   |ar fz c=>simp only [Option.map_some,Vq,Option.some.injEq] at h;subst h;exact hl.elim
   |mv=>simp only [Option.map_some,Vq,Option.some.injEq] at h;subst h;exact hl.elim
 ·exact h
theorem Q7 {hp:Nat->Option Bk}{ids:List Nat}{b:Nat}(h:Ze (Ah hp ids) β b):Ze hp β b:=by
 obtain ⟨id,o,hl,hb⟩:=h;exact ⟨id,o,Pp hl,hb⟩
theorem Rj.step' {A A':Nat->Prop}{id:Nat}{bx:Bk}(hA:∀b,A' b->A b)(h:Rj w A β id bx):Rj w A' β id bx:=by
 have hs:=B7.refl A w;cases bx with
 |st c=>
  obtain ⟨b,o,h1,h2,h3⟩:=h;exact ⟨b,o,h1,fun j c hj=>let ⟨v,hv,hc⟩:=h2 j c hj;⟨v,hv,hc.step hs (fun b _=>hA b) (fun _ _=>rfl)⟩,h3⟩
 |ar fz c=>
  rcases h with h|⟨b,o,h1,h2,h3,h4⟩
  ·exact .inl h
  ·exact .inr ⟨b,o,h1,h2.weak (fun b _=>hA b),h3,fun e x=>h4 e (hA b x)⟩
 |mv=>trivial
theorem Bu.freeze (h:Bu N w0 X0 Y β s a w){fz:List Nat}(hfz:∀id∈fz,∃f c,s.hp id=some (.ar f c)):Bu N w0 X0 Y β ⟨s.tm,Ah s.hp fz⟩ a w:=by
 have hA:∀b,Cw (Ah s.hp fz) β Y b->Cw s.hp β Y b:=fun b hb=>hb.imp Q7 id
 refine ⟨h.dfr,h.tsz,h.tmo,fun i hi=>(h.tms i hi).step (B7.refl _ _) (fun b _=>hA b) (fun _ _=>rfl),fun id b hb=>?_,fun id id' b o o' h1 h2=>h.inj id id' b o o' (Pp h1) (Pp h2),
  fun id b o hn=>h.blt id b o (fun e=>hn (D7.2 e)),fun i hi id hid e=>h.wfT i hi id hid (D7.1 e),fun id cells hc c hcm id' hid e=>?_,fun b hb=>h.ownd b (Q7 hb),
  fun id bx b o hb hl=>h.rngB id bx b o (I1 hb hl) hl,fun i hi=>⟨fun e=>(h.pin i hi).1 (D7.1 e),(h.pin i hi).2⟩,fun id c b o hc=>h.stp id c b o (I1 hc trivial),fun b hb x=>h.Yx b hb (Q7 x),h.Ylt,h.fr⟩
 ·simp only at hb;rw [B6] at hb;split at hb
  ·rename_i hm;obtain ⟨f,c,hc⟩:=hfz id hm;rw [hc] at hb;simp only [Option.map_some,Vq,Option.some.injEq] at hb;subst hb;have hbx:=h.box id _ hc;rcases hbx with hbx|⟨b,o,h1,h2,h3,h4⟩
   ·exact .inl hbx
   ·refine .inr ⟨b,o,h1,h2.weak (fun b _=>hA b),(fun e=>by cases e),fun _ hb=>?_⟩
    rcases hb with ⟨id',o',hl,hb⟩|hY
    ·have hl0:=Pp hl;cases f with
     |true=>exact h4 rfl (.inl ⟨id',o',hl0,hb⟩)
     |false=>
      have e:=h.inj id' id b o' o hl0 (by rw [hc];trivial) hb h1
      subst e;simp only at hl;rw [B6,if_pos hm,hc] at hl;exact hl
    ·cases f with
     |true=>exact h4 rfl (.inr hY)
     |false=>exact h.Yx b hY ⟨id,o,by rw [hc];trivial,h1⟩
  ·exact (h.box id b hb).step' hA
 ·simp only at hc;rw [B6] at hc;refine h.wfB id cells ?_ c hcm id' hid (D7.1 e);split at hc
  ·rename_i hm;obtain ⟨f,c,hc'⟩:=hfz id hm;rw [hc'] at hc;cases hc
  ·exact hc
theorem Bo:∀{nw:List (Nat × Bk)} {hp:Nat->Option Bk},B3 hp nw=true ->
  (∀id bx,(id,bx)∈nw->hp id=none)∧(∀id bx bx',(id,bx)∈nw->(id,bx')∈nw->bx=bx')
 |[],_,_=>⟨by simp,by simp⟩
 |(i,b)::r,hp,h=>by
  simp only [B3,Bool.and_eq_true,Option.isNone_iff_eq_none,Bool.not_eq_true'] at h;obtain ⟨⟨h1,h2⟩,h3⟩:=h;obtain ⟨h4,h5⟩:=Bo h3
  have hne:∀bx,(i,bx) ∉ r:=by
   intro bx hm;have:r.any (fun q=>Nat.beq q.1 i)=true:=List.any_eq_true.2 ⟨_,hm,Nat.beq_refl i⟩
   rw [this] at h2;cases h2
  refine ⟨fun id bx hm=>?_,fun id bx bx' hm hm'=>?_⟩
  ·rcases List.mem_cons.1 hm with e|hm
   ·cases e;exact h1
   ·exact h4 id bx hm
  ·rcases List.mem_cons.1 hm with e|hm
   ·cases e;rcases List.mem_cons.1 hm' with e|hm'
    ·cases e;rfl
    ·exact absurd hm' (hne _)
   ·rcases List.mem_cons.1 hm' with e|hm'
    ·cases e;exact absurd hm (hne _)
    ·exact h5 id bx bx' hm hm'
theorem Ei:∀{nw:List (Nat × Bk)} {hp:Nat->Option Bk},(∀id bx bx',(id,bx)∈nw->(id,bx')∈nw->bx=bx') ->
  (∀id bx,(id,bx)∈nw->Az hp nw id=some bx)∧(∀id,(∀bx,(id,bx) ∉ nw)->Az hp nw id=hp id)
 |[],_,_=>⟨by simp,fun _ _=>rfl⟩
 |(i,b)::r,hp,h=>by
  obtain ⟨h1,h2⟩:=Ei (nw:=r) (hp:=Ct hp i (some b)) (fun id bx bx' hm hm'=>h id bx bx' (by simp [hm]) (by simp [hm']))
  refine ⟨fun id bx hm=>?_,fun id hn=>?_⟩
  ·by_cases hr:∃bx',(id,bx')∈r
   ·obtain ⟨bx',hr⟩:=hr;have:=h id bx bx' hm (by simp [hr])
    subst this;exact h1 id bx hr
   ·rcases List.mem_cons.1 hm with e|hm
    ·cases e;show Az (Ct hp i (some b)) r i=_;rw [h2 i (fun bx' hb=>hr ⟨bx',hb⟩),As]
    ·exact absurd ⟨bx,hm⟩ hr
  ·show Az (Ct hp i (some b)) r id=_;rw [h2 id (fun bx hb=>hn bx (by simp [hb])),Ao]
   rintro rfl
   exact hn b (by simp)
structure OM (Y:Nat->Prop) (β:Bt) (s:St) (w:World) (v:PV) (nw:List (Nat × Bk)) (val:Value) (w':World) (β':Bt):Prop where
 os:w'.os=w.os
 tape:w'.tape=w.tape
 output:w'.output=w.output
 ext:B7 (fun _=>False) w w'
 old:∀id,s.hp id≠none->β' id=β id
 nlive:∀id bx,(id,bx)∈nw->Cd (some bx)
 nbox:∀id bx,(id,bx)∈nw->Rj w' (Cw (Az s.hp nw) β' Y) β' id bx
 nblk:∀id bx b o,(id,bx)∈nw->β' id=some (b,o)->w.heap.size<=b∧b<w'.heap.size
 ninj:∀id bx id' bx' b o o',(id,bx)∈nw->(id',bx')∈nw->β' id=some (b,o)->β' id'=some (b,o')->id=id'
 nwf:∀id cells,(id,.st cells)∈nw->∀c∈cells,∀id'∈At c,s.hp id'≠none∨∃bx,(id',bx)∈nw
 val:Dp w' (Cw (Az s.hp nw) β' Y) β' v val
 vwf:∀id∈Bq v,s.hp id≠none∨∃bx,(id,bx)∈nw
theorem Bu.stepR (h:Bu N w0 X0 Y β s a w){d:Option Tmp}{v:PV}{nw:List (Nat × Bk)} {val:Value}(hd:Gu N d=true)(hab:B3 s.hp nw=true)
  (st:OM Y β s w v nw val w' β'):Bu N w0 X0 Y β' ⟨Bn s.tm d v,Az s.hp nw⟩ (a.put d val) w':=by
 obtain ⟨ha1,ha2⟩:=Bo hab;obtain ⟨hg1,hg2⟩:=Ei (hp:=s.hp) ha2
 have hcase:∀id,(∃bx,(id,bx)∈nw)∨Az s.hp nw id=s.hp id:=fun id=>by
  by_cases hx:∃bx,(id,bx)∈nw
  ·exact .inl hx
  ·exact .inr (hg2 id fun bx hb=>hx ⟨bx,hb⟩)
 have hpres:∀id,s.hp id≠none->Az s.hp nw id=s.hp id:=fun id hn=>by
  rcases hcase id with ⟨bx,hx⟩|e
  ·exact absurd (ha1 id bx hx) hn
  ·exact e
 have hnn:∀id,(s.hp id≠none∨∃bx,(id,bx)∈nw)->Az s.hp nw id≠none:=by
  rintro id (hn|⟨bx,hx⟩)
  ·rw [hpres id hn];exact hn
  ·rw [hg1 id bx hx];simp
 have hXold:∀b,b<w.heap.size->Ze (Az s.hp nw) β' b->Ze s.hp β b:=by
  rintro b hb ⟨id,o,hl,hβ⟩
  rcases hcase id with ⟨bx,hx⟩|e
  ·have:=(st.nblk id bx b o hx hβ).1;omega
  ·rw [e] at hl;exact ⟨id,o,hl,by rw [←st.old id (Cv hl)];exact hβ⟩
 have hAold:∀b,b<w.heap.size->Cw (Az s.hp nw) β' Y b->Cw s.hp β Y b:=fun b hb hA=>hA.imp (hXold b hb) id
 have hstep:B7 (Cw s.hp β Y) w w':=st.ext.weaken (fun _ _ x=>x.elim)
 refine ⟨by rw [Kr];exact h.dfr,by rw [Ie];exact h.tsz,SL hd h.tmo,?_,?_,?_,?_,?_,?_,?_,?_,?_,?_,?_,h.Ylt,?_⟩
 ·refine Qf (Q:=fun _ p u=>Dp w' (Cw (Az s.hp nw) β' Y) β' p u) h.tsz hd (fun i hi=>?_) (fun _=>st.val)
  exact (h.tms i hi).step hstep hAold fun id hid=>st.old id (h.wfT i hi id hid)
 ·intro id b hb;simp only at hb;rcases hcase id with ⟨bx,hx⟩|e
  ·rw [hg1 id bx hx] at hb;cases hb;exact st.nbox id _ hx
  ·rw [e] at hb;have hβ:=st.old id (by rw [hb];simp)
   have hbx:=h.box id b hb;have hlt:=h.blt id;have hne:s.hp id≠none:=by rw [hb];simp
   cases b with
   |st c=>
    obtain ⟨b,o,h1,h2,h3⟩:=hbx;have hb':=hlt b o hne h1;have hbl:=st.ext.keep b hb' (fun x=>x)
    refine ⟨b,o,by rw [hβ];exact h1,fun j c hj=>?_,fun j hj=>?_⟩
    ·obtain ⟨v,hv,hc⟩:=h2 j c hj;refine ⟨v,by rw [World.cell?_of_block (w:=w) hbl];exact hv,hc.step hstep hAold fun id' hid=>st.old id' ?_⟩
     exact h.wfB id _ hb c (List.mem_of_getElem? hj) id' hid
    ·rw [World.frozen?_of_block (w:=w) hbl];exact h3 j hj
   |ar fz c=>
    rcases hbx with ⟨h1,h2⟩|⟨b,o,h1,h2,h3,h4⟩
    ·exact .inl ⟨by rw [hβ];exact h1,h2⟩
    ·have hb':=hlt b o hne h1;have hbl:=st.ext.keep b hb' (fun x=>x)
     have hbs:bsz w' b=bsz w b:=by unfold bsz;rw [hbl]
     refine .inr ⟨b,o,by rw [hβ];exact h1,fun j c hj=>?_,fun e j hj hj'=>?_,fun e x=>h4 e (hAold b hb' x)⟩
     ·obtain ⟨v,hv,h5,hc⟩:=h2 j c hj;exact ⟨v,by rw [World.cell?_of_block (w:=w) (by rw [Fv];exact hbl)];exact hv,h5,hc.step hstep hAold⟩
     ·rw [World.frozen?_of_block (w:=w) hbl];exact h3 e j hj (by rw [←hbs];exact hj')
   |mv=>trivial
 ·intro id id' b o o' hl hl' hb hb';simp only at hl hl';rcases hcase id with ⟨bx,hx⟩|e
  ·rcases hcase id' with ⟨bx',hx'⟩|e'
   ·exact st.ninj id bx id' bx' b o o' hx hx' hb hb'
   ·rw [e'] at hl';have h1:=(st.nblk id bx b o hx hb).1;have h2:=h.blt id' b o' (Cv hl') (by rw [←st.old id' (Cv hl')];exact hb')
    omega
  ·rw [e] at hl;rcases hcase id' with ⟨bx',hx'⟩|e'
   ·have h1:=(st.nblk id' bx' b o' hx' hb').1;have h2:=h.blt id b o (Cv hl) (by rw [←st.old id (Cv hl)];exact hb)
    omega
   ·rw [e'] at hl';exact h.inj id id' b o o' hl hl' (by rw [←st.old id (Cv hl)];exact hb) (by rw [←st.old id' (Cv hl')];exact hb')
 ·intro id b o hn hb;simp only at hn;rcases hcase id with ⟨bx,hx⟩|e
  ·exact (st.nblk id bx b o hx hb).2
  ·rw [e] at hn;exact Nat.lt_of_lt_of_le (h.blt id b o hn (by rw [←st.old id hn];exact hb)) st.ext.size
 ·have:=Qf (Q:=fun _ p _=>∀id∈Bq p,Az s.hp nw id≠none) (val:=val) (d:=d) (v:=v) h.tsz hd (fun i hi id hid=>hnn id (.inl (h.wfT i hi id hid))) (fun _ id hid=>hnn id (st.vwf id hid))
  exact this
 ·intro id cells hc c hcm id' hid;simp only at hc;rcases hcase id with ⟨bx,hx⟩|e
  ·rw [hg1 id bx hx] at hc;cases hc;exact hnn id' (st.nwf id _ hx c hcm id' hid)
  ·rw [e] at hc;exact hnn id' (.inl (h.wfB id cells hc c hcm id' hid))
 ·rintro b ⟨id,o,hl,hb⟩
  simp only at hl;rcases hcase id with ⟨bx,hx⟩|e
  ·exact .inr (Nat.le_trans h.fr.step.size (st.nblk id bx b o hx hb).1)
  ·rw [e] at hl;exact h.ownd b ⟨id,o,hl,by rw [←st.old id (Cv hl)];exact hb⟩
 ·intro id bx b o hb hl hβ hlt;simp only at hb;rcases hcase id with ⟨bx',hx⟩|e
  ·have:=(st.nblk id bx' b o hx hβ).1;have:=h.fr.step.size;omega
  ·rw [e] at hb;exact h.rngB id bx b o hb hl (by rw [←st.old id (by rw [hb];simp)];exact hβ) hlt
 ·intro i hi;obtain ⟨h1,h2⟩:=h.pin i hi;exact ⟨hnn _ (.inl h1),by rw [st.old _ h1];exact h2⟩
 ·intro id c b o hb hβ hlt;simp only at hb;rcases hcase id with ⟨bx',hx⟩|e
  ·have:=(st.nblk id bx' b o hx hβ).1;have:=h.fr.step.size;omega
  ·rw [e] at hb;exact h.stp id c b o hb (by rw [←st.old id (by rw [hb];simp)];exact hβ) hlt
 ·rintro b hY hX
  have hb:b<w.heap.size:=Nat.lt_of_lt_of_le (h.Ylt b hY) h.fr.step.size;exact h.Yx b hY (hXold b hb hX)
 ·refine ⟨st.os.trans h.fr.os,st.tape.trans h.fr.tape,st.output.trans h.fr.output,h.fr.step.trans st.ext (fun _ _ x=>x.elim),fun b j hb hL=>?_⟩
  have hbl:=st.ext.keep b (Nat.lt_of_lt_of_le hb h.fr.step.size) (fun x=>x)
  have hc:w'.cell? ⟨b,j,none⟩=w.cell? ⟨b,j,none⟩:=World.cell?_of_block (w:=w) hbl;have hf:w'.frozen? ⟨b,j,none⟩=w.frozen? ⟨b,j,none⟩:=World.frozen?_of_block (w:=w) hbl;rw [hc,hf];exact h.fr.rng b j hb hL
end
open Go.RowKit
section
variable {P:Program} {N:Nat} {w0:World} {X0:E5} {Y:Nat->Prop} {β β':Bt} {s:St} {a:Act} {w w':World} {o:Oper}
theorem VC (cs:List Value)(A:Nat->Prop):Bj (B9 w A β) (cs.map PV.sc) cs:=by
 induction cs with
 |nil=>trivial
 |cons v r ih=>exact ⟨A5.sc v,ih⟩
theorem YW (cs:List Value):(cs.map PV.sc).flatMap At=[]:=by
 induction cs with
 |nil=>rfl
 |cons v r ih=>exact ih
theorem Da (h:Bu N w0 X0 Y β s a w)(x:Operand):Dp w (Cw s.hp β Y) β (Ch s.tm x) (a.eval x):=by
 cases x with
 |tmp t=>
  show Dp _ _ _ (s.tm t) (a.tmps.getD t undef);by_cases ht:t<N
  ·exact h.tms t ht
  ·rw [h.tmo t (Nat.le_of_not_lt ht)];exact A5.top _
 |const v=>
  cases v with
  |agg cs=>exact ⟨cs.toList,by simp [Act.eval],VC cs.toList _⟩
  |_=>exact A5.sc _
 |func f=>exact A5.sc _
 |global g=>exact A5.sc _
theorem Ff (h:Bu N w0 X0 Y β s a w)(x:Operand):∀id∈Bq (Ch s.tm x),s.hp id≠none:=by
 cases x with
 |tmp t=>
  show ∀id∈Bq (s.tm t),_;by_cases ht:t<N
  ·exact h.wfT t ht
  ·rw [h.tmo t (Nat.le_of_not_lt ht)];intro id hid;cases hid
 |const v=>
  cases v with
  |agg cs=>
   intro id hid;have:Bq (.agg (cs.toList.map .sc))=[]:=YW cs.toList;simp only [Ch] at hid;rw [this] at hid;cases hid
  |_=>intro id hid;cases hid
 |func f=>intro id hid;cases hid
 |global g=>intro id hid;cases hid
theorem O8 {A:Nat->Prop}{v u:Value}(h:Dp w A β (.sc v) u):u=v:=A5.val h
theorem Cq (h:Bu N w0 X0 Y β s a w){x:Operand}{v:Value}(e:Ch s.tm x=.sc v):a.eval x=v:=by
 have:=Da h x;rw [e] at this;exact O8 this
def E1 (P:Program)(a:Act)(w:World)(o:Oper)(Y:Nat->Prop)(β:Bt)(s:St)(v:PV)(fz:List Nat)(nw:List (Nat × Bk)):Prop:=
 (∀id∈fz,∃f c,s.hp id=some (.ar f c))∧∃val w',(execOp a.eval o).run P w=.ok (.value val) w'∧(B3 s.hp nw=true->∃β',OM Y β ⟨s.tm,Ah s.hp fz⟩ w v nw val w' β')
theorem YD {v:PV}{val:Value}(hv:Dp w (Cw s.hp β Y) β v val) (hr:∀id∈Bq v,s.hp id≠none):OM Y β s w v [] val w β:=
 ⟨rfl,rfl,rfl,B7.refl _ _,fun _ _=>rfl,by simp,by simp,by simp,by simp,by simp,hv,fun id hid=>.inl (hr id hid)⟩
theorem Cf {v:PV}{val:Value}(hrun:(execOp a.eval o).run P w=.ok (.value val) w) (hv:Dp w (Cw s.hp β Y) β v val) (hr:∀id∈Bq v,s.hp id≠none):E1 P a w o Y β s v [] []:=
 ⟨by simp,val,w,hrun,fun _=>⟨β,YD (s:=⟨s.tm,Ah s.hp []⟩) hv hr⟩⟩
theorem C1 {v:Value}(hrun:(execOp a.eval o).run P w=.ok (.value v) w):E1 P a w o Y β s (.sc v) [] []:=Cf hrun (A5.sc v) (by intro id hid;cases hid)
structure Gx (w w':World) (c:Array Value) (e:TypeId):Prop where
 os:w'.os=w.os
 tape:w'.tape=w.tape
 output:w'.output=w.output
 old:∀b,b<w.heap.size->w'.heap[b]?=w.heap[b]?
 size:w'.heap.size=w.heap.size+1
 new:∃fz:Nat × Nat,w'.heap[w.heap.size]?=some (.cells c e fz)∧(fz.1=fz.2∨c.size<=fz.1)
theorem Gx.alloc (w:World)(c:Array Value)(e:TypeId):Gx w (w.alloc (.cells c e)) c e:=
 ⟨rfl,rfl,rfl,fun b hb=>Below.heap_alloc w _ b hb,by show (w.heap.push _).size=_;simp,(0,0),by show (w.heap.push _)[w.heap.size]?=_;simp,.inl rfl⟩
theorem Gx.drew {c:Array Value}{e:TypeId}(h:Gx w w' c e):Gx w w'.drew c e:=⟨h.os,h.tape,h.output,h.old,h.size,h.new⟩
section
variable {c:Array Value} {e:TypeId}
theorem Gx.step (h:Gx w w' c e):B7 (fun _=>False) w w':=
 ⟨by rw [h.size];omega,fun b hb _=>h.old b hb,fun b hb=>by unfold bsz;rw [h.old b hb];exact Nat.le_refl _⟩
theorem Gx.cell (h:Gx w w' c e)(j:Nat):w'.cell? ⟨w.heap.size,j,none⟩=c[j]?:=by
 obtain ⟨fz,hn,_⟩:=h.new;simp [World.cell?,hn]
theorem Gx.frozen (h:Gx w w' c e){j:Nat}(hj:j<c.size):w'.frozen? ⟨w.heap.size,j,none⟩=false:=by
 obtain ⟨fz,hn,hf⟩:=h.new;simp only [World.frozen?,hn];rcases hf with hf|hf<;>simp<;>omega
theorem Gx.bsz (h:Gx w w' c e):bsz w' w.heap.size=c.size:=by
 obtain ⟨fz,hn,_⟩:=h.new;simp [Pv.bsz,hn]
end
theorem Ra {c:Array Value}{e:TypeId}{d:Nat}{bx:Bk}{v:PV}{val:Value}(hg:Gx w w' c e)(hd:s.hp d=none)(hl:Cd (some bx))
  (hbx:Rj w' (Cw (Ct s.hp d (some bx)) (Ct β d (some (w.heap.size,0))) Y) (Ct β d (some (w.heap.size,0))) d bx)
  (hcw:∀cells,bx=.st cells->∀x∈cells,∀id'∈At x,s.hp id'≠none)
  (hv:Dp w' (Cw (Ct s.hp d (some bx)) (Ct β d (some (w.heap.size,0))) Y) (Ct β d (some (w.heap.size,0))) v val)
  (hvr:∀id∈Bq v,s.hp id≠none∨id=d):OM Y β s w v [(d,bx)] val w' (Ct β d (some (w.heap.size,0))) where
 os:=hg.os
 tape:=hg.tape
 output:=hg.output
 ext:=hg.step
 old:=fun id hn=>Ao _ _ (by rintro rfl;exact hn hd)
 nlive:=by intro id b hm;simp at hm;obtain ⟨rfl,rfl⟩:=hm;exact hl
 nbox:=by intro id b hm;simp at hm;obtain ⟨rfl,rfl⟩:=hm;exact hbx
 nblk:=by
  intro id b x y hm hb;simp at hm;obtain ⟨rfl,rfl⟩:=hm;rw [As] at hb;simp at hb;have:=hg.size;omega
 ninj:=by intro id b id' b' x y z hm hm' _ _;simp at hm hm';rw [hm.1,hm'.1]
 nwf:=by intro id cells hm x hx id' hid;simp at hm;exact .inl (hcw cells hm.2.symm x hx id' hid)
 val:=hv
 vwf:=by
  intro id hid;rcases hvr id hid with h|rfl
  ·exact .inl h
  ·exact .inr ⟨bx,by simp⟩
theorem Aax {c:Array Value}{e:TypeId}(hg:Gx w w' c e){A A':Nat->Prop}(hA:∀b,b<w.heap.size->A' b->A b){cells:List PV}
  (h:∀(j:Nat) p,cells[j]?=some p->∃v,c[j]?=some v∧v.oneCell'=true∧A5 w A p v):NQ w' A' ⟨w.heap.size,0,none⟩ cells:=by
 intro j p hj;obtain ⟨v,hv,h1,ht⟩:=h j p hj;exact ⟨v,by rw [Dz,Nat.zero_add,hg.cell];exact hv,h1,ht.step (hg.step.weaken (fun _ _ x=>x.elim)) hA⟩
theorem Abh {d:Nat}{bx:Bk}(hwf:s.hp d=none):∀b,b<w.heap.size->Cw (Ct s.hp d (some bx)) (Ct β d (some (w.heap.size,0))) Y b->Cw s.hp β Y b:=by
 intro b hb hA;rcases hA with ⟨id,o,hl,hβ⟩|hY
 ·by_cases e:id=d
  ·subst e;rw [As] at hβ;simp at hβ;omega
  ·rw [Ao _ _ e] at hl hβ;exact .inl ⟨id,o,hl,hβ⟩
 ·exact .inr hY
theorem Q2 {c:Array Value}{e:TypeId}{d:Nat}{cells:List PV}{fz:List Nat}{v:PV}{val:Value}
  (hfz:∀id∈fz,∃f c,s.hp id=some (.ar f c))
  (hrun:(execOp a.eval o).run P w=.ok (.value val) w') (hg:Gx w w' c e)
  (hc:∀(j:Nat) p,cells[j]?=some p->∃u,c[j]?=some u∧u.oneCell'=true∧A5 w (Cw (Ah s.hp fz) β Y) p u)
  (hv:(v=.ptr d 0∧val=.pointer (some ⟨w.heap.size,0,none⟩))∨∃es n cap,v=.view d es 0 n∧val=.slice (some ⟨w.heap.size,0,none⟩) n cap∧n<=cap∧cap*es<=c.size):
  E1 P a w o Y β s v fz [(d,.ar false cells)]:=by
 refine ⟨hfz,val,w',hrun,fun hab=>⟨Ct β d (some (w.heap.size,0)),?_⟩⟩
 have hd:s.hp d=none:=(Bo hab).1 d (.ar false cells) (by simp)
 have hd':Ah s.hp fz d=none:=D7.2 hd;refine Ra (s:=⟨s.tm,Ah s.hp fz⟩) hg hd' trivial ?_ (fun cells hx=>by cases hx) ?_ ?_
 ·refine .inr ⟨w.heap.size,0,As _ _ _,?_,fun _ j _ hj=>?_,(fun x=>by cases x)⟩
  ·exact Aax hg (Abh (s:=⟨s.tm,Ah s.hp fz⟩) hd') hc
  ·rw [hg.bsz] at hj;exact hg.frozen hj
 ·rcases hv with ⟨rfl,rfl⟩|⟨es,n,cap,rfl,rfl,hn,hcap⟩
  ·exact ⟨w.heap.size,0,As _ _ _,rfl⟩
  ·exact .inr ⟨w.heap.size,0,0,cap,As _ _ _,rfl,.inl rfl,hn,by rw [hg.bsz];omega,by rw [hg.size];omega⟩
 ·intro id hid;rcases hv with ⟨rfl,_⟩|⟨es,n,cap,rfl,_⟩<;>(simp [Bq,Cb,At] at hid;exact .inr hid)
theorem OJ {c:Array Value}{e:TypeId}{d:Nat}{cells:List PV}
  (hrun:(execOp a.eval o).run P w=.ok (.value (.pointer (some ⟨w.heap.size,0,none⟩))) w') (hg:Gx w w' c e)
  (hc:∀(j:Nat) p,cells[j]?=some p->∃u,c[j]?=some u∧B9 w (Cw s.hp β Y) β p u) (hr:∀x∈cells,∀id∈At x,s.hp id≠none):
  E1 P a w o Y β s (.ptr d 0) [] [(d,.st cells)]:=by
 refine ⟨by simp,_,w',hrun,fun hab=>⟨Ct β d (some (w.heap.size,0)),?_⟩⟩
 have hd:s.hp d=none:=(Bo hab).1 d (.st cells) (by simp)
 refine Ra (s:=⟨s.tm,Ah s.hp []⟩) hg hd trivial ?_ (fun cs hx x hxm id hid=>?_) ?_ ?_
 ·refine ⟨w.heap.size,0,As _ _ _,fun j p hj=>?_,fun j hj=>?_⟩
  ·obtain ⟨u,hu,hp⟩:=hc j p hj;refine ⟨u,by rw [Nat.zero_add,hg.cell];exact hu,hp.step (hg.step.weaken (fun _ _ x=>x.elim)) (Abh (s:=⟨s.tm,Ah s.hp []⟩) hd) fun id hid=>Ao _ _ ?_⟩
   rintro rfl
   exact hr p (List.mem_of_getElem? hj) id hid hd
  ·rw [Nat.zero_add];obtain ⟨u,hu,_⟩:=hc j _ (List.getElem?_eq_getElem hj)
   exact hg.frozen (by
    rcases Nat.lt_or_ge j c.size with h|h
    ·exact h
    ·rw [Array.getElem?_eq_none h] at hu;cases hu)
 ·injection hx with hx;subst hx;exact hr x hxm id hid
 ·exact ⟨w.heap.size,0,As _ _ _,rfl⟩
 ·intro id hid;simp [Bq,Cb,At] at hid;exact .inr hid
end
open Go.RowKit
section
variable {R:Type} {r:R} {P:Program} {N:Nat} {w0:World} {X0:E5} {Y:Nat->Prop} {β β':Bt} {s:St} {a:Act} {w w':World} {o:Oper}
theorem Kx {t:TypeId}{n:Nat}(h:(P.info? t).map (·.size)=some n) (w:World):(sizeOf t).run P w=.ok n w:=by
 cases hi:P.info? t with
 |none=>rw [hi] at h;cases h
 |some i=>rw [hi] at h;simp at h;simp [sizeOf,typeInfo,hi,h]
theorem Ag6 {t:TypeId}{n:Nat}(h:Be P t=n)(hn:0<n):(P.info? t).map (·.size)=some n:=by
 unfold Be at h;cases hi:(P.info? t).map (·.size) with
 |none=>rw [hi] at h;simp at h;omega
 |some i=>rw [hi] at h;simp at h;rw [h]
theorem Q8 {t:TypeId}{d:TypeDesc}(h:P.underlying t=some d)(w:World):(isAgg t).run P w=.ok (Cr P t) w:=by
 unfold isAgg Cr;rw [h];simp only [Sem.run_bind,run_underlying h,Result.andThen_ok];cases d<;>rfl
theorem Aku {t:TypeId}{v:Value}{K:PV->Option R}(h:cvK P t v K=some r):∃p,K p=some r∧Bq p=[]∧∀(w:World)(A:Nat->Prop)(β:Bt),Dp w A β p v:=by
 have sc:∀v:Value,K (.sc v)=some r->∃p,K p=some r∧Bq p=[]∧∀(w:World) (A:Nat->Prop) (β:Bt),Dp w A β p v:=fun v h=>⟨_,h,rfl,fun w A β=>A5.sc v⟩
 unfold cvK at h;split at h
 ·rename_i cs;obtain ⟨hl,h⟩:=Aq h;obtain ⟨xs,h,hxl,hx⟩:=Ul h;have hl:=Nat.eq_of_beq_eq_true hl;refine ⟨_,h,?_,fun w A β=>⟨cs.toList,by simp,?_⟩⟩
  ·show xs.flatMap At=[];rw [List.flatMap_eq_nil_iff];intro c hc;obtain ⟨j,hj⟩:=List.mem_iff_getElem?.1 hc;exact Hz (hx j c hj).1
  ·refine Bj.of_at (by rw [hxl,hl]) fun i c u hc hu=>?_
   obtain ⟨hT,p,hp,_,hpv⟩:=hx i c hc;refine (Me hT).2 (hpv w A β u ?_).1;rw [Nat.zero_add,List.getElem?_map,hu] at hp;simp at hp;subst hp;exact A5.sc u
 ·split at h
  ·exact ⟨_,h,rfl,fun w A β=>A5.lnil true _⟩
  ·cases h
 ·exact sc _ h
theorem Zj (h:Bu N w0 X0 Y β s a w){x:Operand}(hrun:(execOp a.eval o).run P w=.ok (.value (a.eval x)) w) {K:PV->Option R}(hk:DF P o.type s.tm x K=some r):
  ∃v,K v=some r∧E1 P a w o Y β s v [] []:=by
 have dflt:K (Ch s.tm x)=some r->∃v,K v=some r∧E1 P a w o Y β s v [] []:=fun hk=>⟨_,hk,Cf hrun (Da h x) (Ff h x)⟩
 cases x with
 |const v=>
  obtain ⟨p,hk,hr,hv⟩:=Aku hk;exact ⟨p,hk,Cf hrun (hv _ _ _) (by rw [hr];simp)⟩
 |tmp t=>exact dflt hk
 |func f=>exact dflt hk
 |global g=>exact dflt hk
theorem Acq {x:Operand}(ho:o.op=.move x):(execOp a.eval o).run P w=.ok (.value (a.eval x)) w:=by unfold execOp;rw [ho];rfl
theorem VF {x:Operand}(ho:o.op=.assign x):(execOp a.eval o).run P w=.ok (.value (a.eval x)) w:=by unfold execOp;rw [ho];rfl
theorem XG (h:Bu N w0 X0 Y β s a w){c x y:Operand}(ho:o.op=.pick c x y){K:PV->Option R}(hk:(Bl (Ch s.tm c) fun t=>Bc t (K (Ch s.tm x)) (K (Ch s.tm y)))=some r):
  ∃v,K v=some r∧E1 P a w o Y β s v [] []:=by
 obtain ⟨b,hb,hk⟩:=Gi hk;have hc:=Cq h hb;rcases Nu hk with ⟨rfl,hk⟩|⟨rfl,hk⟩
 ·exact ⟨_,hk,Cf (by unfold execOp;rw [ho];simp [asBool,hc]) (Da h x) (Ff h x)⟩
 ·exact ⟨_,hk,Cf (by unfold execOp;rw [ho];simp [asBool,hc]) (Da h y) (Ff h y)⟩
theorem Qg {t:TypeId}{K:List PV->Option R}(h:Hh P t K=some r):∃(v:Value)(cs:List PV),K cs=some r∧Xt P t=some v∧cs.length=(Ic P t).length∧cs.length=v.cells.toList.length∧cs.length=Be P t ∧
  ∀(j:Nat) c,cs[j]?=some c->Xg c∧∃u,v.cells.toList[j]?=some u∧u.oneCell'=true∧∀(w:World) (A:Nat->Prop),A5 w A c u:=by
 unfold Hh at h;obtain ⟨v,hz,h⟩:=C8 h;obtain ⟨hl,h⟩:=Aq h;obtain ⟨cs,h,hcl,hc⟩:=Ul h;simp only [Bool.and_eq_true] at hl;have hl1:=Nat.eq_of_beq_eq_true hl.1
 have hl2:(Ic P t).length=Be P t:=by
  have:=hl.2;simp only [I9,Bool.and_eq_true] at this;exact Nat.eq_of_beq_eq_true this.2
 refine ⟨v,cs,h,hz,hcl,by rw [hcl,hl1],by rw [hcl,hl2],fun j c hj=>?_⟩
 obtain ⟨hT,p,hp,_,hpv⟩:=hc j c hj;rw [Nat.zero_add,List.getElem?_map] at hp;cases hu:v.cells.toList[j]? with
 |none=>rw [hu] at hp;cases hp
 |some u=>
  rw [hu] at hp;simp at hp;subst hp;exact ⟨hT,u,rfl,(hpv default (fun _=>False) (fun _=>none) u (A5.sc u)).2,fun w A=>(hpv w A (fun _=>none) u (A5.sc u)).1⟩
theorem Xi {t:TypeId}{v:Value}(h:Xt P t=some v)(w:World):(zeroValue t).run P w=.ok v w:=by
 unfold Xt at h;cases hi:P.info? t with
 |none=>rw [hi] at h;cases h
 |some i=>rw [hi] at h;simp at h;simp [zeroValue,typeInfo,hi,h]
theorem VM {t:TypeId}(ho:o.op=.alloc t){d:Nat}{K:PV->List Nat->List (Nat × Bk)->Option R}
  (hk:(Hh P t fun cs=>K (.ptr d 0) [] [(d,Aif P t cs)])=some r):∃v fz nw,K v fz nw=some r∧E1 P a w o Y β s v fz nw:=by
 obtain ⟨z,cs,hk,hz,_,hl,_,hc⟩:=Qg hk
 have hrun:(execOp a.eval o).run P w=.ok (.value (.pointer (some ⟨w.heap.size,0,none⟩))) (w.alloc (.cells z.cells t)):=by
  unfold execOp;rw [ho];simp [Instr.alloc,Xi hz,newVar,newRow]
 have hg:=Gx.alloc w z.cells t;refine ⟨_,_,_,hk,?_⟩;unfold Aif;cases Vt P t
 ·refine OJ hrun hg (fun j p hj=>?_) fun x hx id hid=>?_
  ·obtain ⟨hT,u,hu,_,hv⟩:=hc j p hj;exact ⟨u,by simpa using hu,(Me hT).2 (hv _ _)⟩
  ·obtain ⟨j,hj⟩:=List.mem_iff_getElem?.1 hx;rw [Hz (hc j x hj).1] at hid;cases hid
 ·refine Q2 (by simp) hrun hg (fun j p hj=>?_) (.inl ⟨rfl,rfl⟩)
  obtain ⟨hT,u,hu,h1,hv⟩:=hc j p hj;exact ⟨u,by simpa using hu,h1,hv _ _⟩
end
open Go.RowKit
section
variable {R:Type} {r:R} {P:Program} {N:Nat} {w0:World} {X0:E5} {Y:Nat->Prop} {β β':Bt} {s:St} {a:Act} {w w':World} {o:Oper} {A:Nat->Prop}
theorem Rz {t:TypeId}(h:I9 P t=true):(∃d,P.underlying t=some d)∧(Ic P t).length=Be P t∧(P.info? t).map (·.size)=some (Be P t):=by
 simp only [I9,Bool.and_eq_true] at h;refine ⟨Option.isSome_iff_exists.1 h.1,Nat.eq_of_beq_eq_true h.2,?_⟩;unfold Be;cases hi:P.info? t with
 |none=>unfold Program.underlying at h;rw [hi] at h;cases h.1
 |some i=>simp
theorem Nw {v:Value}(h:v.oneCell'=true):v.cells = #[v]:=by cases v<;>first|rfl|cases h
theorem Ab0 {p:PV}{v:Value}{ts:List CT}{K:List PV->Option R}(hv:Dp w A β p v)(hl:(cellsOf p).length=ts.length) (h:Qr ts (cellsOf p) 0 K=some r):
  ∃cs,K cs=some r∧cs.length=ts.length∧Bj (B9 w A β) cs v.cells.toList∧(∀u∈v.cells.toList,u.oneCell'=true)∧(∀c∈cs,∀id∈At c,id∈Bq p)∧∀c∈cs,(∀x,c ≠ .agg x)∧(∀x,c ≠ .tup x):=by
 obtain ⟨cs,h,hcl,hna,hc⟩:=Uj h;refine ⟨cs,h,hcl,?_⟩
 have single:(∀x,p ≠ .agg x)->cellsOf p=[p]:=by
  intro hp;cases p<;>first|rfl|exact absurd rfl (hp _)
 by_cases hagg:∃x,p=.agg x
 ·obtain ⟨x,rfl⟩:=hagg;obtain ⟨vs,rfl,h2⟩:=hv;have hlen:cs.length=vs.length:=by rw [hcl,←hl];exact h2.len
  have key:∀(i:Nat) c u,cs[i]?=some c->vs[i]?=some u->B9 w A β c u∧u.oneCell'=true:=by
   intro i c u hc' hu;obtain ⟨q,hq,_,_,hqv⟩:=hc i c hc';rw [Nat.zero_add] at hq;exact hqv w A β u (h2.at_ hq hu)
  refine ⟨Bj.of_at hlen fun i c u hc' hu=>(key i c u hc' hu).1,?_,?_,hna⟩
  ·intro u hu;obtain ⟨i,hi⟩:=List.mem_iff_getElem?.1 (show u∈vs from hu)
   have hlt:i<vs.length:=by
    rcases Nat.lt_or_ge i vs.length with h|h
    ·exact h
    ·rw [List.getElem?_eq_none h] at hi;cases hi
   exact (key i _ u (List.getElem?_eq_getElem (by omega)) hi).2
  ·intro c hcm id hid;obtain ⟨i,hi⟩:=List.mem_iff_getElem?.1 hcm;obtain ⟨q,hq,_,hr,_⟩:=hc i c hi;rw [Nat.zero_add] at hq;show id∈x.flatMap At;exact List.mem_flatMap.2 ⟨q,List.mem_of_getElem? hq,hr id hid⟩
 ·have hp:∀x,p ≠ .agg x:=fun x e=>hagg ⟨x,e⟩
  rw [single hp] at hl hc;have hl1:cs.length=1:=by rw [hcl,←hl];rfl
  match cs,hl1 with
  |[c],_=>
   obtain ⟨q,hq,hf,hr,hqv⟩:=hc 0 c rfl;simp at hq;subst hq;have htup:∀x,p ≠ .tup x:=by rintro x rfl;exact hf
   have hv':B9 w A β p v:=(S2 hp).1 ((Nm htup).1 hv);obtain ⟨h5,h6⟩:=hqv w A β v hv';rw [Nw h6];refine ⟨⟨h5,trivial⟩,?_,?_,hna⟩
   ·intro u hu;simp at hu;subst hu;exact h6
   ·intro c' hc' id hid;simp at hc';subst hc';have:=hr id hid;cases p<;>first|exact this|exact absurd rfl (hp _)|exact absurd rfl (htup _)
end
open Go.RowKit
section
variable {R:Type} {r:R} {P:Program} {N:Nat} {w0:World} {X0:E5} {Y:Nat->Prop} {β β':Bt} {s:St} {a:Act} {w w':World} {o:Oper} {A:Nat->Prop}
theorem Bj.get {α β':Type}{R':α->β'->Prop}{zs:List α}{bs:List β'}(h:Bj R' zs bs){i:Nat}{x:α}(hx:zs[i]?=some x):∃y,bs[i]?=some y∧R' x y:=by
 have hlt:i<zs.length:=by
  rcases Nat.lt_or_ge i zs.length with h|h
  ·exact h
  ·rw [List.getElem?_eq_none h] at hx;cases hx
 have hb:bs[i]?=some (bs[i]'(by rw [←h.len];exact hlt)):=List.getElem?_eq_getElem _
 exact ⟨_,hb,h.at_ hx hb⟩
theorem Aki {p:PV}{v:Value}{ts:List CT}{K:List PV->Option R}(hv:Dp w A β p v)(hl:(cellsOf p).length=ts.length) (h:Vf ts (cellsOf p) 0 K=some r):
  ∃cs,K cs=some r∧cs.length=ts.length∧Bj (A5 w A) cs v.cells.toList∧∀u∈v.cells.toList,u.oneCell'=true:=by
 obtain ⟨cs,h,hcl,hc⟩:=Ul h;refine ⟨cs,h,hcl,?_⟩;by_cases hagg:∃x,p=.agg x
 ·obtain ⟨x,rfl⟩:=hagg;obtain ⟨vs,rfl,h2⟩:=hv;have hlen:cs.length=vs.length:=by rw [hcl,←hl];exact h2.len
  have key:∀(i:Nat) c u,cs[i]?=some c->vs[i]?=some u->A5 w A c u∧u.oneCell'=true:=by
   intro i c u hc' hu;obtain ⟨_,q,hq,_,hqv⟩:=hc i c hc';rw [Nat.zero_add] at hq;exact hqv w A β u (h2.at_ hq hu)
  refine ⟨Bj.of_at hlen fun i c u hc' hu=>(key i c u hc' hu).1,?_⟩
  intro u hu;obtain ⟨i,hi⟩:=List.mem_iff_getElem?.1 (show u∈vs from hu)
  have hlt:i<vs.length:=by
   rcases Nat.lt_or_ge i vs.length with h|h
   ·exact h
   ·rw [List.getElem?_eq_none h] at hi;cases hi
  exact (key i _ u (List.getElem?_eq_getElem (by omega)) hi).2
 ·have hp:∀x,p ≠ .agg x:=fun x e=>hagg ⟨x,e⟩
  have single:cellsOf p=[p]:=by cases p<;>first|rfl|exact absurd rfl (hp _)
  rw [single] at hl hc;have hl1:cs.length=1:=by rw [hcl,←hl];rfl
  match cs,hl1 with
  |[c],_=>
   obtain ⟨_,q,hq,hf,hqv⟩:=hc 0 c rfl;simp at hq;subst hq;have htup:∀x,p ≠ .tup x:=by rintro x rfl;exact hf
   have hv':B9 w A β p v:=(S2 hp).1 ((Nm htup).1 hv);obtain ⟨h5,h6⟩:=hqv w A β v hv';rw [Nw h6];exact ⟨⟨h5,trivial⟩,fun u hu=>by simp at hu;subst hu;exact h6⟩
theorem Adv (h:Bu N w0 X0 Y β s a w){t:TypeId}{x:Operand}(ho:o.op=.box t x){d:Nat}{K:PV->List Nat->List (Nat × Bk)->Option R}
    (hk:(Ap (I9 P t&&Nat.beq (cellsOf (Ch s.tm x)).length (Ic P t).length)
      (bif Vt P t then Vf (Ic P t) (cellsOf (Ch s.tm x)) 0 fun cs=>K (.ptr d 0) [] [(d,.ar false cs)]
       else Qr (Ic P t) (cellsOf (Ch s.tm x)) 0 fun cs=>K (.ptr d 0) [] [(d,.st cs)]))=some r):∃v fz nw,K v fz nw=some r∧E1 P a w o Y β s v fz nw:=by
  obtain ⟨hl,hk⟩:=Aq hk
  simp only [Bool.and_eq_true] at hl
  have hl:=Nat.eq_of_beq_eq_true hl.2
  have hrun:(execOp a.eval o).run P w=.ok (.value (.pointer (some ⟨w.heap.size,0,none⟩))) (w.alloc (.cells (a.eval x).cells t)):=by
    unfold execOp
    rw [ho]
    simp [Instr.box,newVar,newRow]
  have hg:=Gx.alloc w (a.eval x).cells t
  cases ha:Vt P t
  · rw [ha] at hk
    obtain ⟨cs,hk,_,h2,_,hr,_⟩:=Ab0 (Da h x) hl hk
    refine ⟨_,_,_,hk,OJ hrun hg (fun j p hj=>?_) fun c hc id hid=>Ff h x id (hr c hc id hid)⟩
    obtain ⟨u,hu,hp⟩:=h2.get hj
    exact ⟨u,by simpa using hu,hp⟩
  · rw [ha] at hk
    obtain ⟨cs,hk,_,h2,h1⟩:=Aki (Da h x) hl hk
    refine ⟨_,_,_,hk,Q2 (by simp) hrun hg (fun j p hj=>?_) (.inl ⟨rfl,rfl⟩)⟩
    obtain ⟨u,hu,hp⟩:=h2.get hj
    exact ⟨u,by simpa using hu,h1 u (List.mem_of_getElem? hu),hp⟩
theorem ZY {c:PV}(h1:∀x,c ≠ .agg x)(h2:∀x,c ≠ .tup x):Bq c=At c:=by
 cases c<;>first|rfl|exact absurd rfl (h1 _)|exact absurd rfl (h2 _)
theorem AP {t:TypeId}{ad:Addr}{cs:List PV}{p:PV}(hok:I9 P t=true)(hlen:cs.length=(Ic P t).length)
  (hna:∀c∈cs,(∀x,c ≠ .agg x)∧(∀x,c ≠ .tup x))
  (hc:∀(j:Nat) c,cs[j]?=some c->∃v,w.cell? (ad.add j)=some v∧B9 w A β c v)
  (hp:(Cr P t=true∧p=.agg cs)∨(Cr P t=false∧cs=[p])):∃val,(loadVar t ad).run P w=.ok val w∧Dp w A β p val:=by
 obtain ⟨⟨d,hd⟩,hl,hi⟩:=Rz hok;rcases hp with ⟨hagg,rfl⟩|⟨hagg,rfl⟩
 ·have hf:∀j,j<Be P t->w.cell? (ad.add j)=some ((w.cell? (ad.add j)).getD undef):=by
   intro j hj;obtain ⟨v,hv,_⟩:=hc j _ (List.getElem?_eq_getElem (by omega))
   rw [hv];rfl
  refine ⟨_,?_,(List.range (Be P t)).map (fun j=>(w.cell? (ad.add j)).getD undef),rfl,?_⟩
  ·simp only [loadVar,Sem.run_bind,Q8 hd,hagg,Result.andThen_ok,if_true,Kx hi,run_loadCells w ad (Be P t) _ hf];simp
  ·refine Bj.of_at (by simp;omega) fun i c u hc' hu=>?_
   obtain ⟨v,hv,hcv⟩:=hc i c hc'
   have hlt:i<Be P t:=by
    rcases Nat.lt_or_ge i cs.length with h|h
    ·omega
    ·rw [List.getElem?_eq_none h] at hc';cases hc'
   rw [List.getElem?_map,List.getElem?_range hlt] at hu;simp [hv] at hu;subst hu;exact hcv
 ·obtain ⟨v,hv,hcv⟩:=hc 0 p rfl;have hn:=hna p (by simp)
  have h0:ad.add 0=ad:=by simp [Addr.add]
  rw [h0] at hv;refine ⟨v,?_,(Nm hn.2).2 ((S2 hn.1).2 hcv)⟩;simp only [loadVar,Sem.run_bind,Q8 hd,hagg,Result.andThen_ok];simp [hv]
theorem Ahr {hp:Nat->Option Bk}{id:Nat}{c:List PV}(h:rd hp id=some c):hp id=some (.st c)∨∃f,hp id=some (.ar f c):=by
 unfold rd at h;split at h
 ·rename_i e;simp at h;subst h;exact .inl e
 ·rename_i f _ e;simp at h;subst h;exact .inr ⟨_,e⟩
 ·cases h
theorem RS {hp:Nat->Option Bk}{id:Nat}{c:List PV}(h:J4 hp id=some c):∃f,hp id=some (.ar f c):=by
 unfold J4 at h;split at h
 ·rename_i e;simp at h;subst h;exact ⟨_,e⟩
 ·cases h
theorem IF (h:Bu N w0 X0 Y β s a w){id:Nat}{c:List PV}(hr:rd s.hp id=some c){b ob:Nat}(hβ:β id=some (b,ob)) {j:Nat}{p:PV}(hj:c[j]?=some p):
  ∃v,w.cell? ⟨b,ob+j,none⟩=some v∧B9 w (Cw s.hp β Y) β p v:=by
 rcases Ahr hr with hb|⟨f,hb⟩
 ·obtain ⟨b',o',h1,h2,_⟩:=h.box id _ hb;rw [hβ] at h1;simp at h1;obtain ⟨rfl,rfl⟩:=h1;exact h2 j p hj
 ·rcases h.box id _ hb with ⟨h1,_⟩|⟨b',o',h1,h2,_⟩
  ·rw [hβ] at h1;cases h1
  ·rw [hβ] at h1;simp at h1;obtain ⟨rfl,rfl⟩:=h1
   obtain ⟨v,hv,_,ht⟩:=h2 j p hj;rw [Dz] at hv;refine ⟨v,hv,?_⟩;cases ht with
   |sc=>exact A5.sc _
   |top=>exact A5.top _
   |ub=>exact A5.ub _
   |lnil=>exact A5.lnil _ _
   |lemp=>exact A5.lemp _ _ _
   |lst es n cells a cap f hs hb hA hn hc h1 hr=>exact A5.lst es n cells a cap f hs hb hA hn hc h1 hr
theorem Kp:∀{ts:List CT}{cells:List PV}{off:Nat}{K:List PV->Option R},Vf ts cells off K=some r->Qr ts cells off K=some r
 |[],_,_,_,h=>h
 |.int k::ts,cells,off,K,h=>by
  obtain ⟨n,hp,h⟩:=Hn (show Ad k (cells.getD off .top) _=some r from h)
  show Ad k _ _=_;rw [hp];simp only [Ad,if_true];exact Kp h
 |.bool::ts,cells,off,K,h=>by
  obtain ⟨n,hp,h⟩:=Gi (show Bl (cells.getD off .top) _=some r from h)
  show Bl _ _=_;rw [hp];exact Kp h
 |.str::ts,cells,off,K,h=>by
  obtain ⟨n,hp,h⟩:=F0 (show Co (cells.getD off .top) _=some r from h)
  show Co _ _=_;rw [hp];exact Kp h
 |.sl es::ts,cells,off,K,h=>by
  obtain ⟨z,n,c,h,hp⟩:=Gf (show Fd es (cells.getD off .top) _=some r from h)
  change fcK (.sl es) (cells.getD off .top) (fun c=>Qr ts cells (off+1) fun r=>K (c::r))=some r
  unfold fcK;dsimp only;unfold fsK;rcases hp with hp|⟨hp,rfl,rfl,rfl⟩
  ·rw [hp];simp only [Fd,Nat.beq_refl,cond_true];exact Kp h
  ·rw [hp];exact Kp h
 |.any::ts,cells,off,K,h=>by
  obtain ⟨f,a,b,hp,h⟩:=RX (show fnK (cells.getD off .top) (fun v=>Vf ts cells (off+1) fun r=>K (.sc v::r))=some r from h)
  show fnK (cells.getD off .top) (fun v=>Qr ts cells (off+1) fun r=>K (.sc v::r))=some r
  rw [hp];exact Kp h
theorem A5.unz {w:World}{A:Nat->Prop}{z:Bool}{es n:Nat}{c:List PV}{u:Value}(h:A5 w A (.lst z es n c) u):A5 w A (.lst false es n c) u:=by
 cases h with
 |lnil z es=>exact .lnil false es
 |lemp es a cap=>exact .lemp es a cap
 |lst es n c a cap f h1 h2 h3 h4 h5 h6 h7=>exact .lst es n c a cap f h1 h2 h3 h4 h5 h6 h7
theorem Ac8 {w:World}{A:Nat->Prop}{β:Bt}{p:PV}{u:Value}(h:B9 w A β p u):B9 w A β (RA p) u:=by
 cases p with
 |lst z es n c=>exact A5.unz h
 |_=>exact h
theorem ZG (p:PV):At (RA p)=At p:=by cases p<;>rfl
theorem MX {w:World}{A:Nat->Prop}{β:Bt}:∀{cs:List PV}{vs:List Value},Bj (B9 w A β) cs vs->Bj (B9 w A β) (cs.map RA) vs
 |[],[],_=>trivial
 |_::_,_::_,h=>⟨Ac8 h.1,MX h.2⟩
 |[],_::_,h=>h.elim
 |_::_,[],h=>h.elim
theorem Adk {w:World}{A:Nat->Prop}{β:Bt}{p:PV}{u:Value}(h:Dp w A β p u):Dp w A β (Aco p) u:=by
 cases p with
 |agg cs=>
  obtain ⟨vs,h1,h2⟩:=(show Gl w A β (.agg cs) u from h)
  exact ⟨vs,h1,MX h2⟩
 |lst z es n c=>exact A5.unz (show A5 w A (.lst z es n c) u from h)
 |_=>exact h
theorem Aet (p:PV):Bq (Aco p)=Bq p:=by
 cases p with
 |agg cs=>
  show (cs.map RA).flatMap At=cs.flatMap At
  induction cs with
  |nil=>rfl
  |cons a l ih=>rw [List.map_cons,List.flatMap_cons,List.flatMap_cons,ih,ZG]
 |_=>rfl
theorem Ajy {hp:Nat->Option Bk}{t:TypeId}{x:PV}{K:PV->Option R}(h:BF P (rd hp) (J4 hp) t x K=some r):
  KT P (rd hp) t x K=some r∨KT P (rd hp) t x (fun v=>K (Aco v))=some r:=by
 unfold BF at h;unfold KT;split at h
 ·rename_i id off;obtain ⟨hb,h⟩:=Aq h;rw [hb];show Ep _ _=_∨Ep _ _=_;split at h
  ·rename_i c hc;obtain ⟨f,hbx⟩:=RS hc;have:rd hp id=some c:=by unfold rd;rw [hbx]
   rw [this];exact .inr (Kp h)
  ·exact .inl h
 ·exact .inr h
 ·cases h
theorem PN (h:Bu N w0 X0 Y β s a w){t:TypeId}{x:PV}{u:Value}(hx:Dp w (Cw s.hp β Y) β x u) {K:PV->Option R}(hk:KT P (rd s.hp) t x K=some r):
  ∃v ad val,K v=some r∧u=.pointer (some ad)∧(loadVar t ad).run P w=.ok val w∧Dp w (Cw s.hp β Y) β v val∧∀i∈Bq v,s.hp i≠none:=by
 unfold KT at hk;split at hk
 ·rename_i id off;obtain ⟨hok,hk⟩:=Aq hk;obtain ⟨c,hr,hk⟩:=C8 hk;obtain ⟨cs,hk,hl,hna,hc⟩:=Uj hk;obtain ⟨b,ob,hβ,hax⟩:=hx
  have hcell:∀(j:Nat) q,cs[j]?=some q->∃v,w.cell? ((⟨b,ob+off,none⟩:Addr).add j)=some v∧B9 w (Cw s.hp β Y) β q v:=by
   intro j q hq;obtain ⟨p,hp,_,_,hpv⟩:=hc j q hq;obtain ⟨v,hv,hcv⟩:=IF h hr hβ hp;exact ⟨v,by rw [Dz,Nat.add_assoc];exact hv,(hpv _ _ _ _ hcv).1⟩
  have hrefs:∀q∈cs,∀i∈At q,s.hp i≠none:=by
   intro q hq i hi;obtain ⟨j,hj⟩:=List.mem_iff_getElem?.1 hq;obtain ⟨p,hp,_,hpr,_⟩:=hc j q hj;rcases Ahr hr with hb|⟨f,hb⟩
   ·exact h.wfB id c hb p (List.mem_of_getElem? hp) i (hpr i hi)
   ·obtain ⟨v,hv,hcv⟩:=IF h hr hβ hp;exfalso;have hp':=hpr i hi;rcases h.box id _ hb with ⟨_,rfl⟩|⟨b',o',h1,h2,_⟩
    ·simp at hp
    ·obtain ⟨v',_,_,ht⟩:=h2 _ p hp;cases ht<;>cases hp'
  rcases PX hk with ⟨hagg,hk2⟩|⟨hagg,q,rfl,hk2⟩
  ·obtain ⟨val,hlv,hv⟩:=AP hok hl hna hcell (.inl ⟨hagg,rfl⟩);refine ⟨_,_,val,hk2,hax,hlv,hv,fun i hi=>?_⟩
   obtain ⟨q,hq,hi⟩:=List.mem_flatMap.1 (show i∈cs.flatMap At from hi)
   exact hrefs q hq i hi
  ·obtain ⟨val,hlv,hv⟩:=AP hok hl hna hcell (.inr ⟨hagg,rfl⟩);refine ⟨_,_,val,hk2,hax,hlv,hv,fun i hi=>hrefs q (by simp) i ?_⟩
   have hn:=hna q (by simp)
   rw [ZY hn.1 hn.2] at hi;exact hi
 ·rename_i c off;obtain ⟨hok,hk⟩:=Aq hk;obtain ⟨cs,hk,hl,hc⟩:=Ul hk;obtain ⟨ad,hax,hs,hb,hA,hrd⟩:=hx
  have hna:∀q∈cs,(∀x,q ≠ .agg x)∧(∀x,q ≠ .tup x):=by
   intro q hq;obtain ⟨j,hj⟩:=List.mem_iff_getElem?.1 hq;exact ⟨Y8 (hc j q hj).1,Ab2 (hc j q hj).1⟩
  have hcell:∀(j:Nat) q,cs[j]?=some q->∃v,w.cell? ((ad.add off).add j)=some v∧B9 w (Cw s.hp β Y) β q v:=by
   intro j q hq;obtain ⟨hT,p,hp,hpT,hpv⟩:=hc j q hq;obtain ⟨v,hv,_,ht⟩:=hrd (off+j) p hp;exact ⟨v,by rw [add_add];exact hv,(Me hT).2 (hpv w (Cw s.hp β Y) β v ((Me hpT).2 ht)).1⟩
  have hrefs:∀q∈cs,At q=[]:=by
   intro q hq;obtain ⟨j,hj⟩:=List.mem_iff_getElem?.1 hq;exact Hz (hc j q hj).1
  rcases PX hk with ⟨hagg,hk2⟩|⟨hagg,q,rfl,hk2⟩
  ·obtain ⟨val,hlv,hv⟩:=AP hok hl hna hcell (.inl ⟨hagg,rfl⟩);refine ⟨_,_,val,hk2,hax,hlv,hv,fun i hi=>?_⟩
   obtain ⟨q,hq,hi⟩:=List.mem_flatMap.1 (show i∈cs.flatMap At from hi)
   rw [hrefs q hq] at hi;cases hi
  ·obtain ⟨val,hlv,hv⟩:=AP hok hl hna hcell (.inr ⟨hagg,rfl⟩);refine ⟨_,_,val,hk2,hax,hlv,hv,fun i hi=>?_⟩
   have hn:=hna q (by simp)
   rw [ZY hn.1 hn.2,hrefs q (by simp)] at hi
   cases hi
 ·cases hk
theorem VB (h:Bu N w0 X0 Y β s a w){t:TypeId}{x:PV}{u:Value}(hx:Dp w (Cw s.hp β Y) β x u) {K:PV->Option R}(hk:BF P (rd s.hp) (J4 s.hp) t x K=some r):
  ∃v ad val,K v=some r∧u=.pointer (some ad)∧(loadVar t ad).run P w=.ok val w∧Dp w (Cw s.hp β Y) β v val∧∀i∈Bq v,s.hp i≠none:=by
 rcases Ajy hk with hk|hk
 ·exact PN h hx hk
 ·obtain ⟨v,ad,val,h1,h2,h3,h4,h5⟩:=PN h hx hk;exact ⟨Aco v,ad,val,h1,h2,h3,Adk h4,by rw [Aet];exact h5⟩
theorem ZB (h:Bu N w0 X0 Y β s a w){t:TypeId}{x:Operand}(ho:o.op=.load t x){K:PV->Option R}(hk:BF P (rd s.hp) (J4 s.hp) t (Ch s.tm x) K=some r):
  ∃v,K v=some r∧E1 P a w o Y β s v [] []:=by
 obtain ⟨v,ad,val,hk1,hax,hl,hv,hr⟩:=VB h (Da h x) hk;refine ⟨v,hk1,Cf ?_ hv hr⟩;unfold execOp;rw [ho];simp [Instr.loadAt,Instr.sureAddr,hax,hl]
theorem Acy {x:PV}{d:Nat}{K:PV->Option R}(h:U9 x d K=some r):(∃id off,x=.ptr id off∧K (.ptr id (off+d))=some r)∨∃c off,x=.iptr c off∧K (.iptr c (off+d))=some r:=by
 unfold U9 at h;split at h
 ·exact .inl ⟨_,_,rfl,h⟩
 ·exact .inr ⟨_,_,rfl,h⟩
 ·cases h
theorem Xl (h:Bu N w0 X0 Y β s a w){x:Operand}{d:Nat}{K:PV->Option R}(hk:U9 (Ch s.tm x) d K=some r)
  (hrun:∀ad:Addr,a.eval x=.pointer (some ad)->(execOp a.eval o).run P w=.ok (.value (.pointer (some (ad.add d)))) w):∃v,K v=some r∧E1 P a w o Y β s v [] []:=by
 have hx:=Da h x;have hxr:=Ff h x;rcases Acy hk with ⟨id,off,e,hk⟩|⟨c,off,e,hk⟩
 ·rw [e] at hx hxr;obtain ⟨b,ob,hβ,hax⟩:=hx;refine ⟨_,hk,Cf (hrun _ hax) ⟨b,ob,hβ,by rw [Dz,Nat.add_assoc]⟩ hxr⟩
 ·rw [e] at hx;obtain ⟨ad,hax,h1,h2,h3,h4⟩:=hx;exact ⟨_,hk,Cf (hrun _ hax) ⟨ad,by rw [add_add],h1,h2,h3,h4⟩ (by intro i hi;cases hi)⟩
theorem KX (h:Bu N w0 X0 Y β s a w){x:Operand}(ho:o.op=.nilCheck x){K:PV->Option R}(hk:U9 (Ch s.tm x) 0 K=some r):∃v,K v=some r∧E1 P a w o Y β s v [] []:=by
 refine Xl h hk fun ad hax=>?_
 unfold execOp;rw [ho];simp [hax,Addr.add]
theorem Zh {t:TypeId}{f:Nat}{q:Nat × TypeId}(h:Rl P t f=some q):∃fs g,P.underlying t=some (.struct fs)∧fs[f]?=some g∧q=(g.offset,g.type):=by
 unfold Rl at h;split at h
 ·rename_i fs e;cases hg:fs[f]? with
  |none=>rw [hg] at h;cases h
  |some g=>rw [hg] at h;simp at h;exact ⟨fs,g,e,hg,h.symm⟩
 ·cases h
theorem GM (h:Bu N w0 X0 Y β s a w){t:TypeId}{x:Operand}{f:Nat}(ho:o.op=.fieldAddr t x f){K:PV->Option R}
  (hk:(Ep (Rl P t f) fun q=>Ap (Nat.ble 1 (Be P q.2)) (U9 (Ch s.tm x) q.1 K))=some r):∃v,K v=some r∧E1 P a w o Y β s v [] []:=by
 obtain ⟨q,hq,hk⟩:=C8 hk;obtain ⟨hs,hk⟩:=Aq hk;obtain ⟨fs,g,hu,hg,rfl⟩:=Zh hq;have hs:1<=Be P g.type:=Nat.le_of_ble_eq_true hs;have hsz:=Ag6 (P:=P) (t:=g.type) rfl (by omega)
 refine Xl h hk fun ad hax=>?_
 unfold execOp;rw [ho];have hne:¬Be P g.type=0:=by omega
 simp [Instr.fieldAt,run_underlying hu,hg,Instr.sureAddr,hax,fieldPlace,Kx hsz,hne]
end
open Go.RowKit
section
variable {R:Type} {r:R} {P:Program} {N:Nat} {w0:World} {X0:E5} {Y:Nat->Prop} {β β':Bt} {s:St} {a:Act} {w w':World} {o:Oper} {A:Nat->Prop}
theorem KU (h:Bu N w0 X0 Y β s a w){t:TypeId}{cs:List PV}{vs:List Value}{off:Nat}{K:PV->Option R}{x:Operand}(hx:Ch s.tm x=.agg cs)(hv:Bj (B9 w (Cw s.hp β Y) β) cs vs)
  (hk:Ap (I9 P t) (Qr (Ic P t) cs off fun c=>mkV (Cr P t) c K)=some r)
  (hrun:∀val,(part t ⟨vs⟩ off).run P w=.ok val w->(execOp a.eval o).run P w=.ok (.value val) w):∃v,K v=some r∧E1 P a w o Y β s v [] []:=by
 obtain ⟨hok,hk⟩:=Aq hk;obtain ⟨⟨d,hd⟩,hl,hi⟩:=Rz hok;obtain ⟨qs,hk,hql,hna,hq⟩:=Uj hk;have hxr:=Ff h x;rw [hx] at hxr
 have hcell:∀(j:Nat) q,qs[j]?=some q->∃v,vs[off+j]?=some v∧B9 w (Cw s.hp β Y) β q v:=by
  intro j q hj;obtain ⟨p,hp,_,_,hpv⟩:=hq j q hj;obtain ⟨v,hv',hc⟩:=hv.get hp;exact ⟨v,hv',(hpv _ _ _ _ hc).1⟩
 have hrefs:∀q∈qs,∀i∈At q,s.hp i≠none:=by
  intro q hqm i hi;obtain ⟨j,hj⟩:=List.mem_iff_getElem?.1 hqm;obtain ⟨p,hp,_,hpr,_⟩:=hq j q hj;exact hxr i (List.mem_flatMap.2 ⟨p,List.mem_of_getElem? hp,hpr i hi⟩)
 rcases PX hk with ⟨hagg,hk2⟩|⟨hagg,q,rfl,hk2⟩
 ·have hle:Be P t=0∨off+Be P t<=vs.length:=by
   rcases Nat.eq_zero_or_pos (Be P t) with h0|h0
   ·exact .inl h0
   ·obtain ⟨v,hv',_⟩:=hcell (Be P t-1) _ (List.getElem?_eq_getElem (by omega))
    have:off+(Be P t-1)<vs.length:=by
     rcases Nat.lt_or_ge (off+(Be P t-1)) vs.length with h|h
     ·exact h
     ·rw [List.getElem?_eq_none h] at hv';cases hv'
    exact .inr (by omega)
  refine ⟨_,hk2,Cf (hrun (.agg ⟨(vs.drop off).take (Be P t)⟩) ?_) ⟨(vs.drop off).take (Be P t),rfl,?_⟩ fun i hi=>?_⟩
  ·simp only [part,Sem.run_bind,Q8 hd,hagg,Result.andThen_ok,if_true,Kx hi];simp [List.extract_eq_take_drop]
  ·refine Bj.of_at ?_ fun i c u hc hu=>?_
   ·simp only [List.length_take,List.length_drop];omega
   ·obtain ⟨v,hv',hcv⟩:=hcell i c hc
    have hlt:i<Be P t:=by
     rcases Nat.lt_or_ge i qs.length with h|h
     ·omega
     ·rw [List.getElem?_eq_none h] at hc;cases hc
    rw [List.getElem?_take_of_lt hlt,List.getElem?_drop,hv'] at hu;cases hu;exact hcv
  ·obtain ⟨q,hqm,hi⟩:=List.mem_flatMap.1 (show i∈qs.flatMap At from hi)
   exact hrefs q hqm i hi
 ·obtain ⟨v,hv',hcv⟩:=hcell 0 q rfl;have hn:=hna q (by simp)
  refine ⟨_,hk2,Cf (hrun v ?_) ((Nm hn.2).2 ((S2 hn.1).2 hcv)) fun i hi=>?_⟩
  ·simp only [part,Sem.run_bind,Q8 hd,hagg,Result.andThen_ok];rw [Nat.add_zero] at hv';simp [hv']
  ·rw [ZY hn.1 hn.2] at hi;exact hrefs q (by simp) i hi
theorem VU (h:Bu N w0 X0 Y β s a w){t:TypeId}{x:Operand}{f:Nat}(ho:o.op=.field t x f){K:PV->Option R}
  (hk:(Ep (Rl P t f) fun q=>Ap (I9 P q.2)<|Cy (Ch s.tm x) fun cs=>Qr (Ic P q.2) cs q.1 fun c=>mkV (Cr P q.2) c K)=some r):∃v,K v=some r∧E1 P a w o Y β s v [] []:=by
 obtain ⟨q,hq,hk⟩:=C8 hk;obtain ⟨hok,hk⟩:=Aq hk;obtain ⟨cs,hx,hk⟩:=Hr hk;obtain ⟨fs,g,hu,hg,rfl⟩:=Zh hq;have hxv:=Da h x;rw [hx] at hxv;obtain ⟨vs,hax,hv⟩:=hxv;refine KU (t:=g.type) (off:=g.offset) h hx hv (by rw [show I9 P g.type=true from hok];exact hk) fun val hp=>?_
 unfold execOp;rw [ho];simp [Instr.field,run_underlying hu,hg,asAgg,hax,hp]
theorem MN (h:Bu N w0 X0 Y β s a w){x:Operand}{i:Nat}(ho:o.op=.extract x i){K:PV->Option R}
  (hk:(match Ch s.tm x with | .tup vs=>Ep vs[i]? K|_=>none)=some r):∃v,K v=some r∧E1 P a w o Y β s v [] []:=by
 have hx:=Da h x;have hxr:=Ff h x;split at hk
 ·rename_i ps e;rw [e] at hx hxr;obtain ⟨p,hp,hk⟩:=C8 hk;obtain ⟨vs,hax,hv⟩:=hx;obtain ⟨v,hv',hpv⟩:=hv.get hp
  have hntup:∀y,p ≠ .tup y:=by
   rintro y rfl
   have hpv':A5 _ _ (.tup y) v:=hpv;cases hpv'
  refine ⟨p,hk,Cf (val:=v) ?_ ((Nm hntup).2 hpv) fun id hid=>hxr id ?_⟩
  ·unfold execOp;rw [ho];simp [Instr.extract,hax,hv']
  ·refine List.mem_flatMap.2 ⟨p,List.mem_of_getElem? hp,?_⟩;cases p<;>first|exact hid|exact absurd rfl (hntup _)
 ·cases hk
theorem Ht {es:Nat}{p:PV}{z:Bool}{n:Nat}{c:List PV}{v:Value}(hp:p=.lst z es n c∨(p=.sc (.slice none 0 0)∧z=true∧n=0∧c=[])) (hv:Dp w A β p v):
  (v=.slice none 0 0∧n=0∧c=[])∨(∃ad cap,v=.slice (some ad) n cap∧z=false∧n<=cap∧ad.spot=none∧ad.block<w.heap.size∧¬A ad.block∧NQ w A ad c)∨∃ad cap,v=.slice (some ad) 0 cap∧z=false∧n=0∧c=[]:=by
 have hv':B9 w A β p v:=by rcases hp with rfl|⟨rfl,_⟩<;>exact hv
 have ht:=Xm hp hv';cases ht with
 |lnil=>exact .inl ⟨rfl,rfl,rfl⟩
 |lst _ _ _ ad cap f hs hb hA hn hc h1 hr=>exact .inr (.inl ⟨ad,cap,rfl,rfl,hn,hs,hb,hA,fun j q hj=>⟨f j,hc j q hj,h1 j q hj,hr j q hj⟩⟩)
 |lemp _ ad cap=>exact .inr (.inr ⟨ad,cap,rfl,rfl,rfl,rfl⟩)
theorem GP (h:Bu N w0 X0 Y β s a w){t:TypeId}{x i:Operand}(ho:o.op=.indexAddr t x i){K:PV->Option R}
  (hk:(Do (Ch s.tm i) fun _ n=>Kv P t (Ch s.tm x) n K)=some r):∃v,K v=some r∧E1 P a w o Y β s v [] []:=by
 obtain ⟨ik,n,hi,hk⟩:=Dh hk;have hai:=Cq h hi;have hx:=Da h x;have hxr:=Ff h x;unfold Kv at hk;split at hk
 ·rename_i len e hu;obtain ⟨hz,hk⟩:=Aq hk;obtain ⟨hb,hk⟩:=Aq hk;simp only [Bool.and_eq_true,decide_eq_true_eq] at hb;obtain ⟨inf,hinf⟩:=Option.isSome_iff_exists.1 hz;refine Xl h hk fun ad hax=>?_
  unfold execOp;rw [ho];simp [Instr.indexAt,asIntOf,hai,hax,run_underlying hu,Instr.sureAddr,hb.1,hb.2,sizeOf,typeInfo,hinf,Be]
 ·rename_i e hu;obtain ⟨hz,hk⟩:=Aq hk;obtain ⟨inf,hinf⟩:=Option.isSome_iff_exists.1 hz;have hsz:Be P e=inf.size:=by simp [Be,hinf]
  split at hk
  ·rename_i id es off n' e';rw [e'] at hx hxr;obtain ⟨hes,hk⟩:=Aq hk;have hes:=Nat.eq_of_beq_eq_true hes;subst hes;obtain ⟨hb,hk⟩:=Aq hk;simp only [Bool.and_eq_true,decide_eq_true_eq] at hb;rcases hx with ⟨_,_,rfl,_⟩|⟨b,ob,y,cap,hβ,hax,hy,_⟩
   ·omega
   ·have hy:y=ob+off:=by rcases hy with hy|⟨rfl,_⟩<;>omega
    subst hy;refine ⟨_,hk,Cf (val:=.pointer (some ⟨b,ob+(off+n.toNat*Be P e),none⟩)) ?_ ⟨b,ob,hβ,rfl⟩ hxr⟩;unfold execOp;rw [ho];simp [Instr.indexAt,asIntOf,hai,hax,run_underlying hu,hb.1,hb.2,sizeOf,typeInfo,hinf,hsz,Dz,Nat.add_assoc]
  ·obtain ⟨z,n',c,hk,hp⟩:=Gf hk;obtain ⟨hb,hk⟩:=Aq hk;simp only [Bool.and_eq_true,decide_eq_true_eq] at hb;rcases Ht hp hx with ⟨_,rfl,_⟩|⟨ad,cap,hax,_,_,h1,h2,h3,h4⟩|⟨_,_,_,_,rfl,_⟩
   ·omega
   rotate_left
   ·omega
   ·refine ⟨_,hk,Cf (val:=.pointer (some (ad.add (n.toNat*Be P e)))) ?_ ⟨ad,rfl,h1,h2,h3,h4⟩ (by intro i hi;cases hi)⟩
    unfold execOp;rw [ho];simp [Instr.indexAt,asIntOf,hai,hax,run_underlying hu,hb.1,hb.2,sizeOf,typeInfo,hinf,hsz]
 ·cases hk
theorem VV (h:Bu N w0 X0 Y β s a w){t:TypeId}{x i:Operand}(ho:o.op=.index t x i){K:PV->Option R}
  (hk:(Do (Ch s.tm i) fun _ n=>
   match P.underlying t with
   |some .string=>Co (Ch s.tm x) fun s=>Ap (decide (0<=n)) (Ep (s.data.toList[n.toNat]?) fun b=>K (.sc (.int .u8 b.toNat)))
   |some (.array len e)=>Cy (Ch s.tm x) fun cs=>Ap (decide (0<=n)&&decide (n<len)&&I9 P e) (Qr (Ic P e) cs (n.toNat*Be P e) fun c=>mkV (Cr P e) c K)
   |_=>none)=some r):∃v,K v=some r∧E1 P a w o Y β s v [] []:=by
 obtain ⟨ik,n,hi,hk⟩:=Dh hk;have hai:=Cq h hi;split at hk
 ·rename_i hu;obtain ⟨sb,hx,hk⟩:=F0 hk;have hax:=Cq h hx;obtain ⟨h0,hk⟩:=Aq hk;obtain ⟨b,hb,hk⟩:=C8 hk;have h0:=of_decide_eq_true h0;refine ⟨_,hk,C1 ?_⟩
  have hlt:n.toNat<sb.size:=by
   rcases Nat.lt_or_ge n.toNat sb.data.toList.length with h|h
   ·simpa using h
   ·rw [List.getElem?_eq_none h] at hb;cases hb
  have hb':sb[n.toNat]=b:=by
   have:sb.data.toList[n.toNat]?=some sb[n.toNat]:=by
    rw [List.getElem?_eq_getElem (by simpa using hlt)]
    rfl
   rw [hb] at this;injection this with this;exact this.symm
  unfold execOp;rw [ho];simp [Instr.index,asIntOf,hai,hax,run_underlying hu,h0,hlt,hb']
 ·rename_i len e hu;obtain ⟨cs,hx,hk⟩:=Hr hk;obtain ⟨hb,hk⟩:=Aq hk;simp only [Bool.and_eq_true,decide_eq_true_eq] at hb;have hxv:=Da h x;rw [hx] at hxv;obtain ⟨vs,hax,hv⟩:=hxv;obtain ⟨_,_,hsz⟩:=Rz hb.2;refine KU (t:=e) (off:=n.toNat*Be P e) h hx hv (by rw [hb.2];exact hk) fun val hp=>?_
  unfold execOp;rw [ho];simp [Instr.index,asIntOf,hai,hax,run_underlying hu,hb.1.1,hb.1.2,Kx hsz,hp]
 ·cases hk
end
open Go.RowKit
section
variable {R:Type} {r:R} {P:Program} {N:Nat} {w0:World} {X0:E5} {Y:Nat->Prop} {β β':Bt} {s:St} {a:Act} {w w':World} {o:Oper} {A:Nat->Prop}
theorem Hv (h:Bu N w0 X0 Y β s a w){x:Option Operand}{dflt:Nat}{K:Nat->Option R}(hk:Mp (x.map (Ch s.tm)) dflt K=some r):
  ∃l,K l=some r∧((x=none∧l=dflt)∨∃y k,x=some y∧a.eval y=.int k (l:Int)):=by
 cases x with
 |none=>exact ⟨dflt,hk,.inl ⟨rfl,rfl⟩⟩
 |some y=>
  obtain ⟨k,i,hi,hk⟩:=Dh (show Do (Ch s.tm y) _=some r from hk)
  obtain ⟨h0,hk⟩:=Aq hk;have h0:=of_decide_eq_true h0;exact ⟨i.toNat,hk,.inr ⟨y,k,rfl,by rw [Cq h hi,Int.toNat_of_nonneg h0]⟩⟩
theorem Iq {lo hi:Option Operand}{isS:Bool}{len cap l u:Nat}(hl:(lo=none∧l=0)∨∃y k,lo=some y∧a.eval y=.int k (l:Int))
  (hu:(hi=none∧u=len)∨∃y k,hi=some y∧a.eval y=.int k (u:Int)) (h1:l<=u)(h2:u<=cap):
  (Instr.sliceBounds isS len cap (lo.map a.eval) (hi.map a.eval) none).run P w=.ok (l,u,cap) w:=by
 rcases hl with ⟨rfl,rfl⟩|⟨y,k,rfl,hy⟩<;>rcases hu with ⟨rfl,rfl⟩|⟨y',k',rfl,hy'⟩
 ·simp [Instr.sliceBounds]
 ·simp [Instr.sliceBounds,Instr.sliceBound,asIntOf,hy',h2]
 ·simp [Instr.sliceBounds,Instr.sliceBound,asIntOf,hy,h1]
 ·simp [Instr.sliceBounds,Instr.sliceBound,asIntOf,hy,hy',h1,h2]
theorem D9 {e:TypeId}(h:(P.info? e).isSome=true) (w:World):(sizeOf e).run P w=.ok (Be P e) w:=by
 obtain ⟨i,hi⟩:=Option.isSome_iff_exists.1 h;exact Kx (by simp [Be,hi]) w
theorem JW {b j:Nat}{v:Value}(h:w.cell? ⟨b,j,none⟩=some v):j<bsz w b:=by
 unfold World.cell? at h;unfold bsz;split at h
 ·rename_i c e fz hb;simp only at hb;rw [hb];simp only [Option.isSome_none,Bool.false_eq_true,if_false] at h;rcases Nat.lt_or_ge j c.size with hlt|hge
  ·exact hlt
  ·rw [Array.getElem?_eq_none hge] at h;cases h
 ·cases h
theorem UH (h:Bu N w0 X0 Y β s a w){t:TypeId}{x:Operand}{lo hi:Option Operand}(ho:o.op=.slice t x lo hi none){K:PV->Option R}
  (hk:EC P (rd s.hp) t (Ch s.tm x) (lo.map (Ch s.tm)) (hi.map (Ch s.tm)) K=some r):∃v,K v=some r∧E1 P a w o Y β s v [] []:=by
 have hx:=Da h x;have hxr:=Ff h x;unfold EC at hk;split at hk
 ·rename_i hu;obtain ⟨sb,hxs,hk⟩:=F0 hk;have hax:=Cq h hxs;obtain ⟨l,hk,hl⟩:=Hv h hk;obtain ⟨u,hk,hu'⟩:=Hv h hk;obtain ⟨hb,hk⟩:=Aq hk;simp only [Bool.and_eq_true,decide_eq_true_eq] at hb;refine ⟨_,hk,C1 ?_⟩;unfold execOp;rw [ho];simp [Instr.sliceAt,Instr.slice,run_underlying hu,hax,Iq hl hu' hb.1 hb.2]
 ·rename_i e hu;obtain ⟨hinf,hk⟩:=Aq hk;split at hk
  ·rename_i id es off n e';rw [e'] at hx hxr;obtain ⟨hes,hk⟩:=Aq hk;have hes:=Nat.eq_of_beq_eq_true hes;subst hes;obtain ⟨l,hk,hl⟩:=Hv h hk;obtain ⟨u,hk,hu'⟩:=Hv h hk;obtain ⟨hb,hk⟩:=Aq hk;simp only [Bool.and_eq_true,decide_eq_true_eq] at hb;rcases hx with ⟨hβ,rfl,rfl,hax⟩|⟨b,ob,y,cap,hβ,hax,hy,hn,hcap,hlt⟩
   ·have hu0:u=0:=by omega
    have hl0:l=0:=by omega
    subst hu0 hl0;refine ⟨_,hk,Cf (val:=.slice none 0 0) ?_ (.inl ⟨hβ,by simp,rfl,rfl⟩) hxr⟩
    unfold execOp;rw [ho];simp [Instr.sliceAt,Instr.slice,run_underlying hu,hax,Iq hl hu' (Nat.le_refl 0) (Nat.le_refl 0),D9 hinf]
   ·have hrun:(execOp a.eval o).run P w=.ok (.value (.slice (some (if cap=l then ⟨b,y,none⟩ else ⟨b,y+l*Be P e,none⟩)) (u-l) (cap-l))) w:=by
     unfold execOp;rw [ho];have hbr:=Iq (P:=P) (w:=w) (isS:=true) hl hu' hb.1 (Nat.le_trans hb.2 hn);simp [Instr.sliceAt,Instr.slice,run_underlying hu,hax,hbr,D9 hinf,Dz];split<;>rfl
    refine ⟨_,hk,Cf hrun (.inr ?_) hxr⟩;by_cases hc:cap=l
    ·rw [if_pos hc];refine ⟨b,ob,y,cap-l,hβ,rfl,?_,by omega,by rw [hc,Nat.sub_self];omega,hlt⟩
     by_cases h0:l*Be P e=0
     ·rw [h0,Nat.add_zero];rcases hy with hy|⟨hn0,hoff⟩
      ·exact .inl hy
      ·exact .inr ⟨by omega,hoff⟩
     ·exact .inr ⟨by omega,by omega⟩
    ·rw [if_neg hc];refine ⟨b,ob,y+l*Be P e,cap-l,hβ,rfl,?_,by omega,?_,hlt⟩
     ·rcases hy with hy|⟨hn0,hoff⟩
      ·exact .inl (by omega)
      ·exact .inr ⟨by omega,by omega⟩
     ·have:l*Be P e+(cap-l)*Be P e=cap*Be P e:=by
       rw [←Nat.add_mul]
       congr 1
       omega
      omega
  ·obtain ⟨z,n,c,hk,hp⟩:=Gf hk;obtain ⟨l,hk,hl⟩:=Hv h hk;obtain ⟨u,hk,hu'⟩:=Hv h hk;obtain ⟨hb,hk⟩:=Aq hk;simp only [Bool.and_eq_true,decide_eq_true_eq] at hb;rcases Ht hp hx with ⟨hax,rfl,rfl⟩|⟨ad,cap,hax,rfl,hn,h1,h2,h3,h4⟩|⟨ad,cap,hax,rfl,rfl,rfl⟩
   rotate_right
   ·have hu0:u=0:=by omega
    have hl0:l=0:=by omega
    subst hu0 hl0;refine ⟨_,hk,Cf (val:=.slice (some (if cap=0 then ad else ad.add (0*Be P e))) (0-0) (cap-0)) ?_ ?_ (by intro i hi;cases hi)⟩
    ·unfold execOp;rw [ho];have hbr:=Iq (P:=P) (w:=w) (isS:=true) hl hu' (Nat.le_refl 0) (Nat.zero_le cap);simp [Instr.sliceAt,Instr.slice,run_underlying hu,hax,hbr,D9 hinf];split<;>rfl
    ·have:((([]:List PV).drop (0*Be P e)).take ((0-0)*Be P e))=[]:=by simp
     rw [this];exact A5.lemp _ _ _
   ·have hu0:u=0:=by omega
    have hl0:l=0:=by omega
    subst hu0 hl0;refine ⟨_,hk,Cf (val:=.slice none 0 0) ?_ ?_ (by intro i hi;cases hi)⟩
    ·unfold execOp;rw [ho];simp [Instr.sliceAt,Instr.slice,run_underlying hu,hax,Iq hl hu' (Nat.le_refl 0) (Nat.le_refl 0),D9 hinf]
    ·have:((([]:List PV).drop (0*Be P e)).take ((0-0)*Be P e))=[]:=by simp
     rw [this];exact A5.lnil z _
   ·have hrun:(execOp a.eval o).run P w=.ok (.value (.slice (some (if cap=l then ad else ad.add (l*Be P e))) (u-l) (cap-l))) w:=by
     unfold execOp;rw [ho];have hbr:=Iq (P:=P) (w:=w) (isS:=true) hl hu' hb.1 (Nat.le_trans hb.2 hn);simp [Instr.sliceAt,Instr.slice,run_underlying hu,hax,hbr,D9 hinf];split<;>rfl
    refine ⟨_,hk,Cf hrun ?_ (by intro i hi;cases hi)⟩
    by_cases hc:cap=l
    ·rw [if_pos hc];have:u-l=0:=by omega
     rw [this];simp only [Nat.zero_mul,List.take_zero];exact A5.lst _ _ [] ad _ (fun _=>undef) h1 h2 h3 (by omega) (by simp) (by simp) (by simp)
    ·rw [if_neg hc]
     have hcell:∀(j:Nat) q,((c.drop (l*Be P e)).take ((u-l)*Be P e))[j]?=some q->c[l*Be P e+j]?=some q:=by
      intro j q hq;rw [List.getElem?_take] at hq;split at hq
      ·rw [List.getElem?_drop] at hq;exact hq
      ·cases hq
     refine A5.lst _ _ _ (ad.add (l*Be P e)) _ (fun j=>(w.cell? (ad.add (l*Be P e+j))).getD undef) (Afa h1 _) (by rw [Fv];exact h2) (by rw [Fv];exact h3) (by omega) (fun j q hq=>?_) (fun j q hq=>?_) (fun j q hq=>?_)
     ·obtain ⟨v,hv,_⟩:=h4 _ q (hcell j q hq);rw [add_add,hv];rfl
     ·obtain ⟨v,hv,h5,_⟩:=h4 _ q (hcell j q hq);rw [hv];exact h5
     ·obtain ⟨v,hv,_,ht⟩:=h4 _ q (hcell j q hq);rw [hv];exact ht
 ·rename_i n e hu;obtain ⟨hinf,hk⟩:=Aq hk;split at hk
  ·rename_i id off e';rw [e'] at hx hxr;obtain ⟨c,hrc,hk⟩:=C8 hk;obtain ⟨hlen,hk⟩:=Aq hk;simp only [Bool.and_eq_true,decide_eq_true_eq] at hlen;obtain ⟨l,hk,hl⟩:=Hv h hk;obtain ⟨u,hk,hu'⟩:=Hv h hk;obtain ⟨hb,hk⟩:=Aq hk;simp only [Bool.and_eq_true,decide_eq_true_eq] at hb;obtain ⟨b,ob,hβ,hax⟩:=hx
   have hbs:ob+off+n*Be P e<=bsz w b:=by
    obtain ⟨v,hv,_⟩:=IF h hrc hβ (j:=off+n*Be P e-1) (List.getElem?_eq_getElem (by omega))
    have:=JW hv;omega
   have hlt:b<w.heap.size:=h.blt id b ob (hxr id (by simp [Bq,Cb,At])) hβ
   have hrun:(execOp a.eval o).run P w=.ok (.value (.slice (some (if n=l then ⟨b,ob+off,none⟩ else ⟨b,ob+off+l*Be P e,none⟩)) (u-l) (n-l))) w:=by
    unfold execOp;rw [ho];have hbr:=Iq (P:=P) (w:=w) (isS:=false) hl hu' hb.1 hb.2;simp [Instr.sliceAt,Instr.sureAddr,run_underlying hu,hax,hbr,D9 hinf,Dz]
   refine ⟨_,hk,Cf hrun (.inr ?_) hxr⟩;by_cases hc:n=l
   ·rw [if_pos hc];refine ⟨b,ob,ob+off,n-l,hβ,rfl,?_,by omega,by rw [hc,Nat.sub_self];omega,hlt⟩
    by_cases h0:l*Be P e=0
    ·rw [h0,Nat.add_zero];exact .inl rfl
    ·exact .inr ⟨by omega,by omega⟩
   ·rw [if_neg hc];refine ⟨b,ob,ob+off+l*Be P e,n-l,hβ,rfl,.inl (by omega),by omega,?_,hlt⟩
    have:l*Be P e+(n-l)*Be P e=n*Be P e:=by
     rw [←Nat.add_mul]
     congr 1
     omega
    omega
  ·cases hk
 ·cases hk
end
open Go.RowKit
section
variable {R:Type} {r:R} {P:Program} {N:Nat} {w0:World} {X0:E5} {Y:Nat->Prop} {β β':Bt} {s:St} {a:Act} {w w':World} {o:Oper} {A:Nat->Prop}
theorem Ada (h:Bu N w0 X0 Y β s a w){c:Call}(ho:o.op=.call c)(hc:c.callee=.builtin .len){K:PV->Option R}
  (hk:(Ab c.args.toList fun x _=>Ab c.argTypes.toList fun t _=>Ad8 P t (Ch s.tm x) fun n=>K (.sc (.int .i64 n)))=some r):∃v,K v=some r∧E1 P a w o Y β s v [] []:=by
 obtain ⟨x,xs,hxs,hk⟩:=Bd hk;obtain ⟨t,ts,hts,hk⟩:=Bd hk;have hx:=Da h x;have hargs:c.args=(x::xs).toArray:=by rw [←hxs]
 have htys:c.argTypes=(t::ts).toArray:=by rw [←hts]
 have hrun:∀n:Nat,(Builtin.len_ c.argTypes o.type (c.args.map a.eval)).run P w=.ok (.int .i64 n) w->(execOp a.eval o).run P w=.ok (.value (.int .i64 n)) w:=by
  intro n hl;unfold execOp;rw [ho];simp only [resolve,hc,invoke,builtin,Sem.run_bind,Sem.run_pure,Result.andThen_ok,hl]
 unfold Ad8 at hk;split at hk
 ·rename_i hu;obtain ⟨sb,hxs',hk⟩:=F0 hk;have hax:=Cq h hxs';refine ⟨_,hk,C1 (hrun _ ?_)⟩;simp [Builtin.len_,hargs,htys,run_underlying hu,hax,goInt]
 ·rename_i n e hu;refine ⟨_,hk,C1 (hrun _ ?_)⟩;simp [Builtin.len_,hargs,htys,run_underlying hu,goInt]
 ·rename_i e hu;split at hk
  ·rename_i id es off n e';rw [e'] at hx;obtain ⟨_,hk⟩:=Aq hk;refine ⟨_,hk,C1 (hrun _ ?_)⟩;rcases hx with ⟨_,_,rfl,hax⟩|⟨b,ob,y,cap,_,hax,_⟩<;>simp [Builtin.len_,hargs,htys,run_underlying hu,hax,goInt]
  ·obtain ⟨z,n,cc,hk,hp⟩:=Gf hk;refine ⟨_,hk,C1 (hrun _ ?_)⟩;rcases Ht hp hx with ⟨hax,rfl,_⟩|⟨ad,cap,hax,_⟩|⟨ad,cap,hax,_,rfl,_⟩<;>simp [Builtin.len_,hargs,htys,run_underlying hu,hax,goInt]
 ·cases hk
theorem Aeo (h:Bu N w0 X0 Y β s a w){c:Call}(ho:o.op=.call c)(hc:c.callee=.builtin .cap){K:PV->Option R}
  (hk:(Ab c.args.toList fun x _=>Ab c.argTypes.toList fun t _=>Ad7 P t (Ch s.tm x) fun n=>K (.sc (.int .i64 n)))=some r):∃v,K v=some r∧E1 P a w o Y β s v [] []:=by
 obtain ⟨x,xs,hxs,hk⟩:=Bd hk;obtain ⟨t,ts,hts,hk⟩:=Bd hk;have hx:=Da h x;have hargs:c.args=(x::xs).toArray:=by rw [←hxs]
 have htys:c.argTypes=(t::ts).toArray:=by rw [←hts]
 have hrun:∀n:Nat,(Builtin.cap_ c.argTypes o.type (c.args.map a.eval)).run P w=.ok (.int .i64 n) w->(execOp a.eval o).run P w=.ok (.value (.int .i64 n)) w:=by
  intro n hl;unfold execOp;rw [ho];simp only [resolve,hc,invoke,builtin,Sem.run_bind,Sem.run_pure,Result.andThen_ok,hl]
 unfold Ad7 at hk;split at hk
 ·rename_i e hu;obtain ⟨z,n,cc,hk,hp⟩:=Gf hk;obtain ⟨hz,hk⟩:=Aq hk;refine ⟨_,hk,C1 (hrun _ ?_)⟩;rcases Ht hp hx with ⟨hax,rfl,_⟩|⟨ad,cap,hax,hzf,_⟩|⟨ad,cap,hax,hzf,_,_⟩
  ·simp [Builtin.cap_,hargs,htys,run_underlying hu,hax,goInt]
  ·rw [hz] at hzf;cases hzf
  ·rw [hz] at hzf;cases hzf
 ·cases hk
theorem Ae3 (h:Bu N w0 X0 Y β s a w){c:Call}(ho:o.op=.call c)(hc:c.callee=.builtin .min){K:PV->Option R}
  (hk:(Ab c.args.toList fun x r=>Ab r fun y r'=>Ac r' (Ajz (Ch s.tm x) (Ch s.tm y) K))=some r):∃v,K v=some r∧E1 P a w o Y β s v [] []:=by
 obtain ⟨x,xs,hxs,hk⟩:=Bd hk;obtain ⟨y,ys,rfl,hk⟩:=Bd hk;obtain ⟨rfl,hk⟩:=Dn hk;obtain ⟨k,n,hx,hk⟩:=Dh hk;obtain ⟨m,hy,hk⟩:=Hn hk
 have hargs:c.args = #[x,y]:=by
  have:c.args=([x,y]:List Operand).toArray:=by rw [←hxs]
  exact this
 refine ⟨_,hk,C1 ?_⟩;unfold execOp;rw [ho];simp [resolve,hc,invoke,builtin,hargs,Builtin.min_,Builtin.min2,Cq h hx,Cq h hy]
theorem Ad2 (h:Bu N w0 X0 Y β s a w){c:Call}(ho:o.op=.call c)(hc:c.callee=.builtin .max){K:PV->Option R}
  (hk:(Ab c.args.toList fun x r=>Ab r fun y r'=>Ac r' (Ak8 (Ch s.tm x) (Ch s.tm y) K))=some r):∃v,K v=some r∧E1 P a w o Y β s v [] []:=by
 obtain ⟨x,xs,hxs,hk⟩:=Bd hk;obtain ⟨y,ys,rfl,hk⟩:=Bd hk;obtain ⟨rfl,hk⟩:=Dn hk;obtain ⟨k,n,hx,hk⟩:=Dh hk;obtain ⟨m,hy,hk⟩:=Hn hk
 have hargs:c.args = #[x,y]:=by
  have:c.args=([x,y]:List Operand).toArray:=by rw [←hxs]
  exact this
 refine ⟨_,hk,C1 ?_⟩;unfold execOp;rw [ho];simp [resolve,hc,invoke,builtin,hargs,Builtin.max_,Builtin.max2,Cq h hx,Cq h hy]
theorem Aab (h:Bu N w0 X0 Y β s a w){op:UnOp}{t:TypeId}{x:Operand}(ho:o.op=.unOp op t x){K:PV->Option R}(hk:unK op (Ch s.tm x) K=some r):
  ∃v,K v=some r∧E1 P a w o Y β s v [] []:=by
 unfold unK at hk;split at hk
 ·obtain ⟨b,hb,hk⟩:=Gi hk;refine ⟨_,hk,C1 ?_⟩;unfold execOp;rw [ho];simp [Op.unary,Cq h hb]
 ·obtain ⟨k,n,hb,hk⟩:=Dh hk;refine ⟨_,hk,C1 ?_⟩;unfold execOp;rw [ho];simp [Op.unary,Op.intArith,Cq h hb]
 ·obtain ⟨k,n,hb,hk⟩:=Dh hk;refine ⟨_,hk,C1 ?_⟩;unfold execOp;rw [ho];simp [Op.unary,Op.intBits,Cq h hb,Asg]
 ·cases hk
theorem Ad1 {op:BinOp}{k:IntKind}{m n:Int}{t:TypeId}{x y:Operand}{K:PV->Option R}(hs1:op ≠ .shl)(hs2:op ≠ .shr)(hk:HI op k m n K=some r):
  ∃v,K (.sc v)=some r∧(do eqGuard op t x y (.int k m) (.int k n);binOp op t (.int k m) (.int k n)).run P w=.ok v w:=by
 cases op<;>first
  |exact absurd rfl hs1
  |exact absurd rfl hs2
  |(obtain ⟨hb,hk⟩:=Aq hk;have hb:=of_decide_eq_true hb;exact ⟨_,hk,by simp [eqGuard,binOp,Op.intDiv,hb]⟩)
  |exact ⟨_,hk,by simp [eqGuard,binOp,-BitVec.toNat_and,-BitVec.toNat_or,-BitVec.toNat_xor,-gt_iff_lt,-ge_iff_le]<;>rfl⟩
theorem Adq {op:BinOp}{m n:ByteArray}{t:TypeId}{x y:Operand}{K:PV->Option R}(hk:LC op m n K=some r):
  ∃v,K (.sc v)=some r∧(do eqGuard op t x y (.string m) (.string n);binOp op t (.string m) (.string n)).run P w=.ok v w:=by
 cases op<;>first
  |cases hk
  |(obtain ⟨hb,hk⟩:=Aq hk;have hb:=of_decide_eq_true hb;exact ⟨_,hk,by
    have hb':¬(((m.size+n.size:Nat):Int)>IntKind.i64.max):=by
     have:IntKind.i64.max=9223372036854775807:=rfl;rw [this];omega
    simp only [eqGuard,binOp,Op.stringOp,if_neg hb'];rfl⟩)
  |exact ⟨_,hk,by simp only [eqGuard,binOp,Op.stringOp,ByteArray.toList_eq];rfl⟩
end
open Go.RowKit
section
variable {R:Type} {r:R} {P:Program} {N:Nat} {w0:World} {X0:E5} {Y:Nat->Prop} {β β':Bt} {s:St} {a:Act} {w w':World} {o:Oper} {A:Nat->Prop}
theorem KE {t:TypeId}(hu:P.underlying t=some .bool)(x y:Bool):(Op.equal t (.bool x) (.bool y)).run P w=.ok (x==y) w:=by
 have h:∀d,(Op.equalIn (d+1) t (.bool x) (.bool y)).run P w=.ok (x==y) w:=fun d=>by simp [Op.equalIn,run_underlying hu]
 exact h 9999
theorem V5 {t e:TypeId}(hu:P.underlying t=some (.slice e)) (x:Option Addr)(n c:Nat):(Op.equal t (.slice x n c) (.slice none 0 0)).run P w=.ok x.isNone w:=by
 have h:∀d,(Op.equalIn (d+1) t (.slice x n c) (.slice none 0 0)).run P w=.ok x.isNone w:=fun d=>by
  cases x<;>simp [Op.equalIn,run_underlying hu]
 exact h 9999
theorem Ut {t:TypeId}(d:Nat){v u:Value}(hv:(∃k m n,P.underlying t=some (.int k)∧v=.int k m∧u=.int k n)∨(∃m n,P.underlying t=some .bool∧v=.bool m∧u=.bool n)∨∃m n,P.underlying t=some .string∧v=.string m∧u=.string n) {b:Bool}
  (hb:∀k m n,v=.int k m->u=.int k n->b=(m==n)) (hb':∀m n,v=.bool m->u=.bool n->b=(m==n)) (hb'':∀m n,v=.string m->u=.string n->b=(m==n)):(Op.equalIn (d+1) t v u).run P w=.ok b w:=by
 rcases hv with ⟨k,m,n,hu,rfl,rfl⟩|⟨m,n,hu,rfl,rfl⟩|⟨m,n,hu,rfl,rfl⟩
 ·rw [hb k m n rfl rfl];simp [Op.equalIn,run_underlying hu]
 ·rw [hb' m n rfl rfl];simp [Op.equalIn,run_underlying hu]
 ·rw [hb'' m n rfl rfl];simp [Op.equalIn,run_underlying hu]
theorem KZ {t:TypeId}{dsc:TypeDesc}(hu:P.underlying t=some dsc)(hd:Cr P t=false){xs:Array Value}{i:Nat}{v:Value}(hv:xs[i]?=some v):(part t xs i).run P w=.ok v w:=by
 simp only [part,Sem.run_bind,Q8 hu,hd,Result.andThen_ok];simp [hv]
theorem Aa0 (d : Nat) : ∀ (fs : List Field) (i : Nat) (xs ys : Array Value) (ps qs : List PV) (K : Bool -> Option R), II P fs i = true -> HP (fs.map (fty P)) ps qs K = some r ->
    (∀ (j : Nat) p, ps[j]? = some p -> ∃ v, xs[i + j]? = some v ∧ B9 w A β p v) -> (∀ (j : Nat) p, qs[j]? = some p -> ∃ v, ys[i + j]? = some v ∧ B9 w A β p v) ->
    ∃ b, K b = some r ∧ (forIn fs ((none, ()) : Option Bool × Unit) fun (f : Field) (_ : Option Bool × Unit) =>
            if f.name = "_" then pure (ForInStep.yield ((none, ()) : Option Bool × Unit))
            else do
              let x ← part f.type xs f.offset
              let y ← part f.type ys f.offset
              let e ← Op.equalIn (d + 1) f.type x y
              if e = false then pure (ForInStep.done ((some false, ()) : Option Bool × Unit)) else pure (ForInStep.yield ((none, ()) : Option Bool × Unit)) : Sem (Option Bool × Unit)).run P w = .ok (if b then (none, ()) else (some false, ())) w
  | [], i, xs, ys, ps, qs, K, _, hk, _, _ => by
    cases ps with
    | nil => cases qs with
      | nil => exact ⟨true, hk, by simp⟩
      | cons q qs => cases hk
    | cons p ps => cases hk
  | f :: fs, i, xs, ys, ps, qs, K, hfl, hk, hp, hq => by
    simp only [II, Bool.and_eq_true] at hfl
    obtain ⟨⟨⟨hoff, hname⟩, hty⟩, hrest⟩ := hfl
    have hoff := Nat.eq_of_beq_eq_true hoff
    have hname' : f.name ≠ "_" := by simpa using hname
    cases ps with
    | nil =>
      simp only [List.map_cons] at hk
      cases hfty : fty P f <;> rw [hfty] at hk <;> cases hk
    | cons p ps =>
      cases qs with
      | nil =>
        simp only [List.map_cons] at hk
        cases hfty : fty P f <;> rw [hfty] at hk <;> cases hk
      | cons q qs =>
        obtain ⟨v, hv, hpv⟩ := hp 0 p rfl
        obtain ⟨u, hu, hqu⟩ := hq 0 q rfl
        rw [Nat.add_zero] at hv hu
        have main : ∃ b0 dsc, P.underlying f.type = some dsc ∧ Cr P f.type = false ∧ (Op.equalIn (d + 1) f.type v u).run P w = .ok b0 w ∧ HP (fs.map (fty P)) ps qs (fun r => K (b0 && r)) = some r := by
          simp only [List.map_cons] at hk
          unfold fty at hk
          split at hk
          · rename_i k hun
            obtain ⟨m, hpm, hk1⟩ := Hn (show Ad k p _ = some r from hk)
            obtain ⟨n, hqn, hk2⟩ := Hn hk1
            subst hpm hqn
            have hv' : v = .int k m := A5.val (w := w) (A := A) hpv
            have hu' : u = .int k n := A5.val (w := w) (A := A) hqu
            subst hv' hu'
            refine ⟨m == n, _, hun, by simp [Cr, hun], Ut d (.inl ⟨k, m, n, hun, rfl, rfl⟩) ?_ ?_ ?_, hk2⟩
            · intro k' m' n' h1 h2; injection h1 with _ h1; injection h2 with _ h2; rw [h1, h2]
            · intro m' n' h1; cases h1
            · intro m' n' h1; cases h1
          · rename_i hun
            obtain ⟨m, hpm, hk1⟩ := Gi (show Bl p _ = some r from hk)
            obtain ⟨n, hqn, hk2⟩ := Gi hk1
            subst hpm hqn
            have hv' : v = .bool m := A5.val (w := w) (A := A) hpv
            have hu' : u = .bool n := A5.val (w := w) (A := A) hqu
            subst hv' hu'
            refine ⟨m == n, _, hun, by simp [Cr, hun], Ut d (.inr (.inl ⟨m, n, hun, rfl, rfl⟩)) ?_ ?_ ?_, hk2⟩
            · intro k' m' n' h1; cases h1
            · intro m' n' h1 h2; injection h1 with h1; injection h2 with h2; rw [h1, h2]
            · intro m' n' h1; cases h1
          · rename_i hun
            obtain ⟨m, hpm, hk1⟩ := F0 (show Co p _ = some r from hk)
            obtain ⟨n, hqn, hk2⟩ := F0 hk1
            subst hpm hqn
            have hv' : v = .string m := A5.val (w := w) (A := A) hpv
            have hu' : u = .string n := A5.val (w := w) (A := A) hqu
            subst hv' hu'
            refine ⟨m == n, _, hun, by simp [Cr, hun], Ut d (.inr (.inr ⟨m, n, hun, rfl, rfl⟩)) ?_ ?_ ?_, hk2⟩
            · intro k' m' n' h1; cases h1
            · intro m' n' h1; cases h1
            · intro m' n' h1 h2; injection h1 with h1; injection h2 with h2; rw [h1, h2]
          · cases hk
        obtain ⟨b0, dsc, hun, hagg, he, hk⟩ := main
        obtain ⟨b, hkb, hrun⟩ := Aa0 d fs (i + 1) xs ys ps qs _ hrest hk (fun j p' hj => by have := hp (j + 1) p' hj; rwa [Nat.add_assoc, Nat.add_comm 1 j]) (fun j p' hj => by have := hq (j + 1) p' hj; rwa [Nat.add_assoc, Nat.add_comm 1 j])
        refine ⟨b0 && b, hkb, ?_⟩
        have hpx : (part f.type xs f.offset).run P w = .ok v w := KZ hun hagg (by rw [hoff]; exact hv)
        have hpy : (part f.type ys f.offset).run P w = .ok u w := KZ hun hagg (by rw [hoff]; exact hu)
        cases b0
        · simp [List.forIn_cons, hname', hpx, hpy, he]
        · simp only [Bool.true_and]
          rw [← hrun]
          simp [List.forIn_cons, hname', hpx, hpy, he]
theorem KL (d:Nat){t:TypeId}{fs:Array Field}(hu:P.underlying t=some (.struct fs)) (hst:P.stoodInHeld t=false)(hfl:II P fs.toList 0=true){xs ys:List PV}{vx vy:List Value}
  (hvx:Bj (B9 w A β) xs vx) (hvy:Bj (B9 w A β) ys vy) {K:Bool->Option R}(hk:HP (fs.toList.map (fty P)) xs ys K=some r):
  ∃b,K b=some r∧(Op.equalIn (d+2) t (.agg ⟨vx⟩) (.agg ⟨vy⟩)).run P w=.ok b w:=by
 obtain ⟨b,hkb,hrun⟩:=Aa0 (P:=P) (w:=w) (A:=A) (β:=β) d fs.toList 0 ⟨vx⟩ ⟨vy⟩ xs ys K hfl hk (fun j p hj=>by
   obtain ⟨v,hv,hc⟩:=hvx.get hj;exact ⟨v,by simpa using hv,hc⟩) (fun j p hj=>by
   obtain ⟨v,hv,hc⟩:=hvy.get hj;exact ⟨v,by simpa using hv,hc⟩)
 refine ⟨b,hkb,?_⟩;rw [Array.forIn_toList] at hrun;rw [Op.equalIn];simp [run_underlying hu,hst];rw [hrun];cases b<;>simp
theorem OW (h:Bu N w0 X0 Y β s a w){t:TypeId}{fs:Array Field}{x y:Operand}{op:BinOp}(hop:op=.eql∨op=.neq)(hu:P.underlying t=some (.struct fs)) (hfl:RV P t fs=true){xs ys:List PV}
  (hx:Ch s.tm x=.agg xs)(hy:Ch s.tm y=.agg ys){K:Bool->Option R}(hk:HP (fs.toList.map (fty P)) xs ys K=some r):
  ∃b,K b=some r∧(do eqGuard op t x y (a.eval x) (a.eval y);binOp op t (a.eval x) (a.eval y)).run P w=.ok (.bool (if op=.eql then b else !b)) w:=by
 have hxv:=Da h x;have hyv:=Da h y;rw [hx] at hxv;rw [hy] at hyv;obtain ⟨vx,hax,hvx⟩:=hxv;obtain ⟨vy,hay,hvy⟩:=hyv;simp only [RV,Bool.and_eq_true,Bool.not_eq_true'] at hfl;obtain ⟨⟨hfl,hst⟩,heg⟩:=hfl;obtain ⟨b,hkb,heq⟩:=KL 9998 hu hst hfl hvx hvy hk;have heq:(Op.equal t (.agg ⟨vx⟩) (.agg ⟨vy⟩)).run P w=.ok b w:=heq;refine ⟨b,hkb,?_⟩;rw [hax,hay];rcases hop with rfl|rfl
 ·simp [eqGuard,binOp,heq,heg]
 ·simp [eqGuard,binOp,heq,heg]
theorem WA (h:Bu N w0 X0 Y β s a w){op:BinOp}{t ty:TypeId}{x y:Operand}(ho:o.op=.binOp op t x y ty){K:PV->Option R}
  (hk:V1 P op t (Ch s.tm x) (Ch s.tm y) K=some r):∃v,K v=some r∧E1 P a w o Y β s v [] []:=by
 have hrun:∀v,(do eqGuard op t x y (a.eval x) (a.eval y);binOp op t (a.eval x) (a.eval y)).run P w=.ok v w->(execOp a.eval o).run P w=.ok (.value v) w:=by
  intro v hv;unfold execOp;rw [ho];simp only [Sem.run_bind] at hv ⊢;rw [hv];rfl
 unfold V1 at hk;split at hk
 ·rename_i fs hu;split at hk
  ·obtain ⟨hfl,hk⟩:=Aq hk;obtain ⟨xs,hx,hk⟩:=Hr hk;obtain ⟨ys,hy,hk⟩:=Hr hk;obtain ⟨b,hk,hr⟩:=OW h (.inl rfl) hu hfl hx hy hk;exact ⟨_,hk,C1 (hrun _ (by rw [hr];rfl))⟩
  ·obtain ⟨hfl,hk⟩:=Aq hk;obtain ⟨xs,hx,hk⟩:=Hr hk;obtain ⟨ys,hy,hk⟩:=Hr hk;obtain ⟨b,hk,hr⟩:=OW h (.inr rfl) hu hfl hx hy hk;exact ⟨_,hk,C1 (hrun _ (by rw [hr];rfl))⟩
  ·cases hk
 ·unfold Ahn at hk;split at hk
  ·rename_i k hu;split at hk
   ·obtain ⟨m,hx,hk⟩:=Hn hk;obtain ⟨k2,n,hy,hk⟩:=Dh hk;obtain ⟨hb,hk⟩:=Aq hk;have hb:=of_decide_eq_true hb;refine ⟨_,hk,C1 (hrun _ ?_)⟩;have:¬n<0:=by omega
    simp [eqGuard,binOp,Op.shift,Cq h hx,Cq h hy,this]
   ·obtain ⟨m,hx,hk⟩:=Hn hk;obtain ⟨k2,n,hy,hk⟩:=Dh hk;obtain ⟨hb,hk⟩:=Aq hk;have hb:=of_decide_eq_true hb;refine ⟨_,hk,C1 (hrun _ ?_)⟩;have:¬n<0:=by omega
    simp [eqGuard,binOp,Op.shift,Cq h hx,Cq h hy,this]
   ·rename_i hs1 hs2;obtain ⟨m,hx,hk⟩:=Hn hk;obtain ⟨n,hy,hk⟩:=Hn hk;obtain ⟨v,hk,hr⟩:=Ad1 (P:=P) (w:=w) (t:=t) (x:=x) (y:=y) hs1 hs2 hk;exact ⟨_,hk,C1 (hrun _ (by rw [Cq h hx,Cq h hy];exact hr))⟩
  ·rename_i hu;obtain ⟨m,hx,hk⟩:=F0 hk;obtain ⟨n,hy,hk⟩:=F0 hk;obtain ⟨v,hk,hr⟩:=Adq (P:=P) (w:=w) (t:=t) (x:=x) (y:=y) hk;exact ⟨_,hk,C1 (hrun _ (by rw [Cq h hx,Cq h hy];exact hr))⟩
  ·rename_i hu;split at hk
   ·obtain ⟨m,hx,hk⟩:=Gi hk;obtain ⟨n,hy,hk⟩:=Gi hk;refine ⟨_,hk,C1 (hrun _ ?_)⟩;simp [eqGuard,binOp,Cq h hx,Cq h hy,KE hu]
   ·obtain ⟨m,hx,hk⟩:=Gi hk;obtain ⟨n,hy,hk⟩:=Gi hk;refine ⟨_,hk,C1 (hrun _ ?_)⟩;simp [eqGuard,binOp,Cq h hx,Cq h hy,KE hu]
   ·cases hk
  ·rename_i e hu;have hx:=Da h x
   have nilQ:∀{e:Bool} {K':PV->Option R},LN e (Ch s.tm x) K'=some r->∃q ad n c,K' q=some r∧a.eval x=.slice ad n c∧(q=.sc (.bool (if ad.isNone then e else !e))∨q=.ub):=by
    intro e K' hq;unfold LN at hq;split at hq
    ·rename_i e';exact ⟨_,none,0,0,hq,Cq h e',.inl rfl⟩
    ·rename_i z es n c e';rcases Ht (.inl e') hx with ⟨hax,rfl,_⟩|⟨ad,cap,hax,rfl,_⟩|⟨ad,cap,hax,rfl,rfl,_⟩
     ·rcases Nu hq with ⟨_,hq⟩|⟨_,hq⟩
      ·exact ⟨_,none,0,0,hq,hax,.inl rfl⟩
      ·rcases Nu hq with ⟨hb,_⟩|⟨_,hq⟩
       ·exact absurd (of_decide_eq_true hb) (by omega)
       ·exact ⟨_,none,0,0,hq,hax,.inr rfl⟩
     ·rcases Nu hq with ⟨hz,_⟩|⟨_,hq⟩
      ·cases hz
      ·rcases Nu hq with ⟨_,hq⟩|⟨_,hq⟩
       ·exact ⟨_,some ad,n,cap,hq,hax,.inl rfl⟩
       ·exact ⟨_,some ad,n,cap,hq,hax,.inr rfl⟩
     ·rcases Nu hq with ⟨hz,_⟩|⟨_,hq⟩
      ·cases hz
      ·rcases Nu hq with ⟨hb,_⟩|⟨_,hq⟩
       ·exact absurd (of_decide_eq_true hb) (by omega)
       ·exact ⟨_,some ad,0,cap,hq,hax,.inr rfl⟩
    ·rename_i id es off n e';rw [e'] at hx;rcases hx with ⟨_,_,rfl,hax⟩|⟨b,ob,y',cap,_,hax,_⟩
     ·rcases Nu hq with ⟨hb,_⟩|⟨_,hq⟩
      ·exact absurd (of_decide_eq_true hb) (by omega)
      ·exact ⟨_,none,0,0,hq,hax,.inr rfl⟩
     ·rcases Nu hq with ⟨_,hq⟩|⟨_,hq⟩
      ·exact ⟨_,_,n,cap,hq,hax,.inl rfl⟩
      ·exact ⟨_,_,n,cap,hq,hax,.inr rfl⟩
    ·cases hq
   split at hk
   ·rename_i hy;obtain ⟨q,ad,n,c,hk,hax,hb⟩:=nilQ hk;rcases hb with rfl|rfl
    ·refine ⟨_,hk,C1 (hrun _ ?_)⟩;cases ad<;>simp [eqGuard,binOp,hax,Cq h hy,V5 hu]
    ·refine ⟨_,hk,Cf (val:=.bool ad.isNone) (hrun _ ?_) (A5.ub _) (by intro i hi;cases hi)⟩
     simp [eqGuard,binOp,hax,Cq h hy,V5 hu]
   ·rename_i hy;obtain ⟨q,ad,n,c,hk,hax,hb⟩:=nilQ hk;rcases hb with rfl|rfl
    ·refine ⟨_,hk,C1 (hrun _ ?_)⟩;cases ad<;>simp [eqGuard,binOp,hax,Cq h hy,V5 hu]
    ·refine ⟨_,hk,Cf (val:=.bool !ad.isNone) (hrun _ ?_) (A5.ub _) (by intro i hi;cases hi)⟩
     simp [eqGuard,binOp,hax,Cq h hy,V5 hu]
   ·cases hk
  ·cases hk
end
open Go.RowKit
section
variable {R:Type} {r:R} {P:Program} {N:Nat} {w0:World} {X0:E5} {Y:Nat->Prop} {β β':Bt} {s:St} {a:Act} {w w':World} {o:Oper} {A:Nat->Prop}
theorem Up:∀{c:List PV}{l:List UInt8},bytesOf c=some l->∃ns:List Int,c=ns.map (fun n=>.sc (.int .u8 n))∧l=ns.map fun n=>n.toNat.toUInt8
 |[],l,h=>⟨[],rfl,by simp [bytesOf] at h;subst h;rfl⟩
 |p::c,l,h=>by
  unfold bytesOf at h;split at h
  ·rename_i e;cases e
  ·rename_i n r e;cases e;cases hr:bytesOf c with
   |none=>rw [hr] at h;cases h
   |some l'=>
    rw [hr] at h;simp at h;obtain ⟨ns,rfl,rfl⟩:=Up hr;exact ⟨n::ns,rfl,h.symm⟩
  ·cases h
theorem Tl:∀(ns:List Int)(b:ByteArray),ns.foldl (fun r n=>r.push (UInt8.ofNat n.toNat)) b=⟨b.data++(ns.map fun n=>n.toNat.toUInt8).toArray⟩
 |[],b=>by simp
 |n::ns,b=>by
  simp only [List.foldl_cons];rw [Tl ns];simp [ByteArray.push]
theorem TP (h:Bu N w0 X0 Y β s a w){es:Nat}{x:Operand}{K:Nat->List PV->Option R}(hk:XW (J4 s.hp) es (Ch s.tm x) K=some r):
  ∃n c,K n c=some r∧((a.eval x=.slice none 0 0∧n=0∧c=[])∨∃ad cap,a.eval x=.slice (some ad) n cap∧n<=cap∧(c=[]∨ad.block<w.heap.size)∧NQ w (Cw s.hp β Y) ad c):=by
 have hx:=Da h x;have hxr:=Ff h x;unfold XW at hk;split at hk
 ·rename_i id es' off n e;rw [e] at hx hxr;cases hb:Nat.beq es' es
  ·rw [hb] at hk;cases hk
  ·rw [hb] at hk;obtain ⟨c,hc,hk⟩:=C8 (show Ep _ _=some r from hk)
   obtain ⟨hl,hk⟩:=Aq hk;have hl:=of_decide_eq_true hl;obtain ⟨f,hbox⟩:=RS hc;refine ⟨_,_,hk,?_⟩;rcases hx with ⟨_,rfl,rfl,hax⟩|⟨b,ob,y,cap,hβ,hax,hy,hn,_,hlt⟩
   ·exact .inl ⟨hax,rfl,by simp⟩
   ·refine .inr ⟨_,cap,hax,hn,.inr hlt,fun j p hj=>?_⟩
    have hpos:0<n*es:=by
     rcases Nat.eq_zero_or_pos (n*es) with h0|h0
     ·rw [h0] at hj;simp at hj
     ·exact h0
    have hn0:n≠0:=by rintro rfl;simp at hpos
    have hy:y=ob+off:=by rcases hy with hy|⟨h0,_⟩<;>omega
    subst hy;rw [List.getElem?_take] at hj;split at hj
    ·rw [List.getElem?_drop] at hj;rcases h.box id _ hbox with ⟨h1,_⟩|⟨b',o',h1,h2,_⟩
     ·rw [hβ] at h1;cases h1
     ·rw [hβ] at h1;simp at h1;obtain ⟨rfl,rfl⟩:=h1
      obtain ⟨v,hv,h3,ht⟩:=h2 (off+j) p hj;rw [Dz] at hv;exact ⟨v,by rw [Dz,Nat.add_assoc];exact hv,h3,ht⟩
    ·cases hj
 ·obtain ⟨z,n,c,hk,hp⟩:=Gf hk;refine ⟨n,c,hk,?_⟩;rcases Ht hp hx with h1|⟨ad,cap,hax,_,hn,h1,h2,_,h4⟩|⟨ad,cap,hax,_,rfl,rfl⟩
  ·exact .inl h1
  ·exact .inr ⟨ad,cap,hax,hn,.inr h2,h4⟩
  ·exact .inr ⟨ad,cap,hax,Nat.zero_le _,.inl rfl,fun j c hj=>by simp at hj⟩
theorem Ad6 (b:ByteArray)(j:Nat)(p:PV)(h:(Dl b)[j]?=some p):∃x,b.data[j]?=some x∧p=.sc (.int .u8 x.toNat):=by
 unfold Dl at h;rw [List.getElem?_map] at h;cases hx:b.data.toList[j]? with
 |none=>rw [hx] at h;cases h
 |some x=>
  rw [hx] at h;simp at h;exact ⟨x,by simpa using hx,h.symm⟩
theorem YG (h:Bu N w0 X0 Y β s a w){src dst:TypeId}{x:Operand}(ho:o.op=.convert src dst x){d:Nat}{K:PV->List (Nat × Bk)->Option R}
  (hk:ID P (J4 s.hp) d src dst (Ch s.tm x) K=some r):∃v nw,K v nw=some r∧E1 P a w o Y β s v [] nw:=by
 have hrun:∀v w',(convert src dst (a.eval x)).run P w=.ok v w'->(execOp a.eval o).run P w=.ok (.value v) w':=by
  intro v w' hv;unfold execOp;rw [ho];simp [hv]
 unfold ID at hk;split at hk
 ·rename_i k hu;obtain ⟨hs,hk⟩:=Aq hk;obtain ⟨k',n,hx,hk⟩:=Dh hk;exact ⟨_,_,hk,C1 (hrun _ _ (by rw [Cq h hx];obtain ⟨ds,hds⟩:=Option.isSome_iff_exists.1 hs;cases ds<;>simp [convert,run_underlying hds,run_underlying hu,Conv.intToInt]))⟩
 ·rename_i hu;split at hk
  ·rename_i hs;obtain ⟨b,hx,hk⟩:=F0 hk;exact ⟨_,_,hk,C1 (hrun _ _ (by rw [Cq h hx];simp [convert,run_underlying hs,run_underlying hu]))⟩
  ·rename_i e hs;split at hk
   ·rename_i he;obtain ⟨n,c,hk,hc⟩:=TP h hk;obtain ⟨hl,hk⟩:=Aq hk;have hl:=of_decide_eq_true hl;obtain ⟨l,hb,hk⟩:=C8 hk;obtain ⟨ns,rfl,rfl⟩:=Up hb;refine ⟨_,_,hk,C1 (hrun _ _ ?_)⟩;rcases hc with ⟨hax,rfl,hn⟩|⟨ad,cap,hax,_,_,hrd⟩
    ·have:ns=[]:=by simpa using hn
     subst this;rw [hax,run_convert_bytes_string w src dst e none 0 0 hs he hu];rfl
    ·rw [hax,run_convert_bytes_string w src dst e _ _ _ hs he hu]
     have hld:(loadCells ad n).run P w=.ok (ns.map (Value.int .u8)).toArray w:=by
      have:=run_loadCells_list (P:=P) w ad (ns.map (Value.int .u8)) (fun j v hj=>by
       rw [List.getElem?_map] at hj;cases hn:ns[j]? with
       |none=>rw [hn] at hj;cases hj
       |some m=>
        rw [hn] at hj;simp at hj;subst hj;obtain ⟨v,hv,_,ht⟩:=hrd j (.sc (.int .u8 m)) (by rw [List.getElem?_map,hn];rfl)
        rw [ht.val] at hv;exact hv)
      simp only [List.length_map] at this hl;rw [hl] at this;exact this
     rw [run_bytesToString w ad n cap ns hld,Tl];simp
   ·cases hk
  ·cases hk
 ·rename_i e hu;split at hk
  ·rename_i he hs;obtain ⟨b,hx,hk⟩:=F0 hk;obtain ⟨hsz,hk⟩:=Aq hk;have hr:=run_bytes_of_string (P:=P) w src dst e b hs hu he;rw [←Cq h hx] at hr
   have hcap:b.size<=grownCap w b.size 0 e:=by
    unfold grownCap;simp [Question.cut]
   have hsize:(bytesRow b (grownCap w b.size 0 e)).size=grownCap w b.size 0 e:=by
    simp only [bytesRow,Array.size_append,Array.size_map,Array.size_replicate];have:b.data.size=b.size:=rfl;omega
   refine ⟨_,_,hk,Q2 (c:=bytesRow b (grownCap w b.size 0 e)) (e:=e) (by simp) (hrun _ _ hr) ?_ (fun j p hj=>?_) (.inr ⟨1,b.size,grownCap w b.size 0 e,rfl,rfl,hcap,by rw [hsize];omega⟩)⟩
   ·exact ⟨rfl,rfl,rfl,fun i hi=>Below.heap_alloc w.drew _ i hi,by show (w.heap.push _).size=_;simp,_,by show (w.heap.push _)[w.heap.size]?=_;simp;rfl,.inr (Nat.le_refl _)⟩
   ·obtain ⟨y,hy,rfl⟩:=Ad6 b j p hj;refine ⟨.int .u8 y.toNat,?_,rfl,A5.sc _⟩
    have hlt:j<b.data.size:=by
     rcases Nat.lt_or_ge j b.data.size with h|h
     ·exact h
     ·rw [Array.getElem?_eq_none h] at hy;cases hy
    simp only [bytesRow];rw [Array.getElem?_append_left (by simpa using hlt),Array.getElem?_map,hy]
    rfl
  ·cases hk
 ·cases hk
end
open Go.RowKit
section
variable {R:Type} {r:R} {P:Program} {N:Nat} {w0:World} {X0:E5} {Y:Nat->Prop} {β β':Bt} {s:St} {a:Act} {w w':World} {o:Oper} {A:Nat->Prop}
theorem Zp:∀{n:Nat}{l:List PV}{j:Nat}{c:PV},(Q4 n l)[j]?=some c->j<n*l.length∧l[j % l.length]?=some c
 |0,l,j,c,h=>by simp [Q4] at h
 |n+1,l,j,c,h=>by
  have e:Q4 (n+1) l=l++Q4 n l:=by simp [Q4,List.replicate_succ]
  rw [e] at h;by_cases hj:j<l.length
  ·rw [List.getElem?_append_left hj] at h;refine ⟨by rw [Nat.add_mul];omega,?_⟩
   rw [Nat.mod_eq_of_lt hj];exact h
  ·rw [List.getElem?_append_right (by omega)] at h
   obtain ⟨h1,h2⟩:=Zp h;refine ⟨by rw [Nat.add_mul];omega,?_⟩
   rw [Nat.mod_eq_sub_mod (by omega)];exact h2
theorem WI (n:Nat)(l:List PV):(Q4 n l).length=n*l.length:=by
 induction n with
 |zero=>simp [Q4]
 |succ n ih=>
  have e:Q4 (n+1) l=l++Q4 n l:=by simp [Q4,List.replicate_succ]
  rw [e,List.length_append,ih,Nat.add_mul];omega
theorem VW {z:Array Value}{n j:Nat}(hj:j<n){v:Value}(hv:z[j % z.size]?=some v):(madeCells z n)[j]?=some v:=by
 unfold madeCells;rw [Array.getElem?_map,Array.getElem?_range,if_pos hj];simp only [Option.map_some];rw [getElem!_def,hv]
theorem XY (h:Bu N w0 X0 Y β s a w){t:TypeId}{x y:Operand}(ho:o.op=.makeSlice t x y){d:Nat}{K:PV->List Nat->List (Nat × Bk)->Option R}
  (hk:(match P.underlying t with
   |some (.slice e)=>Do (Ch s.tm x) fun _ n=>Do (Ch s.tm y) fun _ m=>
     Ap (decide (0<=n)&&decide (n<=m)&&decide (m*((P.info? e).map (·.bytes)).getD 0<=1099511627776)&&decide (m<=1099511627776))
      (Hh P e fun z=>K (.view d (Be P e) 0 n.toNat) [] [(d,.ar false (Q4 n.toNat z))])
   |_=>none)=some r):∃v fz nw,K v fz nw=some r∧E1 P a w o Y β s v fz nw:=by
 split at hk
 ·rename_i e hu;obtain ⟨k1,n,hx,hk⟩:=Dh hk;obtain ⟨k2,m,hy,hk⟩:=Dh hk;obtain ⟨hb,hk⟩:=Aq hk;simp only [Bool.and_eq_true,decide_eq_true_eq] at hb;obtain ⟨⟨⟨h0,hnm⟩,hbytes⟩,hm⟩:=hb;obtain ⟨z,cs,hk,hz,hct,hl,hsz,hc⟩:=Qg hk
  have hzc:∃i,P.info? e=some i∧i.zero=some z:=by
   unfold Xt at hz;cases hi:P.info? e with
   |none=>rw [hi] at hz;cases hz
   |some i=>rw [hi] at hz;exact ⟨i,rfl,hz⟩
  obtain ⟨i,hi,hzi⟩:=hzc;have hisz:Be P e=i.size:=by simp [Be,hi]
  simp only [hi,Option.map_some,Option.getD_some] at hbytes;have hr:=run_make (P:=P) w t e i z hu hi hzi k1 k2 n m h0 hnm (by rw [Int.mul_comm];omega) (by omega)
  have hrun:(execOp a.eval o).run P w=.ok (.value (.slice (some ⟨w.heap.size,0,none⟩) n.toNat m.toNat)) (w.alloc (.cells (madeCells z.cells (m.toNat*i.size)) e)):=by
   unfold execOp;rw [ho];simp [Cq h hx,Cq h hy,hr]
  have hzl:z.cells.size=Be P e:=by
   have:z.cells.toList.length=z.cells.size:=by simp
   omega
  refine ⟨_,_,_,hk,Q2 (c:=madeCells z.cells (m.toNat*i.size)) (e:=e) (by simp) hrun (Gx.alloc w _ e) (fun j p hj=>?_) (.inr ⟨Be P e,n.toNat,m.toNat,rfl,rfl,by omega,by rw [size_madeCells,hisz];exact Nat.le_refl _⟩)⟩
  obtain ⟨h1,h2⟩:=Zp hj;obtain ⟨hT,u,hu',h1',hv⟩:=hc _ p h2;refine ⟨u,VW ?_ ?_,h1',hv _ _⟩
  ·have:n.toNat*cs.length<=m.toNat*i.size:=by
    rw [hsz,hisz];exact Nat.mul_le_mul_right _ (by omega)
   omega
  ·rw [hzl,←hsz]
   simpa using hu'
 ·cases hk
theorem Adc {p:PV}{v:Value}(hp:okP p=true)(hv:Dp w A β p v):Bj (B9 w A β) (cellsOf p) v.cells.toList:=by
 have one:v.oneCell'=true->B9 w A β p v->(∀x,p ≠ .agg x)->Bj (B9 w A β) (cellsOf p) v.cells.toList:=by
  intro h1 h2 h3;have:cellsOf p=[p]:=by cases p<;>first|rfl|exact absurd rfl (h3 _)
  rw [this,Nw h1];exact ⟨h2,trivial⟩
 unfold okP at hp;split at hp
 ·obtain ⟨vs,rfl,h2⟩:=hv;exact h2
 ·refine one ?_ hv (by simp)
  have hv':A5 w A _ v:=hv;cases hv'<;>rfl
 ·refine one ?_ hv (by simp)
  rcases hv with ⟨_,_,_,rfl⟩|⟨_,_,_,_,_,rfl,_⟩<;>rfl
 ·have:=O8 hv;subst this;exact one rfl hv (by simp)
 ·have:=O8 hv;subst this;exact one rfl hv (by simp)
 ·have:=O8 hv;subst this;exact one rfl hv (by simp)
 ·have:=O8 hv;subst this;exact one rfl hv (by simp)
 ·cases hp
theorem Abt:∀(vs:List Value)(k off:Nat)(cells:Array Value),off+k+vs.length<=cells.size ->
  ((vs.zipIdx k).foldl (fun cs (q:Value × Nat)=>cs.setIfInBounds (off+q.2) q.1) cells).toList=cells.toList.take (off+k)++vs++cells.toList.drop (off+k+vs.length)
 |[],k,off,cells,_=>by simp
 |v::vs,k,off,cells,h=>by
  simp only [List.zipIdx_cons,List.foldl_cons,List.length_cons] at h ⊢;rw [Abt vs (k+1) off _ (by simp;omega)]
  have hlt:off+k<cells.toList.length:=by simp;omega
  simp only [Array.toList_setIfInBounds];rw [show off+(k+1)=off+k+1 from by omega,List.take_succ_eq_append_getElem (by simpa using hlt)]
  rw [List.getElem_set_self,List.take_set_of_le (Nat.le_refl _),List.drop_set_of_lt (by omega)]
  simp only [List.append_assoc,List.cons_append,List.nil_append];rw [show off+k+1+vs.length=off+k+(vs.length+1) from by omega]
theorem LR (h:Bu N w0 X0 Y β s a w){Hf:Nat->Option (Nat × Nat)}:∀{parts:List (Nat × Operand)} {pc:List PV}{vc:Array Value}{K:List PV->Option R},
  Ud Hf (parts.map fun q=>(q.1,Ch s.tm q.2)) pc K=some r->Bj (B9 w (Cw s.hp β Y) β) pc vc.toList->(∀c∈pc,∀id∈At c,s.hp id≠none) ->
  ∃pc' vc',K pc'=some r∧Instr.fill Hf vc (parts.map fun q=>(q.1,a.eval q.2))=some vc'∧Bj (B9 w (Cw s.hp β Y) β) pc' vc'.toList∧pc'.length=pc.length∧∀c∈pc',∀id∈At c,s.hp id≠none
 |[],pc,vc,K,hk,hv,hr=>⟨pc,vc,hk,rfl,hv,rfl,hr⟩
 |(i,x)::parts,pc,vc,K,hk,hv,hr=>by
  simp only [List.map_cons] at hk;unfold Ud at hk;obtain ⟨⟨off,size⟩,hpl,hk⟩:=C8 hk;obtain ⟨hb,hk⟩:=Aq hk;simp only [Bool.and_eq_true] at hb;obtain ⟨⟨hok,hsz⟩,hle⟩:=hb;have hsz:(cellsOf (Ch s.tm x)).length=size:=Nat.eq_of_beq_eq_true hsz;have hle:off+size<=pc.length:=Nat.le_of_ble_eq_true hle;have hxc:=Adc hok (Da h x);have hxl:=hxc.len;have hvl:=hv.len;have hvs:vc.toList.length=vc.size:=by simp
  have hcs:(a.eval x).cells.toList.length=(a.eval x).cells.size:=by simp
  have hset:=Abt (a.eval x).cells.toList 0 off vc (by omega)
  simp only [Nat.add_zero] at hset
  have hset':((a.eval x).cells.zipIdx.foldl (fun cs (q:Value × Nat)=>cs.setIfInBounds (off+q.2) q.1) vc).toList=vc.toList.take off++(a.eval x).cells.toList++vc.toList.drop (off+(a.eval x).cells.toList.length):=by
   rw [←hset,←Array.foldl_toList];simp
  obtain ⟨pc',vc',hk,hf,h2,hl,hr'⟩:=LR h (pc:=Ba pc (cellsOf (Ch s.tm x)) off) (vc:=(a.eval x).cells.zipIdx.foldl (fun cs (q:Value × Nat)=>cs.setIfInBounds (off+q.2) q.1) vc) hk (by
    rw [hset',←hxl];exact (((hv.take off).app hxc).app (hv.drop _))) (by
    intro c hc id hid;unfold Ba at hc;rcases List.mem_append.1 hc with hc|hc
    ·rcases List.mem_append.1 hc with hc|hc
     ·exact hr c (List.mem_of_mem_take hc) id hid
     ·refine Ff h x id ?_;cases hp:Ch s.tm x with
      |agg cs=>rw [hp] at hc;exact List.mem_flatMap.2 ⟨c,hc,hid⟩
      |tup cs=>rw [hp] at hc;simp [cellsOf] at hc;subst hc;cases hid
      |_=>rw [hp] at hc;simp [cellsOf] at hc;subst hc;exact hid
    ·exact hr c (List.mem_of_mem_drop hc) id hid)
  refine ⟨pc',vc',hk,?_,h2,?_,hr'⟩
  ·simp only [List.map_cons,Instr.fill,hpl];rw [if_neg (by simp;omega)]
   exact hf
  ·rw [hl];simp [Ba];omega
theorem VL {t:TypeId}{z:Value}{cs:List PV}(hl:cs.length=z.cells.toList.length)(hc:∀(j:Nat) c,cs[j]?=some c->Xg c∧∃u,z.cells.toList[j]?=some u∧u.oneCell'=true∧∀(w:World)(A:Nat->Prop),A5 w A c u) (_ht:Xt P t=some z):
  Bj (B9 w A β) cs z.cells.toList∧∀c∈cs,At c=[]:=by
 refine ⟨Bj.of_at hl fun i c u hci hu=>?_,fun c hcm=>?_⟩
 ·obtain ⟨hT,u',hu',_,hv⟩:=hc i c hci;rw [hu] at hu';cases hu';exact (Me hT).2 (hv _ _)
 ·obtain ⟨j,hj⟩:=List.mem_iff_getElem?.1 hcm;exact Hz (hc j c hj).1
theorem IX:∀{fs:List Field},(fs.all fun f=>IM P f.type)=true->fs.mapM (fun f=>(P.info? f.type).map fun i=>(f.offset,i.size))=some (fs.map fun f=>(f.offset,Be P f.type))
 |[],_=>rfl
 |f::fs,h=>by
  simp only [List.all_cons,Bool.and_eq_true] at h;obtain ⟨i,hi⟩:=Option.isSome_iff_exists.1 h.1;simp [List.mapM_cons,hi,IX h.2,Be]
theorem X8 {p q:Nat->Option (Nat × Nat)} (h:∀i,p i=q i)(cells:Array Value)(parts:List (Nat × Value)):Instr.fill p cells parts=Instr.fill q cells parts:=by
 have:p=q:=funext h;rw [this]
theorem UL (h:Bu N w0 X0 Y β s a w){t:TypeId}{ps:Array (Nat × Operand)} (ho:o.op=.build t ps){K:PV->Option R}
  (hk:(Ap (R8 P t&&Cr P t)<|Hh P t fun z=>Ud (Sx P t) (ps.toList.map fun q=>(q.1,Ch s.tm q.2)) z fun cs=>Qr (Ic P t) cs 0 fun cs'=>K (.agg cs'))=some r):∃v,K v=some r∧E1 P a w o Y β s v [] []:=by
 obtain ⟨hpl,hk⟩:=Aq hk;simp only [Bool.and_eq_true] at hpl;obtain ⟨hpl,hagg⟩:=hpl;obtain ⟨z,cs,hk,hz,hct,hl,hsz,hc⟩:=Qg hk;obtain ⟨hzr,hzf⟩:=VL (w:=w) (A:=Cw s.hp β Y) (β:=β) hl hc hz;obtain ⟨pc',vc',hk,hf,h2,hl',hr'⟩:=LR h hk hzr (fun c hcm id hid=>by rw [hzf c hcm] at hid;cases hid)
 obtain ⟨qs,hk,hql,hna,hq⟩:=Uj hk
 have hbuilt:P.built t (ps.toList.map fun q=>(q.1,a.eval q.2))=some vc':=by
  have hzi:∃i,P.info? t=some i∧i.zero=some z:=by
   unfold Xt at hz;cases hi:P.info? t with
   |none=>rw [hi] at hz;cases hz
   |some i=>rw [hi] at hz;exact ⟨i,rfl,hz⟩
  obtain ⟨i,hi,hzi⟩:=hzi;unfold R8 at hpl;unfold Program.built;split at hpl
  ·rename_i fs hu
   have hf':Instr.fill (((fs.toList.map fun f=>(f.offset,Be P f.type)).toArray)[·]?) z.cells (ps.toList.map fun q=>(q.1,a.eval q.2))=some vc':=by
    rw [←hf];refine X8 (fun j=>?_) _ _
    simp [Sx,hu]
   simp only [hi,hu,hzi,IX hpl];exact hf'
  ·rename_i n e hu;obtain ⟨ie,hie⟩:=Option.isSome_iff_exists.1 hpl
   have hf':Instr.fill (fun j=>some (j*ie.size,ie.size)) z.cells (ps.toList.map fun q=>(q.1,a.eval q.2))=some vc':=by
    rw [←hf];refine X8 (fun j=>?_) _ _
    simp [Sx,hu,Be,hie]
   simp only [hi,hu,hzi,hie];exact hf'
  ·rename_i e hu;simp [Cr,hu] at hagg
  ·cases hpl
 refine ⟨_,hk,Cf (val:=.agg vc') ?_ ⟨vc'.toList,rfl,?_⟩ ?_⟩
 ·unfold execOp;rw [ho];have:=run_build (P:=P) w t (ps.map fun q=>(q.1,a.eval q.2)) vc' (by simpa using hbuilt)
  simp [this]
 ·refine Bj.of_at (by have:=h2.len;omega) fun j c u hcj hu=>?_
  obtain ⟨p,hp,_,_,hpv⟩:=hq j c hcj;rw [Nat.zero_add] at hp;exact (hpv _ _ _ _ (h2.at_ hp hu)).1
 ·intro id hid;obtain ⟨c,hcm,hid⟩:=List.mem_flatMap.1 (show id∈qs.flatMap At from hid)
  obtain ⟨j,hj⟩:=List.mem_iff_getElem?.1 hcm;obtain ⟨p,hp,_,hpr,_⟩:=hq j c hj;rw [Nat.zero_add] at hp;exact hr' p (List.mem_of_getElem? hp) id (hpr id hid)
end
open Go.RowKit
section
variable {R:Type} {r:R} {P:Program} {N:Nat} {w0:World} {X0:E5} {Y:Nat->Prop} {β β':Bt} {s:St} {a:Act} {w w':World} {o:Oper} {A:Nat->Prop}
theorem YT (h:Bu N w0 X0 Y β s a w){fz:List Nat}(hfz:∀id∈fz,∃f c,s.hp id=some (.ar f c)) {id:Nat}(hm:id∈fz){f:Bool}{c:List PV}(hb:s.hp id=some (.ar f c)) {b ob:Nat}(hβ:β id=some (b,ob)):
  ¬Cw (Ah s.hp fz) β Y b∧NQ w (Cw (Ah s.hp fz) β Y) ⟨b,ob,none⟩ c∧b<w.heap.size:=by
 have hf:=h.freeze hfz;have he:Ah s.hp fz id=some (.ar true c):=by rw [B6,if_pos hm,hb];rfl
 rcases hf.box id _ he with ⟨h1,_⟩|⟨b',o',h1,h2,_,h4⟩
 ·rw [hβ] at h1;cases h1
 ·rw [hβ] at h1;simp at h1;obtain ⟨rfl,rfl⟩:=h1;exact ⟨h4 rfl,h2,h.blt id b ob (by rw [hb];simp) hβ⟩
theorem Aek (h:Bu N w0 X0 Y β s a w){fz:List Nat}(hfz:∀id∈fz,∃f c,s.hp id=some (.ar f c)) {id es off n:Nat}(hm:id∈fz){f:Bool}{c:List PV}(hb:s.hp id=some (.ar f c)) {v:Value}
  (hv:B9 w (Cw s.hp β Y) β (.view id es off n) v):A5 w (Cw (Ah s.hp fz) β Y) (.lst false es n ((c.drop off).take (n*es))) v:=by
 rcases hv with ⟨_,rfl,rfl,rfl⟩|⟨b,ob,y,cap,hβ,rfl,hy,hn,_,hlt⟩
 ·simp only [Nat.zero_mul,List.take_zero];exact A5.lnil false es
 ·obtain ⟨h1,h2,_⟩:=YT h hfz hm hb hβ;by_cases hn0:n*es=0
  ·rw [hn0,List.take_zero];exact A5.lst es n [] ⟨b,y,none⟩ cap (fun _=>undef) rfl hlt h1 hn (by simp) (by simp) (by simp)
  ·have hy:y=ob+off:=by
    rcases hy with hy|⟨h0,_⟩
    ·exact hy
    ·rw [h0] at hn0;simp at hn0
   subst hy
   have hcell:∀(j:Nat) q,((c.drop off).take (n*es))[j]?=some q->c[off+j]?=some q:=by
    intro j q hq;rw [List.getElem?_take] at hq;split at hq
    ·rw [List.getElem?_drop] at hq;exact hq
    ·cases hq
   refine A5.lst es n _ ⟨b,ob+off,none⟩ cap (fun j=>(w.cell? ⟨b,ob+off+j,none⟩).getD undef) rfl hlt h1 hn (fun j q hq=>?_) (fun j q hq=>?_) (fun j q hq=>?_)
   ·obtain ⟨v,hv,_⟩:=h2 _ q (hcell j q hq);rw [Dz,←Nat.add_assoc] at hv;rw [Dz,hv];rfl
   ·obtain ⟨v,hv,h3,_⟩:=h2 _ q (hcell j q hq);rw [Dz,←Nat.add_assoc] at hv;rw [hv];exact h3
   ·obtain ⟨v,hv,_,ht⟩:=h2 _ q (hcell j q hq);rw [Dz,←Nat.add_assoc] at hv;rw [hv];exact ht
theorem A5.zf {A:Nat->Prop}{z:Bool}{es n:Nat}{c:List PV}{v:Value}(h:A5 w A (.lst z es n c) v):A5 w A (.lst false es n c) v:=by
 cases h with
 |lnil=>exact .lnil _ _
 |lemp=>exact .lemp _ _ _
 |lst _ _ _ a cap f hs hb hA hn hc h1 hr=>exact .lst _ _ _ a cap f hs hb hA hn hc h1 hr
theorem LQ (h:Bu N w0 X0 Y β s a w){t:CT}{p:PV}{K:PV->List Nat->Option R}(hk:Po (J4 s.hp) t p K=some r):
  ∃c m,K c m=some r∧Xg c∧MU p∧(∀id∈m,∃f cc,s.hp id=some (.ar f cc))∧∀fz:List Nat,(∀id∈m,id∈fz)->(∀id∈fz,∃f cc,s.hp id=some (.ar f cc))->∀v,B9 w (Cw s.hp β Y) β p v->A5 w (Cw (Ah s.hp fz) β Y) c v∧v.oneCell'=true:=by
 have tree:∀t',(CK t' p fun c=>K c [])=some r->∃c m,K c m=some r∧Xg c∧MU p∧(∀id∈m,∃f cc,s.hp id=some (.ar f cc))∧∀fz:List Nat,(∀id∈m,id∈fz)->(∀id∈fz,∃f cc,s.hp id=some (.ar f cc))->∀v,B9 w (Cw s.hp β Y) β p v->A5 w (Cw (Ah s.hp fz) β Y) c v∧v.oneCell'=true:=by
  intro t' hk;obtain ⟨c,hk,hT,hpT,hv⟩:=Nl hk;refine ⟨c,[],hk,hT,Tb hpT,by simp,fun fz _ hfz v hpv=>?_⟩
  obtain ⟨h1,h2⟩:=hv _ _ _ _ hpv;exact ⟨h1.step (B7.refl _ _) (fun b _ hb=>hb.imp Q7 id),h2⟩
 cases t with
 |sl es=>
  unfold Po at hk;dsimp only at hk;split at hk
  ·rename_i id es' off n;cases hb:Nat.beq es' es
   ·rw [hb] at hk;cases hk
   ·rw [hb] at hk;have:=Nat.eq_of_beq_eq_true hb;subst this;obtain ⟨c,hc,hk⟩:=C8 (show Ep _ _=some r from hk)
    obtain ⟨_,hk⟩:=Aq hk;obtain ⟨f,hbx⟩:=RS hc;refine ⟨_,[id],hk,trivial,trivial,?_,fun fz hm hfz v hv=>⟨Aek h hfz (hm id (by simp)) hbx hv,?_⟩⟩
    ·intro i hi;simp at hi;subst hi;exact ⟨f,c,hbx⟩
    ·rcases hv with ⟨_,_,_,rfl⟩|⟨_,_,_,_,_,rfl,_⟩<;>rfl
  ·obtain ⟨z,n,c,hk,hp⟩:=Gf hk;refine ⟨_,[],hk,trivial,?_,by simp,fun fz _ hfz v hpv=>?_⟩
   ·rcases hp with rfl|⟨rfl,_⟩<;>trivial
   ·have ht:=Xm hp hpv;refine ⟨A5.zf (ht.step (B7.refl _ _) (fun b _ hb=>hb.imp Q7 id)),?_⟩
    cases ht<;>rfl
 |int k=>exact tree (.int k) hk
 |bool=>exact tree .bool hk
 |str=>exact tree .str hk
 |any=>exact tree .any hk
theorem Rw (h:Bu N w0 X0 Y β s a w):∀{ts:List CT}{ps:List PV}{K:List PV->List Nat->Option R},O4 (J4 s.hp) ts ps K=some r ->
  ∃cs m,K cs m=some r∧cs.length=ts.length∧ps.length=ts.length∧(∀c∈cs,Xg c)∧(∀p∈ps,MU p)∧(∀id∈m,∃f cc,s.hp id=some (.ar f cc)) ∧
   ∀fz:List Nat,(∀id∈m,id∈fz)->(∀id∈fz,∃f cc,s.hp id=some (.ar f cc))->∀vs,Bj (B9 w (Cw s.hp β Y) β) ps vs->Bj (A5 w (Cw (Ah s.hp fz) β Y)) cs vs∧∀v∈vs,v.oneCell'=true
 |[],[],K,hk=>⟨[],[],hk,rfl,rfl,by simp,by simp,by simp,fun fz _ _ vs hv=>by
   cases vs with
   |nil=>exact ⟨trivial,by simp⟩
   |cons v vs=>exact hv.elim⟩
 |[],_::_,K,hk=>by cases hk
 |_::_,[],K,hk=>by cases hk
 |t::ts,p::ps,K,hk=>by
  unfold O4 at hk;obtain ⟨c,m,hk,hT,hF,hm,hv⟩:=LQ h hk;obtain ⟨cs,ms,hk,hl,hl',hTs,hFs,hms,hvs⟩:=Rw h hk;refine ⟨c::cs,m++ms,hk,by simp [hl],by simp [hl'],?_,?_,?_,fun fz hfm hfz vs h2=>?_⟩
  ·intro x hx;rcases List.mem_cons.1 hx with rfl|hx
   ·exact hT
   ·exact hTs x hx
  ·intro x hx;rcases List.mem_cons.1 hx with rfl|hx
   ·exact hF
   ·exact hFs x hx
  ·intro x hx;rcases List.mem_append.1 hx with hx|hx
   ·exact hm x hx
   ·exact hms x hx
  ·cases vs with
   |nil=>exact h2.elim
   |cons v vs=>
    obtain ⟨h3,h4⟩:=hv fz (fun i hi=>hfm i (by simp [hi])) hfz v h2.1
    obtain ⟨h5,h6⟩:=hvs fz (fun i hi=>hfm i (by simp [hi])) hfz vs h2.2
    refine ⟨⟨h3,h5⟩,?_⟩;intro x hx;rcases List.mem_cons.1 hx with rfl|hx
    ·exact h4
    ·exact h6 x hx
theorem Ae4 {R':PV->Value->Prop}{cs:List PV}{z:Array Value}(h:Bj R' cs z.toList)(n:Nat):Bj R' (Q4 n cs) (madeCells z (n*cs.length)).toList:=by
 have hzl:z.size=cs.length:=by have:=h.len;simp at this;exact this.symm
 refine Bj.of_at ?_ fun j c v hc hv=>?_
 ·rw [WI];simp [size_madeCells]
 ·obtain ⟨h1,h2⟩:=Zp hc
  have hlt:j % cs.length<cs.length:=by
   rcases Nat.lt_or_ge (j % cs.length) cs.length with h|h
   ·exact h
   ·rw [List.getElem?_eq_none h] at h2;cases h2
  obtain ⟨u,hu,hcu⟩:=h.get h2;have:(madeCells z (n*cs.length))[j]?=some u:=VW h1 (by rw [hzl];simpa using hu)
  have hv':(madeCells z (n*cs.length))[j]?=some v:=by simpa using hv
  rw [this] at hv';cases hv';exact hcu
theorem BW (h:Bu N w0 X0 Y β s a w){t:TypeId}{n:Nat}{ps:Array (Nat × Operand)} (ho:o.op=.buildSlice t n ps){d:Nat}{K:PV->List Nat->List (Nat × Bk)->Option R}
  (hk:(match P.underlying t with
   |some (.slice e)=>Ap (R8 P t&&Nat.ble (n*Be P e) 16777216) (Hh P e fun z=>Ud (Sx P t) (ps.toList.map fun q=>(q.1,Ch s.tm q.2)) (Q4 n z) fun cs=>
     O4 (J4 s.hp) (List.replicate n (Ic P e)).flatten cs fun cs' m=>K (.view d (Be P e) 0 n) m [(d,.ar false cs')])
   |_=>none)=some r):∃v fz nw,K v fz nw=some r∧E1 P a w o Y β s v fz nw:=by
 split at hk
 ·rename_i e hu;obtain ⟨hb,hk⟩:=Aq hk;simp only [Bool.and_eq_true] at hb;have hle:n*Be P e<=16777216:=Nat.le_of_ble_eq_true hb.2;have hinf:(P.info? e).isSome=true:=by have:=hb.1;unfold R8 at this;rw [hu] at this;exact this
  obtain ⟨z,cs,hk,hz,hct,hl,hsz,hc⟩:=Qg hk;obtain ⟨hzr,hzf⟩:=VL (w:=w) (A:=Cw s.hp β Y) (β:=β) hl hc hz;have hrep:=Ae4 hzr n
  obtain ⟨pc',vc',hk,hf,h2,hl',hr'⟩:=LR h hk hrep (fun c hcm id hid=>by
   obtain ⟨j,hj⟩:=List.mem_iff_getElem?.1 hcm;obtain ⟨_,hg⟩:=Zp hj;rw [hzf c (List.mem_of_getElem? hg)] at hid;cases hid)
  obtain ⟨qs,m,hk,hql,hpl,hqT,_,hm,hqv⟩:=Rw h hk;obtain ⟨h3,h3'⟩:=hqv m (fun _ hi=>hi) hm _ h2
  have hf':Instr.fill (fun i=>some (i*Be P e,Be P e)) (madeCells z.cells (n*cs.length)) (ps.toList.map fun q=>(q.1,a.eval q.2))=some vc':=by
   rw [←hf];refine X8 (fun i=>?_) _ _
   simp [Sx,hu]
  have hvl:vc'.size=n*Be P e:=by
   have h4:=h2.len;rw [hl',WI] at h4;simp at h4;rw [←h4,hsz]
  have hrun:(execOp a.eval o).run P w=.ok (.value (.slice (some ⟨w.heap.size,0,none⟩) n n)) (w.alloc (.cells vc' e)):=by
   unfold execOp;rw [ho];have hle':¬(n*Be P e>2 ^ 24):=by omega
   rw [hsz] at hf';by_cases hn0:n*Be P e=0
   ·simp only [Instr.buildSlice,Sem.run_bind,run_underlying hu,Result.andThen_ok,D9 hinf,if_neg hle',hn0];rw [hn0] at hf';have e0:madeCells z.cells 0=(Array.range 0).map (fun _=>default):=by simp [madeCells]
    rw [e0] at hf';simp [hf',newRow]
   ·simp only [Instr.buildSlice,Sem.run_bind,run_underlying hu,Result.andThen_ok,D9 hinf,if_neg hle',if_neg hn0,Xi hz];unfold madeCells at hf';simp [hf',newRow]
  refine ⟨_,_,_,hk,Q2 (c:=vc') (e:=e) hm hrun (Gx.alloc w vc' e) (fun j p hj=>?_) (.inr ⟨Be P e,n,n,rfl,rfl,Nat.le_refl _,by rw [hvl];exact Nat.le_refl _⟩)⟩
  obtain ⟨u,hu',hp⟩:=h3.get hj;exact ⟨u,by simpa using hu',h3' u (List.mem_of_getElem? hu'),hp⟩
 ·cases hk
end
end
end Go.Proofs.YtdjihiphpgkfmaaGreatDoor.Pv
