/-
  The proof of CertificatePaths, part 1.
-/
import Derived.Orders
import Derived.LoopN
import Derived.Below
import Derived.Lib.ValidU
import Derived.Lib.Bytealg
import Derived.IntWalk
import Derived.WalkKit
import Derived.WalkLawsBesides
import Derived.Laws.IdiomStrings
import Derived.Laws.MakeOwn
import Derived.Laws.Tables
set_option linter.unusedSimpArgs false
set_option linter.unusedVariables false
namespace Go.Proofs.YtdjihiphpgkfmaaGreatDoor.Pv
section
inductive PV where
 |sc (v:Value)
 |lst (z:Bool) (es n:Nat) (cells:List PV)
 |own (es n:Nat) (cells:List PV)
 |view (id es off n:Nat)
 |ptr (id off:Nat)
 |iptr (cells:List PV) (off:Nat)
 |pbox (cells:List PV)
 |agg (cells:List PV)
 |tup (vs:List PV)
 |top
 |ub
inductive Bn where
 |st (cells:List PV)
 |ar (fz:Bool) (cells:List PV)
 |mv
structure St where
 tm:Nat->PV
 hp:Nat->Option Bn
structure A0 where
 vals:List PV
 outs:List (List PV)
structure Hs where
 shr:FuncId->Bool
 mvd:FuncId->Nat->Bool
 lnd:FuncId->Nat->Bool
 kz:FuncId->Bool
 ext:FuncId->Option (List PV->Option A0)
def Hs.core (C:Hs):Hs:={ C with ext:=fun _=>none }
def Cz {α:Type}(f:Nat->α)(i:Nat)(v:α):Nat->α:=fun j=>bif Nat.beq j i then v else f j
def rd (hp:Nat->Option Bn)(id:Nat):Option (List PV):=
 match hp id with
 |some (.st c)=>some c
 |some (.ar _ c)=>some c
 |_=>none
def Kz (hp:Nat->Option Bn)(id:Nat):Option (List PV):=
 match hp id with
 |some (.ar _ c)=>some c
 |_=>none
inductive CT where
 |int (k:IntKind)
 |bool
 |str
 |sl (es:Nat)
 |any
def Bi (P:Program)(t:TypeId):Nat:=((P.info? t).map (·.size)).getD 0
def Cv (P:Program)(t:TypeId):Bool:=
 match P.underlying t with
 |some (.struct _)=>true
 |some (.array _ _)=>true
 |_=>false
def Arc (P:Program):Nat->TypeId->List CT
 |0,_=>[]
 |d+1,t=>
  match P.underlying t with
  |some (.int k)=>[.int k]
  |some .bool=>[.bool]
  |some .string=>[.str]
  |some (.slice e)=>[.sl (Bi P e)]
  |some (.struct fs)=>fs.toList.flatMap fun f=>Arc P d f.type
  |some (.array n e)=>(List.replicate n (Arc P d e)).flatten
  |_=>[.any]
abbrev Iz (P:Program)(t:TypeId):List CT:=Arc P 9 t
def J2 (P:Program)(t:TypeId):Bool:=(P.underlying t).isSome&&Nat.beq (Iz P t).length (Bi P t)
abbrev Qu (k:IntKind)(a b:Int):Int:=k.wrap (BitVec.ofInt k.bits a &&& BitVec.ofInt k.bits b).toNat
abbrev RD (k:IntKind)(a b:Int):Int:=k.wrap (BitVec.ofInt k.bits a ||| BitVec.ofInt k.bits b).toNat
abbrev D1 (k:IntKind)(a b:Int):Int:=k.wrap (BitVec.ofInt k.bits a ^^^ BitVec.ofInt k.bits b).toNat
abbrev Akq (k:IntKind)(a b:Int):Int:=k.wrap (BitVec.ofInt k.bits a &&& ~~~BitVec.ofInt k.bits b).toNat
abbrev Hc (k:IntKind)(a b:Int):Int:=k.wrap (a*2 ^ (min b.toNat k.bits))
abbrev D8 (k:IntKind)(a b:Int):Int:=a.fdiv (2 ^ (min b.toNat k.bits))
abbrev At1 (k:IntKind)(n:Int):Int:=k.wrap (BitVec.ofInt k.bits (if k.signed then -1 else k.max) ^^^ BitVec.ofInt k.bits n).toNat
section
variable {R:Type}
def Ad (k:IntKind)(p:PV)(K:Int->Option R):Option R:=
 match p with
 |.sc (.int k' n)=>if k'=k then K n else none
 |_=>none
def Bj (p:PV)(K:Bool->Option R):Option R:=
 match p with
 |.sc (.bool b)=>K b
 |_=>none
def Cj (p:PV)(K:ByteArray->Option R):Option R:=
 match p with
 |.sc (.string s)=>K s
 |_=>none
def Fk (es:Nat)(p:PV)(K:Bool->Nat->List PV->Option R):Option R:=
 match p with
 |.lst z es' n c=>bif Nat.beq es' es then K z n c else none
 |.sc (.slice none 0 0)=>K true 0 []
 |_=>none
def fsK (es:Nat)(p:PV)(K:PV->Option R):Option R:=
 match p with
 |.view id es' off n=>bif Nat.beq es' es then K (.view id es off n) else none
 |p=>Fk es p fun z n c=>K (.lst z es n c)
def Es (es:Nat)(p:PV)(K:Nat->List PV->Option R):Option R:=
 match p with
 |.own es' n c=>bif Nat.beq es' es then K n c else none
 |_=>none
def Au (b:Bool)(K:Option R):Option R:=bif b then K else none
abbrev Aa {α:Type}(x:α)(K:α->Option R):Option R:=K x
def OB (b:Bool)(x y:Option R):Option R:=bif b then x else y
abbrev A41 (x:Nat)(K:Nat->Option R):Option R:=K x
def Ajw (x:List (List Nat)) (K:List (List Nat)->Option R):Option R:=K x
def A9 (b:Bool)(x y:Option R):Option R:=bif b then x else y
def E5 {α:Type}(o:Option α)(K:α->Option R):Option R:=
 match o with
 |some a=>K a
 |none=>none
def Ab {α:Type}(l:List α)(K:α->List α->Option R):Option R:=
 match l with
 |a::r=>K a r
 |[]=>none
def Ac {α:Type}(l:List α)(K:Option R):Option R:=
 match l with
 |[]=>K
 |_::_=>none
def C4 (p:PV)(K:List PV->Option R):Option R:=
 match p with
 |.agg c=>K c
 |_=>none
def Y9 (p:PV)(K:List PV->Option R):Option R:=
 match p with
 |.pbox c=>K c
 |_=>none
def Ag (r:Option A0)(K:List PV->List (List PV)->Option R):Option R:=
 match r with
 |some ⟨v,o⟩=>K v o
 |none=>none
def fnK (p:PV)(K:Value->Option R):Option R:=
 match p with
 |.sc (.func f a b)=>K (.func f a b)
 |_=>none
def fvK (p:PV)(K:FuncId->Option R):Option R:=
 match p with
 |.sc (.func (.func f) a b)=>bif a.isEmpty&&b.isEmpty then K f else none
 |_=>none
def FK (t:CT)(p:PV)(K:PV->Option R):Option R:=
 match t with
 |.int k=>Ad k p fun n=>K (.sc (.int k n))
 |.bool=>Bj p fun b=>K (.sc (.bool b))
 |.str=>Cj p fun s=>K (.sc (.string s))
 |.sl es=>Fk es p fun z n c=>K (.lst z es n c)
 |.any=>fnK p fun v=>K (.sc v)
def fcK (t:CT)(p:PV)(K:PV->Option R):Option R:=
 match t with
 |.sl es=>fsK es p K
 |t=>FK t p K
def Wa:List CT->List PV->Nat->(List PV->Option R)->Option R
 |[],_,_,K=>K []
 |t::ts,cells,off,K=>FK t (cells.getD off .top) fun c=>Wa ts cells (off+1) fun r=>K (c::r)
def Ry:List CT->List PV->Nat->(List PV->Option R)->Option R
 |[],_,_,K=>K []
 |t::ts,cells,off,K=>fcK t (cells.getD off .top) fun c=>Ry ts cells (off+1) fun r=>K (c::r)
def mkV (agg:Bool)(cells:List PV)(K:PV->Option R):Option R:=
 bif agg then K (.agg cells) else Ab cells fun c r=>Ac r (K c)
def cellsOf:PV->List PV
 |.agg c=>c
 |p=>[p]
def cvK (P:Program)(t:TypeId)(v:Value)(K:PV->Option R):Option R:=
 match v with
 |.agg cs=>Au (Nat.beq cs.toList.length (Iz P t).length) (Wa (Iz P t) (cs.toList.map .sc) 0 fun c=>K (.agg c))
 |.slice none 0 0=>
  match P.underlying t with
  |some (.slice e)=>K (.lst true (Bi P e) 0 [])
  |_=>none
 |v=>K (.sc v)
end
def Cm (tm:Nat->PV):Operand->PV
 |.tmp t=>tm t
 |.const (.agg cs)=>.agg (cs.toList.map .sc)
 |.const v=>.sc v
 |.func f=>.sc (.func (.func f) #[] #[])
 |.global g=>.sc (.pointer (some ⟨g,0,none⟩))
section
variable {R:Type}
def Dw (p:PV)(K:IntKind->Int->Option R):Option R:=
 match p with
 |.sc (.int k n)=>K k n
 |_=>none
def Abr (rdf:Nat->Option (List PV)) (es:Nat)(p:PV)(K:Nat->List PV->Option R):Option R:=
 match p with
 |.view id es' off n=>bif Nat.beq es' es then E5 (rdf id) fun c=>Au (decide (off+n*es<=c.length)) (K n ((c.drop off).take (n*es))) else none
 |p=>Fk es p fun _ n c=>K n c
def Qy (rdf:Nat->Option (List PV)) (t:CT)(p:PV)(K:PV->List Nat->Option R):Option R:=
 match t with
 |.sl es=>
  match p with
  |.view id es' off n=>bif Nat.beq es' es then E5 (rdf id) fun c=>Au (decide (off+n*es<=c.length)) (K (.lst false es n ((c.drop off).take (n*es))) [id]) else none
  |p=>Fk es p fun _ n c=>K (.lst false es n c) []
 |t=>FK t p fun c=>K c []
def Po (rdf:Nat->Option (List PV)):List CT->List PV->(List PV->List Nat->Option R)->Option R
 |[],[],K=>K [] []
 |t::ts,p::ps,K=>Qy rdf t p fun c m=>Po rdf ts ps fun cs ms=>K (c::cs) (m++ms)
 |_,_,_=>none
def Abe (P:Program)(rdf:Nat->Option (List PV)) (t:TypeId)(p:PV)(K:PV->List Nat->Option R):Option R:=
 bif Cv P t then C4 p fun ps=>Po rdf (Iz P t) ps fun cs m=>K (.agg cs) m
 else Po rdf (Iz P t) [p] fun cs m=>Ab cs fun c r=>Ac r (K c m)
def KA (P:Program)(rdf:Nat->Option (List PV)):List TypeId->List PV->(List PV->List Nat->Option R)->Option R
 |[],[],K=>K [] []
 |t::ts,p::ps,K=>Abe P rdf t p fun v m=>KA P rdf ts ps fun vs ms=>K (v::vs) (m++ms)
 |_,_,_=>none
def Ag9 (shr:Bool)(id:Nat)(t:CT)(p:PV)(K:PV->List (Nat × Bn)->Option R):Option R:=
 match t with
 |.sl es=>bif shr then Fk es p fun _ n c=>K (.lst false es n c) [] else Es es p fun n c=>K (.view id es 0 n) [(id,.ar false c)]
 |t=>FK t p fun c=>K c []
def Ss (shr:Bool)(N:Nat):Nat->List CT->List PV->(List PV->List (Nat × Bn)->Option R)->Option R
 |_,[],ps,K=>Ac ps (K [] [])
 |id,t::ts,ps,K=>Ab ps fun p ps=>Ag9 shr id t p fun c b=>Ss shr N (id+N) ts ps fun cs bs=>K (c::cs) (b++bs)
def CL (P:Program)(t:TypeId):Option TypeId:=
 match P.underlying t with
 |some (.pointer e)=>some e
 |_=>none
def XT (P:Program)(t:TypeId):Nat:=
 match CL P t with
 |some e=>1+(Iz P e).length
 |none=>(Iz P t).length
def Agc (P:Program)(shr:Bool)(N:Nat)(id:Nat)(t:TypeId)(p:PV)(K:PV->List (Nat × Bn)->Option R):Option R:=
 match CL P t with
 |some e=>Y9 p fun ps=>Ss shr N (id+N) (Iz P e) ps fun cs bs=>K (.ptr id 0) ((id,.st cs)::bs)
 |none=>
 bif Cv P t then C4 p fun ps=>Ss shr N id (Iz P t) ps fun cs bs=>K (.agg cs) bs
 else Ss shr N id (Iz P t) [p] fun cs bs=>Ab cs fun c r=>Ac r (K c bs)
def HB (P:Program)(shr:Bool)(N:Nat):Nat->List TypeId->List PV->(List PV->List (Nat × Bn)->Option R)->Option R
 |_,[],ps,K=>Ac ps (K [] [])
 |id,t::ts,ps,K=>Ab ps fun p ps=>Agc P shr N id t p fun v bs=>HB P shr N (id+N*XT P t) ts ps fun vs bs'=>K (v::vs) (bs++bs')
def P9 (P:Program)(t:TypeId):List TypeId:=
 match P.underlying t with
 |some (.tuple ts)=>ts.toList
 |_=>[t]
def P0 (vs:List PV)(t:Bool):PV:=bif t then .tup vs else vs.headD .top
def Q9 (P:Program)(t:TypeId):Bool:=
 match P.underlying t with
 |some (.tuple _)=>true
 |_=>false
def Aky (op:BinOp)(a b:Int)(K:Bool->Option R):Option R:=
 match op with
 |.eql=>K (a==b)
 |.neq=>K (a != b)
 |.lss=>K (decide (a<b))
 |.leq=>K (decide (a<=b))
 |.gtr=>K (decide (a>b))
 |.geq=>K (decide (a>=b))
 |_=>none
def KF (op:BinOp)(k:IntKind)(a b:Int)(K:PV->Option R):Option R:=
 match op with
 |.add=>Aa ((k.wrap (a+b))) fun n=>K (.sc (.int k n))
 |.sub=>Aa ((k.wrap (a-b))) fun n=>K (.sc (.int k n))
 |.mul=>Aa ((k.wrap (a*b))) fun n=>K (.sc (.int k n))
 |.quo=>Au (decide (b≠0)) (Aa ((k.wrap (a.tdiv b))) fun n=>K (.sc (.int k n)))
 |.rem=>Au (decide (b≠0)) (Aa ((a.tmod b)) fun n=>K (.sc (.int k n)))
 |.and=>Aa (Qu k a b) fun n=>K (.sc (.int k n))
 |.or=>Aa (RD k a b) fun n=>K (.sc (.int k n))
 |.xor=>Aa (D1 k a b) fun n=>K (.sc (.int k n))
 |.andNot=>Aa (Akq k a b) fun n=>K (.sc (.int k n))
 |op=>Aky op a b fun r=>K (.sc (.bool r))
def LZ (op:BinOp)(x y:ByteArray)(K:PV->Option R):Option R:=
 match op with
 |.add=>Au (decide (x.size+y.size<=9223372036854775807)) (Aa (x++y) fun s=>K (.sc (.string s)))
 |.eql=>K (.sc (.bool (x.data.toList==y.data.toList)))
 |.neq=>K (.sc (.bool !(x.data.toList==y.data.toList)))
 |.lss=>K (.sc (.bool (Op.bytesLess x.data.toList y.data.toList)))
 |.leq=>K (.sc (.bool (Op.bytesLess x.data.toList y.data.toList||x.data.toList==y.data.toList)))
 |.gtr=>K (.sc (.bool !(Op.bytesLess x.data.toList y.data.toList||x.data.toList==y.data.toList)))
 |.geq=>K (.sc (.bool !(Op.bytesLess x.data.toList y.data.toList)))
 |_=>none
def LV (e:Bool)(p:PV)(K:PV->Option R):Option R:=
 match p with
 |.sc (.slice none 0 0)=>K (.sc (.bool e))
 |.lst z _ n _=>A9 z (K (.sc (.bool e))) (A9 (decide (0<n)) (K (.sc (.bool !e))) (K .ub))
 |.view _ _ _ n=>A9 (decide (0<n)) (K (.sc (.bool !e))) (K .ub)
 |_=>none
def MM (P:Program):List Field->Nat->Bool
 |[],_=>true
 |f::r,i=>Nat.beq f.offset i&&(f.name != "_")&&(match P.underlying f.type with|some (.int _)=>true|some .bool=>true|some .string=>true|_=>false)&&MM P r (i+1)
def TE (P:Program)(t:TypeId)(fs:Array Field):Bool:=MM P fs.toList 0 && !P.stoodInHeld t && !P.eqGuardType P.depth t
def fty (P:Program)(f:Field):CT:=
 match P.underlying f.type with
 |some (.int k)=>.int k
 |some .bool=>.bool
 |some .string=>.str
 |_=>.any
def KI:List CT->List PV->List PV->(Bool->Option R)->Option R
 |[],[],[],K=>K true
 |.int k::ts,p::ps,q::qs,K=>Ad k p fun a=>Ad k q fun b=>KI ts ps qs fun r=>K ((a==b)&&r)
 |.bool::ts,p::ps,q::qs,K=>Bj p fun a=>Bj q fun b=>KI ts ps qs fun r=>K ((a==b)&&r)
 |.str::ts,p::ps,q::qs,K=>Cj p fun a=>Cj q fun b=>KI ts ps qs fun r=>K ((a==b)&&r)
 |_,_,_,_=>none
def Aj9 (P:Program)(op:BinOp)(t:TypeId)(x y:PV)(K:PV->Option R):Option R:=
 match P.underlying t with
 |some (.int k)=>
  match op with
  |.shl=>Ad k x fun a=>Dw y fun _ b=>Au (decide (0<=b)) (Aa (Hc k a b) fun n=>K (.sc (.int k n)))
  |.shr=>Ad k x fun a=>Dw y fun _ b=>Au (decide (0<=b)) (Aa (D8 k a b) fun n=>K (.sc (.int k n)))
  |op=>Ad k x fun a=>Ad k y fun b=>KF op k a b K
 |some .string=>Cj x fun a=>Cj y fun b=>LZ op a b K
 |some .bool=>
  match op with
  |.eql=>Bj x fun a=>Bj y fun b=>K (.sc (.bool (a==b)))
  |.neq=>Bj x fun a=>Bj y fun b=>K (.sc (.bool !(a==b)))
  |_=>none
 |some (.slice _)=>
  match op,y with
  |.eql,.sc (.slice none 0 0)=>LV true x K
  |.neq,.sc (.slice none 0 0)=>LV false x K
  |_,_=>none
 |_=>none
def Xi (P:Program)(op:BinOp)(t:TypeId)(x y:PV)(K:PV->Option R):Option R:=
 match P.underlying t with
 |some (.struct fs)=>
  match op with
  |.eql=>Au (TE P t fs) (C4 x fun xs=>C4 y fun ys=>KI (fs.toList.map (fty P)) xs ys fun b=>K (.sc (.bool b)))
  |.neq=>Au (TE P t fs) (C4 x fun xs=>C4 y fun ys=>KI (fs.toList.map (fty P)) xs ys fun b=>K (.sc (.bool !b)))
  |_=>none
 |_=>Aj9 P op t x y K
def unK (op:UnOp)(x:PV)(K:PV->Option R):Option R:=
 match op with
 |.not=>Bj x fun b=>K (.sc (.bool !b))
 |.neg=>Dw x fun k n=>Aa (k.wrap (0-n)) fun n=>K (.sc (.int k n))
 |.xor=>Dw x fun k n=>Aa (At1 k n) fun n=>K (.sc (.int k n))
 |_=>none
def bytesOf:List PV->Option (List UInt8)
 |[]=>some []
 |.sc (.int .u8 n)::r=>(bytesOf r).map (n.toNat.toUInt8 :: ·)
 |_::_=>none
def Dv (s:ByteArray):List PV:=s.data.toList.map fun b=>.sc (.int .u8 b.toNat)
def NK (P:Program)(rdf:Nat->Option (List PV)) (d:Nat)(src dst:TypeId)(x:PV)(K:PV->List (Nat × Bn)->Option R):Option R:=
 match P.underlying dst with
 |some (.int k)=>Au (P.underlying src).isSome (Dw x fun _ n=>Aa (k.wrap n) fun n=>K (.sc (.int k n)) [])
 |some .string=>
  match P.underlying src with
  |some .string=>Cj x fun s=>K (.sc (.string s)) []
  |some (.slice e)=>
   match P.underlying e with
   |some (.int .u8)=>Abr rdf 1 x fun n c=>Au (decide (c.length=n)) (E5 (bytesOf c) fun b=>K (.sc (.string ⟨b.toArray⟩)) [])
   |_=>none
  |_=>none
 |some (.slice e)=>
  match P.underlying e,P.underlying src with
  |some (.int .u8),some .string=>Cj x fun s=>Au (decide (s.size<=1099511627776)) (K (.view d 1 0 s.size) [(d,.ar false (Dv s))])
  |_,_=>none
 |_=>none
def Nv (p:Option PV)(dflt:Nat)(K:Nat->Option R):Option R:=
 match p with
 |none=>K dflt
 |some p=>Dw p fun _ i=>Au (decide (0<=i)) (K i.toNat)
def FD (P:Program)(rdf:Nat->Option (List PV)) (t:TypeId)(x:PV)(lo hi:Option PV)(K:PV->Option R):Option R:=
 match P.underlying t with
 |some .string=>Cj x fun s=>Nv lo 0 fun l=>Nv hi s.size fun h=>Au (decide (l<=h)&&decide (h<=s.size)) (Aa (s.extract l h) fun s=>K (.sc (.string s)))
 |some (.slice e)=>Au (P.info? e).isSome (
  match x with
  |.view id es off n=>Au (Nat.beq es (Bi P e)) (Nv lo 0 fun l=>Nv hi n fun h=>Au (decide (l<=h)&&decide (h<=n)) (Aa (off+l*es) fun o=>Aa (h-l) fun n=>K (.view id es o n)))
  |x=>Fk (Bi P e) x fun z n c=>Nv lo 0 fun l=>Nv hi n fun h=>Au (decide (l<=h)&&decide (h<=n)) (Aa (h-l) fun n=>Aa ((c.drop (l*Bi P e)).take (n*Bi P e)) fun c=>K (.lst z (Bi P e) n c)))
 |some (.array n e)=>Au (P.info? e).isSome (
  match x with
  |.ptr id off=>E5 (rdf id) fun c=>Au (decide (1<=n*Bi P e)&&decide (off+n*Bi P e<=c.length))<|Nv lo 0 fun l=>Nv hi n fun h=>Au (decide (l<=h)&&decide (h<=n)) (Aa (off+l*Bi P e) fun o=>Aa (h-l) fun n=>K (.view id (Bi P e) o n))
  |_=>none)
 |_=>none
def V5 (x:PV)(d:Nat)(K:PV->Option R):Option R:=
 match x with
 |.ptr id off=>K (.ptr id (off+d))
 |.iptr c off=>K (.iptr c (off+d))
 |_=>none
def LG (P:Program)(e:TypeId):Bool:=(P.info? e).isSome
def Ti (P:Program)(t:TypeId)(f:Nat):Option (Nat × TypeId):=
 match P.underlying t with
 |some (.struct fs)=>(fs[f]?).map fun g=>(g.offset,g.type)
 |_=>none
def Mn (P:Program)(t:TypeId)(x:PV)(i:Int)(K:PV->Option R):Option R:=
 match P.underlying t with
 |some (.array n e)=>Au (LG P e) (Au (decide (0<=i)&&decide (i<n)) (V5 x (i.toNat*Bi P e) K))
 |some (.slice e)=>Au (LG P e) (
  match x with
  |.view id es off n=>Au (Nat.beq es (Bi P e)) (Au (decide (0<=i)&&decide (i<n)) (K (.ptr id (off+i.toNat*es))))
  |x=>Fk (Bi P e) x fun _ n c=>Au (decide (0<=i)&&decide (i<n)) (K (.iptr c (i.toNat*Bi P e))))
 |_=>none
def KO (P:Program)(rdf:Nat->Option (List PV)) (t:TypeId)(x:PV)(K:PV->Option R):Option R:=
 match x with
 |.ptr id off=>Au (J2 P t) (E5 (rdf id) fun c=>Ry (Iz P t) c off fun cs=>mkV (Cv P t) cs K)
 |.iptr c off=>Au (J2 P t) (Wa (Iz P t) c off fun cs=>mkV (Cv P t) cs K)
 |_=>none
def SZ:PV->PV
 |.lst _ es n c=>.lst false es n c
 |p=>p
def Aee:PV->PV
 |.agg cs=>.agg (cs.map SZ)
 |p=>SZ p
def DW (P:Program)(rdf rdaf:Nat->Option (List PV)) (t:TypeId)(x:PV)(K:PV->Option R):Option R:=
 match x with
 |.ptr id off=>Au (J2 P t) (
  match rdaf id with
  |some c=>Wa (Iz P t) c off fun cs=>mkV (Cv P t) cs fun v=>K (Aee v)
  |none=>E5 (rdf id) fun c=>Ry (Iz P t) c off fun cs=>mkV (Cv P t) cs K)
 |.iptr c off=>Au (J2 P t) (Wa (Iz P t) c off fun cs=>mkV (Cv P t) cs fun v=>K (Aee v))
 |_=>none
def Bd (cells new:List PV)(off:Nat):List PV:=cells.take off++new++cells.drop (off+new.length)
def okP:PV->Bool
 |.agg _=>true
 |.lst _ _ _ _=>true
 |.view _ _ _ _=>true
 |.sc (.int _ _)=>true
 |.sc (.bool _)=>true
 |.sc (.string _)=>true
 |.sc (.slice none 0 0)=>true
 |_=>false
def Vr (Hy:Nat->Option (Nat × Nat)):List (Nat × PV)->List PV->(List PV->Option R)->Option R
 |[],cells,K=>K cells
 |(i,p)::r,cells,K=>E5 (Hy i) fun q=>Au (okP p&&Nat.beq (cellsOf p).length q.2&&Nat.ble (q.1+q.2) cells.length) (Aa (Bd cells (cellsOf p) q.1) fun cells=>Vr Hy r cells K)
def Tv (P:Program)(t:TypeId)(i:Nat):Option (Nat × Nat):=
 match P.underlying t with
 |some (.struct fs)=>(fs[i]?).map fun f=>(f.offset,Bi P f.type)
 |some (.array _ e)=>some (i*Bi P e,Bi P e)
 |some (.slice e)=>some (i*Bi P e,Bi P e)
 |_=>none
def Tm (P:Program)(t:TypeId):Bool:=
 match P.underlying t with
 |some (.struct fs)=>fs.toList.all fun f=>LG P f.type
 |some (.array _ e)=>LG P e
 |some (.slice e)=>LG P e
 |_=>false
def AX (P:Program)(t:TypeId):Option Value:=(P.info? t).bind (·.zero)
def Hw (P:Program)(t:TypeId)(K:List PV->Option R):Option R:=
 E5 (AX P t) fun v=>Au (Nat.beq v.cells.toList.length (Iz P t).length&&J2 P t) (Wa (Iz P t) (v.cells.toList.map .sc) 0 K)
def V7 (P:Program)(t:TypeId):Bool:=
 match P.underlying t with
 |some (.array _ _)=>true
 |_=>false
def Ai0 (P:Program)(t:TypeId)(cells:List PV):Bn:=bif V7 P t then .ar false cells else .st cells
def Sw (n:Nat)(l:List PV):List PV:=(List.replicate n l).flatten
def Ami (a b:PV)(K:PV->Option R):Option R:=Dw a fun k x=>Ad k b fun y=>Aa (if y<x then y else x) fun n=>K (.sc (.int k n))
def Alv (a b:PV)(K:PV->Option R):Option R:=Dw a fun k x=>Ad k b fun y=>Aa (if x<y then y else x) fun n=>K (.sc (.int k n))
def Ae6 (P:Program)(t:TypeId)(x:PV)(K:Nat->Option R):Option R:=
 match P.underlying t with
 |some .string=>Cj x fun s=>K s.size
 |some (.array n _)=>K n
 |some (.slice e)=>
  match x with
  |.view _ es _ n=>Au (Nat.beq es (Bi P e)) (K n)
  |x=>Fk (Bi P e) x fun _ n _=>K n
 |_=>none
end
abbrev Ah:=FuncId->List PV->Option A0
section
variable {R:Type}
def Kt (P:Program)(ts:List TypeId):Bool:=ts.any fun t=>(CL P t).isSome||(Iz P t).any fun c=>match c with | .sl _=>true|_=>false
def EW (P:Program)(t:TypeId)(tm:Nat->PV)(x:Operand)(K:PV->Option R):Option R:=
 match x with
 |.const v=>cvK P t v K
 |x=>K (Cm tm x)
def SI (P:Program)(e:TypeId):Bool:=
 match P.info? e with
 |some i=>(match i.zero with|some z=>Nat.beq z.cells.size i.size|none=>false)
 |none=>false
def Abm (P:Program)(rdaf:Nat->Option (List PV)) (es:Nat)(t:TypeId)(x:PV)(K:Nat->List PV->Option R):Option R:=
 match P.underlying t with
 |some .string=>Au (Nat.beq es 1) (Cj x fun b=>K b.size (Dv b))
 |some (.slice _)=>Abr rdaf es x K
 |_=>none
abbrev Abi (P:Program)(s:St)(es:Nat)(t:TypeId)(x:PV)(K:Nat->List PV->Option R):Option R:=Abm P (Kz s.hp) es t x K
def DP (c:Call):Bool:=
 match c.args.toList with
 |.const (.slice none 0 0)::_=>true
 |_=>false
def Xp (P:Program)(rdaf:Nat->Option (List PV)) (d:Nat)(t tx:TypeId)(x:PV)(K:PV->List (Nat × Bn)->Option R):Option R:=
 match P.underlying t with
 |some (.slice e)=>Au (SI P e) <|
  Abm P rdaf (Bi P e) tx x fun m new=>
   Au (decide (new.length=m*Bi P e)&&decide (m*((P.info? e).map (·.bytes)).getD 0<=1099511627776)&&decide (m<=1099511627776)) (K (.view d (Bi P e) 0 m) [(d,.ar false new)])
 |_=>none
def Ko (k:Bool):List Operand->List PV->List PV
  |x::xs,p::ps=>
    (match x,p with
     |.const (.slice none 0 0),.lst z es 0 []=>.lst (k||z) es 0 []
     |_,p=>p)::Ko k xs ps
  |_,ps=>ps
def Aeb (P:Program)(t:TypeId)(x:PV)(K:Nat->Option R):Option R:=
 match P.underlying t with
 |some (.slice e)=>Fk (Bi P e) x fun z _ _=>Au z (K 0)
 |_=>none
def LL (P:Program)(f:FuncId)(c:Call):List TypeId:=
 match P.funcs[f]? with
 |some fn=>fn.params.toList
 |none=>c.argTypes.toList
def ME (C:Hs)(P:Program)(N:Nat)(call:Ah)(tm:Nat->PV)(rdaf:Nat->Option (List PV)) (o:Oper)(c:Call)(f:FuncId)(K:PV->List Nat->List (Nat × Bn)->Option R):Option R:=
 KA P rdaf (LL P f c) (c.args.toList.map (Cm tm)) fun vs m=>
  Ag (call f (Ko (C.kz f) c.args.toList vs)) fun rv ro=>Ac ro (Au (Nat.blt 0 N)<|HB P (C.shr f) N (o.dst.getD 0) (P9 P o.type) rv fun ws bs=>
   Au (bif Q9 P o.type then !Nat.beq ws.length 1 else Nat.beq ws.length 1)<|K (P0 ws (Q9 P o.type)) (bif Kt P (P9 P o.type) then m else []) bs)
def MH (C:Hs)(P:Program)(N:Nat)(call:Ah)(tm:Nat->PV)(rdf rdaf:Nat->Option (List PV)) (o:Oper)(K:PV->List Nat->List (Nat × Bn)->Option R):Option R:=
  match o.op with
  |.move x=>EW P o.type tm x fun p=>K p [] []
  |.assign x=>EW P o.type tm x fun p=>K p [] []
  |.pick c a b=>Bj (Cm tm c) fun t=>A9 t (K (Cm tm a) [] []) (K (Cm tm b) [] [])
  |.alloc t=>E5 o.dst fun d=>Hw P t fun cs=>K (.ptr d 0) [] [(d,Ai0 P t cs)]
  |.box t x=>E5 o.dst fun d=>Au (J2 P t&&Nat.beq (cellsOf (Cm tm x)).length (Iz P t).length)
      (bif V7 P t then Wa (Iz P t) (cellsOf (Cm tm x)) 0 fun cs=>K (.ptr d 0) [] [(d,.ar false cs)]
       else Ry (Iz P t) (cellsOf (Cm tm x)) 0 fun cs=>K (.ptr d 0) [] [(d,.st cs)])
  |.build t ps=>Au (Tm P t&&Cv P t)<|Hw P t fun z=>Vr (Tv P t) (ps.toList.map fun q=>(q.1,Cm tm q.2)) z fun cs=>Ry (Iz P t) cs 0 fun cs'=>K (.agg cs') [] []
  |.buildSlice t n ps=>E5 o.dst fun d=>
      match P.underlying t with
      |some (.slice e)=>Au (Tm P t&&Nat.ble (n*Bi P e) 16777216) (Hw P e fun z=>Vr (Tv P t) (ps.toList.map fun q=>(q.1,Cm tm q.2)) (Sw n z) fun cs=>
          Po rdaf (List.replicate n (Iz P e)).flatten cs fun cs' m=>K (.view d (Bi P e) 0 n) m [(d,.ar false cs')])
      |_=>none
  |.load t a=>DW P rdf rdaf t (Cm tm a) fun v=>K v [] []
  |.nilCheck x=>V5 (Cm tm x) 0 fun p=>K p [] []
  |.binOp op t x y _=>
      Xi P op t (Cm tm x) (Cm tm y) fun v=>K v [] []
  |.unOp op _ x=>unK op (Cm tm x) fun v=>K v [] []
  |.convert src dst x=>NK P rdaf (o.dst.getD 0) src dst (Cm tm x) fun v b=>E5 o.dst fun _=>K v [] b
  |.makeSlice t l c=>E5 o.dst fun d=>
      match P.underlying t with
      |some (.slice e)=>Dw (Cm tm l) fun _ n=>Dw (Cm tm c) fun _ m=>
          Au (decide (0<=n)&&decide (n<=m)&&decide (m*((P.info? e).map (·.bytes)).getD 0<=1099511627776)&&decide (m<=1099511627776))
            (Hw P e fun z=>K (.view d (Bi P e) 0 n.toNat) [] [(d,.ar false (Sw n.toNat z))])
      |_=>none
  |.slice t x lo hi mx=>
      match mx with
      |none=>FD P rdf t (Cm tm x) (lo.map (Cm tm)) (hi.map (Cm tm)) fun v=>K v [] []
      |some _=>none
  |.fieldAddr t x f=>E5 (Ti P t f) fun q=>Au (Nat.ble 1 (Bi P q.2)) (V5 (Cm tm x) q.1 fun p=>K p [] [])
  |.field t x f=>E5 (Ti P t f) fun q=>Au (J2 P q.2)<|C4 (Cm tm x) fun cs=>Ry (Iz P q.2) cs q.1 fun c=>mkV (Cv P q.2) c fun v=>K v [] []
  |.indexAddr t x i=>Dw (Cm tm i) fun _ n=>Mn P t (Cm tm x) n fun p=>K p [] []
  |.index t x i=>Dw (Cm tm i) fun _ n=>
      match P.underlying t with
      |some .string=>Cj (Cm tm x) fun s=>Au (decide (0<=n)) (E5 (s.data.toList[n.toNat]?) fun b=>K (.sc (.int .u8 b.toNat)) [] [])
      |some (.array len e)=>C4 (Cm tm x) fun cs=>Au (decide (0<=n)&&decide (n<len)&&J2 P e) (Ry (Iz P e) cs (n.toNat*Bi P e) fun c=>mkV (Cv P e) c fun v=>K v [] [])
      |_=>none
  |.extract x i=>
      match Cm tm x with
      |.tup vs=>E5 vs[i]? fun p=>K p [] []
      |_=>none
  |.call c=>
      match c.callee with
      |.builtin .len=>Ab c.args.toList fun x _=>Ab c.argTypes.toList fun t _=>Ae6 P t (Cm tm x) fun n=>K (.sc (.int .i64 n)) [] []
      |.builtin .cap=>Ab c.args.toList fun x _=>Ab c.argTypes.toList fun t _=>Aeb P t (Cm tm x) fun n=>K (.sc (.int .i64 n)) [] []
      |.builtin .min=>Ab c.args.toList fun x r=>Ab r fun y r'=>Ac r' (Ami (Cm tm x) (Cm tm y) fun v=>K v [] [])
      |.builtin .max=>Ab c.args.toList fun x r=>Ab r fun y r'=>Ac r' (Alv (Cm tm x) (Cm tm y) fun v=>K v [] [])
      |.builtin .append=>Au (DP c) (E5 o.dst fun d=>Ab c.args.toList fun _ r=>Ab r fun x r'=>Ac r' (Ab c.argTypes.toList fun t u=>Ab u fun tx _=>Xp P rdaf d t tx (Cm tm x) fun v nw=>K v [] nw))
      |.value (.func f)=>ME C P N call tm rdaf o c f K
      |.value (.tmp t)=>fvK (tm t) fun f=>ME C P N call tm rdaf o c f K
      |_=>none
  |_=>none
def Ul (C:Hs)(P:Program)(o:Op):Bool:=
 match o with
 |.store .. =>true
 |.call c=>
  match c.callee with
  |.builtin .append=> !DP c
  |.builtin .copy=>true
  |.builtin _=>false
  |.value (.func f)=>((LL P f c).any fun t=>(CL P t).isSome)||((LL P f c).zipIdx.any fun q=>C.mvd f q.2||C.lnd f q.2)
  |_=>false
 |_=>false
def Wn (b:Bn):Bn:=
 match b with
 |.ar _ c=>.ar true c
 |b=>b
def Ai (hp:Nat->Option Bn)(ids:List Nat):Nat->Option Bn:=fun i=>bif ids.any (Nat.beq i) then (hp i).map Wn else hp i
def A3 (hp:Nat->Option Bn):List (Nat × Bn)->Nat->Option Bn
 |[]=>hp
 |(i,b)::r=>A3 (Cz hp i (some b)) r
def B9 (hp:Nat->Option Bn):List (Nat × Bn)->Bool
 |[]=>true
 |(i,_)::r=>(hp i).isNone && !(r.any fun q=>Nat.beq q.1 i)&&B9 hp r
def Bp (tm:Nat->PV)(d:Option Tmp)(v:PV):Nat->PV:=
 match d with
 |some i=>Cz tm i v
 |none=>tm
def He (N:Nat)(d:Option Tmp):Bool:=
 match d with
 |some i=>Nat.blt i N
 |none=>true
def FO (N:Nat)(s:St)(d:Option Tmp)(v:PV)(fz:List Nat)(nw:List (Nat × Bn)) (K:St->Option R):Option R:=
 Au (He N d&&B9 s.hp nw) (K ⟨Bp s.tm d v,A3 (Ai s.hp fz) nw⟩)
def EM (P:Program)(s:St)(t:TypeId)(a x:PV)(K:St->Option R):Option R:=
 match a with
 |.ptr id off=>
  match s.hp id with
  |some (.st c)=>Au (J2 P t&&Nat.beq (cellsOf x).length (Iz P t).length&&decide (off+(Iz P t).length<=c.length)) (Ry (Iz P t) (cellsOf x) 0 fun cs=>Aa (Bd c cs off) fun c=>K ⟨s.tm,Cz s.hp id (some (.st c))⟩)
  |some (.ar false c)=>Au (J2 P t&&decide (off+(Iz P t).length<=c.length)) (Po (Kz s.hp) (Iz P t) (cellsOf x) fun cs m=>Au (!m.any (Nat.beq id)) (Aa (Bd c cs off) fun c=>K ⟨s.tm,Cz (Ai s.hp m) id (some (.ar false c))⟩))
  |_=>none
 |_=>none
def BP (P:Program)(t:TypeId):Bool:=
 match P.underlying t with
 |some (.int _)=>true
 |_=>false
def V3 (P:Program)(N:Nat)(s:St)(d:Nat)(e:TypeId)(b x:PV)(K:St->Option R):Option R:=
 Dw x fun _ n=>Fk (Bi P e) b fun z _ _=>
  Au (z&&Nat.blt d N&&(s.hp d).isNone&&decide (0<=n)&&decide (n.toNat*((P.info? e).map (·.bytes)).getD 0<=1099511627776)&&decide (n<=1099511627776))
   (K ⟨Cz s.tm d (.view d (Bi P e) 0 n.toNat),Cz s.hp d (some (.ar false []))⟩)
def Rg (P:Program)(N:Nat)(s:St)(d:Nat)(t tx:TypeId)(b x:PV)(K:St->Option R):Option R:=
 match P.underlying t with
 |some (.slice e)=>Au (SI P e) <|
  bif BP P tx then V3 P N s d e b x K else
  Abi P s (Bi P e) tx x fun m new=>
  match b with
  |.view id es off n=>
   match s.hp id with
   |some (.ar false c)=>
    Au (Nat.beq es (Bi P e)&&Nat.beq off 0&&Nat.blt d N&&(s.hp d).isNone&&decide (n*es<=c.length)&&decide (new.length=m*es)
     && decide ((n+m)*((P.info? e).map (·.bytes)).getD 0<=1099511627776)&&decide (n+m<=1099511627776))
     (Aa (n+m) fun n'=>Aa (c.take (n*es)++new) fun c=>K ⟨Cz s.tm d (.view d es 0 n'),Cz (Cz s.hp id (some .mv)) d (some (.ar false c))⟩)
   |_=>none
  |b=>Fk (Bi P e) b fun z _ _=>
    Au (z&&Nat.blt d N&&(s.hp d).isNone&&decide (new.length=m*Bi P e)&&decide (m*((P.info? e).map (·.bytes)).getD 0<=1099511627776)&&decide (m<=1099511627776))
     (K ⟨Cz s.tm d (.view d (Bi P e) 0 m),Cz s.hp d (some (.ar false new))⟩)
 |_=>none
def QF (P:Program)(N:Nat)(s:St)(d:Option Tmp)(t tx:TypeId)(b x:PV)(K:St->Option R):Option R:=
 match P.underlying t with
 |some (.slice e)=>Au (LG P e&&He N d) <|
  Abi P s (Bi P e) tx x fun m new=>
  match b with
  |.view id es off n=>
   match s.hp id with
   |some (.ar false c)=>Au (Nat.beq es (Bi P e)&&decide (off+n*es<=c.length)&&decide (new.length=m*es))
     (Aa (min m n) fun k=>Aa (Bd c (new.take (k*es)) off) fun c=>K ⟨Bp s.tm d (.sc (.int .i64 k)),Cz s.hp id (some (.ar false c))⟩)
   |_=>none
  |_=>none
 |_=>none
def Af7 (mv:Bool)(hp:Nat->Option Bn)(t:CT)(p:PV)(K:PV->List Nat->List Nat->Option R):Option R:=
 match t with
 |.sl es=>
  bif mv then
   match p with
   |.view id es' off n=>
    match hp id with
    |some (.ar false c)=>
     bif Nat.beq es' es&&Nat.beq off 0 then Au (decide (n*es<=c.length)) (K (.own es n (c.take (n*es))) [] [id])
     else Qy (Kz hp) (.sl es) (.view id es' off n) fun c m=>K c m []
    |_=>Qy (Kz hp) (.sl es) (.view id es' off n) fun c m=>K c m []
   |p=>Fk es p fun z n c=>bif z then K (.own es 0 []) [] [] else K (.lst false es n c) [] []
  else Qy (Kz hp) (.sl es) p fun c m=>K c m []
 |t=>FK t p fun c=>K c [] []
def HA (mv:Bool)(hp:Nat->Option Bn):List CT->List PV->(List PV->List Nat->List Nat->Option R)->Option R
 |[],[],K=>K [] [] []
 |t::ts,p::ps,K=>Af7 mv hp t p fun c m x=>HA mv hp ts ps fun cs ms xs=>K (c::cs) (m++ms) (x++xs)
 |_,_,_=>none
inductive Hq where
 |var (id off:Nat) (cts:List CT) (ws:List PV)
 |row (id:Nat)
 |none
def Hq.ids:Hq->List Nat
 |.var id _ _ _=>[id]
 |.row id=>[id]
 |.none=>[]
def Atc (P:Program)(t:TypeId):Option TypeId:=
 match P.underlying t with
 |some (.slice e)=>some e
 |_=>none
def Agx (hp:Nat->Option Bn)(es:Nat)(p:PV)(K:PV->List Hq->Option R):Option R:=
 match p with
 |.view id es' off n=>
  match hp id with
  |some (.ar false c)=>Au (Nat.beq es' es&&Nat.beq off 0) (K (.tup [.own es n c]) [.row id])
  |_=>none
 |p=>Fk es p fun z _ _=>Au z (K (.tup [.own es 0 []]) [.none])
def FE (C:Hs)(P:Program)(f:FuncId)(hp:Nat->Option Bn)(i:Nat)(t:TypeId)(p:PV)(K:PV->List Nat->List Nat->List Hq->Option R):Option R:=
 match CL P t with
 |some e=>
  match p with
  |.ptr id off=>
   match hp id with
   |some (.st c)=>Au (J2 P e&&decide (off+(Iz P e).length<=c.length)) (HA (C.mvd f i) hp (Iz P e) ((c.drop off).take (Iz P e).length) fun cs m x=>K (.pbox cs) m x [.var id off (Iz P e) cs])
   |_=>none
  |_=>none
 |none=>
  bif C.lnd f i then E5 (Atc P t) fun e=>Agx hp (Bi P e) p fun v l=>K v [] [] l
  else bif Cv P t then C4 p fun ps=>HA (C.mvd f i) hp (Iz P t) ps fun cs m x=>K (.agg cs) m x []
  else HA (C.mvd f i) hp (Iz P t) [p] fun cs m x=>Ab cs fun c r=>Ac r (K c m x [])
def PW (C:Hs)(P:Program)(f:FuncId)(hp:Nat->Option Bn):Nat->List TypeId->List PV->(List PV->List Nat->List Nat->List Hq->Option R)->Option R
 |_,[],[],K=>K [] [] [] []
 |i,t::ts,p::ps,K=>FE C P f hp i t p fun v m x l=>PW C P f hp (i+1) ts ps fun vs ms xs ls=>K (v::vs) (m++ms) (x++xs) (l++ls)
 |_,_,_,_=>none
def Vv (hp:Nat->Option Bn)(ids:List Nat):Nat->Option Bn:=fun i=>bif ids.any (Nat.beq i) then (hp i).map (fun _=>Bn.mv) else hp i
def ZI (N t:Nat):Nat:=N*(1000+t)
def WN (N:Nat)(hp:Nat->Option Bn):Nat->Nat->Nat
 |0,t=>t
 |k+1,t=>bif (hp (ZI N t)).isNone then t else WN N hp k (t+1)
def Afw (N t:Nat)(ct:CT)(was p:PV)(K:Nat->PV->List (Nat × Bn)->Option R):Option R:=
 match ct with
 |.sl es=>
  match was with
  |.own _ _ _=>Es es p fun n c=>K (t+1) (.view (ZI N t) es 0 n) [(ZI N t,.ar false c)]
  |_=>Fk es p fun _ n c=>K t (.lst false es n c) []
 |ct=>FK ct p fun c=>K t c []
def QS (N:Nat):Nat->List CT->List PV->List PV->(Nat->List PV->List (Nat × Bn)->Option R)->Option R
 |t,[],[],ps,K=>Ac ps (K t [] [])
 |t,ct::cts,w::ws,ps,K=>Ab ps fun p ps=>Afw N t ct w p fun t' c b=>QS N t' cts ws ps fun t'' cs bs=>K t'' (c::cs) (b++bs)
 |_,_,_,_,_=>none
def AK (N:Nat):Nat->List Hq->List (List PV)->(Nat->Option Bn)->((Nat->Option Bn)->List (Nat × Bn)->Option R)->Option R
 |_,[],ro,hp,K=>Ac ro (K hp [])
 |t,.var id off cts ws::l,ro,hp,K=>Ab ro fun cs ro=>QS N t cts ws cs fun t' cs' bs=>
   match hp id with
   |some (.st c)=>Aa (Bd c cs' off) fun c=>AK N t' l ro (Cz hp id (some (.st c))) fun hp' bs'=>K hp' (bs++bs')
   |_=>none
 |t,.row id::l,ro,hp,K=>Ab ro fun cs ro=>AK N t l ro (Cz hp id (some (.ar false cs))) K
 |t,.none::l,ro,hp,K=>Ab ro fun _ ro=>AK N t l ro hp K
def Ej:List Nat->Bool
 |[]=>true
 |a::r=> !(r.any (Nat.beq a))&&Ej r
def FX (C:Hs)(P:Program)(N:Nat)(call:Ah)(s:St)(o:Oper)(f:FuncId)(c:Call)(K:St->Option R):Option R:=
 PW C P f s.hp 0 (LL P f c) (c.args.toList.map (Cm s.tm)) fun vs m x l=>
  Au (Ej (l.flatMap Hq.ids++x)&&m.all (fun i=> !((l.flatMap Hq.ids++x).any (Nat.beq i)))&&Nat.blt 0 N&&He N o.dst) <|
  Ag (call f (Ko (C.kz f) c.args.toList vs)) fun rv ro=>
   HB P (C.shr f) N (o.dst.getD N) (P9 P o.type) rv fun ws bs=>
    Au (bif Q9 P o.type then !Nat.beq ws.length 1 else Nat.beq ws.length 1) <|
    A41 (WN N s.hp 100 0) fun t0=>AK N t0 l ro (Vv (Ai s.hp m) x) fun hp' bs'=>
     Au (B9 hp' (bs++bs')) (K ⟨Bp s.tm o.dst (P0 ws (Q9 P o.type)),A3 hp' (bs++bs')⟩)
def X1 (C:Hs)(P:Program)(N:Nat)(call:Ah)(s:St)(o:Oper)(K:St->Option R):Option R:=
 match o.op with
 |.store t a x=>Au (o.dst.isNone) (EM P s t (Cm s.tm a) (Cm s.tm x) K)
 |.call c=>
  match c.callee with
  |.builtin .append=>E5 o.dst fun d=>Ab c.args.toList fun b r=>Ab r fun x r'=>Ac r' (Ab c.argTypes.toList fun t u=>Ab u fun tx _=>Rg P N s d t tx (Cm s.tm b) (Cm s.tm x) K)
  |.builtin .copy=>Ab c.args.toList fun b r=>Ab r fun x r'=>Ac r' (Ab c.argTypes.toList fun t u=>Ab u fun tx _=>QF P N s o.dst t tx (Cm s.tm b) (Cm s.tm x) K)
  |.value (.func f)=>FX C P N call s o f c K
  |_=>none
 |_=>none
def YU (C:Hs)(P:Program)(N:Nat)(call:Ah)(o:Oper)(s:St)(K:St->Option R):Option R:=
 bif Ul C P o.op then X1 C P N call s o K
 else MH C P N call s.tm (rd s.hp) (Kz s.hp) o fun v fz nw=>FO N s o.dst v fz nw K
def Du (C:Hs)(P:Program)(N:Nat)(call:Ah)(ops:Array Oper)(o:Oper)(s:St)(K:St->Option R):Option R:=
 match o.guard with
 |none=>YU C P N call o s K
 |some (j,want)=>
  match (ops[j]?).bind (·.dst) with
  |none=>none
  |some d=>
   match s.tm d with
   |.sc (.bool b)=>
    A9 b (bif want then YU C P N call o ⟨Cz s.tm d (.sc (.bool true)),s.hp⟩ K else Au (He N o.dst) (K ⟨Bp (Cz s.tm d (.sc (.bool true))) o.dst (.sc undef),s.hp⟩))
     (bif want then Au (He N o.dst) (K ⟨Bp (Cz s.tm d (.sc (.bool false))) o.dst (.sc undef),s.hp⟩) else YU C P N call o ⟨Cz s.tm d (.sc (.bool false)),s.hp⟩ K)
   |.sc (.tuple _)=>Au (He N o.dst) (K ⟨Bp s.tm o.dst (.sc undef),s.hp⟩)
   |_=>none
def P5 (C:Hs)(P:Program)(N:Nat)(call:Ah)(ops:Array Oper):List Oper->St->(St->Option R)->Option R
 |[],s,K=>K s
 |o::r,s,K=>Du C P N call ops o s fun s'=>P5 C P N call ops r s' K
noncomputable def Yu (x y:Option R):Option R:=open Classical in if x=y then x else none
noncomputable def Ab3 (ops:Array Oper)(o:Oper)(s:St)(F:St->Option R):Option R:=
 match o.guard with
 |none=>F s
 |some (j,_)=>
  match (ops[j]?).bind (·.dst) with
  |none=>F s
  |some d=>
   match s.tm d with
   |.ub=>Yu (F ⟨Cz s.tm d (.sc (.bool true)),s.hp⟩) (F ⟨Cz s.tm d (.sc (.bool false)),s.hp⟩)
   |_=>F s
noncomputable def Nx (C:Hs)(P:Program)(N:Nat)(call:Ah)(ops:Array Oper):List Oper->St->(St->Option R)->Option R
 |[],s,K=>K s
 |o::r,s,K=>Ab3 ops o s fun s1=>Du C P N call ops o s1 fun s'=>Nx C P N call ops r s' K
end
def Aij (o:Oper):List Nat:=o.op.operands.toList.filterMap fun x=>match x with | .tmp t=>some t|_=>none
def looks (ops:Array Oper)(o:Oper):List Nat:=
 Aij o++(match o.guard with|some (g,_)=>((ops[g]?).bind (·.dst)).toList|none=>[])
def Ij (P:Program)(o:Op):Bool:=
 match o with
 |.slice t .. =>match P.underlying t with|some (.array _ _)=>true|_=>false
 |.buildSlice t _ _=>match P.underlying t with|some (.slice e)=>Kt P [e]|_=>true
 |.convert _ dst _=>match P.underlying dst with|some .string=>true|_=>false
 |.alloc _ | .box .. | .makeSlice .. =>false
 |.move _ | .assign _ | .pick .. | .build .. | .binOp .. | .unOp .. | .fieldAddr .. | .field .. | .index .. | .indexAddr .. | .extract .. | .nilCheck _=>false
 |.call c=>match c.callee with | .builtin .len=>false | .builtin .min=>false | .builtin .max=>false|_=>true
 |_=>true
def LS (C:Hs)(P:Program)(ops:Array Oper)(x y:Oper):Bool:=
 (match x.dst with|some d=>(looks ops y).any (Nat.beq d)||(match y.dst with|some e=>Nat.beq d e|none=>false)|none=>false) ||
 (match y.dst with|some e=>(looks ops x).any (Nat.beq e)|none=>false) ||
 (Ul C P x.op&&Ij P y.op)||(Ul C P y.op&&Ij P x.op)
def Jb (ops:List Oper):List Nat->List Nat
 |acc=>match ops with
  |[]=>acc
  |o::r=>Jb r (acc++[o.after.toList.foldl (fun s e=>bif Region.binds .any e then s ||| 2 ^ e.on ||| acc.getD e.on 0 else s) 0])
def IR (C:Hs)(P:Program)(ops:Array Oper)(bs:List Nat):List Oper->Nat->Bool
 |[],_=>true
 |o::r,i=>(ops.toList.zipIdx.all fun q=> !Nat.blt q.2 i || !LS C P ops q.1 o||(bs.getD i 0).testBit q.2)&&IR C P ops bs r (i+1)
def JF (C:Hs)(P:Program)(ops:Array Oper):Bool:=
 ops.toList.zipIdx.all (fun q=>q.1.after.toList.all fun e=> !Region.binds .any e||Nat.blt e.on q.2)&&IR C P ops (Jb ops.toList []) ops.toList 0
def Ay:PV->List Nat
 |.view id _ _ _=>[id]
 |.ptr id _=>[id]
 |_=>[]
def Cf:PV->List Nat
 |.agg cs=>cs.flatMap Ay
 |p=>Ay p
def Bx:PV->List Nat
 |.tup ps=>ps.flatMap Cf
 |p=>Cf p
def V2 (P:Program)(o:Op):Bool:=
 match o with
 |.load .. =>true
 |.convert _ dst _=>(match P.underlying dst with|some .string=>true|_=>false)
 |_=>false
def P4 (o:Op):Bool:=
 match o with
 |.call c=>(match c.callee with | .builtin .append=> !DP c|_=>false)
 |_=>false
def Aip (ops:Array Oper)(x y:Oper):Bool:=
 (match x.dst with|some d=>(looks ops y).any (Nat.beq d)||(match y.dst with|some e=>Nat.beq d e|none=>false)|none=>false) ||
 (match y.dst with|some e=>(looks ops x).any (Nat.beq e)|none=>false)
def T0 (C:Hs)(P:Program)(x y:Oper):Bool:=(Ul C P x.op&&Ij P y.op)||(Ul C P y.op&&Ij P x.op)
def Lg (C:Hs)(P:Program)(x y:Oper):Bool:=(Ul C P x.op&&V2 P y.op)||(Ul C P y.op&&V2 P x.op)||(P4 x.op&&P4 y.op)
def Ajq (C:Hs)(P:Program)(ops:Array Oper)(x y:Oper):Bool:=Aip ops x y||(T0 C P x y && !Lg C P x y)
def DG (C:Hs)(P:Program)(ops:Array Oper)(bs:List Nat):List Oper->Nat->Bool
 |[],_=>true
 |o::r,i=>(ops.toList.zipIdx.all fun q=> !Nat.blt q.2 i || !Ajq C P ops q.1 o||(bs.getD i 0).testBit q.2)&&DG C P ops bs r (i+1)
def LR (C:Hs)(P:Program)(ops:Array Oper):Bool:=
 ops.toList.zipIdx.all (fun q=>q.1.after.toList.all fun e=> !Region.binds .any e||Nat.blt e.on q.2)&&DG C P ops (Jb ops.toList []) ops.toList 0
def Oc (C:Hs)(P:Program)(s:St)(o:Oper):List Nat:=
 let l:=o.op.operands.toList.flatMap fun y=>Bx (Cm s.tm y)
 bif Ul C P o.op && !P4 o.op then l++l.flatMap (fun i=>match s.hp i with|some (.st c)=>c.flatMap Ay|_=>[])
 else bif V2 P o.op||P4 o.op then l else []
def Aea (a b:List Nat):Bool:=a.all fun i=> !b.any (Nat.beq i)
def DC (C:Hs)(P:Program)(ops:Array Oper)(bs:List Nat)(i:Nat)(o:Oper):List Nat:=
 (ops.toList.zipIdx.filter fun q=>Lg C P q.1 o && !(Nat.blt q.2 i&&(bs.getD i 0).testBit q.2) && !(Nat.blt i q.2&&(bs.getD q.2 0).testBit i)).map (·.2)
def GK (C:Hs)(P:Program)(ops:Array Oper)(bs:List Nat):List (List Nat):=ops.toList.zipIdx.map fun q=>DC C P ops bs q.2 q.1
def HY (C:Hs)(P:Program)(sm:List (List Nat)) (s:St)(i:Nat)(o:Oper):List Nat:=
 match sm.getD i [] with
 |[]=>[]
 |_::_=>Oc C P s o
def OE (C:Hs)(P:Program)(sm:List (List Nat)) (s:St)(i:Nat)(o:Oper)(q:Nat × Oper × List Nat):Bool:=
 !((sm.getD i []).any (Nat.beq q.1))||Aea q.2.2 (HY C P sm s i o)
def Iv {R:Type}(C:Hs)(P:Program)(N:Nat)(call:Ah)(ops:Array Oper)(sm:List (List Nat)):List (Nat × Oper × List Nat)->List Nat->St->(St->Option R)->Option R
 |_,[],s,K=>K s
 |dn,i::l,s,K=>E5 ops[i]? fun o=>Au (dn.all (OE C P sm s i o)&&(HY C P sm s i o).all (fun k=>(s.hp k).isSome)) (Du C P N call ops o s fun s'=>Iv C P N call ops sm ((i,o,HY C P sm s i o)::dn) l s' K)
def Ag6 (m i:Nat):Nat:=m ||| 2 ^ i
def Awq (m i:Nat):Nat:=bif m.testBit i then m ^^^ 2 ^ i else m
def Ac7 (ops:Array Oper):List Oper->Nat->Nat
 |[],m=>m
 |o::r,m=>
  let m1:=Ac7 ops r m
  let m2:=match o.dst with|some d=>Awq m1 d|none=>m1
  (looks ops o).foldl Ag6 m2
def Qs:Code->Nat->(Nat->Nat)->Nat->Nat
 |.skip,ln,_,_=>ln
 |.region _ ops _,ln,_,_=>Ac7 ops ops.toList ln
 |.seq a b,ln,lx,lr=>Qs a (Qs b ln lx lr) lx lr
 |.cond c a b,ln,lx,lr=>let m:=Qs a ln lx lr ||| Qs b ln lx lr;match c with | .tmp d=>Ag6 m d|_=>m
 |.block id c,ln,lx,lr=>Qs c ln (fun j=>bif Nat.beq j id then ln else lx j) lr
 |.loop c,_,lx,lr=>Qs c (Qs c 0 lx lr) lx lr
 |.exit id,_,lx,_=>lx id
 |.ret,_,_,lr=>lr
 |_,_,_,_=>0
def Ahf (ops:List Oper):List Nat:=(ops.filterMap fun o=>o.guard.map (·.1)).eraseDups
def Rl:Code->Nat
 |.region _ _ _=>1
 |.seq a b=>Rl a+Rl b
 |.cond _ a b=>Rl a+Rl b
 |.block _ c=>Rl c
 |.loop c=>Rl c
 |_=>0
def HW:Code->Nat
 |.skip=>1
 |.region _ ops _=>2 ^ min 6 (Ahf ops.toList).length
 |.seq a b=>bif (Nat.ble 7 (HW a)&&Nat.ble 6 (Rl b))||(Nat.ble 5 (HW a)&&Nat.ble 9 (Rl b)) then HW b else min 1000 (HW a*HW b)
 |.cond _ a b=>HW a+HW b
 |.block _ c=>HW c
 |.loop _=>1
 |.exit _=>1
 |_=>0
def Amx (P:Program)(o:Oper):Bool:=
 match o.op with
 |.load t _=>V7 P t&&Nat.ble 8 (Bi P t)
 |.store t _ _=>V7 P t&&Nat.ble 8 (Bi P t)
 |_=>false
def VP (P:Program):Code->Bool
 |.region _ ops _=>ops.toList.any (Amx P)
 |.seq a _=>VP P a
 |_=>false
def Ach (P:Program):Code->Bool
 |.region _ ops _=>ops.toList.any (Amx P)
 |.seq _ b=>Ach P b
 |_=>false
def CR (a b:Code):Bool:=(Nat.beq (HW a) 4&&Nat.beq (Rl b) 3&&Nat.beq (Rl a) 7)||(match b with | .seq x y=>Nat.beq (HW x) 4&&Nat.beq (Rl y) 3&&Nat.beq (Rl x) 7|_=>false)
def Acw (P:Program)(a b:Code):Bool:=(Nat.ble 7 (HW a)&&Nat.ble 6 (Rl b))||(Nat.ble 5 (HW a)&&Nat.ble 9 (Rl b))||CR a b||VP P b||Ach P a
def Nt (m:Nat):Nat->List Nat
 |0=>[]
 |n+1=>Nt m n++(bif m.testBit n then [n] else [])
def lk (l:List (Nat × PV)) (i:Nat):PV:=
 match l with
 |[]=>.top
 |(j,p)::r=>bif Nat.beq i j then p else lk r i
def B7 (l:List (Nat × Bn)) (i:Nat):Option Bn:=
 match l with
 |[]=>none
 |(j,b)::r=>bif Nat.beq i j then some b else B7 r i
def Yg (l:List (Nat × Nat)) (i:Nat):Option Nat:=
 match l with
 |[]=>none
 |(j,b)::r=>bif Nat.beq i j then some b else Yg r i
def JB (s:St)(i:Nat):St:=
 match s.tm i with
 |.lst true es 0 []=>bif (s.hp i).isNone then ⟨Cz s.tm i (.view i es 0 0),Cz s.hp i (some (.ar false []))⟩ else s
 |_=>s
def UN (N:Nat)(id:Nat)(s:St)(j:Nat):St:=
 match s.hp id with
 |some (.st c)=>
  match c[j]? with
  |some (.lst true es 0 [])=>bif (s.hp (id+N*(j+1))).isNone then ⟨s.tm,Cz (Cz s.hp id (some (.st (c.set j (.view (id+N*(j+1)) es 0 0))))) (id+N*(j+1)) (some (.ar false []))⟩ else s
  |_=>s
 |_=>s
def TC (N:Nat)(s:St)(i:Nat):St:=
 match s.tm i with
 |.ptr id _=>
  match s.hp id with
  |some (.st c)=>(List.range c.length).foldl (UN N id) s
  |_=>s
 |_=>s
def RI (m:List (Nat × Nat)) (old new:Nat):List (Nat × Nat):=
 match Yg m old with
 |some _=>m
 |none=>m++[(old,new)]
def Ty (N new:Nat):List PV->Nat->List (Nat × Nat)->List (Nat × Nat)
 |[],_,m=>m
 |.view id _ _ _::r,j,m=>Ty N new r (j+1) (RI m id (new+N*(j+1)))
 |_::r,j,m=>Ty N new r (j+1) m
def JC (N:Nat)(s:St)(m:List (Nat × Nat)) (i:Nat):List (Nat × Nat):=
 match s.tm i with
 |.view id _ _ _=>RI m id i
 |.ptr id _=>
  match Yg m id with
  |some _=>m
  |none=>
   match s.hp id with
   |some (.st c)=>Ty N i c 0 (RI m id i)
   |_=>RI m id i
 |.agg c=>Ty N i c 0 m
 |_=>m
def Aao (m:List (Nat × Nat)):PV->PV
 |.view id es off n=>match Yg m id with|some j=>.view j es off n|none=>.top
 |.ptr id off=>match Yg m id with|some j=>.ptr j off|none=>.top
 |.sc v=>.sc v
 |.lst z es n c=>.lst z es n c
 |.iptr c off=>.iptr c off
 |_=>.top
def Ae3 (m:List (Nat × Nat)):PV->PV
 |.agg c=>.agg (c.map (Aao m))
 |p=>Aao m p
def Al4 (m:List (Nat × Nat)):Bn->Bn
 |.st c=>.st (c.map (Aao m))
 |b=>b
def C6 (N i:Nat):Nat:=i+N*2000
def VB (N:Nat)(hp:Nat->Option Bn):Nat->List (Nat × Nat)
 |0=>[]
 |i+1=>bif (hp (C6 N i)).isSome then VB N hp i++[(C6 N i,C6 N i)] else VB N hp i
def Wr (N:Nat)(hp:Nat->Option Bn):Nat->List (Nat × Nat)->List (Nat × Nat)
 |0,m=>m
 |i+1,m=>
  match hp (C6 N i) with
  |some (.st c)=>Ty N (C6 N i) c 0 (Wr N hp i m)
  |_=>Wr N hp i m
def A11 (N:Nat)(hp:Nat->Option Bn)(k:Nat):List (Nat × Nat):=Wr N hp k (VB N hp k)
def On (m:List (Nat × Nat)) (hp:Nat->Option Bn):List (Nat × Nat)->List (Nat × Bn)
 |[]=>[]
 |(old,new)::r=>match hp old with
  |some b=>(new,Al4 m b)::On m hp r
  |none=>On m hp r
section
variable {R:Type}
def Acn (N:Nat)(ls:List Nat)(q:Bool)(s:St)(K:St->Option R):Option R:=
 let s2:=bif q then s else ls.foldl (TC N) (ls.foldl JB s)
 let m:=ls.foldl (JC N s2) (A11 N s2.hp 8)
 Au (Ej (m.map (·.1))&&Ej (m.map (·.2))) (K ⟨lk (ls.map fun i=>(i,Ae3 m (s2.tm i))),B7 (On m s2.hp m)⟩)
def Lo (N L:Nat)(s:St)(K:St->Option R):Option R:=Acn N (Nt L N) false s K
def ZH (N L:Nat)(s:St)(K:St->Option R):Option R:=Acn N (Nt L N) true s K
def WC (F:(St->Option R)->St->Option R) (nm:St->(St->Option R)->Option R):Nat->St->Option R
 |0,_=>none
 |n+1,s=>F (fun s'=>nm s' (WC F nm n)) s
def NF (n:Nat)(F:St->Option R)(s:St):Option R:=
 match n with
 |0=>none
 |_+1=>F s
noncomputable def Aj6 (s:St)(c:Operand)(kt kf:St->Option R):Option R:=
 match c with
 |.tmp d=>
  match s.tm d with
  |.sc (.bool b)=>A9 b (kt ⟨Cz s.tm d (.sc (.bool true)),s.hp⟩) (kf ⟨Cz s.tm d (.sc (.bool false)),s.hp⟩)
  |.ub=>Yu (kt s) (kf s)
  |_=>none
 |.const (.bool true)=>kt s
 |.const (.bool false)=>kf s
 |_=>none
noncomputable def Lf (C:Hs)(P:Program)(fu N:Nat)(call:Ah):Code->Nat->(Nat->Nat)->Nat->(St->Option R)->(Nat->St->Option R)->(St->Option R)->St->Option R
 |.skip,_,_,_,kn,_,_,s=>kn s
 |.region _ ops draw,_,_,_,kn,_,_,s=>OB (draw && !JF C P ops) (Au (LR C P ops) (Ajw (GK C P ops (Jb ops.toList [])) fun sm=>Iv C P N call ops sm [] (List.range ops.size) s kn)) (OB draw (P5 C P N call ops ops.toList s kn) (Nx C P N call ops ops.toList s kn))
 |.seq a b,ln,lx,lr,kn,kx,kr,s=>Lf C P fu N call a (Qs b ln lx lr) lx lr (fun s'=>OB (Acw P a b) (OB (CR a b) (ZH N (Qs b ln lx lr) s' (NF fu fun s''=>Lf C P fu N call b ln lx lr kn kx kr s'')) (Lo N (Qs b ln lx lr) s' (NF fu fun s''=>Lf C P fu N call b ln lx lr kn kx kr s''))) (Lf C P fu N call b ln lx lr kn kx kr s')) kx kr s
 |.cond c a b,ln,lx,lr,kn,kx,kr,s=>Aj6 s c (Lf C P fu N call a ln lx lr kn kx kr) (Lf C P fu N call b ln lx lr kn kx kr)
 |.block id c,ln,lx,lr,kn,kx,kr,s=>Lf C P fu N call c ln (fun j=>bif Nat.beq j id then ln else lx j) lr kn (fun j s'=>bif Nat.beq j id then kn s' else kx j s') kr s
 |.loop c,ln,lx,lr,_,kx,kr,s=>
  Lo N (Qs (.loop c) ln lx lr) s (WC (fun k s'=>Lf C P fu N call c (Qs (.loop c) ln lx lr) lx lr k kx kr s') (Lo N (Qs (.loop c) ln lx lr)) fu)
 |.exit id,_,_,_,_,kx,_,s=>kx id s
 |.ret,_,_,_,_,_,kr,s=>kr s
 |_,_,_,_,_,_,_,_=>none
def Aia (id:Nat)(t:CT)(p:PV)(K:PV->List (Nat × Bn)->Option R):Option R:=
 match t with
 |.sl es=>
  match p with
  |.own es' n c=>bif Nat.beq es' es then K (.view id es 0 n) [(id,.ar false c)] else none
  |p=>Fk es p fun z n c=>K (.lst z es n c) []
 |t=>FK t p fun c=>K c []
def GU (N:Nat):Nat->List CT->List PV->(List PV->List (Nat × Bn)->Option R)->Option R
 |_,[],ps,K=>Ac ps (K [] [])
 |id,t::ts,ps,K=>Ab ps fun p ps=>Aia id t p fun c b=>GU N (id+N) ts ps fun cs bs=>K (c::cs) (b++bs)
def inK (P:Program)(N i:Nat)(t:TypeId)(p:PV)(K:PV->List (Nat × Bn)->Option R):Option R:=
 match CL P t with
 |some e=>Y9 p fun ps=>Au (Nat.blt i 8) (GU N (C6 N i+N) (Iz P e) ps fun cs bs=>K (.ptr (C6 N i) 0) ((C6 N i,.st cs)::bs))
 |none=>
  match p with
  |.tup ps=>E5 (Atc P t) fun e=>Au (Nat.blt i 8) (Ab ps fun q r=>Ac r (Es (Bi P e) q fun n c=>K (.view (C6 N i) (Bi P e) 0 n) [(C6 N i,.ar false c)]))
  |p=>
   bif Cv P t then C4 p fun ps=>GU N (i+N) (Iz P t) ps fun cs bs=>K (.agg cs) bs
   else GU N (i+N) (Iz P t) [p] fun cs bs=>Ab cs fun c r=>Ac r (K c bs)
def Afp (P:Program)(N:Nat):Nat->List TypeId->List PV->(List (Nat × PV)->List (Nat × Bn)->Option R)->Option R
 |_,[],ps,K=>Ac ps (K [] [])
 |i,t::ts,ps,K=>Ab ps fun p ps=>inK P N i t p fun v bs=>Afp P N (i+1) ts ps fun vs bs'=>K ((i,v)::vs) (bs++bs')
def Ank (hp:Nat->Option Bn)(t:CT)(p:PV)(K:PV->List Nat->List Nat->Option R):Option R:=
  match t with
  |.sl es=>
    match p with
    |.view id es' off n=>bif Nat.beq es' es&&Nat.beq off 0 then
        (match hp id with
         |some (.ar false c)=>Au (decide (n*es<=c.length)) (K (.own es n (c.take (n*es))) [id] [])
         |_=>none) else none
    |p=>Fk es p fun z _ _=>Au z (K (.own es 0 []) [] [])
  |t=>FK t p fun c=>K c [] []
def Ado (shr:Bool)(hp:Nat->Option Bn)(t:CT)(p:PV)(K:PV->List Nat->List Nat->Option R):Option R:=
 bif shr then Qy (Kz hp) t p fun c m=>K c [] m else Ank hp t p K
def FV (shr:Bool)(hp:Nat->Option Bn):List CT->List PV->(List PV->List Nat->List Nat->Option R)->Option R
 |[],[],K=>K [] [] []
 |t::ts,p::ps,K=>Ado shr hp t p fun c m z=>FV shr hp ts ps fun cs ms zs=>K (c::cs) (m++ms) (z++zs)
 |_,_,_=>none
def Ai5 (P:Program)(shr:Bool)(hp:Nat->Option Bn)(t:TypeId)(p:PV)(K:PV->List Nat->List Nat->Option R):Option R:=
 match CL P t with
 |some e=>
  match p with
  |.ptr id off=>
   match hp id with
   |some (.st c)=>Au (Nat.beq off 0) (FV shr hp (Iz P e) c fun cs m z=>K (.pbox cs) (id::m) z)
   |_=>none
  |_=>none
 |none=>
  bif Cv P t then C4 p fun ps=>FV shr hp (Iz P t) ps fun cs m z=>K (.agg cs) m z
  else FV shr hp (Iz P t) [p] fun cs m z=>Ab cs fun c r=>Ac r (K c m z)
def Ahm (P:Program)(s:St)(r:ResultVar)(K:PV->Option R):Option R:=
 match r with
 |.tmp t=>K (s.tm t)
 |.cell a t=>DW P (rd s.hp) (Kz s.hp) t (s.tm a) K
def UW (P:Program)(shr:Bool)(s:St):List ResultVar->List TypeId->(List PV->List Nat->List Nat->Option R)->Option R
 |[],[],K=>K [] [] []
 |r::rs,t::ts,K=>Ahm P s r fun p=>Ai5 P shr s.hp t p fun v m z=>UW P shr s rs ts fun vs ms zs=>K (v::vs) (m++ms) (z++zs)
 |_,_,_=>none
def IQ (hp:Nat->Option Bn):List CT->List PV->List PV->(List PV->List Nat->List Nat->Option R)->Option R
 |[],[],[],K=>K [] [] []
 |t::ts,w::ws,p::ps,K=>Ado (match w with | .own _ _ _=>false|_=>true) hp t p fun c m z=>IQ hp ts ws ps fun cs ms zs=>K (c::cs) (m++ms) (z++zs)
 |_,_,_,_=>none
def EL (P:Program)(N:Nat)(hp:Nat->Option Bn):Nat->List TypeId->List PV->(List (List PV)->List Nat->List Nat->List Nat->Option R)->Option R
 |_,[],ps,K=>Ac ps (K [] [] [] [])
 |i,t::ts,ps,K=>Ab ps fun p ps=>
  match p with
  |.pbox ws=>E5 (CL P t) fun e=>
    match hp (C6 N i) with
    |some (.st c)=>IQ hp (Iz P e) ws c fun cs m z=>EL P N hp (i+1) ts ps fun r m' z' q=>K (cs::r) (m++m') (z++z') (C6 N i::q)
    |_=>none
  |.tup _=>
    match hp (C6 N i) with
    |some (.ar false c)=>EL P N hp (i+1) ts ps fun r m' z' q=>K (c::r) m' z' (C6 N i::q)
    |_=>none
  |_=>EL P N hp (i+1) ts ps K
def Aci (rs:List ResultVar):Nat:=rs.foldl (fun m r=>match r with | .tmp t=>Ag6 m t | .cell a _=>Ag6 m a) 0
end
def NM (P:Program):Nat->List TypeId->Nat->Nat
 |_,[],m=>m
 |i,t::ts,m=>NM P (i+1) ts (match P.underlying t with|some (.pointer _)=>Ag6 m i|_=>m)
def Ab7 (C:Hs)(P:Program)(f:FuncId)(fn:Func)(args:List PV)(s:St):Option A0:=
 UW P (C.shr f) s fn.results.toList fn.resultTypes.toList fun vs m z=>EL P fn.ntmps s.hp 0 fn.params.toList args fun os m' z' q=>
  Au (Ej ((m++m')++q)&&(z++z').all (fun i=> !(((m++m')++q).any (Nat.beq i)))) (some ⟨vs,os⟩)
noncomputable def Ak4 (C:Hs)(P:Program)(fu:Nat)(call:Ah)(f:FuncId)(fn:Func)(c:Code)(args:List PV):Option A0:=
  Afp P fn.ntmps 0 fn.params.toList args fun tms bs=>Au (Nat.ble args.length fn.ntmps&&B9 (fun _=>none) bs)
    (let lr:=NM P 0 fn.params.toList (Aci fn.results.toList)
     Lf C P fu fn.ntmps call c lr (fun _=>0) lr (Ab7 C P f fn args) (fun _ _=>none) (Ab7 C P f fn args) ⟨lk tms,B7 bs⟩)
noncomputable def Ae (C:Hs)(P:Program)(fu:Nat):Nat->FuncId->List PV->Option A0
 |0,_,_=>none
 |d+1,f,args=>
  match C.ext f with
  |some g=>g args
  |none=>
   match P.funcs[f]? with
   |none=>none
   |some fn=>match fn.body with
    |none=>none
    |some c=>Ak4 C.core P fu (Ae C P fu d) f fn c args
inductive Dir where
 |l
 |r
 |i (m:Nat)
section
variable {R:Type}
noncomputable def AB (C:Hs)(P:Program)(fu N:Nat)(call:Ah):List Dir->Code->Nat->(Nat->Nat)->Nat->(St->Option R)->(Nat->St->Option R)->(St->Option R)->Nat->St->Option R
 |[],.seq _ b,ln,lx,lr,kn,kx,kr,n,s=>NF n (fun s''=>Lf C P fu N call b ln lx lr kn kx kr s'') s
 |[],.loop c,ln,lx,lr,_,kx,kr,n,s=>WC (fun k s'=>Lf C P fu N call c (Qs (.loop c) ln lx lr) lx lr k kx kr s') (Lo N (Qs (.loop c) ln lx lr)) n s
 |.l::p,.seq a b,ln,lx,lr,kn,kx,kr,n,s=>AB C P fu N call p a (Qs b ln lx lr) lx lr (fun s'=>OB (Acw P a b) (OB (CR a b) (ZH N (Qs b ln lx lr) s' (NF fu fun s''=>Lf C P fu N call b ln lx lr kn kx kr s'')) (Lo N (Qs b ln lx lr) s' (NF fu fun s''=>Lf C P fu N call b ln lx lr kn kx kr s''))) (Lf C P fu N call b ln lx lr kn kx kr s')) kx kr n s
 |.r::p,.seq _ b,ln,lx,lr,kn,kx,kr,n,s=>AB C P fu N call p b ln lx lr kn kx kr n s
 |.l::p,.cond _ a _,ln,lx,lr,kn,kx,kr,n,s=>AB C P fu N call p a ln lx lr kn kx kr n s
 |.r::p,.cond _ _ b,ln,lx,lr,kn,kx,kr,n,s=>AB C P fu N call p b ln lx lr kn kx kr n s
 |.l::p,.block id c,ln,lx,lr,kn,kx,kr,n,s=>AB C P fu N call p c ln (fun j=>bif Nat.beq j id then ln else lx j) lr kn (fun j s'=>bif Nat.beq j id then kn s' else kx j s') kr n s
 |.i m::p,.loop c,ln,lx,lr,_,kx,kr,n,s=>
  AB C P fu N call p c (Qs (.loop c) ln lx lr) lx lr
   (fun s'=>Lo N (Qs (.loop c) ln lx lr) s' (WC (fun k s'=>Lf C P fu N call c (Qs (.loop c) ln lx lr) lx lr k kx kr s') (Lo N (Qs (.loop c) ln lx lr)) m)) kx kr n s
 |_,_,_,_,_,_,_,_,_,_=>none
end
noncomputable def Co (C:Hs)(P:Program)(fu:Nat)(call:Ah)(f:FuncId)(fn:Func)(c:Code)(args:List PV)(p:List Dir)(n:Nat)(s:St):Option A0:=
 let lr:=NM P 0 fn.params.toList (Aci fn.results.toList)
 AB C P fu fn.ntmps call p c lr (fun _=>0) lr (Ab7 C P f fn args) (fun _ _=>none) (Ab7 C P f fn args) n s
def Ak8:List Nat:=[
 1000000]
def Ase:List Nat:=[
 11,
 31,
 44,
 13,
 17,
 37,
 26,
 1000000]
def Arx:List Nat:=[
 1000000]
def An9:List Nat:=[
 102,
 119,
 100,
 90,
 128,
 114,
 115,
 130,
 118,
 91,
 113,
 111,
 124,
 1000000]
def JY (args:List PV):Option A0:=
 match args with
 |[.sc (.string s)]=>bif decide (s.size<=9223372036854775807) then some ⟨[.sc (.bool (Lib.validD s.data.toList))],[]⟩ else none
 |_=>none
def Vt (args:List PV):Option A0:=
  match args with
  |[.lst _ 1 n c,.lst _ 1 m c']=>bif Nat.beq c.length n&&Nat.beq c'.length m then
      (match bytesOf c,bytesOf c' with
       |some a,some b=>some ⟨[.sc (.int .i64 (Lib.compareBytes a b))],[]⟩
       |_,_=>none) else none
  |_=>none
def BX:List Nat:=[
 132,
 89,
 121,
 122,
 120,
 103,
 73,
 123,
 117,
 98,
 65,
 34,
 88,
 84,
 112,
 104,
 105,
 110,
 81,
 106,
 108,
 76,
 74,
 75,
 92,
 82,
 66,
 53,
 50,
 54,
 41,
 1000000]
def CB:Hs:=⟨fun f=>Ase.any (Nat.beq f),fun f i=>Nat.beq i 0&&An9.any (Nat.beq f),fun f i=>Nat.beq i 0&&Arx.any (Nat.beq f),fun f=>Ak8.any (Nat.beq f),fun _=>none⟩
def CX (xs:FuncId->Option (List PV->Option A0)):Hs:={ CB with ext:=fun f=>bif BX.any (Nat.beq f) then none else xs f }
def Bm (f:Func):Code:=match f.body with|some c=>c|none=>.skip
section
variable {R:Type} {r:Option R}
theorem At {k:IntKind}{p:PV}{K:Int->Option R}{n:Int}(h:p=.sc (.int k n)) (hk:K n=r):Ad k p K=r:=by
 subst h;unfold Ad;simp [hk]
theorem A2w {p:PV}{K:IntKind->Int->Option R}{k:IntKind}{n:Int}(h:p=.sc (.int k n)) (hk:K k n=r):Dw p K=r:=by
 subst h;exact hk
theorem Ao {p:PV}{K:Bool->Option R}{b:Bool}(h:p=.sc (.bool b)) (hk:K b=r):Bj p K=r:=by
 subst h;exact hk
theorem Aw {p:PV}{K:ByteArray->Option R}{s:ByteArray}(h:p=.sc (.string s)) (hk:K s=r):Cj p K=r:=by
 subst h;exact hk
theorem Bg {es:Nat}{p:PV}{K:Bool->Nat->List PV->Option R}{z:Bool}{n:Nat}{c:List PV}(h:p=.lst z es n c)(hk:K z n c=r):Fk es p K=r:=by
 subst h;unfold Fk;simp [Nat.beq_refl,hk]
theorem Bc {es:Nat}{p:PV}{K:Nat->List PV->Option R}{n:Nat}{c:List PV}(h:p=.own es n c)(hk:K n c=r):Es es p K=r:=by
 subst h;unfold Es;simp [Nat.beq_refl,hk]
theorem Ap {b:Bool}{K:Option R}(h:b=true)(hk:K=r):Au b K=r:=by
 subst h;exact hk
theorem Ajx {b:Bool}{x y:Option R}(hx:b=true->x=r)(hy:b=false->y=r):A9 b x y=r:=by
 cases b
 ·exact hy rfl
 ·exact hx rfl
theorem Ar {b:Bool}{x y:Option R}(h:b=true)(hx:x=r):A9 b x y=r:=by
 subst h;exact hx
theorem Aq {b:Bool}{x y:Option R}(h:b=false)(hx:y=r):A9 b x y=r:=by
 subst h;exact hx
theorem Dn {α:Type}{o:Option α}{K:α->Option R}{a:α}(h:o=some a)(hk:K a=r):E5 o K=r:=by
 subst h;exact hk
theorem Ak {α:Type}{l:List α}{K:α->List α->Option R}{a:α}{t:List α}(h:l=a::t)(hk:K a t=r):Ab l K=r:=by
 subst h;exact hk
theorem As {α:Type}{l:List α}{K:Option R}(h:l=[]) (hk:K=r):Ac l K=r:=by
 subst h;exact hk
theorem Bv {p:PV}{K:List PV->Option R}{c:List PV}(h:p=.agg c)(hk:K c=r):C4 p K=r:=by
 subst h;exact hk
theorem O7 {p:PV}{K:List PV->Option R}{c:List PV}(h:p=.pbox c)(hk:K c=r):Y9 p K=r:=by
 subst h;exact hk
theorem Aj {o:Option A0}{K:List PV->List (List PV)->Option R} {v:List PV}{q:List (List PV)} (h:o=some ⟨v,q⟩)(hk:K v q=r):Ag o K=r:=by
 subst h;exact hk
theorem UD {x y:Option R}(hx:x=r)(hy:y=r):Yu x y=r:=by subst hx;subst hy;unfold Yu;simp
end
theorem II (a b:Int):(a != b)=decide (a≠b):=by by_cases h:a=b<;>simp [h,bne]
theorem Aei (a b:Int):(a==b)=decide (a=b):=by by_cases h:a=b<;>simp [h]
section
variable {R:Type}
theorem Ac1 (v:List PV)(o:List (List PV)) (K:List PV->List (List PV)->Option R):Ag (some ⟨v,o⟩) K=K v o:=by exact id rfl
theorem Ahx {α:Type}(K:Option R):Ac ([]:List α) K=K:=by exact id rfl
theorem Acp {α:Type}(a:α)(r:List α)(K:α->List α->Option R):Ab (a::r) K=K a r:=by exact id rfl
theorem Acj (b:Bool)(K:Bool->Option R):Bj (.sc (.bool b)) K=K b:=by exact id rfl
theorem Ah6 (s:ByteArray)(K:ByteArray->Option R):Cj (.sc (.string s)) K=K s:=by exact id rfl
theorem TQ (k:IntKind)(n:Int)(K:Int->Option R):Ad k (.sc (.int k n)) K=K n:=by unfold Ad;simp
theorem Aha (k:IntKind)(n:Int)(K:IntKind->Int->Option R):Dw (.sc (.int k n)) K=K k n:=by exact id rfl
theorem Am4 (z:Bool)(es n:Nat)(c:List PV)(K:Bool->Nat->List PV->Option R):Fk es (.lst z es n c) K=K z n c:=by unfold Fk;simp
theorem Am1 (es n:Nat)(c:List PV)(K:Nat->List PV->Option R):Es es (.own es n c) K=K n c:=by unfold Es;simp
theorem Ahu (c:List PV)(K:List PV->Option R):C4 (.agg c) K=K c:=by exact id rfl
theorem Adp (c:List PV)(K:List PV->Option R):Y9 (.pbox c) K=K c:=by exact id rfl
theorem Aj4 {α:Type}(a:α)(K:α->Option R):E5 (some a) K=K a:=by exact id rfl
theorem Hl {α:Type}(a:α)(K:α->Option R):Aa a K=K a:=by exact id rfl
theorem Ajo (K:Option R):Au true K=K:=by exact id rfl
theorem TY (p:Prop) [Decidable p] (K:Option R)(h:p):Au (decide p) K=K:=by simp [Au,h]
theorem Ac2 (b c:Bool)(K:Option R):Au (b&&c) K=Au b (Au c K):=by cases b<;>rfl
theorem ZU (x y:Option R):A9 true x y=x:=by exact id rfl
theorem Abx (x y:Option R):A9 false x y=y:=by exact id rfl
theorem LP (p:Prop) [Decidable p] (x y:Option R)(h:p):A9 (decide p) x y=x:=by simp [A9,h]
theorem Dj (p:Prop) [Decidable p] (x y:Option R)(h:¬p):A9 (decide p) x y=y:=by simp [A9,h]
theorem EP (p:Prop) [Decidable p] (x y:Option R):A9 (decide p) x y=if p then x else y:=by by_cases h:p<;>simp [A9,h]
theorem Eu (a b:Int)(x y:Option R):A9 (a==b) x y=if a=b then x else y:=by
 rw [Aei,EP]
theorem D5 (a b:Int)(x y:Option R):A9 (a != b) x y=if a=b then y else x:=by
 rw [II,EP];by_cases h:a=b<;>simp [h]
theorem Ac4 (x:Option R):Yu x x=x:=by unfold Yu;simp
end
theorem Al {x:Int}(h1: -9223372036854775808<=x)(h2:x<=9223372036854775807):IntKind.wrap .i64 x=x:=by
 have:=IntWalk.i64_in x (by omega)
 exact this
theorem Cq {x:Int}(h1:0<=x)(h2:x<=18446744073709551615):IntKind.wrap .u64 x=x:=by
 simp only [IntKind.wrap,IntKind.signed,IntKind.bits];simp;omega
theorem F2 {x:Int}(h1:0<=x)(h2:x<=255):IntKind.wrap .u8 x=x:=by
 simp only [IntKind.wrap,IntKind.signed,IntKind.bits];simp;omega
theorem G6 (x:Int):0<=IntKind.wrap .u64 x∧IntKind.wrap .u64 x<=18446744073709551615:=by
 simp only [IntKind.wrap,IntKind.signed,IntKind.bits];simp;omega
theorem B3 {α:Type}{l r:List α}{x:α}{i:Nat}(h:l.drop i=x::r):i<l.length∧l[i]?=some x∧l.drop (i+1)=r:=by
 have h1:i<l.length:=by
  rcases Nat.lt_or_ge i l.length with h1|h1
  ·exact h1
  ·rw [List.drop_of_length_le h1] at h;cases h
 rw [List.drop_eq_getElem_cons h1] at h;injection h with h2 h3;exact ⟨h1,by rw [List.getElem?_eq_getElem h1,h2],h3⟩
theorem drop_nil {α:Type}{l:List α}{i:Nat}(h:l.drop i=[]):l.length<=i:=by
 have:=congrArg List.length h;simp at this;omega
section
variable {α:Type} {f:α->List PV} {k:Nat}
theorem AZ (hf:∀x,(f x).length=k):∀(l:List α),(l.flatMap f).length=l.length*k
 |[]=>by simp
 |x::l=>by simp [hf x,AZ hf l,Nat.succ_mul];omega
theorem BJ (hf:∀x,(f x).length=k):∀(l:List α)(i:Nat),(l.flatMap f).drop (i*k)=(l.drop i).flatMap f
 |l,0=>by simp
 |[],i+1=>by simp
 |x::l,i+1=>by
  rw [List.flatMap_cons,Nat.succ_mul,Nat.add_comm,←List.drop_drop,List.drop_append_of_le_length (by rw [hf x];omega)]
  rw [show (f x).drop k=[] from List.drop_of_length_le (by rw [hf x];omega),List.nil_append]
  exact BJ hf l i
theorem DX (hf:∀x,(f x).length=k):∀(l:List α)(i:Nat),(l.flatMap f).take (i*k)=(l.take i).flatMap f
 |l,0=>by simp
 |[],i+1=>by simp
 |x::l,i+1=>by
  rw [List.flatMap_cons,Nat.succ_mul,Nat.add_comm,List.take_succ_cons,List.flatMap_cons,←DX hf l i];rw [show k+i*k=(f x).length+i*k by rw [hf x],List.take_length_add_append]
theorem Ei (hf:∀x,(f x).length=k) {l:List α}{i:Nat}{x:α}(h:l[i]?=some x) {j:Nat}(hj:j<k):(l.flatMap f).getD (i*k+j) .top=(f x).getD j .top:=by
 have h1:((l.flatMap f).drop (i*k))[j]?=(l.flatMap f)[i*k+j]?:=List.getElem?_drop;rw [BJ hf] at h1
 have h2:i<l.length:=by
  rcases Nat.lt_or_ge i l.length with h1|h1
  ·exact h1
  ·rw [List.getElem?_eq_none h1] at h;cases h
 rw [List.drop_eq_getElem_cons h2,List.flatMap_cons] at h1;have h3:l[i]=x:=by rw [List.getElem?_eq_getElem h2] at h;injection h
 rw [h3,List.getElem?_append_left (by rw [hf x];exact hj)] at h1
 simp only [List.getD_eq_getElem?_getD,←h1]
theorem Akc (hf:∀x,(f x).length=k) {p:PV}{j:Nat}(hj:j<k):∀{l:List α}{i:Nat}{x y:α},l[i]?=some x->f y=(f x).set j p->(l.flatMap f).set (i*k+j) p=(l.set i y).flatMap f
 |[],i,x,y,h,_=>by simp at h
 |a::l,0,x,y,h,hy=>by
  simp at h;subst h;rw [Nat.zero_mul,Nat.zero_add,List.flatMap_cons,List.set_cons_zero,List.flatMap_cons,hy,List.set_append_left _ _ (by rw [hf];exact hj)]
 |a::l,i+1,x,y,h,hy=>by
  simp at h;rw [List.flatMap_cons,List.set_cons_succ,List.flatMap_cons,List.set_append_right _ _ (by rw [hf,Nat.succ_mul];omega),hf]
  congr 1
  rw [show (i+1)*k+j-k=i*k+j by rw [Nat.succ_mul];omega]
  exact Akc hf hj h hy
theorem Fd {c:List PV}{p:PV}{i:Nat}(h:i<c.length):Bd c [p] i=c.set i p:=by
 unfold Bd;rw [List.set_eq_take_append_cons_drop,if_pos h];simp
end
theorem SC {α:Type}{l:List α}{i:Nat}{x:α}(h:l[i]?=some x):i<l.length:=by
 rcases Nat.lt_or_ge i l.length with h1|h1
 ·exact h1
 ·rw [List.getElem?_eq_none h1] at h;cases h
abbrev Aqq (k:IntKind)(n:Int):List PV:=[.sc (.int k n)]
abbrev Af (k:IntKind)(l:List Int):List PV:=l.flatMap (Aqq k)
theorem CH (k:IntKind)(n:Int):(Aqq k n).length=1:=rfl
theorem Vg {k:IntKind}{l:List Int}{i:Nat}{n:Int}(h:l[i]?=some n):(Af k l).getD i .top=.sc (.int k n):=by
 have:=Ei (CH k) h (j:=0) (by omega)
 simpa using this
theorem Am (k:IntKind)(l:List Int):(Af k l).length=l.length:=by rw [AZ (CH k)];omega
theorem F0 (k:IntKind)(l:List Int)(n:Int):Af k l++[.sc (.int k n)]=Af k (l++[n]):=by simp
theorem J7 (k:IntKind)(l:List Int):List.take l.length (Af k l)=Af k l:=List.take_of_length_le (by rw [Am];omega)
theorem Bz:type_of% @Ac1∧type_of% @Ahx∧type_of% @Acp∧type_of% @Acj∧type_of% @Ah6∧type_of% @TQ∧type_of% @Aha∧type_of% @Am4∧type_of% @Am1∧type_of% @Ahu∧type_of% @Adp∧type_of% @Aj4∧type_of% @Hl∧type_of% @Ajo∧type_of% @TY∧type_of% @Ac2∧type_of% @ZU∧type_of% @Abx∧type_of% @LP∧type_of% @Dj∧type_of% @Ac4∧type_of% @Bool.not_true∧type_of% @Bool.not_false∧type_of% @Bool.false_eq_true∧type_of% @if_true.{1}∧type_of% @if_false.{1}∧type_of% @Bool.true_and∧type_of% @Bool.and_true∧type_of% @Bool.false_and∧type_of% @Bool.and_false∧type_of% @decide_true∧type_of% @decide_false:=
 ⟨@Ac1,@Ahx,@Acp,@Acj,@Ah6,@TQ,@Aha,@Am4,@Am1,@Ahu,@Adp,@Aj4,@Hl,@Ajo,@TY,@Ac2,@ZU,@Abx,@LP,@Dj,@Ac4,@Bool.not_true,@Bool.not_false,@Bool.false_eq_true,@if_true.{1},@if_false.{1},@Bool.true_and,@Bool.and_true,@Bool.false_and,@Bool.and_false,@decide_true,@decide_false⟩
theorem gT:type_of% @Bool.and_eq_true∧type_of% @decide_eq_true_eq∧type_of% @beq_iff_eq.{0}∧type_of% @bne_iff_ne.{0}∧type_of% @ne_eq.{1}∧type_of% @Bool.not_eq_true'∧type_of% @true_and∧type_of% @and_true:=
 ⟨@Bool.and_eq_true,@decide_eq_true_eq,@beq_iff_eq.{0},@bne_iff_ne.{0},@ne_eq.{1},@Bool.not_eq_true',@true_and,@and_true⟩
theorem gF:type_of% @decide_eq_false_iff_not∧type_of% @beq_eq_false_iff_ne.{0}∧type_of% @bne_eq_false_iff_eq.{0}∧type_of% @ne_eq.{1}∧type_of% @Bool.not_eq_false':=
 ⟨@decide_eq_false_iff_not,@beq_eq_false_iff_ne.{0},@bne_eq_false_iff_eq.{0},@ne_eq.{1},@Bool.not_eq_false'⟩
end
section
open Go.RowKit
def Bk {α β:Type}(R:α->β->Prop):List α->List β->Prop
 |[],[]=>True
 |a::zs,b::bs=>R a b∧Bk R zs bs
 |_,_=>False
section
variable {α β γ:Type} {R S:α->β->Prop}
theorem Bk.len:∀{zs:List α}{bs:List β},Bk R zs bs->zs.length=bs.length
 |[],[],_=>rfl
 |_::_,_::_,h=>by simp [Bk.len h.2]
 |[],_::_,h=>h.elim
 |_::_,[],h=>h.elim
theorem Bk.at_:∀{zs:List α}{bs:List β},Bk R zs bs->∀{i:Nat} {a b},zs[i]?=some a->bs[i]?=some b->R a b
 |[],[],_,i,a,b,h,_=>by simp at h
 |_::_,_::_,h,0,a,b,ha,hb=>by simp at ha hb;subst ha;subst hb;exact h.1
 |_::_,_::_,h,i+1,a,b,ha,hb=>by simp at ha hb;exact Bk.at_ h.2 ha hb
 |[],_::_,h,_,_,_,_,_=>h.elim
 |_::_,[],h,_,_,_,_,_=>h.elim
theorem Bk.of_at:∀{zs:List α}{bs:List β},zs.length=bs.length->(∀(i:Nat) a b,zs[i]?=some a->bs[i]?=some b->R a b)->Bk R zs bs
 |[],[],_,_=>trivial
 |a::zs,b::bs,hl,h=>⟨h 0 a b rfl rfl,Bk.of_at (by simpa using hl) fun i x y hx hy=>h (i+1) x y hx hy⟩
 |[],_::_,hl,_=>by simp at hl
 |_::_,[],hl,_=>by simp at hl
theorem Bk.mono (hRS:∀a b,R a b->S a b):∀{zs:List α}{bs:List β},Bk R zs bs->Bk S zs bs
 |[],[],_=>trivial
 |_::_,_::_,h=>⟨hRS _ _ h.1,Bk.mono hRS h.2⟩
 |[],_::_,h=>h.elim
 |_::_,[],h=>h.elim
theorem Bk.mono_mem:∀{zs:List α}{bs:List β},(∀a∈zs,∀b,R a b->S a b)->Bk R zs bs->Bk S zs bs
 |[],[],_,_=>trivial
 |a::_,_::_,hRS,h=>⟨hRS a (by simp) _ h.1,Bk.mono_mem (fun x hx=>hRS x (by simp [hx])) h.2⟩
 |[],_::_,_,h=>h.elim
 |_::_,[],_,h=>h.elim
theorem Bk.app:∀{zs:List α}{bs:List β}{as':List α}{bs':List β},Bk R zs bs->Bk R as' bs'->Bk R (zs++as') (bs++bs')
 |[],[],_,_,_,h'=>h'
 |_::_,_::_,_,_,h,h'=>⟨h.1,Bk.app h.2 h'⟩
 |[],_::_,_,_,h,_=>h.elim
 |_::_,[],_,_,h,_=>h.elim
theorem Bk.take:∀(n:Nat){zs:List α}{bs:List β},Bk R zs bs->Bk R (zs.take n) (bs.take n)
 |0,_,_,_=>by simp [Bk]
 |_+1,[],[],_=>trivial
 |n+1,_::_,_::_,h=>⟨h.1,Bk.take n h.2⟩
 |_+1,[],_::_,h=>h.elim
 |_+1,_::_,[],h=>h.elim
theorem Bk.drop:∀(n:Nat){zs:List α}{bs:List β},Bk R zs bs->Bk R (zs.drop n) (bs.drop n)
 |0,_,_,h=>h
 |_+1,[],[],_=>trivial
 |n+1,_::_,_::_,h=>Bk.drop n h.2
 |_+1,[],_::_,h=>h.elim
 |_+1,_::_,[],h=>h.elim
end
inductive A7 (w:World) (A:Nat->Prop):PV->Value->Prop where
 |sc (v:Value):A7 w A (.sc v) v
 |top (v:Value):A7 w A .top v
 |ub (b:Bool):A7 w A .ub (.bool b)
 |lnil (z:Bool) (es:Nat):A7 w A (.lst z es 0 []) (.slice none 0 0)
 |lemp (es:Nat) (a:Addr) (cap:Nat):A7 w A (.lst false es 0 []) (.slice (some a) 0 cap)
 |lst (es n:Nat) (cells:List PV) (a:Addr) (cap:Nat) (f:Nat->Value) (hs:a.spot=none) (hb:a.block<w.heap.size) (hA:¬A a.block) (hn:n<=cap)
   (hc:∀j c,cells[j]?=some c->w.cell? (a.add j)=some (f j)) (h1:∀j c,cells[j]?=some c->(f j).oneCell'=true) (hr:∀j c,cells[j]?=some c->A7 w A c (f j)):A7 w A (.lst false es n cells) (.slice (some a) n cap)
def bsz (w:World)(b:Nat):Nat:=
 match w.heap[b]? with
 |some (.cells c _ _)=>c.size
 |_=>0
def QC (w:World)(A:Nat->Prop)(a:Addr)(cells:List PV):Prop:=∀j c,cells[j]?=some c->∃v,w.cell? (a.add j)=some v∧v.oneCell'=true∧A7 w A c v
def Cc (w:World)(A:Nat->Prop)(β:Nat->Option (Nat × Nat)) (p:PV)(v:Value):Prop:=
 match p with
 |.view id es off n=>(β id=none∧off=0∧n=0∧v=.slice none 0 0) ∨
   ∃b o x cap,β id=some (b,o)∧v=.slice (some ⟨b,x,none⟩) n cap∧(x=o+off∨(n=0∧off≠0))∧n<=cap∧x+cap*es<=bsz w b∧b<w.heap.size
 |.ptr id off=>∃b o,β id=some (b,o)∧v=.pointer (some ⟨b,o+off,none⟩)
 |.iptr c off=>∃a:Addr,v=.pointer (some (a.add off))∧a.spot=none∧a.block<w.heap.size∧¬A a.block∧QC w A a c
 |p=>A7 w A p v
def G9 (w:World)(A:Nat->Prop)(β:Nat->Option (Nat × Nat)) (p:PV)(v:Value):Prop:=
 match p with
 |.agg cs=>∃vs,v=.agg ⟨vs⟩∧Bk (Cc w A β) cs vs
 |p=>Cc w A β p v
def Dx (w:World)(A:Nat->Prop)(β:Nat->Option (Nat × Nat)) (p:PV)(v:Value):Prop:=
 match p with
 |.tup ps=>∃vs,v=.tuple ⟨vs⟩∧Bk (G9 w A β) ps vs
 |p=>G9 w A β p v
structure Cb (A:Nat->Prop) (w w':World):Prop where
 size:w.heap.size<=w'.heap.size
 keep:∀b,b<w.heap.size->¬A b->w'.heap[b]?=w.heap[b]?
 bs:∀b,b<w.heap.size->bsz w b<=bsz w' b
theorem F8 (a:Addr)(j:Nat):(a.add j).block=a.block:=by unfold Addr.add;split<;>rfl
theorem add_add (a:Addr)(i j:Nat):(a.add i).add j=a.add (i+j):=by
 unfold Addr.add;by_cases hi:i=0<;>by_cases hj:j=0<;>simp [hi,hj,Nat.add_assoc]
theorem D6 (b o j:Nat):(⟨b,o,none⟩:Addr).add j=⟨b,o+j,none⟩:=by
 unfold Addr.add;by_cases hj:j=0<;>simp [hj]
theorem Aik {a:Addr}(h:a.spot=none)(j:Nat):(a.add j).spot=none:=by unfold Addr.add;split<;>simp [h]
section
variable {w w':World} {A A':Nat->Prop} {β β':Nat->Option (Nat × Nat)}
theorem Cb.cell (h:Cb A w w'){a:Addr}(hb:a.block<w.heap.size)(hA:¬A a.block):w'.cell? a=w.cell? a:=
 World.cell?_of_block (h.keep a.block hb hA)
theorem A7.step (h:Cb A w w')(hA:∀b,b<w.heap.size->A' b->A b){p:PV}{v:Value}(t:A7 w A p v):A7 w' A' p v:=by
 induction t with
 |sc v=>exact .sc v
 |top v=>exact .top v
 |ub b=>exact .ub b
 |lnil z es=>exact .lnil z es
 |lemp es a cap=>exact .lemp es a cap
 |lst es n cells a cap f hs hb hA1 hn hc h1 hr ih=>
  refine .lst es n cells a cap f hs (Nat.lt_of_lt_of_le hb h.size) (fun x=>hA1 (hA _ hb x)) hn (fun j c hj=>?_) h1 (fun j c hj=>ih j c hj)
  rw [h.cell (by rw [F8];exact hb) (by rw [F8];exact hA1)]
  exact hc j c hj
theorem QC.step (h:Cb A w w')(hA:∀b,b<w.heap.size->A' b->A b){a:Addr}(hb:a.block<w.heap.size)(hn:¬A a.block){cells:List PV}(t:QC w A a cells):QC w' A' a cells:=by
 intro j c hj;obtain ⟨v,hv,h1,ht⟩:=t j c hj;exact ⟨v,by rw [h.cell (by rw [F8];exact hb) (by rw [F8];exact hn)];exact hv,h1,ht.step h hA⟩
theorem Cc.step (h:Cb A w w')(hA:∀b,b<w.heap.size->A' b->A b){p:PV}{v:Value}(hβ:∀id∈Ay p,β' id=β id)(t:Cc w A β p v):Cc w' A' β' p v:=by
 cases p with
 |view id es off n=>
  have e:=hβ id (by simp [Ay])
  rcases t with ⟨h1,h2,h3,h4⟩|⟨b,o,x,cap,h1,h2,hx,h3,h4,h5⟩
  ·exact .inl ⟨by rw [e];exact h1,h2,h3,h4⟩
  ·exact .inr ⟨b,o,x,cap,by rw [e];exact h1,h2,hx,h3,Nat.le_trans h4 (h.bs b h5),Nat.lt_of_lt_of_le h5 h.size⟩
 |ptr id off=>
  have e:=hβ id (by simp [Ay])
  obtain ⟨b,o,h1,h2⟩:=t;exact ⟨b,o,by rw [e];exact h1,h2⟩
 |iptr c off=>
  obtain ⟨a,h1,h2,h3,h4,h5⟩:=t;exact ⟨a,h1,h2,Nat.lt_of_lt_of_le h3 h.size,fun x=>h4 (hA _ h3 x),h5.step h hA h3 h4⟩
 |sc v=>exact A7.step h hA t
 |lst z es n c=>exact A7.step h hA t
 |own es n c=>exact A7.step h hA t
 |pbox c=>exact A7.step h hA t
 |agg c=>exact A7.step h hA t
 |tup c=>exact A7.step h hA t
 |top=>exact A7.step h hA t
 |ub=>exact A7.step h hA t
theorem G9.step (h:Cb A w w')(hA:∀b,b<w.heap.size->A' b->A b){p:PV}{v:Value}(hβ:∀id∈Cf p,β' id=β id)(t:G9 w A β p v):G9 w' A' β' p v:=by
 cases p with
 |agg cs=>
  obtain ⟨vs,rfl,h2⟩:=t;exact ⟨vs,rfl,h2.mono_mem fun c hc v hv=>hv.step h hA fun id hid=>hβ id (by simp only [Cf,List.mem_flatMap];exact ⟨c,hc,hid⟩)⟩
 |sc x=>exact Cc.step (p:=.sc x) h hA hβ t
 |lst x y z u=>exact Cc.step (p:=.lst x y z u) h hA hβ t
 |own x y z=>exact Cc.step (p:=.own x y z) h hA hβ t
 |view x y z u=>exact Cc.step (p:=.view x y z u) h hA hβ t
 |ptr x y=>exact Cc.step (p:=.ptr x y) h hA hβ t
 |iptr x y=>exact Cc.step (p:=.iptr x y) h hA hβ t
 |pbox x=>exact Cc.step (p:=.pbox x) h hA hβ t
 |tup x=>exact Cc.step (p:=.tup x) h hA hβ t
 |top=>exact Cc.step (p:=.top) h hA hβ t
 |ub=>exact Cc.step (p:=.ub) h hA hβ t
theorem Dx.step (h:Cb A w w')(hA:∀b,b<w.heap.size->A' b->A b){p:PV}{v:Value}(hβ:∀id∈Bx p,β' id=β id)(t:Dx w A β p v):Dx w' A' β' p v:=by
 cases p with
 |tup cs=>
  obtain ⟨vs,rfl,h2⟩:=t;exact ⟨vs,rfl,h2.mono_mem fun c hc v hv=>hv.step h hA fun id hid=>hβ id (by simp only [Bx,List.mem_flatMap];exact ⟨c,hc,hid⟩)⟩
 |sc x=>exact G9.step (p:=.sc x) h hA hβ t
 |lst x y z u=>exact G9.step (p:=.lst x y z u) h hA hβ t
 |own x y z=>exact G9.step (p:=.own x y z) h hA hβ t
 |view x y z u=>exact G9.step (p:=.view x y z u) h hA hβ t
 |ptr x y=>exact G9.step (p:=.ptr x y) h hA hβ t
 |iptr x y=>exact G9.step (p:=.iptr x y) h hA hβ t
 |pbox x=>exact G9.step (p:=.pbox x) h hA hβ t
 |top=>exact G9.step (p:=.top) h hA hβ t
 |ub=>exact G9.step (p:=.ub) h hA hβ t
 |agg x=>exact G9.step (p:=.agg x) h hA hβ t
theorem Cb.refl (A:Nat->Prop)(w:World):Cb A w w:=⟨Nat.le_refl _,fun _ _ _=>rfl,fun _ _=>Nat.le_refl _⟩
theorem QC.weak (hA:∀b,b<w.heap.size->A' b->A b){a:Addr}{cells:List PV}(t:QC w A a cells):QC w A' a cells:=by
 intro j c hj;obtain ⟨v,hv,h1,ht⟩:=t j c hj;exact ⟨v,hv,h1,ht.step (Cb.refl A w) hA⟩
theorem Cb.trans {w'':World}(h:Cb A w w')(h':Cb A' w' w'')(hA:∀b,b<w.heap.size->A' b->A b):Cb A w w'':=
  ⟨Nat.le_trans h.size h'.size,fun b hb hn=>(h'.keep b (Nat.lt_of_lt_of_le hb h.size) (fun x=>hn (hA b hb x))).trans (h.keep b hb hn),
   fun b hb=>Nat.le_trans (h.bs b hb) (h'.bs b (Nat.lt_of_lt_of_le hb h.size))⟩
theorem Cb.weaken (h:Cb A w w')(hA:∀b,b<w.heap.size->A b->A' b):Cb A' w w':=⟨h.size,fun b hb hn=>h.keep b hb (fun x=>hn (hA b hb x)),h.bs⟩
end
section
variable {R:Type} {r:R}
theorem H8 {k:IntKind}{p:PV}{K:Int->Option R}(h:Ad k p K=some r):∃n,p=.sc (.int k n)∧K n=some r:=by
 unfold Ad at h;split at h
 ·split at h
  ·rename_i hk;subst hk;exact ⟨_,rfl,h⟩
  ·cases h
 ·cases h
theorem G0 {p:PV}{K:Bool->Option R}(h:Bj p K=some r):∃b,p=.sc (.bool b)∧K b=some r:=by
 unfold Bj at h;split at h
 ·exact ⟨_,rfl,h⟩
 ·cases h
theorem Gb {p:PV}{K:ByteArray->Option R}(h:Cj p K=some r):∃b,p=.sc (.string b)∧K b=some r:=by
 unfold Cj at h;split at h
 ·exact ⟨_,rfl,h⟩
 ·cases h
theorem Dp {p:PV}{K:IntKind->Int->Option R}(h:Dw p K=some r):∃k n,p=.sc (.int k n)∧K k n=some r:=by
 unfold Dw at h;split at h
 ·exact ⟨_,_,rfl,h⟩
 ·cases h
theorem Ax {b:Bool}{K:Option R}(h:Au b K=some r):b=true∧K=some r:=by
 unfold Au at h;cases b
 ·cases h
 ·exact ⟨rfl,h⟩
theorem Dd {α:Type}{o:Option α}{K:α->Option R}(h:E5 o K=some r):∃a,o=some a∧K a=some r:=by
 unfold E5 at h;split at h
 ·exact ⟨_,rfl,h⟩
 ·cases h
theorem Be {α:Type}{l:List α}{K:α->List α->Option R}(h:Ab l K=some r):∃a t,l=a::t∧K a t=some r:=by
 unfold Ab at h;split at h
 ·exact ⟨_,_,rfl,h⟩
 ·cases h
theorem Dt {α:Type}{l:List α}{K:Option R}(h:Ac l K=some r):l=[]∧K=some r:=by
 unfold Ac at h;split at h
 ·exact ⟨rfl,h⟩
 ·cases h
theorem Id {p:PV}{K:List PV->Option R}(h:C4 p K=some r):∃c,p=.agg c∧K c=some r:=by
 unfold C4 at h;split at h
 ·exact ⟨_,rfl,h⟩
 ·cases h
theorem RS {p:PV}{K:List PV->Option R}(h:Y9 p K=some r):∃c,p=.pbox c∧K c=some r:=by
 unfold Y9 at h;split at h
 ·exact ⟨_,rfl,h⟩
 ·cases h
theorem UH {p:PV}{K:Value->Option R}(h:fnK p K=some r):∃f a b,p=.sc (.func f a b)∧K (.func f a b)=some r:=by
 unfold fnK at h;split at h
 ·exact ⟨_,_,_,rfl,h⟩
 ·cases h
theorem Alp {p:PV}{K:FuncId->Option R}(h:fvK p K=some r):∃f,p=.sc (.func (.func f) #[] #[])∧K f=some r:=by
 unfold fvK at h;split at h
 ·rename_i f a b;cases hb:(a.isEmpty&&b.isEmpty)<;>rw [hb] at h
  ·cases h
  ·simp only [Bool.and_eq_true,Array.isEmpty_iff] at hb;rw [hb.1,hb.2];exact ⟨f,rfl,h⟩
 ·cases h
theorem PH {o:Option A0}{K:List PV->List (List PV)->Option R} (h:Ag o K=some r):∃v x,o=some ⟨v,x⟩∧K v x=some r:=by
 unfold Ag at h;split at h
 ·exact ⟨_,_,rfl,h⟩
 ·cases h
theorem O6 {b:Bool}{x y:Option R}(h:A9 b x y=some r):(b=true∧x=some r)∨(b=false∧y=some r):=by
 unfold A9 at h;cases b
 ·exact .inr ⟨rfl,h⟩
 ·exact .inl ⟨rfl,h⟩
theorem Gt {es:Nat}{p:PV}{K:Bool->Nat->List PV->Option R}(h:Fk es p K=some r):
  ∃z n c,K z n c=some r∧(p=.lst z es n c∨(p=.sc (.slice none 0 0)∧z=true∧n=0∧c=[])):=by
 unfold Fk at h;split at h
 ·rename_i z es' n c;cases hb:Nat.beq es' es
  ·rw [hb] at h;cases h
  ·rw [hb] at h;have:=Nat.eq_of_beq_eq_true hb;subst this;exact ⟨z,n,c,h,.inl rfl⟩
 ·exact ⟨true,0,[],h,.inr ⟨rfl,rfl,rfl,rfl⟩⟩
 ·cases h
def Zc:PV->Prop
 |.sc _=>True
 |.lst _ _ _ _=>True
 |_=>False
def OO:PV->Prop
 |.sc _=>True
 |.lst _ _ _ _=>True
 |.view _ _ _ _=>True
 |_=>False
theorem Uv {c:PV}(h:Zc c):OO c:=by
 cases c<;>first|trivial|exact h.elim
theorem Ik {c:PV}(h:Zc c):Ay c=[]:=by
 cases c<;>first|rfl|exact h.elim
variable {w:World} {A:Nat->Prop} {β:Nat->Option (Nat × Nat)}
theorem Ng {c:PV}{v:Value}(h:Zc c):Cc w A β c v↔A7 w A c v:=by
 cases c<;>first|exact Iff.rfl|exact h.elim
theorem Uu {c:PV}{v:Value}(h:∀cs,c ≠ .agg cs):G9 w A β c v↔Cc w A β c v:=by
 cases c<;>first|exact Iff.rfl|exact absurd rfl (h _)
theorem Pb {c:PV}{v:Value}(h:∀cs,c ≠ .tup cs):Dx w A β c v↔G9 w A β c v:=by
 cases c<;>first|exact Iff.rfl|exact absurd rfl (h _)
theorem DT {c:PV}(h:Zc c)(cs:List PV):c ≠ .agg cs:=by rintro rfl;exact h
theorem Ac3 {c:PV}(h:Zc c)(cs:List PV):c ≠ .tup cs:=by rintro rfl;exact h
theorem A7.val {v u:Value}(h:A7 w A (.sc v) u):u=v:=by cases h;rfl
theorem Zv {es n:Nat}{z:Bool}{c:List PV}{p:PV}{v:Value}(h:p=.lst z es n c∨(p=.sc (.slice none 0 0)∧z=true∧n=0∧c=[])) (hv:Cc w A β p v):A7 w A (.lst z es n c) v:=by
 rcases h with rfl|⟨rfl,rfl,rfl,rfl⟩
 ·exact hv
 ·have:=A7.val (w:=w) (A:=A) hv;subst this;exact .lnil true es
theorem Pc {t:CT}{p:PV}{K:PV->Option R}(h:FK t p K=some r):
  ∃c,K c=some r∧Zc c∧Zc p∧∀(w:World) (A:Nat->Prop) (β:Nat->Option (Nat × Nat)) (v:Value),Cc w A β p v->A7 w A c v∧v.oneCell'=true:=by
 cases t with
 |int k=>obtain ⟨n,rfl,h2⟩:=H8 h;exact ⟨_,h2,trivial,trivial,fun w A β v hv=>⟨hv,by have:=A7.val (w:=w) (A:=A) hv;subst this;rfl⟩⟩
 |bool=>obtain ⟨n,rfl,h⟩:=G0 h;exact ⟨_,h,trivial,trivial,fun w A β v hv=>⟨hv,by have:=A7.val (w:=w) (A:=A) hv;subst this;rfl⟩⟩
 |str=>obtain ⟨n,rfl,h⟩:=Gb h;exact ⟨_,h,trivial,trivial,fun w A β v hv=>⟨hv,by have:=A7.val (w:=w) (A:=A) hv;subst this;rfl⟩⟩
 |sl es=>
  obtain ⟨z,n,c,h,hp⟩:=Gt h;refine ⟨_,h,trivial,?_,fun w A β v hv=>⟨Zv hp hv,?_⟩⟩
  ·rcases hp with rfl|⟨rfl,_⟩<;>trivial
  ·have ht:=Zv hp hv;cases ht<;>rfl
 |any=>
  obtain ⟨f,a,b,rfl,h2⟩:=UH (show fnK p (fun v=>K (.sc v))=some r from h)
  exact ⟨_,h2,trivial,trivial,fun w A β v hv=>⟨hv,by have:=A7.val (w:=w) (A:=A) hv;subst this;rfl⟩⟩
theorem Amj {t:CT}{p:PV}{K:PV->Option R}(h:fcK t p K=some r):
  ∃c,K c=some r∧(Zc c∨c=p)∧OO p∧p ≠ .top∧(∀cs,c ≠ .agg cs)∧(∀cs,c ≠ .tup cs)∧(∀id,id∈Ay c->id∈Ay p)∧∀(w:World) (A:Nat->Prop) (β:Nat->Option (Nat × Nat)) (v:Value),Cc w A β p v->Cc w A β c v∧v.oneCell'=true:=by
 have tree:∀t',FK t' p K=some r->∃c,K c=some r∧(Zc c∨c=p)∧OO p∧p ≠ .top∧(∀cs,c ≠ .agg cs)∧(∀cs,c ≠ .tup cs)∧(∀id,id∈Ay c->id∈Ay p)∧∀(w:World) (A:Nat->Prop) (β:Nat->Option (Nat × Nat)) (v:Value),Cc w A β p v->Cc w A β c v∧v.oneCell'=true:=by
  intro t' h;obtain ⟨c,h,hc,hp,hv⟩:=Pc h;exact ⟨c,h,.inl hc,Uv hp,by rintro rfl;exact hp,DT hc,Ac3 hc,by rw [Ik hc];simp,fun w A β v h=>⟨(Ng hc).2 (hv w A β v h).1,(hv w A β v h).2⟩⟩
 cases t with
 |sl es=>
  unfold fcK fsK at h;dsimp only at h;split at h
  ·rename_i id es' off n;cases hb:Nat.beq es' es
   ·rw [hb] at h;cases h
   ·rw [hb] at h;have:=Nat.eq_of_beq_eq_true hb;subst this;exact ⟨_,h,.inr rfl,trivial,by simp,by simp,by simp,fun _ h=>h,fun _ _ _ _ h=>⟨h,by rcases h with ⟨_,_,_,rfl⟩|⟨_,_,_,_,_,rfl,_⟩<;>rfl⟩⟩
  ·exact tree (.sl es) h
 |int k=>exact tree (.int k) h
 |bool=>exact tree (.bool) h
 |str=>exact tree (.str) h
 |any=>exact tree (.any) h
theorem GN {cells:List PV}{i:Nat}{p:PV}(h:cells.getD i .top=p)(hp:p ≠ .top):cells[i]?=some p:=by
 rw [List.getD_eq_getElem?_getD] at h;cases hc:cells[i]? with
 |none=>rw [hc] at h;exact absurd h.symm hp
 |some q=>rw [hc] at h;simp at h;rw [h]
theorem Wu:∀{ts:List CT}{cells:List PV}{off:Nat}{K:List PV->Option R},Wa ts cells off K=some r ->
  ∃cs,K cs=some r∧cs.length=ts.length∧∀j c,cs[j]?=some c->Zc c∧∃p,cells[off+j]?=some p∧Zc p ∧
   ∀(w:World) (A:Nat->Prop) (β:Nat->Option (Nat × Nat)) (v:Value),Cc w A β p v->A7 w A c v∧v.oneCell'=true
 |[],_,_,_,h=>⟨[],h,rfl,fun j c hj=>by simp at hj⟩
 |t::ts,cells,off,K,h=>by
  unfold Wa at h;obtain ⟨c,h,hc,hp,hv⟩:=Pc h;obtain ⟨cs,h,hl,hcs⟩:=Wu h;refine ⟨c::cs,h,by simp [hl],fun j c' hj=>?_⟩
  cases j with
  |zero=>
   simp at hj;subst hj;refine ⟨hc,cells.getD off .top,GN rfl ?_,hp,hv⟩;intro e;rw [e] at hp;exact hp
  |succ j=>
   simp at hj;have:=hcs j c' hj
   rwa [Nat.add_right_comm,Nat.add_assoc] at this
theorem Wi:∀{ts:List CT}{cells:List PV}{off:Nat}{K:List PV->Option R},Ry ts cells off K=some r ->
  ∃cs,K cs=some r∧cs.length=ts.length∧(∀c∈cs,(∀x,c ≠ .agg x)∧(∀x,c ≠ .tup x))∧∀j c,cs[j]?=some c->∃p,cells[off+j]?=some p∧OO p∧(∀id,id∈Ay c->id∈Ay p) ∧
   ∀(w:World) (A:Nat->Prop) (β:Nat->Option (Nat × Nat)) (v:Value),Cc w A β p v->Cc w A β c v∧v.oneCell'=true
 |[],_,_,_,h=>⟨[],h,rfl,by simp,fun j c hj=>by simp at hj⟩
 |t::ts,cells,off,K,h=>by
  unfold Ry at h;obtain ⟨c,h,hc,hf,hp,ha,ht,hr,hv⟩:=Amj h;obtain ⟨cs,h,hl,hna,hcs⟩:=Wi h;refine ⟨c::cs,h,by simp [hl],?_,fun j c' hj=>?_⟩
  ·intro x hx;rcases List.mem_cons.1 hx with rfl|hx
   ·exact ⟨ha,ht⟩
   ·exact hna x hx
  ·cases j with
   |zero=>
    simp at hj;subst hj;exact ⟨cells.getD off .top,GN rfl hp,hf,hr,hv⟩
   |succ j=>
    simp at hj;have:=hcs j c' hj
    rwa [Nat.add_right_comm,Nat.add_assoc] at this
theorem TV {agg:Bool}{cells:List PV}{K:PV->Option R}(h:mkV agg cells K=some r):
  (agg=true∧K (.agg cells)=some r)∨(agg=false∧∃c,cells=[c]∧K c=some r):=by
 unfold mkV at h;cases agg
 ·obtain ⟨c,t,rfl,h⟩:=Be h;obtain ⟨rfl,h⟩:=Dt h;exact .inr ⟨rfl,c,rfl,h⟩
 ·exact .inl ⟨rfl,h⟩
end
open Go.RowKit
def Cg (b:Option Bn):Prop:=
 match b with
 |some (.st _)=>True
 |some (.ar false _)=>True
 |_=>False
abbrev Bt:=Nat->Option (Nat × Nat)
def BV (hp:Nat->Option Bn)(β:Bt)(b:Nat):Prop:=∃id o,Cg (hp id)∧β id=some (b,o)
def C1 (hp:Nat->Option Bn)(β:Bt)(Y:Nat->Prop)(b:Nat):Prop:=BV hp β b∨Y b
def Sz (w:World)(A:Nat->Prop)(β:Bt)(id:Nat)(bx:Bn):Prop:=
 match bx with
 |.st cells=>∃b o,β id=some (b,o)∧(∀j c,cells[j]?=some c->∃v,w.cell? ⟨b,o+j,none⟩=some v∧Cc w A β c v)∧∀j,j<cells.length->w.frozen? ⟨b,o+j,none⟩=false
 |.ar fz cells=>(β id=none∧cells=[])∨∃b o,β id=some (b,o)∧QC w A ⟨b,o,none⟩ cells∧(fz=false->∀j,o<=j->j<bsz w b->w.frozen? ⟨b,j,none⟩=false)∧(fz=true->¬A b)
 |.mv=>True
structure Fh where
 X:Nat->Prop
 L:Nat->Nat->Prop
 pn:Nat->Prop
 pt:Nat->Option (Nat × Nat)
 p8:∀i,pn i->i<8
def BR (bx:Bn)(o j:Nat):Prop:=
 match bx with
 |.st c=>o<=j∧j<o+c.length
 |.ar _ _=>o<=j
 |.mv=>False
structure Fr (X0:Fh) (w0 w:World):Prop where
 os:w.os=w0.os
 tape:w.tape=w0.tape
 output:w.output=w0.output
 step:Cb X0.X w0 w
 rng:∀b j,b<w0.heap.size->¬X0.L b j->w.cell? ⟨b,j,none⟩=w0.cell? ⟨b,j,none⟩∧w.frozen? ⟨b,j,none⟩=w0.frozen? ⟨b,j,none⟩
structure B4 (N:Nat) (w0:World) (X0:Fh) (Y:Nat->Prop) (β:Bt) (s:St) (a:Act) (w:World):Prop where
 dfr:a.defers=[]
 tsz:a.tmps.size=N
 tmo:∀i,N<=i->s.tm i=.top
 tms:∀i,i<N->Dx w (C1 s.hp β Y) β (s.tm i) (a.tmps.getD i undef)
 box:∀id b,s.hp id=some b->Sz w (C1 s.hp β Y) β id b
 inj:∀id id' b o o',Cg (s.hp id)->Cg (s.hp id')->β id=some (b,o)->β id'=some (b,o')->id=id'
 blt:∀id b o,s.hp id≠none->β id=some (b,o)->b<w.heap.size
 wfT:∀i,i<N->∀id∈Bx (s.tm i),s.hp id≠none
 wfB:∀id cells,s.hp id=some (.st cells)->∀c∈cells,∀id'∈Ay c,s.hp id'≠none
 ownd:∀b,BV s.hp β b->X0.X b∨w0.heap.size<=b
 rngB:∀id bx b o,s.hp id=some bx->Cg (some bx)->β id=some (b,o)->b<w0.heap.size->∀j,BR bx o j->X0.L b j
 pin:∀i,X0.pn i->s.hp (C6 N i)≠none∧β (C6 N i)=X0.pt i
 stp:∀id c b o,s.hp id=some (.st c)->β id=some (b,o)->b<w0.heap.size->∃i,id=C6 N i∧X0.pn i
 Yx:∀b,Y b->¬BV s.hp β b
 Ylt:∀b,Y b->b<w0.heap.size
 fr:Fr X0 w0 w
theorem C2 {b:Option Bn}(h:Cg b):b≠none:=by rintro rfl;exact h
theorem Az {α:Type}(f:Nat->α)(i:Nat)(v:α):Cz f i v i=v:=by simp [Cz,Nat.beq_refl]
theorem Av {α:Type}(f:Nat->α){i j:Nat}(v:α)(h:j≠i):Cz f i v j=f j:=by
 have:Nat.beq j i=false:=by
  cases hb:Nat.beq j i
  ·rfl
  ·exact absurd (Nat.eq_of_beq_eq_true hb) h
 simp [Cz,this]
theorem CY {α:Type}(f:Nat->α){i:Nat}{v:α}(h:f i=v):Cz f i v=f:=by
 funext j
 by_cases e:j=i
 ·subst e;rw [Az];exact h.symm
 ·exact Av f v e
theorem XC {α:Type}(f:Nat->α){i j:Nat}(u v:α)(h:i≠j):Cz (Cz f i u) j v=Cz (Cz f j v) i u:=by
 funext k
 by_cases e:k=j
 ·subst e;rw [Az,Av _ _ (Ne.symm h),Az]
 ·rw [Av _ _ e];by_cases e':k=i
  ·subst e';rw [Az,Az]
  ·rw [Av _ _ e',Av _ _ e',Av _ _ e]
theorem NU {a:Act}{d:Nat}{v:Value}(h:d<a.tmps.size):(a.put (some d) v).tmps.getD d undef=v:=by
 simp [Act.put,h]
theorem MI {a:Act}{d i:Nat}{v:Value}(h:i≠d):(a.put (some d) v).tmps.getD i undef=a.tmps.getD i undef:=by
 have h':d≠i:=fun e=>h e.symm
 simp [Act.put,Array.getElem?_setIfInBounds_ne h']
section
variable {N:Nat} {w0:World} {X0:Fh} {Y:Nat->Prop} {β β':Bt} {s:St} {a:Act} {w w':World}
theorem I2 (d:Option Tmp)(v:Value):(a.put d v).tmps.size=a.tmps.size:=by cases d<;>simp [Act.put]
theorem Mb (d:Option Tmp)(v:Value):(a.put d v).defers=a.defers:=by cases d<;>rfl
theorem R8 {d:Option Tmp}(h:He N d=true){i:Nat}(e:d=some i):i<N:=by
 subst e;exact Nat.lt_of_succ_le (Nat.le_of_ble_eq_true h)
theorem Q3 {Q:Nat->PV->Value->Prop}{tm:Nat->PV}{d:Option Tmp}{v:PV}{val:Value}(hN:a.tmps.size=N)(hd:He N d=true)
  (h:∀i,i<N->Q i (tm i) (a.tmps.getD i undef)) (hv:∀i,Q i v val):∀i,i<N->Q i (Bp tm d v i) ((a.put d val).tmps.getD i undef):=by
 intro i hi;cases d with
 |none=>exact h i hi
 |some d=>
  have hlt:=R8 hd rfl;by_cases e:i=d
  ·subst e;show Q i (Cz tm i v i) _;rw [Az,NU (by omega)]
   exact hv i
  ·show Q i (Cz tm d v i) _;rw [Av _ _ e,MI e];exact h i hi
theorem SO {tm:Nat->PV}{d:Option Tmp}{v:PV}(hd:He N d=true)(h:∀i,N<=i->tm i=.top):∀i,N<=i->Bp tm d v i=.top:=by
 intro i hi;cases d with
 |none=>exact h i hi
 |some d=>
  have:=R8 hd rfl;show Cz tm d v i=_;rw [Av _ _ (by omega)]
  exact h i hi
theorem B4.put (h:B4 N w0 X0 Y β s a w){d:Option Tmp}{v:PV}{val:Value}(hd:He N d=true)(hv:Dx w (C1 s.hp β Y) β v val) (hr:∀id∈Bx v,s.hp id≠none):
  B4 N w0 X0 Y β ⟨Bp s.tm d v,s.hp⟩ (a.put d val) w where
 dfr:=by rw [Mb];exact h.dfr
 tsz:=by rw [I2];exact h.tsz
 tmo:=SO hd h.tmo
 tms:=Q3 (Q:=fun _ p u=>Dx w (C1 s.hp β Y) β p u) h.tsz hd h.tms (fun _=>hv)
 box:=h.box
 inj:=h.inj
 blt:=h.blt
 wfT:=by
  have:=Q3 (Q:=fun _ p _=>∀id∈Bx p,s.hp id≠none) (val:=val) h.tsz hd h.wfT (fun _=>hr)
  exact this
 wfB:=h.wfB
 ownd:=h.ownd
 rngB:=h.rngB
 pin:=h.pin
 stp:=h.stp
 Yx:=h.Yx
 Ylt:=h.Ylt
 fr:=h.fr
theorem Ca (hp:Nat->Option Bn)(ids:List Nat)(i:Nat):Ai hp ids i=if i∈ids then (hp i).map Wn else hp i:=by
 unfold Ai;by_cases hi:i∈ids
 ·have:ids.any (Nat.beq i)=true:=List.any_eq_true.2 ⟨i,hi,Nat.beq_refl i⟩;rw [this,if_pos hi];rfl
 ·have:ids.any (Nat.beq i)=false:=by
   cases hb:ids.any (Nat.beq i)
   ·rfl
   ·obtain ⟨j,hj,e⟩:=List.any_eq_true.1 hb;exact absurd (Nat.eq_of_beq_eq_true e ▸ hj) hi
  rw [this,if_neg hi];rfl
theorem Ef {hp:Nat->Option Bn}{ids:List Nat}{i:Nat}:Ai hp ids i=none↔hp i=none:=by
 rw [Ca];split<;>simp
theorem Rm {hp:Nat->Option Bn}{ids:List Nat}{i:Nat}(h:Cg (Ai hp ids i)):Cg (hp i):=by
 rw [Ca] at h;split at h
 ·cases hb:hp i with
  |none=>rw [hb] at h;exact h
  |some b=>cases b with
   |st c=>trivial
   |ar fz c=>rw [hb] at h;exact h.elim
   |mv=>rw [hb] at h;exact h
 ·exact h
theorem Js {hp:Nat->Option Bn}{ids:List Nat}{i:Nat}{bx:Bn}(h:Ai hp ids i=some bx)(hl:Cg (some bx)):hp i=some bx:=by
 rw [Ca] at h;split at h
 ·cases hb:hp i with
  |none=>rw [hb] at h;cases h
  |some b=>
   rw [hb] at h;cases b with
   |st c=>exact h
   |ar fz c=>simp only [Option.map_some,Wn,Option.some.injEq] at h;subst h;exact hl.elim
   |mv=>simp only [Option.map_some,Wn,Option.some.injEq] at h;subst h;exact hl.elim
 ·exact h
theorem Sh {hp:Nat->Option Bn}{ids:List Nat}{b:Nat}(h:BV (Ai hp ids) β b):BV hp β b:=by
 obtain ⟨id,o,hl,hb⟩:=h;exact ⟨id,o,Rm hl,hb⟩
theorem Sz.step' {A A':Nat->Prop}{id:Nat}{bx:Bn}(hA:∀b,A' b->A b)(h:Sz w A β id bx):Sz w A' β id bx:=by
 have hs:=Cb.refl A w;cases bx with
 |st c=>
  obtain ⟨b,o,h1,h2,h3⟩:=h;exact ⟨b,o,h1,fun j c hj=>let ⟨v,hv,hc⟩:=h2 j c hj;⟨v,hv,hc.step hs (fun b _=>hA b) (fun _ _=>rfl)⟩,h3⟩
 |ar fz c=>
  rcases h with h|⟨b,o,h1,h2,h3,h4⟩
  ·exact .inl h
  ·exact .inr ⟨b,o,h1,h2.weak (fun b _=>hA b),h3,fun e x=>h4 e (hA b x)⟩
 |mv=>trivial
theorem B4.freeze (h:B4 N w0 X0 Y β s a w){fz:List Nat}(hfz:∀id∈fz,∃f c,s.hp id=some (.ar f c)):B4 N w0 X0 Y β ⟨s.tm,Ai s.hp fz⟩ a w:=by
 have hA:∀b,C1 (Ai s.hp fz) β Y b->C1 s.hp β Y b:=fun b hb=>hb.imp Sh id
 refine ⟨h.dfr,h.tsz,h.tmo,fun i hi=>(h.tms i hi).step (Cb.refl _ _) (fun b _=>hA b) (fun _ _=>rfl),fun id b hb=>?_,fun id id' b o o' h1 h2=>h.inj id id' b o o' (Rm h1) (Rm h2),
  fun id b o hn=>h.blt id b o (fun e=>hn (Ef.2 e)),fun i hi id hid e=>h.wfT i hi id hid (Ef.1 e),fun id cells hc c hcm id' hid e=>?_,fun b hb=>h.ownd b (Sh hb),
  fun id bx b o hb hl=>h.rngB id bx b o (Js hb hl) hl,fun i hi=>⟨fun e=>(h.pin i hi).1 (Ef.1 e),(h.pin i hi).2⟩,fun id c b o hc=>h.stp id c b o (Js hc trivial),fun b hb x=>h.Yx b hb (Sh x),h.Ylt,h.fr⟩
 ·simp only at hb;rw [Ca] at hb;split at hb
  ·rename_i hm;obtain ⟨f,c,hc⟩:=hfz id hm;rw [hc] at hb;simp only [Option.map_some,Wn,Option.some.injEq] at hb;subst hb;have hbx:=h.box id _ hc;rcases hbx with hbx|⟨b,o,h1,h2,h3,h4⟩
   ·exact .inl hbx
   ·refine .inr ⟨b,o,h1,h2.weak (fun b _=>hA b),(fun e=>by cases e),fun _ hb=>?_⟩
    rcases hb with ⟨id',o',hl,hb⟩|hY
    ·have hl0:=Rm hl;cases f with
     |true=>exact h4 rfl (.inl ⟨id',o',hl0,hb⟩)
     |false=>
      have e:=h.inj id' id b o' o hl0 (by rw [hc];trivial) hb h1
      subst e;simp only at hl;rw [Ca,if_pos hm,hc] at hl;exact hl
    ·cases f with
     |true=>exact h4 rfl (.inr hY)
     |false=>exact h.Yx b hY ⟨id,o,by rw [hc];trivial,h1⟩
  ·exact (h.box id b hb).step' hA
 ·simp only at hc;rw [Ca] at hc;refine h.wfB id cells ?_ c hcm id' hid (Ef.1 e);split at hc
  ·rename_i hm;obtain ⟨f,c,hc'⟩:=hfz id hm;rw [hc'] at hc;cases hc
  ·exact hc
theorem Bq:∀{nw:List (Nat × Bn)} {hp:Nat->Option Bn},B9 hp nw=true ->
  (∀id bx,(id,bx)∈nw->hp id=none)∧(∀id bx bx',(id,bx)∈nw->(id,bx')∈nw->bx=bx')
 |[],_,_=>⟨by simp,by simp⟩
 |(i,b)::r,hp,h=>by
  simp only [B9,Bool.and_eq_true,Option.isNone_iff_eq_none,Bool.not_eq_true'] at h;obtain ⟨⟨h1,h2⟩,h3⟩:=h;obtain ⟨h4,h5⟩:=Bq h3
  have hne:∀bx,(i,bx) ∉ r:=by
   intro bx hm;have:r.any (fun q=>Nat.beq q.1 i)=true:=List.any_eq_true.2 ⟨_,hm,Nat.beq_refl i⟩
   rw [this] at h2;cases h2
  refine ⟨fun id bx hm=>?_,fun id bx bx' hm hm'=>?_⟩
  ·rcases List.mem_cons.1 hm with e|hm
   ·cases e;exact h1
   ·exact h4 id bx hm
  ·rcases List.mem_cons.1 hm with e|hm
   ·cases e;rcases List.mem_cons.1 hm' with e|hm'
    ·cases e;rfl
    ·exact absurd hm' (hne _)
   ·rcases List.mem_cons.1 hm' with e|hm'
    ·cases e;exact absurd hm (hne _)
    ·exact h5 id bx bx' hm hm'
theorem Ew:∀{nw:List (Nat × Bn)} {hp:Nat->Option Bn},(∀id bx bx',(id,bx)∈nw->(id,bx')∈nw->bx=bx') ->
  (∀id bx,(id,bx)∈nw->A3 hp nw id=some bx)∧(∀id,(∀bx,(id,bx) ∉ nw)->A3 hp nw id=hp id)
 |[],_,_=>⟨by simp,fun _ _=>rfl⟩
 |(i,b)::r,hp,h=>by
  obtain ⟨h1,h2⟩:=Ew (nw:=r) (hp:=Cz hp i (some b)) (fun id bx bx' hm hm'=>h id bx bx' (by simp [hm]) (by simp [hm']))
  refine ⟨fun id bx hm=>?_,fun id hn=>?_⟩
  ·by_cases hr:∃bx',(id,bx')∈r
   ·obtain ⟨bx',hr⟩:=hr;have:=h id bx bx' hm (by simp [hr])
    subst this;exact h1 id bx hr
   ·rcases List.mem_cons.1 hm with e|hm
    ·cases e;show A3 (Cz hp i (some b)) r i=_;rw [h2 i (fun bx' hb=>hr ⟨bx',hb⟩),Az]
    ·exact absurd ⟨bx,hm⟩ hr
  ·show A3 (Cz hp i (some b)) r id=_;rw [h2 id (fun bx hb=>hn bx (by simp [hb])),Av]
   rintro rfl
   exact hn b (by simp)
structure OY (Y:Nat->Prop) (β:Bt) (s:St) (w:World) (v:PV) (nw:List (Nat × Bn)) (val:Value) (w':World) (β':Bt):Prop where
 os:w'.os=w.os
 tape:w'.tape=w.tape
 output:w'.output=w.output
 ext:Cb (fun _=>False) w w'
 old:∀id,s.hp id≠none->β' id=β id
 nlive:∀id bx,(id,bx)∈nw->Cg (some bx)
 nbox:∀id bx,(id,bx)∈nw->Sz w' (C1 (A3 s.hp nw) β' Y) β' id bx
 nblk:∀id bx b o,(id,bx)∈nw->β' id=some (b,o)->w.heap.size<=b∧b<w'.heap.size
 ninj:∀id bx id' bx' b o o',(id,bx)∈nw->(id',bx')∈nw->β' id=some (b,o)->β' id'=some (b,o')->id=id'
 nwf:∀id cells,(id,.st cells)∈nw->∀c∈cells,∀id'∈Ay c,s.hp id'≠none∨∃bx,(id',bx)∈nw
 val:Dx w' (C1 (A3 s.hp nw) β' Y) β' v val
 vwf:∀id∈Bx v,s.hp id≠none∨∃bx,(id,bx)∈nw
theorem B4.stepR (h:B4 N w0 X0 Y β s a w){d:Option Tmp}{v:PV}{nw:List (Nat × Bn)} {val:Value}(hd:He N d=true)(hab:B9 s.hp nw=true)
  (st:OY Y β s w v nw val w' β'):B4 N w0 X0 Y β' ⟨Bp s.tm d v,A3 s.hp nw⟩ (a.put d val) w':=by
 obtain ⟨ha1,ha2⟩:=Bq hab;obtain ⟨hg1,hg2⟩:=Ew (hp:=s.hp) ha2
 have hcase:∀id,(∃bx,(id,bx)∈nw)∨A3 s.hp nw id=s.hp id:=fun id=>by
  by_cases hx:∃bx,(id,bx)∈nw
  ·exact .inl hx
  ·exact .inr (hg2 id fun bx hb=>hx ⟨bx,hb⟩)
 have hpres:∀id,s.hp id≠none->A3 s.hp nw id=s.hp id:=fun id hn=>by
  rcases hcase id with ⟨bx,hx⟩|e
  ·exact absurd (ha1 id bx hx) hn
  ·exact e
 have hnn:∀id,(s.hp id≠none∨∃bx,(id,bx)∈nw)->A3 s.hp nw id≠none:=by
  rintro id (hn|⟨bx,hx⟩)
  ·rw [hpres id hn];exact hn
  ·rw [hg1 id bx hx];simp
 have hXold:∀b,b<w.heap.size->BV (A3 s.hp nw) β' b->BV s.hp β b:=by
  rintro b hb ⟨id,o,hl,hβ⟩
  rcases hcase id with ⟨bx,hx⟩|e
  ·have:=(st.nblk id bx b o hx hβ).1;omega
  ·rw [e] at hl;exact ⟨id,o,hl,by rw [←st.old id (C2 hl)];exact hβ⟩
 have hAold:∀b,b<w.heap.size->C1 (A3 s.hp nw) β' Y b->C1 s.hp β Y b:=fun b hb hA=>hA.imp (hXold b hb) id
 have hstep:Cb (C1 s.hp β Y) w w':=st.ext.weaken (fun _ _ x=>x.elim)
 refine ⟨by rw [Mb];exact h.dfr,by rw [I2];exact h.tsz,SO hd h.tmo,?_,?_,?_,?_,?_,?_,?_,?_,?_,?_,?_,h.Ylt,?_⟩
 ·refine Q3 (Q:=fun _ p u=>Dx w' (C1 (A3 s.hp nw) β' Y) β' p u) h.tsz hd (fun i hi=>?_) (fun _=>st.val)
  exact (h.tms i hi).step hstep hAold fun id hid=>st.old id (h.wfT i hi id hid)
 ·intro id b hb;simp only at hb;rcases hcase id with ⟨bx,hx⟩|e
  ·rw [hg1 id bx hx] at hb;cases hb;exact st.nbox id _ hx
  ·rw [e] at hb;have hβ:=st.old id (by rw [hb];simp)
   have hbx:=h.box id b hb;have hlt:=h.blt id;have hne:s.hp id≠none:=by rw [hb];simp
   cases b with
   |st c=>
    obtain ⟨b,o,h1,h2,h3⟩:=hbx;have hb':=hlt b o hne h1;have hbl:=st.ext.keep b hb' (fun x=>x)
    refine ⟨b,o,by rw [hβ];exact h1,fun j c hj=>?_,fun j hj=>?_⟩
    ·obtain ⟨v,hv,hc⟩:=h2 j c hj;refine ⟨v,by rw [World.cell?_of_block (w:=w) hbl];exact hv,hc.step hstep hAold fun id' hid=>st.old id' ?_⟩
     exact h.wfB id _ hb c (List.mem_of_getElem? hj) id' hid
    ·rw [World.frozen?_of_block (w:=w) hbl];exact h3 j hj
   |ar fz c=>
    rcases hbx with ⟨h1,h2⟩|⟨b,o,h1,h2,h3,h4⟩
    ·exact .inl ⟨by rw [hβ];exact h1,h2⟩
    ·have hb':=hlt b o hne h1;have hbl:=st.ext.keep b hb' (fun x=>x)
     have hbs:bsz w' b=bsz w b:=by unfold bsz;rw [hbl]
     refine .inr ⟨b,o,by rw [hβ];exact h1,fun j c hj=>?_,fun e j hj hj'=>?_,fun e x=>h4 e (hAold b hb' x)⟩
     ·obtain ⟨v,hv,h5,hc⟩:=h2 j c hj;exact ⟨v,by rw [World.cell?_of_block (w:=w) (by rw [F8];exact hbl)];exact hv,h5,hc.step hstep hAold⟩
     ·rw [World.frozen?_of_block (w:=w) hbl];exact h3 e j hj (by rw [←hbs];exact hj')
   |mv=>trivial
 ·intro id id' b o o' hl hl' hb hb';simp only at hl hl';rcases hcase id with ⟨bx,hx⟩|e
  ·rcases hcase id' with ⟨bx',hx'⟩|e'
   ·exact st.ninj id bx id' bx' b o o' hx hx' hb hb'
   ·rw [e'] at hl';have h1:=(st.nblk id bx b o hx hb).1;have h2:=h.blt id' b o' (C2 hl') (by rw [←st.old id' (C2 hl')];exact hb')
    omega
  ·rw [e] at hl;rcases hcase id' with ⟨bx',hx'⟩|e'
   ·have h1:=(st.nblk id' bx' b o' hx' hb').1;have h2:=h.blt id b o (C2 hl) (by rw [←st.old id (C2 hl)];exact hb)
    omega
   ·rw [e'] at hl';exact h.inj id id' b o o' hl hl' (by rw [←st.old id (C2 hl)];exact hb) (by rw [←st.old id' (C2 hl')];exact hb')
 ·intro id b o hn hb;simp only at hn;rcases hcase id with ⟨bx,hx⟩|e
  ·exact (st.nblk id bx b o hx hb).2
  ·rw [e] at hn;exact Nat.lt_of_lt_of_le (h.blt id b o hn (by rw [←st.old id hn];exact hb)) st.ext.size
 ·have:=Q3 (Q:=fun _ p _=>∀id∈Bx p,A3 s.hp nw id≠none) (val:=val) (d:=d) (v:=v) h.tsz hd (fun i hi id hid=>hnn id (.inl (h.wfT i hi id hid))) (fun _ id hid=>hnn id (st.vwf id hid))
  exact this
 ·intro id cells hc c hcm id' hid;simp only at hc;rcases hcase id with ⟨bx,hx⟩|e
  ·rw [hg1 id bx hx] at hc;cases hc;exact hnn id' (st.nwf id _ hx c hcm id' hid)
  ·rw [e] at hc;exact hnn id' (.inl (h.wfB id cells hc c hcm id' hid))
 ·rintro b ⟨id,o,hl,hb⟩
  simp only at hl;rcases hcase id with ⟨bx,hx⟩|e
  ·exact .inr (Nat.le_trans h.fr.step.size (st.nblk id bx b o hx hb).1)
  ·rw [e] at hl;exact h.ownd b ⟨id,o,hl,by rw [←st.old id (C2 hl)];exact hb⟩
 ·intro id bx b o hb hl hβ hlt;simp only at hb;rcases hcase id with ⟨bx',hx⟩|e
  ·have:=(st.nblk id bx' b o hx hβ).1;have:=h.fr.step.size;omega
  ·rw [e] at hb;exact h.rngB id bx b o hb hl (by rw [←st.old id (by rw [hb];simp)];exact hβ) hlt
 ·intro i hi;obtain ⟨h1,h2⟩:=h.pin i hi;exact ⟨hnn _ (.inl h1),by rw [st.old _ h1];exact h2⟩
 ·intro id c b o hb hβ hlt;simp only at hb;rcases hcase id with ⟨bx',hx⟩|e
  ·have:=(st.nblk id bx' b o hx hβ).1;have:=h.fr.step.size;omega
  ·rw [e] at hb;exact h.stp id c b o hb (by rw [←st.old id (by rw [hb];simp)];exact hβ) hlt
 ·rintro b hY hX
  have hb:b<w.heap.size:=Nat.lt_of_lt_of_le (h.Ylt b hY) h.fr.step.size;exact h.Yx b hY (hXold b hb hX)
 ·refine ⟨st.os.trans h.fr.os,st.tape.trans h.fr.tape,st.output.trans h.fr.output,h.fr.step.trans st.ext (fun _ _ x=>x.elim),fun b j hb hL=>?_⟩
  have hbl:=st.ext.keep b (Nat.lt_of_lt_of_le hb h.fr.step.size) (fun x=>x)
  have hc:w'.cell? ⟨b,j,none⟩=w.cell? ⟨b,j,none⟩:=World.cell?_of_block (w:=w) hbl;have hf:w'.frozen? ⟨b,j,none⟩=w.frozen? ⟨b,j,none⟩:=World.frozen?_of_block (w:=w) hbl;rw [hc,hf];exact h.fr.rng b j hb hL
end
open Go.RowKit
section
variable {P:Program} {N:Nat} {w0:World} {X0:Fh} {Y:Nat->Prop} {β β':Bt} {s:St} {a:Act} {w w':World} {o:Oper}
theorem YS (cs:List Value)(A:Nat->Prop):Bk (Cc w A β) (cs.map PV.sc) cs:=by
 induction cs with
 |nil=>trivial
 |cons v r ih=>exact ⟨A7.sc v,ih⟩
theorem Aah (cs:List Value):(cs.map PV.sc).flatMap Ay=[]:=by
 induction cs with
 |nil=>rfl
 |cons v r ih=>exact ih
theorem Df (h:B4 N w0 X0 Y β s a w)(x:Operand):Dx w (C1 s.hp β Y) β (Cm s.tm x) (a.eval x):=by
 cases x with
 |tmp t=>
  show Dx _ _ _ (s.tm t) (a.tmps.getD t undef);by_cases ht:t<N
  ·exact h.tms t ht
  ·rw [h.tmo t (Nat.le_of_not_lt ht)];exact A7.top _
 |const v=>
  cases v with
  |agg cs=>exact ⟨cs.toList,by simp [Act.eval],YS cs.toList _⟩
  |_=>exact A7.sc _
 |func f=>exact A7.sc _
 |global g=>exact A7.sc _
theorem Fu (h:B4 N w0 X0 Y β s a w)(x:Operand):∀id∈Bx (Cm s.tm x),s.hp id≠none:=by
 cases x with
 |tmp t=>
  show ∀id∈Bx (s.tm t),_;by_cases ht:t<N
  ·exact h.wfT t ht
  ·rw [h.tmo t (Nat.le_of_not_lt ht)];intro id hid;cases hid
 |const v=>
  cases v with
  |agg cs=>
   intro id hid;have:Bx (.agg (cs.toList.map .sc))=[]:=Aah cs.toList;simp only [Cm] at hid;rw [this] at hid;cases hid
  |_=>intro id hid;cases hid
 |func f=>intro id hid;cases hid
 |global g=>intro id hid;cases hid
theorem Ql {A:Nat->Prop}{v u:Value}(h:Dx w A β (.sc v) u):u=v:=A7.val h
theorem Cx (h:B4 N w0 X0 Y β s a w){x:Operand}{v:Value}(e:Cm s.tm x=.sc v):a.eval x=v:=by
 have:=Df h x;rw [e] at this;exact Ql this
def Fi (P:Program)(a:Act)(w:World)(o:Oper)(Y:Nat->Prop)(β:Bt)(s:St)(v:PV)(fz:List Nat)(nw:List (Nat × Bn)):Prop:=
 (∀id∈fz,∃f c,s.hp id=some (.ar f c))∧∃val w',(execOp a.eval o).run P w=.ok (.value val) w'∧(B9 s.hp nw=true->∃β',OY Y β ⟨s.tm,Ai s.hp fz⟩ w v nw val w' β')
theorem Ab0 {v:PV}{val:Value}(hv:Dx w (C1 s.hp β Y) β v val) (hr:∀id∈Bx v,s.hp id≠none):OY Y β s w v [] val w β:=
 ⟨rfl,rfl,rfl,Cb.refl _ _,fun _ _=>rfl,by simp,by simp,by simp,by simp,by simp,hv,fun id hid=>.inl (hr id hid)⟩
theorem Ch {v:PV}{val:Value}(hrun:(execOp a.eval o).run P w=.ok (.value val) w) (hv:Dx w (C1 s.hp β Y) β v val) (hr:∀id∈Bx v,s.hp id≠none):Fi P a w o Y β s v [] []:=
 ⟨by simp,val,w,hrun,fun _=>⟨β,Ab0 (s:=⟨s.tm,Ai s.hp []⟩) hv hr⟩⟩
theorem C7 {v:Value}(hrun:(execOp a.eval o).run P w=.ok (.value v) w):Fi P a w o Y β s (.sc v) [] []:=Ch hrun (A7.sc v) (by intro id hid;cases hid)
structure Hg (w w':World) (c:Array Value) (e:TypeId):Prop where
 os:w'.os=w.os
 tape:w'.tape=w.tape
 output:w'.output=w.output
 old:∀b,b<w.heap.size->w'.heap[b]?=w.heap[b]?
 size:w'.heap.size=w.heap.size+1
 new:∃fz:Nat × Nat,w'.heap[w.heap.size]?=some (.cells c e fz)∧(fz.1=fz.2∨c.size<=fz.1)
theorem Hg.alloc (w:World)(c:Array Value)(e:TypeId):Hg w (w.alloc (.cells c e)) c e:=
 ⟨rfl,rfl,rfl,fun b hb=>Below.heap_alloc w _ b hb,by show (w.heap.push _).size=_;simp,(0,0),by show (w.heap.push _)[w.heap.size]?=_;simp,.inl rfl⟩
theorem Hg.drew {c:Array Value}{e:TypeId}(h:Hg w w' c e):Hg w w'.drew c e:=⟨h.os,h.tape,h.output,h.old,h.size,h.new⟩
section
variable {c:Array Value} {e:TypeId}
theorem Hg.step (h:Hg w w' c e):Cb (fun _=>False) w w':=
 ⟨by rw [h.size];omega,fun b hb _=>h.old b hb,fun b hb=>by unfold bsz;rw [h.old b hb];exact Nat.le_refl _⟩
theorem Hg.cell (h:Hg w w' c e)(j:Nat):w'.cell? ⟨w.heap.size,j,none⟩=c[j]?:=by
 obtain ⟨fz,hn,_⟩:=h.new;simp [World.cell?,hn]
theorem Hg.frozen (h:Hg w w' c e){j:Nat}(hj:j<c.size):w'.frozen? ⟨w.heap.size,j,none⟩=false:=by
 obtain ⟨fz,hn,hf⟩:=h.new;simp only [World.frozen?,hn];rcases hf with hf|hf<;>simp<;>omega
theorem Hg.bsz (h:Hg w w' c e):bsz w' w.heap.size=c.size:=by
 obtain ⟨fz,hn,_⟩:=h.new;simp [Pv.bsz,hn]
end
theorem Sn {c:Array Value}{e:TypeId}{d:Nat}{bx:Bn}{v:PV}{val:Value}(hg:Hg w w' c e)(hd:s.hp d=none)(hl:Cg (some bx))
  (hbx:Sz w' (C1 (Cz s.hp d (some bx)) (Cz β d (some (w.heap.size,0))) Y) (Cz β d (some (w.heap.size,0))) d bx)
  (hcw:∀cells,bx=.st cells->∀x∈cells,∀id'∈Ay x,s.hp id'≠none)
  (hv:Dx w' (C1 (Cz s.hp d (some bx)) (Cz β d (some (w.heap.size,0))) Y) (Cz β d (some (w.heap.size,0))) v val)
  (hvr:∀id∈Bx v,s.hp id≠none∨id=d):OY Y β s w v [(d,bx)] val w' (Cz β d (some (w.heap.size,0))) where
 os:=hg.os
 tape:=hg.tape
 output:=hg.output
 ext:=hg.step
 old:=fun id hn=>Av _ _ (by rintro rfl;exact hn hd)
 nlive:=by intro id b hm;simp at hm;obtain ⟨rfl,rfl⟩:=hm;exact hl
 nbox:=by intro id b hm;simp at hm;obtain ⟨rfl,rfl⟩:=hm;exact hbx
 nblk:=by
  intro id b x y hm hb;simp at hm;obtain ⟨rfl,rfl⟩:=hm;rw [Az] at hb;simp at hb;have:=hg.size;omega
 ninj:=by intro id b id' b' x y z hm hm' _ _;simp at hm hm';rw [hm.1,hm'.1]
 nwf:=by intro id cells hm x hx id' hid;simp at hm;exact .inl (hcw cells hm.2.symm x hx id' hid)
 val:=hv
 vwf:=by
  intro id hid;rcases hvr id hid with h|rfl
  ·exact .inl h
  ·exact .inr ⟨bx,by simp⟩
theorem Adu {c:Array Value}{e:TypeId}(hg:Hg w w' c e){A A':Nat->Prop}(hA:∀b,b<w.heap.size->A' b->A b){cells:List PV}
  (h:∀(j:Nat) p,cells[j]?=some p->∃v,c[j]?=some v∧v.oneCell'=true∧A7 w A p v):QC w' A' ⟨w.heap.size,0,none⟩ cells:=by
 intro j p hj;obtain ⟨v,hv,h1,ht⟩:=h j p hj;exact ⟨v,by rw [D6,Nat.zero_add,hg.cell];exact hv,h1,ht.step (hg.step.weaken (fun _ _ x=>x.elim)) hA⟩
theorem Adq {d:Nat}{bx:Bn}(hwf:s.hp d=none):∀b,b<w.heap.size->C1 (Cz s.hp d (some bx)) (Cz β d (some (w.heap.size,0))) Y b->C1 s.hp β Y b:=by
 intro b hb hA;rcases hA with ⟨id,o,hl,hβ⟩|hY
 ·by_cases e:id=d
  ·subst e;rw [Az] at hβ;simp at hβ;omega
  ·rw [Av _ _ e] at hl hβ;exact .inl ⟨id,o,hl,hβ⟩
 ·exact .inr hY
theorem Sc {c:Array Value}{e:TypeId}{d:Nat}{cells:List PV}{fz:List Nat}{v:PV}{val:Value}
  (hfz:∀id∈fz,∃f c,s.hp id=some (.ar f c))
  (hrun:(execOp a.eval o).run P w=.ok (.value val) w') (hg:Hg w w' c e)
  (hc:∀(j:Nat) p,cells[j]?=some p->∃u,c[j]?=some u∧u.oneCell'=true∧A7 w (C1 (Ai s.hp fz) β Y) p u)
  (hv:(v=.ptr d 0∧val=.pointer (some ⟨w.heap.size,0,none⟩))∨∃es n cap,v=.view d es 0 n∧val=.slice (some ⟨w.heap.size,0,none⟩) n cap∧n<=cap∧cap*es<=c.size):
  Fi P a w o Y β s v fz [(d,.ar false cells)]:=by
 refine ⟨hfz,val,w',hrun,fun hab=>⟨Cz β d (some (w.heap.size,0)),?_⟩⟩
 have hd:s.hp d=none:=(Bq hab).1 d (.ar false cells) (by simp)
 have hd':Ai s.hp fz d=none:=Ef.2 hd;refine Sn (s:=⟨s.tm,Ai s.hp fz⟩) hg hd' trivial ?_ (fun cells hx=>by cases hx) ?_ ?_
 ·refine .inr ⟨w.heap.size,0,Az _ _ _,?_,fun _ j _ hj=>?_,(fun x=>by cases x)⟩
  ·exact Adu hg (Adq (s:=⟨s.tm,Ai s.hp fz⟩) hd') hc
  ·rw [hg.bsz] at hj;exact hg.frozen hj
 ·rcases hv with ⟨rfl,rfl⟩|⟨es,n,cap,rfl,rfl,hn,hcap⟩
  ·exact ⟨w.heap.size,0,Az _ _ _,rfl⟩
  ·exact .inr ⟨w.heap.size,0,0,cap,Az _ _ _,rfl,.inl rfl,hn,by rw [hg.bsz];omega,by rw [hg.size];omega⟩
 ·intro id hid;rcases hv with ⟨rfl,_⟩|⟨es,n,cap,rfl,_⟩<;>(simp [Bx,Cf,Ay] at hid;exact .inr hid)
theorem PN {c:Array Value}{e:TypeId}{d:Nat}{cells:List PV}
  (hrun:(execOp a.eval o).run P w=.ok (.value (.pointer (some ⟨w.heap.size,0,none⟩))) w') (hg:Hg w w' c e)
  (hc:∀(j:Nat) p,cells[j]?=some p->∃u,c[j]?=some u∧Cc w (C1 s.hp β Y) β p u) (hr:∀x∈cells,∀id∈Ay x,s.hp id≠none):
  Fi P a w o Y β s (.ptr d 0) [] [(d,.st cells)]:=by
 refine ⟨by simp,_,w',hrun,fun hab=>⟨Cz β d (some (w.heap.size,0)),?_⟩⟩
 have hd:s.hp d=none:=(Bq hab).1 d (.st cells) (by simp)
 refine Sn (s:=⟨s.tm,Ai s.hp []⟩) hg hd trivial ?_ (fun cs hx x hxm id hid=>?_) ?_ ?_
 ·refine ⟨w.heap.size,0,Az _ _ _,fun j p hj=>?_,fun j hj=>?_⟩
  ·obtain ⟨u,hu,hp⟩:=hc j p hj;refine ⟨u,by rw [Nat.zero_add,hg.cell];exact hu,hp.step (hg.step.weaken (fun _ _ x=>x.elim)) (Adq (s:=⟨s.tm,Ai s.hp []⟩) hd) fun id hid=>Av _ _ ?_⟩
   rintro rfl
   exact hr p (List.mem_of_getElem? hj) id hid hd
  ·rw [Nat.zero_add];obtain ⟨u,hu,_⟩:=hc j _ (List.getElem?_eq_getElem hj)
   exact hg.frozen (by
    rcases Nat.lt_or_ge j c.size with h|h
    ·exact h
    ·rw [Array.getElem?_eq_none h] at hu;cases hu)
 ·injection hx with hx;subst hx;exact hr x hxm id hid
 ·exact ⟨w.heap.size,0,Az _ _ _,rfl⟩
 ·intro id hid;simp [Bx,Cf,Ay] at hid;exact .inr hid
end
open Go.RowKit
section
variable {R:Type} {r:R} {P:Program} {N:Nat} {w0:World} {X0:Fh} {Y:Nat->Prop} {β β':Bt} {s:St} {a:Act} {w w':World} {o:Oper}
theorem Md {t:TypeId}{n:Nat}(h:(P.info? t).map (·.size)=some n) (w:World):(sizeOf t).run P w=.ok n w:=by
 cases hi:P.info? t with
 |none=>rw [hi] at h;cases h
 |some i=>rw [hi] at h;simp at h;simp [sizeOf,typeInfo,hi,h]
theorem Agw {t:TypeId}{n:Nat}(h:Bi P t=n)(hn:0<n):(P.info? t).map (·.size)=some n:=by
 unfold Bi at h;cases hi:(P.info? t).map (·.size) with
 |none=>rw [hi] at h;simp at h;omega
 |some i=>rw [hi] at h;simp at h;rw [h]
theorem Sf {t:TypeId}{d:TypeDesc}(h:P.underlying t=some d)(w:World):(isAgg t).run P w=.ok (Cv P t) w:=by
 unfold isAgg Cv;rw [h];simp only [Sem.run_bind,run_underlying h,Result.andThen_ok];cases d<;>rfl
theorem Amc {t:TypeId}{v:Value}{K:PV->Option R}(h:cvK P t v K=some r):∃p,K p=some r∧Bx p=[]∧∀(w:World)(A:Nat->Prop)(β:Bt),Dx w A β p v:=by
 have sc:∀v:Value,K (.sc v)=some r->∃p,K p=some r∧Bx p=[]∧∀(w:World) (A:Nat->Prop) (β:Bt),Dx w A β p v:=fun v h=>⟨_,h,rfl,fun w A β=>A7.sc v⟩
 unfold cvK at h;split at h
 ·rename_i cs;obtain ⟨hl,h⟩:=Ax h;obtain ⟨xs,h,hxl,hx⟩:=Wu h;have hl:=Nat.eq_of_beq_eq_true hl;refine ⟨_,h,?_,fun w A β=>⟨cs.toList,by simp,?_⟩⟩
  ·show xs.flatMap Ay=[];rw [List.flatMap_eq_nil_iff];intro c hc;obtain ⟨j,hj⟩:=List.mem_iff_getElem?.1 hc;exact Ik (hx j c hj).1
  ·refine Bk.of_at (by rw [hxl,hl]) fun i c u hc hu=>?_
   obtain ⟨hT,p,hp,_,hpv⟩:=hx i c hc;refine (Ng hT).2 (hpv w A β u ?_).1;rw [Nat.zero_add,List.getElem?_map,hu] at hp;simp at hp;subst hp;exact A7.sc u
 ·split at h
  ·exact ⟨_,h,rfl,fun w A β=>A7.lnil true _⟩
  ·cases h
 ·exact sc _ h
theorem BU (h:B4 N w0 X0 Y β s a w){x:Operand}(hrun:(execOp a.eval o).run P w=.ok (.value (a.eval x)) w) {K:PV->Option R}(hk:EW P o.type s.tm x K=some r):
  ∃v,K v=some r∧Fi P a w o Y β s v [] []:=by
 have dflt:K (Cm s.tm x)=some r->∃v,K v=some r∧Fi P a w o Y β s v [] []:=fun hk=>⟨_,hk,Ch hrun (Df h x) (Fu h x)⟩
 cases x with
 |const v=>
  obtain ⟨p,hk,hr,hv⟩:=Amc hk;exact ⟨p,hk,Ch hrun (hv _ _ _) (by rw [hr];simp)⟩
 |tmp t=>exact dflt hk
 |func f=>exact dflt hk
 |global g=>exact dflt hk
theorem Agf {x:Operand}(ho:o.op=.move x):(execOp a.eval o).run P w=.ok (.value (a.eval x)) w:=by unfold execOp;rw [ho];rfl
theorem XD {x:Operand}(ho:o.op=.assign x):(execOp a.eval o).run P w=.ok (.value (a.eval x)) w:=by unfold execOp;rw [ho];rfl
theorem ZZ (h:B4 N w0 X0 Y β s a w){c x y:Operand}(ho:o.op=.pick c x y){K:PV->Option R}(hk:(Bj (Cm s.tm c) fun t=>A9 t (K (Cm s.tm x)) (K (Cm s.tm y)))=some r):
  ∃v,K v=some r∧Fi P a w o Y β s v [] []:=by
 obtain ⟨b,hb,hk⟩:=G0 hk;have hc:=Cx h hb;rcases O6 hk with ⟨rfl,hk⟩|⟨rfl,hk⟩
 ·exact ⟨_,hk,Ch (by unfold execOp;rw [ho];simp [asBool,hc]) (Df h x) (Fu h x)⟩
 ·exact ⟨_,hk,Ch (by unfold execOp;rw [ho];simp [asBool,hc]) (Df h y) (Fu h y)⟩
theorem Qz {t:TypeId}{K:List PV->Option R}(h:Hw P t K=some r):∃(v:Value)(cs:List PV),K cs=some r∧AX P t=some v∧cs.length=(Iz P t).length∧cs.length=v.cells.toList.length∧cs.length=Bi P t ∧
  ∀(j:Nat) c,cs[j]?=some c->Zc c∧∃u,v.cells.toList[j]?=some u∧u.oneCell'=true∧∀(w:World) (A:Nat->Prop),A7 w A c u:=by
 unfold Hw at h;obtain ⟨v,hz,h⟩:=Dd h;obtain ⟨hl,h⟩:=Ax h;obtain ⟨cs,h,hcl,hc⟩:=Wu h;simp only [Bool.and_eq_true] at hl;have hl1:=Nat.eq_of_beq_eq_true hl.1
 have hl2:(Iz P t).length=Bi P t:=by
  have:=hl.2;simp only [J2,Bool.and_eq_true] at this;exact Nat.eq_of_beq_eq_true this.2
 refine ⟨v,cs,h,hz,hcl,by rw [hcl,hl1],by rw [hcl,hl2],fun j c hj=>?_⟩
 obtain ⟨hT,p,hp,_,hpv⟩:=hc j c hj;rw [Nat.zero_add,List.getElem?_map] at hp;cases hu:v.cells.toList[j]? with
 |none=>rw [hu] at hp;cases hp
 |some u=>
  rw [hu] at hp;simp at hp;subst hp;exact ⟨hT,u,rfl,(hpv default (fun _=>False) (fun _=>none) u (A7.sc u)).2,fun w A=>(hpv w A (fun _=>none) u (A7.sc u)).1⟩
theorem Yt {t:TypeId}{v:Value}(h:AX P t=some v)(w:World):(zeroValue t).run P w=.ok v w:=by
 unfold AX at h;cases hi:P.info? t with
 |none=>rw [hi] at h;cases h
 |some i=>rw [hi] at h;simp at h;simp [zeroValue,typeInfo,hi,h]
theorem XS {t:TypeId}(ho:o.op=.alloc t){d:Nat}{K:PV->List Nat->List (Nat × Bn)->Option R}
  (hk:(Hw P t fun cs=>K (.ptr d 0) [] [(d,Ai0 P t cs)])=some r):∃v fz nw,K v fz nw=some r∧Fi P a w o Y β s v fz nw:=by
 obtain ⟨z,cs,hk,hz,_,hl,_,hc⟩:=Qz hk
 have hrun:(execOp a.eval o).run P w=.ok (.value (.pointer (some ⟨w.heap.size,0,none⟩))) (w.alloc (.cells z.cells t)):=by
  unfold execOp;rw [ho];simp [Instr.alloc,Yt hz,newVar,newRow]
 have hg:=Hg.alloc w z.cells t;refine ⟨_,_,_,hk,?_⟩;unfold Ai0;cases V7 P t
 ·refine PN hrun hg (fun j p hj=>?_) fun x hx id hid=>?_
  ·obtain ⟨hT,u,hu,_,hv⟩:=hc j p hj;exact ⟨u,by simpa using hu,(Ng hT).2 (hv _ _)⟩
  ·obtain ⟨j,hj⟩:=List.mem_iff_getElem?.1 hx;rw [Ik (hc j x hj).1] at hid;cases hid
 ·refine Sc (by simp) hrun hg (fun j p hj=>?_) (.inl ⟨rfl,rfl⟩)
  obtain ⟨hT,u,hu,h1,hv⟩:=hc j p hj;exact ⟨u,by simpa using hu,h1,hv _ _⟩
end
open Go.RowKit
section
variable {R:Type} {r:R} {P:Program} {N:Nat} {w0:World} {X0:Fh} {Y:Nat->Prop} {β β':Bt} {s:St} {a:Act} {w w':World} {o:Oper} {A:Nat->Prop}
theorem Th {t:TypeId}(h:J2 P t=true):(∃d,P.underlying t=some d)∧(Iz P t).length=Bi P t∧(P.info? t).map (·.size)=some (Bi P t):=by
 simp only [J2,Bool.and_eq_true] at h;refine ⟨Option.isSome_iff_exists.1 h.1,Nat.eq_of_beq_eq_true h.2,?_⟩;unfold Bi;cases hi:P.info? t with
 |none=>unfold Program.underlying at h;rw [hi] at h;cases h.1
 |some i=>simp
theorem Pd {v:Value}(h:v.oneCell'=true):v.cells = #[v]:=by cases v<;>first|rfl|cases h
theorem Acy {p:PV}{v:Value}{ts:List CT}{K:List PV->Option R}(hv:Dx w A β p v)(hl:(cellsOf p).length=ts.length) (h:Ry ts (cellsOf p) 0 K=some r):
  ∃cs,K cs=some r∧cs.length=ts.length∧Bk (Cc w A β) cs v.cells.toList∧(∀u∈v.cells.toList,u.oneCell'=true)∧(∀c∈cs,∀id∈Ay c,id∈Bx p)∧∀c∈cs,(∀x,c ≠ .agg x)∧(∀x,c ≠ .tup x):=by
 obtain ⟨cs,h,hcl,hna,hc⟩:=Wi h;refine ⟨cs,h,hcl,?_⟩
 have single:(∀x,p ≠ .agg x)->cellsOf p=[p]:=by
  intro hp;cases p<;>first|rfl|exact absurd rfl (hp _)
 by_cases hagg:∃x,p=.agg x
 ·obtain ⟨x,rfl⟩:=hagg;obtain ⟨vs,rfl,h2⟩:=hv;have hlen:cs.length=vs.length:=by rw [hcl,←hl];exact h2.len
  have key:∀(i:Nat) c u,cs[i]?=some c->vs[i]?=some u->Cc w A β c u∧u.oneCell'=true:=by
   intro i c u hc' hu;obtain ⟨q,hq,_,_,hqv⟩:=hc i c hc';rw [Nat.zero_add] at hq;exact hqv w A β u (h2.at_ hq hu)
  refine ⟨Bk.of_at hlen fun i c u hc' hu=>(key i c u hc' hu).1,?_,?_,hna⟩
  ·intro u hu;obtain ⟨i,hi⟩:=List.mem_iff_getElem?.1 (show u∈vs from hu)
   have hlt:i<vs.length:=by
    rcases Nat.lt_or_ge i vs.length with h|h
    ·exact h
    ·rw [List.getElem?_eq_none h] at hi;cases hi
   exact (key i _ u (List.getElem?_eq_getElem (by omega)) hi).2
  ·intro c hcm id hid;obtain ⟨i,hi⟩:=List.mem_iff_getElem?.1 hcm;obtain ⟨q,hq,_,hr,_⟩:=hc i c hi;rw [Nat.zero_add] at hq;show id∈x.flatMap Ay;exact List.mem_flatMap.2 ⟨q,List.mem_of_getElem? hq,hr id hid⟩
 ·have hp:∀x,p ≠ .agg x:=fun x e=>hagg ⟨x,e⟩
  rw [single hp] at hl hc;have hl1:cs.length=1:=by rw [hcl,←hl];rfl
  match cs,hl1 with
  |[c],_=>
   obtain ⟨q,hq,hf,hr,hqv⟩:=hc 0 c rfl;simp at hq;subst hq;have htup:∀x,p ≠ .tup x:=by rintro x rfl;exact hf
   have hv':Cc w A β p v:=(Uu hp).1 ((Pb htup).1 hv);obtain ⟨h5,h6⟩:=hqv w A β v hv';rw [Pd h6];refine ⟨⟨h5,trivial⟩,?_,?_,hna⟩
   ·intro u hu;simp at hu;subst hu;exact h6
   ·intro c' hc' id hid;simp at hc';subst hc';have:=hr id hid;cases p<;>first|exact this|exact absurd rfl (hp _)|exact absurd rfl (htup _)
end
open Go.RowKit
section
variable {R:Type} {r:R} {P:Program} {N:Nat} {w0:World} {X0:Fh} {Y:Nat->Prop} {β β':Bt} {s:St} {a:Act} {w w':World} {o:Oper} {A:Nat->Prop}
theorem Bk.get {α β':Type}{R':α->β'->Prop}{zs:List α}{bs:List β'}(h:Bk R' zs bs){i:Nat}{x:α}(hx:zs[i]?=some x):∃y,bs[i]?=some y∧R' x y:=by
 have hlt:i<zs.length:=by
  rcases Nat.lt_or_ge i zs.length with h|h
  ·exact h
  ·rw [List.getElem?_eq_none h] at hx;cases hx
 have hb:bs[i]?=some (bs[i]'(by rw [←h.len];exact hlt)):=List.getElem?_eq_getElem _
 exact ⟨_,hb,h.at_ hx hb⟩
theorem Al9 {p:PV}{v:Value}{ts:List CT}{K:List PV->Option R}(hv:Dx w A β p v)(hl:(cellsOf p).length=ts.length) (h:Wa ts (cellsOf p) 0 K=some r):
  ∃cs,K cs=some r∧cs.length=ts.length∧Bk (A7 w A) cs v.cells.toList∧∀u∈v.cells.toList,u.oneCell'=true:=by
 obtain ⟨cs,h,hcl,hc⟩:=Wu h;refine ⟨cs,h,hcl,?_⟩;by_cases hagg:∃x,p=.agg x
 ·obtain ⟨x,rfl⟩:=hagg;obtain ⟨vs,rfl,h2⟩:=hv;have hlen:cs.length=vs.length:=by rw [hcl,←hl];exact h2.len
  have key:∀(i:Nat) c u,cs[i]?=some c->vs[i]?=some u->A7 w A c u∧u.oneCell'=true:=by
   intro i c u hc' hu;obtain ⟨_,q,hq,_,hqv⟩:=hc i c hc';rw [Nat.zero_add] at hq;exact hqv w A β u (h2.at_ hq hu)
  refine ⟨Bk.of_at hlen fun i c u hc' hu=>(key i c u hc' hu).1,?_⟩
  intro u hu;obtain ⟨i,hi⟩:=List.mem_iff_getElem?.1 (show u∈vs from hu)
  have hlt:i<vs.length:=by
   rcases Nat.lt_or_ge i vs.length with h|h
   ·exact h
   ·rw [List.getElem?_eq_none h] at hi;cases hi
  exact (key i _ u (List.getElem?_eq_getElem (by omega)) hi).2
 ·have hp:∀x,p ≠ .agg x:=fun x e=>hagg ⟨x,e⟩
  have single:cellsOf p=[p]:=by cases p<;>first|rfl|exact absurd rfl (hp _)
  rw [single] at hl hc;have hl1:cs.length=1:=by rw [hcl,←hl];rfl
  match cs,hl1 with
  |[c],_=>
   obtain ⟨_,q,hq,hf,hqv⟩:=hc 0 c rfl;simp at hq;subst hq;have htup:∀x,p ≠ .tup x:=by rintro x rfl;exact hf
   have hv':Cc w A β p v:=(Uu hp).1 ((Pb htup).1 hv);obtain ⟨h5,h6⟩:=hqv w A β v hv';rw [Pd h6];exact ⟨⟨h5,trivial⟩,fun u hu=>by simp at hu;subst hu;exact h6⟩
theorem Af2 (h:B4 N w0 X0 Y β s a w){t:TypeId}{x:Operand}(ho:o.op=.box t x){d:Nat}{K:PV->List Nat->List (Nat × Bn)->Option R}
    (hk:(Au (J2 P t&&Nat.beq (cellsOf (Cm s.tm x)).length (Iz P t).length)
      (bif V7 P t then Wa (Iz P t) (cellsOf (Cm s.tm x)) 0 fun cs=>K (.ptr d 0) [] [(d,.ar false cs)]
       else Ry (Iz P t) (cellsOf (Cm s.tm x)) 0 fun cs=>K (.ptr d 0) [] [(d,.st cs)]))=some r):∃v fz nw,K v fz nw=some r∧Fi P a w o Y β s v fz nw:=by
  obtain ⟨hl,hk⟩:=Ax hk
  simp only [Bool.and_eq_true] at hl
  have hl:=Nat.eq_of_beq_eq_true hl.2
  have hrun:(execOp a.eval o).run P w=.ok (.value (.pointer (some ⟨w.heap.size,0,none⟩))) (w.alloc (.cells (a.eval x).cells t)):=by
    unfold execOp
    rw [ho]
    simp [Instr.box,newVar,newRow]
  have hg:=Hg.alloc w (a.eval x).cells t
  cases ha:V7 P t
  · rw [ha] at hk
    obtain ⟨cs,hk,_,h2,_,hr,_⟩:=Acy (Df h x) hl hk
    refine ⟨_,_,_,hk,PN hrun hg (fun j p hj=>?_) fun c hc id hid=>Fu h x id (hr c hc id hid)⟩
    obtain ⟨u,hu,hp⟩:=h2.get hj
    exact ⟨u,by simpa using hu,hp⟩
  · rw [ha] at hk
    obtain ⟨cs,hk,_,h2,h1⟩:=Al9 (Df h x) hl hk
    refine ⟨_,_,_,hk,Sc (by simp) hrun hg (fun j p hj=>?_) (.inl ⟨rfl,rfl⟩)⟩
    obtain ⟨u,hu,hp⟩:=h2.get hj
    exact ⟨u,by simpa using hu,h1 u (List.mem_of_getElem? hu),hp⟩
theorem ZR {c:PV}(h1:∀x,c ≠ .agg x)(h2:∀x,c ≠ .tup x):Bx c=Ay c:=by
 cases c<;>first|rfl|exact absurd rfl (h1 _)|exact absurd rfl (h2 _)
theorem CE {t:TypeId}{ad:Addr}{cs:List PV}{p:PV}(hok:J2 P t=true)(hlen:cs.length=(Iz P t).length)
  (hna:∀c∈cs,(∀x,c ≠ .agg x)∧(∀x,c ≠ .tup x))
  (hc:∀(j:Nat) c,cs[j]?=some c->∃v,w.cell? (ad.add j)=some v∧Cc w A β c v)
  (hp:(Cv P t=true∧p=.agg cs)∨(Cv P t=false∧cs=[p])):∃val,(loadVar t ad).run P w=.ok val w∧Dx w A β p val:=by
 obtain ⟨⟨d,hd⟩,hl,hi⟩:=Th hok;rcases hp with ⟨hagg,rfl⟩|⟨hagg,rfl⟩
 ·have hf:∀j,j<Bi P t->w.cell? (ad.add j)=some ((w.cell? (ad.add j)).getD undef):=by
   intro j hj;obtain ⟨v,hv,_⟩:=hc j _ (List.getElem?_eq_getElem (by omega))
   rw [hv];rfl
  refine ⟨_,?_,(List.range (Bi P t)).map (fun j=>(w.cell? (ad.add j)).getD undef),rfl,?_⟩
  ·simp only [loadVar,Sem.run_bind,Sf hd,hagg,Result.andThen_ok,if_true,Md hi,run_loadCells w ad (Bi P t) _ hf];simp
  ·refine Bk.of_at (by simp;omega) fun i c u hc' hu=>?_
   obtain ⟨v,hv,hcv⟩:=hc i c hc'
   have hlt:i<Bi P t:=by
    rcases Nat.lt_or_ge i cs.length with h|h
    ·omega
    ·rw [List.getElem?_eq_none h] at hc';cases hc'
   rw [List.getElem?_map,List.getElem?_range hlt] at hu;simp [hv] at hu;subst hu;exact hcv
 ·obtain ⟨v,hv,hcv⟩:=hc 0 p rfl;have hn:=hna p (by simp)
  have h0:ad.add 0=ad:=by simp [Addr.add]
  rw [h0] at hv;refine ⟨v,?_,(Pb hn.2).2 ((Uu hn.1).2 hcv)⟩;simp only [loadVar,Sem.run_bind,Sf hd,hagg,Result.andThen_ok];simp [hv]
theorem Ahd {hp:Nat->Option Bn}{id:Nat}{c:List PV}(h:rd hp id=some c):hp id=some (.st c)∨∃f,hp id=some (.ar f c):=by
 unfold rd at h;split at h
 ·rename_i e;simp at h;subst h;exact .inl e
 ·rename_i f _ e;simp at h;subst h;exact .inr ⟨_,e⟩
 ·cases h
theorem UE {hp:Nat->Option Bn}{id:Nat}{c:List PV}(h:Kz hp id=some c):∃f,hp id=some (.ar f c):=by
 unfold Kz at h;split at h
 ·rename_i e;simp at h;subst h;exact ⟨_,e⟩
 ·cases h
theorem KL (h:B4 N w0 X0 Y β s a w){id:Nat}{c:List PV}(hr:rd s.hp id=some c){b ob:Nat}(hβ:β id=some (b,ob)) {j:Nat}{p:PV}(hj:c[j]?=some p):
  ∃v,w.cell? ⟨b,ob+j,none⟩=some v∧Cc w (C1 s.hp β Y) β p v:=by
 rcases Ahd hr with hb|⟨f,hb⟩
 ·obtain ⟨b',o',h1,h2,_⟩:=h.box id _ hb;rw [hβ] at h1;simp at h1;obtain ⟨rfl,rfl⟩:=h1;exact h2 j p hj
 ·rcases h.box id _ hb with ⟨h1,_⟩|⟨b',o',h1,h2,_⟩
  ·rw [hβ] at h1;cases h1
  ·rw [hβ] at h1;simp at h1;obtain ⟨rfl,rfl⟩:=h1
   obtain ⟨v,hv,_,ht⟩:=h2 j p hj;rw [D6] at hv;refine ⟨v,hv,?_⟩;cases ht with
   |sc=>exact A7.sc _
   |top=>exact A7.top _
   |ub=>exact A7.ub _
   |lnil=>exact A7.lnil _ _
   |lemp=>exact A7.lemp _ _ _
   |lst es n cells a cap f hs hb hA hn hc h1 hr=>exact A7.lst es n cells a cap f hs hb hA hn hc h1 hr
theorem Mk:∀{ts:List CT}{cells:List PV}{off:Nat}{K:List PV->Option R},Wa ts cells off K=some r->Ry ts cells off K=some r
 |[],_,_,_,h=>h
 |.int k::ts,cells,off,K,h=>by
  obtain ⟨n,hp,h⟩:=H8 (show Ad k (cells.getD off .top) _=some r from h)
  show Ad k _ _=_;rw [hp];simp only [Ad,if_true];exact Mk h
 |.bool::ts,cells,off,K,h=>by
  obtain ⟨n,hp,h⟩:=G0 (show Bj (cells.getD off .top) _=some r from h)
  show Bj _ _=_;rw [hp];exact Mk h
 |.str::ts,cells,off,K,h=>by
  obtain ⟨n,hp,h⟩:=Gb (show Cj (cells.getD off .top) _=some r from h)
  show Cj _ _=_;rw [hp];exact Mk h
 |.sl es::ts,cells,off,K,h=>by
  obtain ⟨z,n,c,h,hp⟩:=Gt (show Fk es (cells.getD off .top) _=some r from h)
  change fcK (.sl es) (cells.getD off .top) (fun c=>Ry ts cells (off+1) fun r=>K (c::r))=some r
  unfold fcK;dsimp only;unfold fsK;rcases hp with hp|⟨hp,rfl,rfl,rfl⟩
  ·rw [hp];simp only [Fk,Nat.beq_refl,cond_true];exact Mk h
  ·rw [hp];exact Mk h
 |.any::ts,cells,off,K,h=>by
  obtain ⟨f,a,b,hp,h⟩:=UH (show fnK (cells.getD off .top) (fun v=>Wa ts cells (off+1) fun r=>K (.sc v::r))=some r from h)
  show fnK (cells.getD off .top) (fun v=>Ry ts cells (off+1) fun r=>K (.sc v::r))=some r
  rw [hp];exact Mk h
theorem A7.unz {w:World}{A:Nat->Prop}{z:Bool}{es n:Nat}{c:List PV}{u:Value}(h:A7 w A (.lst z es n c) u):A7 w A (.lst false es n c) u:=by
 cases h with
 |lnil z es=>exact .lnil false es
 |lemp es a cap=>exact .lemp es a cap
 |lst es n c a cap f h1 h2 h3 h4 h5 h6 h7=>exact .lst es n c a cap f h1 h2 h3 h4 h5 h6 h7
theorem Ad8 {w:World}{A:Nat->Prop}{β:Bt}{p:PV}{u:Value}(h:Cc w A β p u):Cc w A β (SZ p) u:=by
 cases p with
 |lst z es n c=>exact A7.unz h
 |_=>exact h
theorem Aab (p:PV):Ay (SZ p)=Ay p:=by cases p<;>rfl
theorem QG {w:World}{A:Nat->Prop}{β:Bt}:∀{cs:List PV}{vs:List Value},Bk (Cc w A β) cs vs->Bk (Cc w A β) (cs.map SZ) vs
 |[],[],_=>trivial
 |_::_,_::_,h=>⟨Ad8 h.1,QG h.2⟩
 |[],_::_,h=>h.elim
 |_::_,[],h=>h.elim
theorem Afx {w:World}{A:Nat->Prop}{β:Bt}{p:PV}{u:Value}(h:Dx w A β p u):Dx w A β (Aee p) u:=by
 cases p with
 |agg cs=>
  obtain ⟨vs,h1,h2⟩:=(show G9 w A β (.agg cs) u from h)
  exact ⟨vs,h1,QG h2⟩
 |lst z es n c=>exact A7.unz (show A7 w A (.lst z es n c) u from h)
 |_=>exact h
theorem Aez (p:PV):Bx (Aee p)=Bx p:=by
 cases p with
 |agg cs=>
  show (cs.map SZ).flatMap Ay=cs.flatMap Ay
  induction cs with
  |nil=>rfl
  |cons a l ih=>rw [List.map_cons,List.flatMap_cons,List.flatMap_cons,ih,Aab]
 |_=>rfl
theorem Alq {hp:Nat->Option Bn}{t:TypeId}{x:PV}{K:PV->Option R}(h:DW P (rd hp) (Kz hp) t x K=some r):
  KO P (rd hp) t x K=some r∨KO P (rd hp) t x (fun v=>K (Aee v))=some r:=by
 unfold DW at h;unfold KO;split at h
 ·rename_i id off;obtain ⟨hb,h⟩:=Ax h;rw [hb];show E5 _ _=_∨E5 _ _=_;split at h
  ·rename_i c hc;obtain ⟨f,hbx⟩:=UE hc;have:rd hp id=some c:=by unfold rd;rw [hbx]
   rw [this];exact .inr (Mk h)
  ·exact .inl h
 ·exact .inr h
 ·cases h
theorem QL (h:B4 N w0 X0 Y β s a w){t:TypeId}{x:PV}{u:Value}(hx:Dx w (C1 s.hp β Y) β x u) {K:PV->Option R}(hk:KO P (rd s.hp) t x K=some r):
  ∃v ad val,K v=some r∧u=.pointer (some ad)∧(loadVar t ad).run P w=.ok val w∧Dx w (C1 s.hp β Y) β v val∧∀i∈Bx v,s.hp i≠none:=by
 unfold KO at hk;split at hk
 ·rename_i id off;obtain ⟨hok,hk⟩:=Ax hk;obtain ⟨c,hr,hk⟩:=Dd hk;obtain ⟨cs,hk,hl,hna,hc⟩:=Wi hk;obtain ⟨b,ob,hβ,hax⟩:=hx
  have hcell:∀(j:Nat) q,cs[j]?=some q->∃v,w.cell? ((⟨b,ob+off,none⟩:Addr).add j)=some v∧Cc w (C1 s.hp β Y) β q v:=by
   intro j q hq;obtain ⟨p,hp,_,_,hpv⟩:=hc j q hq;obtain ⟨v,hv,hcv⟩:=KL h hr hβ hp;exact ⟨v,by rw [D6,Nat.add_assoc];exact hv,(hpv _ _ _ _ hcv).1⟩
  have hrefs:∀q∈cs,∀i∈Ay q,s.hp i≠none:=by
   intro q hq i hi;obtain ⟨j,hj⟩:=List.mem_iff_getElem?.1 hq;obtain ⟨p,hp,_,hpr,_⟩:=hc j q hj;rcases Ahd hr with hb|⟨f,hb⟩
   ·exact h.wfB id c hb p (List.mem_of_getElem? hp) i (hpr i hi)
   ·obtain ⟨v,hv,hcv⟩:=KL h hr hβ hp;exfalso;have hp':=hpr i hi;rcases h.box id _ hb with ⟨_,rfl⟩|⟨b',o',h1,h2,_⟩
    ·simp at hp
    ·obtain ⟨v',_,_,ht⟩:=h2 _ p hp;cases ht<;>cases hp'
  rcases TV hk with ⟨hagg,hk2⟩|⟨hagg,q,rfl,hk2⟩
  ·obtain ⟨val,hlv,hv⟩:=CE hok hl hna hcell (.inl ⟨hagg,rfl⟩);refine ⟨_,_,val,hk2,hax,hlv,hv,fun i hi=>?_⟩
   obtain ⟨q,hq,hi⟩:=List.mem_flatMap.1 (show i∈cs.flatMap Ay from hi)
   exact hrefs q hq i hi
  ·obtain ⟨val,hlv,hv⟩:=CE hok hl hna hcell (.inr ⟨hagg,rfl⟩);refine ⟨_,_,val,hk2,hax,hlv,hv,fun i hi=>hrefs q (by simp) i ?_⟩
   have hn:=hna q (by simp)
   rw [ZR hn.1 hn.2] at hi;exact hi
 ·rename_i c off;obtain ⟨hok,hk⟩:=Ax hk;obtain ⟨cs,hk,hl,hc⟩:=Wu hk;obtain ⟨ad,hax,hs,hb,hA,hrd⟩:=hx
  have hna:∀q∈cs,(∀x,q ≠ .agg x)∧(∀x,q ≠ .tup x):=by
   intro q hq;obtain ⟨j,hj⟩:=List.mem_iff_getElem?.1 hq;exact ⟨DT (hc j q hj).1,Ac3 (hc j q hj).1⟩
  have hcell:∀(j:Nat) q,cs[j]?=some q->∃v,w.cell? ((ad.add off).add j)=some v∧Cc w (C1 s.hp β Y) β q v:=by
   intro j q hq;obtain ⟨hT,p,hp,hpT,hpv⟩:=hc j q hq;obtain ⟨v,hv,_,ht⟩:=hrd (off+j) p hp;exact ⟨v,by rw [add_add];exact hv,(Ng hT).2 (hpv w (C1 s.hp β Y) β v ((Ng hpT).2 ht)).1⟩
  have hrefs:∀q∈cs,Ay q=[]:=by
   intro q hq;obtain ⟨j,hj⟩:=List.mem_iff_getElem?.1 hq;exact Ik (hc j q hj).1
  rcases TV hk with ⟨hagg,hk2⟩|⟨hagg,q,rfl,hk2⟩
  ·obtain ⟨val,hlv,hv⟩:=CE hok hl hna hcell (.inl ⟨hagg,rfl⟩);refine ⟨_,_,val,hk2,hax,hlv,hv,fun i hi=>?_⟩
   obtain ⟨q,hq,hi⟩:=List.mem_flatMap.1 (show i∈cs.flatMap Ay from hi)
   rw [hrefs q hq] at hi;cases hi
  ·obtain ⟨val,hlv,hv⟩:=CE hok hl hna hcell (.inr ⟨hagg,rfl⟩);refine ⟨_,_,val,hk2,hax,hlv,hv,fun i hi=>?_⟩
   have hn:=hna q (by simp)
   rw [ZR hn.1 hn.2,hrefs q (by simp)] at hi
   cases hi
 ·cases hk
theorem XV (h:B4 N w0 X0 Y β s a w){t:TypeId}{x:PV}{u:Value}(hx:Dx w (C1 s.hp β Y) β x u) {K:PV->Option R}(hk:DW P (rd s.hp) (Kz s.hp) t x K=some r):
  ∃v ad val,K v=some r∧u=.pointer (some ad)∧(loadVar t ad).run P w=.ok val w∧Dx w (C1 s.hp β Y) β v val∧∀i∈Bx v,s.hp i≠none:=by
 rcases Alq hk with hk|hk
 ·exact QL h hx hk
 ·obtain ⟨v,ad,val,h1,h2,h3,h4,h5⟩:=QL h hx hk;exact ⟨Aee v,ad,val,h1,h2,h3,Afx h4,by rw [Aez];exact h5⟩
theorem Abb (h:B4 N w0 X0 Y β s a w){t:TypeId}{x:Operand}(ho:o.op=.load t x){K:PV->Option R}(hk:DW P (rd s.hp) (Kz s.hp) t (Cm s.tm x) K=some r):
  ∃v,K v=some r∧Fi P a w o Y β s v [] []:=by
 obtain ⟨v,ad,val,hk1,hax,hl,hv,hr⟩:=XV h (Df h x) hk;refine ⟨v,hk1,Ch ?_ hv hr⟩;unfold execOp;rw [ho];simp [Instr.loadAt,Instr.sureAddr,hax,hl]
theorem Afz {x:PV}{d:Nat}{K:PV->Option R}(h:V5 x d K=some r):(∃id off,x=.ptr id off∧K (.ptr id (off+d))=some r)∨∃c off,x=.iptr c off∧K (.iptr c (off+d))=some r:=by
 unfold V5 at h;split at h
 ·exact .inl ⟨_,_,rfl,h⟩
 ·exact .inr ⟨_,_,rfl,h⟩
 ·cases h
theorem Z9 (h:B4 N w0 X0 Y β s a w){x:Operand}{d:Nat}{K:PV->Option R}(hk:V5 (Cm s.tm x) d K=some r)
  (hrun:∀ad:Addr,a.eval x=.pointer (some ad)->(execOp a.eval o).run P w=.ok (.value (.pointer (some (ad.add d)))) w):∃v,K v=some r∧Fi P a w o Y β s v [] []:=by
 have hx:=Df h x;have hxr:=Fu h x;rcases Afz hk with ⟨id,off,e,hk⟩|⟨c,off,e,hk⟩
 ·rw [e] at hx hxr;obtain ⟨b,ob,hβ,hax⟩:=hx;refine ⟨_,hk,Ch (hrun _ hax) ⟨b,ob,hβ,by rw [D6,Nat.add_assoc]⟩ hxr⟩
 ·rw [e] at hx;obtain ⟨ad,hax,h1,h2,h3,h4⟩:=hx;exact ⟨_,hk,Ch (hrun _ hax) ⟨ad,by rw [add_add],h1,h2,h3,h4⟩ (by intro i hi;cases hi)⟩
theorem LH (h:B4 N w0 X0 Y β s a w){x:Operand}(ho:o.op=.nilCheck x){K:PV->Option R}(hk:V5 (Cm s.tm x) 0 K=some r):∃v,K v=some r∧Fi P a w o Y β s v [] []:=by
 refine Z9 h hk fun ad hax=>?_
 unfold execOp;rw [ho];simp [hax,Addr.add]
theorem CO {t:TypeId}{f:Nat}{q:Nat × TypeId}(h:Ti P t f=some q):∃fs g,P.underlying t=some (.struct fs)∧fs[f]?=some g∧q=(g.offset,g.type):=by
 unfold Ti at h;split at h
 ·rename_i fs e;cases hg:fs[f]? with
  |none=>rw [hg] at h;cases h
  |some g=>rw [hg] at h;simp at h;exact ⟨fs,g,e,hg,h.symm⟩
 ·cases h
theorem HX (h:B4 N w0 X0 Y β s a w){t:TypeId}{x:Operand}{f:Nat}(ho:o.op=.fieldAddr t x f){K:PV->Option R}
  (hk:(E5 (Ti P t f) fun q=>Au (Nat.ble 1 (Bi P q.2)) (V5 (Cm s.tm x) q.1 K))=some r):∃v,K v=some r∧Fi P a w o Y β s v [] []:=by
 obtain ⟨q,hq,hk⟩:=Dd hk;obtain ⟨hs,hk⟩:=Ax hk;obtain ⟨fs,g,hu,hg,rfl⟩:=CO hq;have hs:1<=Bi P g.type:=Nat.le_of_ble_eq_true hs;have hsz:=Agw (P:=P) (t:=g.type) rfl (by omega)
 refine Z9 h hk fun ad hax=>?_
 unfold execOp;rw [ho];have hne:¬Bi P g.type=0:=by omega
 simp [Instr.fieldAt,run_underlying hu,hg,Instr.sureAddr,hax,fieldPlace,Md hsz,hne]
end
open Go.RowKit
section
variable {R:Type} {r:R} {P:Program} {N:Nat} {w0:World} {X0:Fh} {Y:Nat->Prop} {β β':Bt} {s:St} {a:Act} {w w':World} {o:Oper} {A:Nat->Prop}
theorem KG (h:B4 N w0 X0 Y β s a w){t:TypeId}{cs:List PV}{vs:List Value}{off:Nat}{K:PV->Option R}{x:Operand}(hx:Cm s.tm x=.agg cs)(hv:Bk (Cc w (C1 s.hp β Y) β) cs vs)
  (hk:Au (J2 P t) (Ry (Iz P t) cs off fun c=>mkV (Cv P t) c K)=some r)
  (hrun:∀val,(part t ⟨vs⟩ off).run P w=.ok val w->(execOp a.eval o).run P w=.ok (.value val) w):∃v,K v=some r∧Fi P a w o Y β s v [] []:=by
 obtain ⟨hok,hk⟩:=Ax hk;obtain ⟨⟨d,hd⟩,hl,hi⟩:=Th hok;obtain ⟨qs,hk,hql,hna,hq⟩:=Wi hk;have hxr:=Fu h x;rw [hx] at hxr
 have hcell:∀(j:Nat) q,qs[j]?=some q->∃v,vs[off+j]?=some v∧Cc w (C1 s.hp β Y) β q v:=by
  intro j q hj;obtain ⟨p,hp,_,_,hpv⟩:=hq j q hj;obtain ⟨v,hv',hc⟩:=hv.get hp;exact ⟨v,hv',(hpv _ _ _ _ hc).1⟩
 have hrefs:∀q∈qs,∀i∈Ay q,s.hp i≠none:=by
  intro q hqm i hi;obtain ⟨j,hj⟩:=List.mem_iff_getElem?.1 hqm;obtain ⟨p,hp,_,hpr,_⟩:=hq j q hj;exact hxr i (List.mem_flatMap.2 ⟨p,List.mem_of_getElem? hp,hpr i hi⟩)
 rcases TV hk with ⟨hagg,hk2⟩|⟨hagg,q,rfl,hk2⟩
 ·have hle:Bi P t=0∨off+Bi P t<=vs.length:=by
   rcases Nat.eq_zero_or_pos (Bi P t) with h0|h0
   ·exact .inl h0
   ·obtain ⟨v,hv',_⟩:=hcell (Bi P t-1) _ (List.getElem?_eq_getElem (by omega))
    have:off+(Bi P t-1)<vs.length:=by
     rcases Nat.lt_or_ge (off+(Bi P t-1)) vs.length with h|h
     ·exact h
     ·rw [List.getElem?_eq_none h] at hv';cases hv'
    exact .inr (by omega)
  refine ⟨_,hk2,Ch (hrun (.agg ⟨(vs.drop off).take (Bi P t)⟩) ?_) ⟨(vs.drop off).take (Bi P t),rfl,?_⟩ fun i hi=>?_⟩
  ·simp only [part,Sem.run_bind,Sf hd,hagg,Result.andThen_ok,if_true,Md hi];simp [List.extract_eq_take_drop]
  ·refine Bk.of_at ?_ fun i c u hc hu=>?_
   ·simp only [List.length_take,List.length_drop];omega
   ·obtain ⟨v,hv',hcv⟩:=hcell i c hc
    have hlt:i<Bi P t:=by
     rcases Nat.lt_or_ge i qs.length with h|h
     ·omega
     ·rw [List.getElem?_eq_none h] at hc;cases hc
    rw [List.getElem?_take_of_lt hlt,List.getElem?_drop,hv'] at hu;cases hu;exact hcv
  ·obtain ⟨q,hqm,hi⟩:=List.mem_flatMap.1 (show i∈qs.flatMap Ay from hi)
   exact hrefs q hqm i hi
 ·obtain ⟨v,hv',hcv⟩:=hcell 0 q rfl;have hn:=hna q (by simp)
  refine ⟨_,hk2,Ch (hrun v ?_) ((Pb hn.2).2 ((Uu hn.1).2 hcv)) fun i hi=>?_⟩
  ·simp only [part,Sem.run_bind,Sf hd,hagg,Result.andThen_ok];rw [Nat.add_zero] at hv';simp [hv']
  ·rw [ZR hn.1 hn.2] at hi;exact hrefs q (by simp) i hi
theorem WL (h:B4 N w0 X0 Y β s a w){t:TypeId}{x:Operand}{f:Nat}(ho:o.op=.field t x f){K:PV->Option R}
  (hk:(E5 (Ti P t f) fun q=>Au (J2 P q.2)<|C4 (Cm s.tm x) fun cs=>Ry (Iz P q.2) cs q.1 fun c=>mkV (Cv P q.2) c K)=some r):∃v,K v=some r∧Fi P a w o Y β s v [] []:=by
 obtain ⟨q,hq,hk⟩:=Dd hk;obtain ⟨hok,hk⟩:=Ax hk;obtain ⟨cs,hx,hk⟩:=Id hk;obtain ⟨fs,g,hu,hg,rfl⟩:=CO hq;have hxv:=Df h x;rw [hx] at hxv;obtain ⟨vs,hax,hv⟩:=hxv;refine KG (t:=g.type) (off:=g.offset) h hx hv (by rw [show J2 P g.type=true from hok];exact hk) fun val hp=>?_
 unfold execOp;rw [ho];simp [Instr.field,run_underlying hu,hg,asAgg,hax,hp]
theorem OC (h:B4 N w0 X0 Y β s a w){x:Operand}{i:Nat}(ho:o.op=.extract x i){K:PV->Option R}
  (hk:(match Cm s.tm x with | .tup vs=>E5 vs[i]? K|_=>none)=some r):∃v,K v=some r∧Fi P a w o Y β s v [] []:=by
 have hx:=Df h x;have hxr:=Fu h x;split at hk
 ·rename_i ps e;rw [e] at hx hxr;obtain ⟨p,hp,hk⟩:=Dd hk;obtain ⟨vs,hax,hv⟩:=hx;obtain ⟨v,hv',hpv⟩:=hv.get hp
  have hntup:∀y,p ≠ .tup y:=by
   rintro y rfl
   have hpv':A7 _ _ (.tup y) v:=hpv;cases hpv'
  refine ⟨p,hk,Ch (val:=v) ?_ ((Pb hntup).2 hpv) fun id hid=>hxr id ?_⟩
  ·unfold execOp;rw [ho];simp [Instr.extract,hax,hv']
  ·refine List.mem_flatMap.2 ⟨p,List.mem_of_getElem? hp,?_⟩;cases p<;>first|exact hid|exact absurd rfl (hntup _)
 ·cases hk
theorem Ia {es:Nat}{p:PV}{z:Bool}{n:Nat}{c:List PV}{v:Value}(hp:p=.lst z es n c∨(p=.sc (.slice none 0 0)∧z=true∧n=0∧c=[])) (hv:Dx w A β p v):
  (v=.slice none 0 0∧n=0∧c=[])∨(∃ad cap,v=.slice (some ad) n cap∧z=false∧n<=cap∧ad.spot=none∧ad.block<w.heap.size∧¬A ad.block∧QC w A ad c)∨∃ad cap,v=.slice (some ad) 0 cap∧z=false∧n=0∧c=[]:=by
 have hv':Cc w A β p v:=by rcases hp with rfl|⟨rfl,_⟩<;>exact hv
 have ht:=Zv hp hv';cases ht with
 |lnil=>exact .inl ⟨rfl,rfl,rfl⟩
 |lst _ _ _ ad cap f hs hb hA hn hc h1 hr=>exact .inr (.inl ⟨ad,cap,rfl,rfl,hn,hs,hb,hA,fun j q hj=>⟨f j,hc j q hj,h1 j q hj,hr j q hj⟩⟩)
 |lemp _ ad cap=>exact .inr (.inr ⟨ad,cap,rfl,rfl,rfl,rfl⟩)
theorem HZ (h:B4 N w0 X0 Y β s a w){t:TypeId}{x i:Operand}(ho:o.op=.indexAddr t x i){K:PV->Option R}
  (hk:(Dw (Cm s.tm i) fun _ n=>Mn P t (Cm s.tm x) n K)=some r):∃v,K v=some r∧Fi P a w o Y β s v [] []:=by
 obtain ⟨ik,n,hi,hk⟩:=Dp hk;have hai:=Cx h hi;have hx:=Df h x;have hxr:=Fu h x;unfold Mn at hk;split at hk
 ·rename_i len e hu;obtain ⟨hz,hk⟩:=Ax hk;obtain ⟨hb,hk⟩:=Ax hk;simp only [Bool.and_eq_true,decide_eq_true_eq] at hb;obtain ⟨inf,hinf⟩:=Option.isSome_iff_exists.1 hz;refine Z9 h hk fun ad hax=>?_
  unfold execOp;rw [ho];simp [Instr.indexAt,asIntOf,hai,hax,run_underlying hu,Instr.sureAddr,hb.1,hb.2,sizeOf,typeInfo,hinf,Bi]
 ·rename_i e hu;obtain ⟨hz,hk⟩:=Ax hk;obtain ⟨inf,hinf⟩:=Option.isSome_iff_exists.1 hz;have hsz:Bi P e=inf.size:=by simp [Bi,hinf]
  split at hk
  ·rename_i id es off n' e';rw [e'] at hx hxr;obtain ⟨hes,hk⟩:=Ax hk;have hes:=Nat.eq_of_beq_eq_true hes;subst hes;obtain ⟨hb,hk⟩:=Ax hk;simp only [Bool.and_eq_true,decide_eq_true_eq] at hb;rcases hx with ⟨_,_,rfl,_⟩|⟨b,ob,y,cap,hβ,hax,hy,_⟩
   ·omega
   ·have hy:y=ob+off:=by rcases hy with hy|⟨rfl,_⟩<;>omega
    subst hy;refine ⟨_,hk,Ch (val:=.pointer (some ⟨b,ob+(off+n.toNat*Bi P e),none⟩)) ?_ ⟨b,ob,hβ,rfl⟩ hxr⟩;unfold execOp;rw [ho];simp [Instr.indexAt,asIntOf,hai,hax,run_underlying hu,hb.1,hb.2,sizeOf,typeInfo,hinf,hsz,D6,Nat.add_assoc]
  ·obtain ⟨z,n',c,hk,hp⟩:=Gt hk;obtain ⟨hb,hk⟩:=Ax hk;simp only [Bool.and_eq_true,decide_eq_true_eq] at hb;rcases Ia hp hx with ⟨_,rfl,_⟩|⟨ad,cap,hax,_,_,h1,h2,h3,h4⟩|⟨_,_,_,_,rfl,_⟩
   ·omega
   rotate_left
   ·omega
   ·refine ⟨_,hk,Ch (val:=.pointer (some (ad.add (n.toNat*Bi P e)))) ?_ ⟨ad,rfl,h1,h2,h3,h4⟩ (by intro i hi;cases hi)⟩
    unfold execOp;rw [ho];simp [Instr.indexAt,asIntOf,hai,hax,run_underlying hu,hb.1,hb.2,sizeOf,typeInfo,hinf,hsz]
 ·cases hk
theorem XW (h:B4 N w0 X0 Y β s a w){t:TypeId}{x i:Operand}(ho:o.op=.index t x i){K:PV->Option R}
  (hk:(Dw (Cm s.tm i) fun _ n=>
   match P.underlying t with
   |some .string=>Cj (Cm s.tm x) fun s=>Au (decide (0<=n)) (E5 (s.data.toList[n.toNat]?) fun b=>K (.sc (.int .u8 b.toNat)))
   |some (.array len e)=>C4 (Cm s.tm x) fun cs=>Au (decide (0<=n)&&decide (n<len)&&J2 P e) (Ry (Iz P e) cs (n.toNat*Bi P e) fun c=>mkV (Cv P e) c K)
   |_=>none)=some r):∃v,K v=some r∧Fi P a w o Y β s v [] []:=by
 obtain ⟨ik,n,hi,hk⟩:=Dp hk;have hai:=Cx h hi;split at hk
 ·rename_i hu;obtain ⟨sb,hx,hk⟩:=Gb hk;have hax:=Cx h hx;obtain ⟨h0,hk⟩:=Ax hk;obtain ⟨b,hb,hk⟩:=Dd hk;have h0:=of_decide_eq_true h0;refine ⟨_,hk,C7 ?_⟩
  have hlt:n.toNat<sb.size:=by
   rcases Nat.lt_or_ge n.toNat sb.data.toList.length with h|h
   ·simpa using h
   ·rw [List.getElem?_eq_none h] at hb;cases hb
  have hb':sb[n.toNat]=b:=by
   have:sb.data.toList[n.toNat]?=some sb[n.toNat]:=by
    rw [List.getElem?_eq_getElem (by simpa using hlt)]
    rfl
   rw [hb] at this;injection this with this;exact this.symm
  unfold execOp;rw [ho];simp [Instr.index,asIntOf,hai,hax,run_underlying hu,h0,hlt,hb']
 ·rename_i len e hu;obtain ⟨cs,hx,hk⟩:=Id hk;obtain ⟨hb,hk⟩:=Ax hk;simp only [Bool.and_eq_true,decide_eq_true_eq] at hb;have hxv:=Df h x;rw [hx] at hxv;obtain ⟨vs,hax,hv⟩:=hxv;obtain ⟨_,_,hsz⟩:=Th hb.2;refine KG (t:=e) (off:=n.toNat*Bi P e) h hx hv (by rw [hb.2];exact hk) fun val hp=>?_
  unfold execOp;rw [ho];simp [Instr.index,asIntOf,hai,hax,run_underlying hu,hb.1.1,hb.1.2,Md hsz,hp]
 ·cases hk
end
open Go.RowKit
section
variable {R:Type} {r:R} {P:Program} {N:Nat} {w0:World} {X0:Fh} {Y:Nat->Prop} {β β':Bt} {s:St} {a:Act} {w w':World} {o:Oper} {A:Nat->Prop}
theorem Ii (h:B4 N w0 X0 Y β s a w){x:Option Operand}{dflt:Nat}{K:Nat->Option R}(hk:Nv (x.map (Cm s.tm)) dflt K=some r):
  ∃l,K l=some r∧((x=none∧l=dflt)∨∃y k,x=some y∧a.eval y=.int k (l:Int)):=by
 cases x with
 |none=>exact ⟨dflt,hk,.inl ⟨rfl,rfl⟩⟩
 |some y=>
  obtain ⟨k,i,hi,hk⟩:=Dp (show Dw (Cm s.tm y) _=some r from hk)
  obtain ⟨h0,hk⟩:=Ax hk;have h0:=of_decide_eq_true h0;exact ⟨i.toNat,hk,.inr ⟨y,k,rfl,by rw [Cx h hi,Int.toNat_of_nonneg h0]⟩⟩
theorem Ji {lo hi:Option Operand}{isS:Bool}{len cap l u:Nat}(hl:(lo=none∧l=0)∨∃y k,lo=some y∧a.eval y=.int k (l:Int))
  (hu:(hi=none∧u=len)∨∃y k,hi=some y∧a.eval y=.int k (u:Int)) (h1:l<=u)(h2:u<=cap):
  (Instr.sliceBounds isS len cap (lo.map a.eval) (hi.map a.eval) none).run P w=.ok (l,u,cap) w:=by
 rcases hl with ⟨rfl,rfl⟩|⟨y,k,rfl,hy⟩<;>rcases hu with ⟨rfl,rfl⟩|⟨y',k',rfl,hy'⟩
 ·simp [Instr.sliceBounds]
 ·simp [Instr.sliceBounds,Instr.sliceBound,asIntOf,hy',h2]
 ·simp [Instr.sliceBounds,Instr.sliceBound,asIntOf,hy,h1]
 ·simp [Instr.sliceBounds,Instr.sliceBound,asIntOf,hy,hy',h1,h2]
theorem Eh {e:TypeId}(h:(P.info? e).isSome=true) (w:World):(sizeOf e).run P w=.ok (Bi P e) w:=by
 obtain ⟨i,hi⟩:=Option.isSome_iff_exists.1 h;exact Md (by simp [Bi,hi]) w
theorem KZ {b j:Nat}{v:Value}(h:w.cell? ⟨b,j,none⟩=some v):j<bsz w b:=by
 unfold World.cell? at h;unfold bsz;split at h
 ·rename_i c e fz hb;simp only at hb;rw [hb];simp only [Option.isSome_none,Bool.false_eq_true,if_false] at h;rcases Nat.lt_or_ge j c.size with hlt|hge
  ·exact hlt
  ·rw [Array.getElem?_eq_none hge] at h;cases h
 ·cases h
theorem XA (h:B4 N w0 X0 Y β s a w){t:TypeId}{x:Operand}{lo hi:Option Operand}(ho:o.op=.slice t x lo hi none){K:PV->Option R}
  (hk:FD P (rd s.hp) t (Cm s.tm x) (lo.map (Cm s.tm)) (hi.map (Cm s.tm)) K=some r):∃v,K v=some r∧Fi P a w o Y β s v [] []:=by
 have hx:=Df h x;have hxr:=Fu h x;unfold FD at hk;split at hk
 ·rename_i hu;obtain ⟨sb,hxs,hk⟩:=Gb hk;have hax:=Cx h hxs;obtain ⟨l,hk,hl⟩:=Ii h hk;obtain ⟨u,hk,hu'⟩:=Ii h hk;obtain ⟨hb,hk⟩:=Ax hk;simp only [Bool.and_eq_true,decide_eq_true_eq] at hb;refine ⟨_,hk,C7 ?_⟩;unfold execOp;rw [ho];simp [Instr.sliceAt,Instr.slice,run_underlying hu,hax,Ji hl hu' hb.1 hb.2]
 ·rename_i e hu;obtain ⟨hinf,hk⟩:=Ax hk;split at hk
  ·rename_i id es off n e';rw [e'] at hx hxr;obtain ⟨hes,hk⟩:=Ax hk;have hes:=Nat.eq_of_beq_eq_true hes;subst hes;obtain ⟨l,hk,hl⟩:=Ii h hk;obtain ⟨u,hk,hu'⟩:=Ii h hk;obtain ⟨hb,hk⟩:=Ax hk;simp only [Bool.and_eq_true,decide_eq_true_eq] at hb;rcases hx with ⟨hβ,rfl,rfl,hax⟩|⟨b,ob,y,cap,hβ,hax,hy,hn,hcap,hlt⟩
   ·have hu0:u=0:=by omega
    have hl0:l=0:=by omega
    subst hu0 hl0;refine ⟨_,hk,Ch (val:=.slice none 0 0) ?_ (.inl ⟨hβ,by simp,rfl,rfl⟩) hxr⟩
    unfold execOp;rw [ho];simp [Instr.sliceAt,Instr.slice,run_underlying hu,hax,Ji hl hu' (Nat.le_refl 0) (Nat.le_refl 0),Eh hinf]
   ·have hrun:(execOp a.eval o).run P w=.ok (.value (.slice (some (if cap=l then ⟨b,y,none⟩ else ⟨b,y+l*Bi P e,none⟩)) (u-l) (cap-l))) w:=by
     unfold execOp;rw [ho];have hbr:=Ji (P:=P) (w:=w) (isS:=true) hl hu' hb.1 (Nat.le_trans hb.2 hn);simp [Instr.sliceAt,Instr.slice,run_underlying hu,hax,hbr,Eh hinf,D6];split<;>rfl
    refine ⟨_,hk,Ch hrun (.inr ?_) hxr⟩;by_cases hc:cap=l
    ·rw [if_pos hc];refine ⟨b,ob,y,cap-l,hβ,rfl,?_,by omega,by rw [hc,Nat.sub_self];omega,hlt⟩
     by_cases h0:l*Bi P e=0
     ·rw [h0,Nat.add_zero];rcases hy with hy|⟨hn0,hoff⟩
      ·exact .inl hy
      ·exact .inr ⟨by omega,hoff⟩
     ·exact .inr ⟨by omega,by omega⟩
    ·rw [if_neg hc];refine ⟨b,ob,y+l*Bi P e,cap-l,hβ,rfl,?_,by omega,?_,hlt⟩
     ·rcases hy with hy|⟨hn0,hoff⟩
      ·exact .inl (by omega)
      ·exact .inr ⟨by omega,by omega⟩
     ·have:l*Bi P e+(cap-l)*Bi P e=cap*Bi P e:=by
       rw [←Nat.add_mul]
       congr 1
       omega
      omega
  ·obtain ⟨z,n,c,hk,hp⟩:=Gt hk;obtain ⟨l,hk,hl⟩:=Ii h hk;obtain ⟨u,hk,hu'⟩:=Ii h hk;obtain ⟨hb,hk⟩:=Ax hk;simp only [Bool.and_eq_true,decide_eq_true_eq] at hb;rcases Ia hp hx with ⟨hax,rfl,rfl⟩|⟨ad,cap,hax,rfl,hn,h1,h2,h3,h4⟩|⟨ad,cap,hax,rfl,rfl,rfl⟩
   rotate_right
   ·have hu0:u=0:=by omega
    have hl0:l=0:=by omega
    subst hu0 hl0;refine ⟨_,hk,Ch (val:=.slice (some (if cap=0 then ad else ad.add (0*Bi P e))) (0-0) (cap-0)) ?_ ?_ (by intro i hi;cases hi)⟩
    ·unfold execOp;rw [ho];have hbr:=Ji (P:=P) (w:=w) (isS:=true) hl hu' (Nat.le_refl 0) (Nat.zero_le cap);simp [Instr.sliceAt,Instr.slice,run_underlying hu,hax,hbr,Eh hinf];split<;>rfl
    ·have:((([]:List PV).drop (0*Bi P e)).take ((0-0)*Bi P e))=[]:=by simp
     rw [this];exact A7.lemp _ _ _
   ·have hu0:u=0:=by omega
    have hl0:l=0:=by omega
    subst hu0 hl0;refine ⟨_,hk,Ch (val:=.slice none 0 0) ?_ ?_ (by intro i hi;cases hi)⟩
    ·unfold execOp;rw [ho];simp [Instr.sliceAt,Instr.slice,run_underlying hu,hax,Ji hl hu' (Nat.le_refl 0) (Nat.le_refl 0),Eh hinf]
    ·have:((([]:List PV).drop (0*Bi P e)).take ((0-0)*Bi P e))=[]:=by simp
     rw [this];exact A7.lnil z _
   ·have hrun:(execOp a.eval o).run P w=.ok (.value (.slice (some (if cap=l then ad else ad.add (l*Bi P e))) (u-l) (cap-l))) w:=by
     unfold execOp;rw [ho];have hbr:=Ji (P:=P) (w:=w) (isS:=true) hl hu' hb.1 (Nat.le_trans hb.2 hn);simp [Instr.sliceAt,Instr.slice,run_underlying hu,hax,hbr,Eh hinf];split<;>rfl
    refine ⟨_,hk,Ch hrun ?_ (by intro i hi;cases hi)⟩
    by_cases hc:cap=l
    ·rw [if_pos hc];have:u-l=0:=by omega
     rw [this];simp only [Nat.zero_mul,List.take_zero];exact A7.lst _ _ [] ad _ (fun _=>undef) h1 h2 h3 (by omega) (by simp) (by simp) (by simp)
    ·rw [if_neg hc]
     have hcell:∀(j:Nat) q,((c.drop (l*Bi P e)).take ((u-l)*Bi P e))[j]?=some q->c[l*Bi P e+j]?=some q:=by
      intro j q hq;rw [List.getElem?_take] at hq;split at hq
      ·rw [List.getElem?_drop] at hq;exact hq
      ·cases hq
     refine A7.lst _ _ _ (ad.add (l*Bi P e)) _ (fun j=>(w.cell? (ad.add (l*Bi P e+j))).getD undef) (Aik h1 _) (by rw [F8];exact h2) (by rw [F8];exact h3) (by omega) (fun j q hq=>?_) (fun j q hq=>?_) (fun j q hq=>?_)
     ·obtain ⟨v,hv,_⟩:=h4 _ q (hcell j q hq);rw [add_add,hv];rfl
     ·obtain ⟨v,hv,h5,_⟩:=h4 _ q (hcell j q hq);rw [hv];exact h5
     ·obtain ⟨v,hv,_,ht⟩:=h4 _ q (hcell j q hq);rw [hv];exact ht
 ·rename_i n e hu;obtain ⟨hinf,hk⟩:=Ax hk;split at hk
  ·rename_i id off e';rw [e'] at hx hxr;obtain ⟨c,hrc,hk⟩:=Dd hk;obtain ⟨hlen,hk⟩:=Ax hk;simp only [Bool.and_eq_true,decide_eq_true_eq] at hlen;obtain ⟨l,hk,hl⟩:=Ii h hk;obtain ⟨u,hk,hu'⟩:=Ii h hk;obtain ⟨hb,hk⟩:=Ax hk;simp only [Bool.and_eq_true,decide_eq_true_eq] at hb;obtain ⟨b,ob,hβ,hax⟩:=hx
   have hbs:ob+off+n*Bi P e<=bsz w b:=by
    obtain ⟨v,hv,_⟩:=KL h hrc hβ (j:=off+n*Bi P e-1) (List.getElem?_eq_getElem (by omega))
    have:=KZ hv;omega
   have hlt:b<w.heap.size:=h.blt id b ob (hxr id (by simp [Bx,Cf,Ay])) hβ
   have hrun:(execOp a.eval o).run P w=.ok (.value (.slice (some (if n=l then ⟨b,ob+off,none⟩ else ⟨b,ob+off+l*Bi P e,none⟩)) (u-l) (n-l))) w:=by
    unfold execOp;rw [ho];have hbr:=Ji (P:=P) (w:=w) (isS:=false) hl hu' hb.1 hb.2;simp [Instr.sliceAt,Instr.sureAddr,run_underlying hu,hax,hbr,Eh hinf,D6]
   refine ⟨_,hk,Ch hrun (.inr ?_) hxr⟩;by_cases hc:n=l
   ·rw [if_pos hc];refine ⟨b,ob,ob+off,n-l,hβ,rfl,?_,by omega,by rw [hc,Nat.sub_self];omega,hlt⟩
    by_cases h0:l*Bi P e=0
    ·rw [h0,Nat.add_zero];exact .inl rfl
    ·exact .inr ⟨by omega,by omega⟩
   ·rw [if_neg hc];refine ⟨b,ob,ob+off+l*Bi P e,n-l,hβ,rfl,.inl (by omega),by omega,?_,hlt⟩
    have:l*Bi P e+(n-l)*Bi P e=n*Bi P e:=by
     rw [←Nat.add_mul]
     congr 1
     omega
    omega
  ·cases hk
 ·cases hk
end
open Go.RowKit
section
variable {R:Type} {r:R} {P:Program} {N:Nat} {w0:World} {X0:Fh} {Y:Nat->Prop} {β β':Bt} {s:St} {a:Act} {w w':World} {o:Oper} {A:Nat->Prop}
theorem Ae2 (h:B4 N w0 X0 Y β s a w){c:Call}(ho:o.op=.call c)(hc:c.callee=.builtin .len){K:PV->Option R}
  (hk:(Ab c.args.toList fun x _=>Ab c.argTypes.toList fun t _=>Ae6 P t (Cm s.tm x) fun n=>K (.sc (.int .i64 n)))=some r):∃v,K v=some r∧Fi P a w o Y β s v [] []:=by
 obtain ⟨x,xs,hxs,hk⟩:=Be hk;obtain ⟨t,ts,hts,hk⟩:=Be hk;have hx:=Df h x;have hargs:c.args=(x::xs).toArray:=by rw [←hxs]
 have htys:c.argTypes=(t::ts).toArray:=by rw [←hts]
 have hrun:∀n:Nat,(Builtin.len_ c.argTypes o.type (c.args.map a.eval)).run P w=.ok (.int .i64 n) w->(execOp a.eval o).run P w=.ok (.value (.int .i64 n)) w:=by
  intro n hl;unfold execOp;rw [ho];simp only [resolve,hc,invoke,builtin,Sem.run_bind,Sem.run_pure,Result.andThen_ok,hl]
 unfold Ae6 at hk;split at hk
 ·rename_i hu;obtain ⟨sb,hxs',hk⟩:=Gb hk;have hax:=Cx h hxs';refine ⟨_,hk,C7 (hrun _ ?_)⟩;simp [Builtin.len_,hargs,htys,run_underlying hu,hax,goInt]
 ·rename_i n e hu;refine ⟨_,hk,C7 (hrun _ ?_)⟩;simp [Builtin.len_,hargs,htys,run_underlying hu,goInt]
 ·rename_i e hu;split at hk
  ·rename_i id es off n e';rw [e'] at hx;obtain ⟨_,hk⟩:=Ax hk;refine ⟨_,hk,C7 (hrun _ ?_)⟩;rcases hx with ⟨_,_,rfl,hax⟩|⟨b,ob,y,cap,_,hax,_⟩<;>simp [Builtin.len_,hargs,htys,run_underlying hu,hax,goInt]
  ·obtain ⟨z,n,cc,hk,hp⟩:=Gt hk;refine ⟨_,hk,C7 (hrun _ ?_)⟩;rcases Ia hp hx with ⟨hax,rfl,_⟩|⟨ad,cap,hax,_⟩|⟨ad,cap,hax,_,rfl,_⟩<;>simp [Builtin.len_,hargs,htys,run_underlying hu,hax,goInt]
 ·cases hk
theorem Afo (h:B4 N w0 X0 Y β s a w){c:Call}(ho:o.op=.call c)(hc:c.callee=.builtin .cap){K:PV->Option R}
  (hk:(Ab c.args.toList fun x _=>Ab c.argTypes.toList fun t _=>Aeb P t (Cm s.tm x) fun n=>K (.sc (.int .i64 n)))=some r):∃v,K v=some r∧Fi P a w o Y β s v [] []:=by
 obtain ⟨x,xs,hxs,hk⟩:=Be hk;obtain ⟨t,ts,hts,hk⟩:=Be hk;have hx:=Df h x;have hargs:c.args=(x::xs).toArray:=by rw [←hxs]
 have htys:c.argTypes=(t::ts).toArray:=by rw [←hts]
 have hrun:∀n:Nat,(Builtin.cap_ c.argTypes o.type (c.args.map a.eval)).run P w=.ok (.int .i64 n) w->(execOp a.eval o).run P w=.ok (.value (.int .i64 n)) w:=by
  intro n hl;unfold execOp;rw [ho];simp only [resolve,hc,invoke,builtin,Sem.run_bind,Sem.run_pure,Result.andThen_ok,hl]
 unfold Aeb at hk;split at hk
 ·rename_i e hu;obtain ⟨z,n,cc,hk,hp⟩:=Gt hk;obtain ⟨hz,hk⟩:=Ax hk;refine ⟨_,hk,C7 (hrun _ ?_)⟩;rcases Ia hp hx with ⟨hax,rfl,_⟩|⟨ad,cap,hax,hzf,_⟩|⟨ad,cap,hax,hzf,_,_⟩
  ·simp [Builtin.cap_,hargs,htys,run_underlying hu,hax,goInt]
  ·rw [hz] at hzf;cases hzf
  ·rw [hz] at hzf;cases hzf
 ·cases hk
theorem Aec (h:B4 N w0 X0 Y β s a w){c:Call}(ho:o.op=.call c)(hc:c.callee=.builtin .min){K:PV->Option R}
  (hk:(Ab c.args.toList fun x r=>Ab r fun y r'=>Ac r' (Ami (Cm s.tm x) (Cm s.tm y) K))=some r):∃v,K v=some r∧Fi P a w o Y β s v [] []:=by
 obtain ⟨x,xs,hxs,hk⟩:=Be hk;obtain ⟨y,ys,rfl,hk⟩:=Be hk;obtain ⟨rfl,hk⟩:=Dt hk;obtain ⟨k,n,hx,hk⟩:=Dp hk;obtain ⟨m,hy,hk⟩:=H8 hk
 have hargs:c.args = #[x,y]:=by
  have:c.args=([x,y]:List Operand).toArray:=by rw [←hxs]
  exact this
 refine ⟨_,hk,C7 ?_⟩;unfold execOp;rw [ho];simp [resolve,hc,invoke,builtin,hargs,Builtin.min_,Builtin.min2,Cx h hx,Cx h hy]
theorem Aen (h:B4 N w0 X0 Y β s a w){c:Call}(ho:o.op=.call c)(hc:c.callee=.builtin .max){K:PV->Option R}
  (hk:(Ab c.args.toList fun x r=>Ab r fun y r'=>Ac r' (Alv (Cm s.tm x) (Cm s.tm y) K))=some r):∃v,K v=some r∧Fi P a w o Y β s v [] []:=by
 obtain ⟨x,xs,hxs,hk⟩:=Be hk;obtain ⟨y,ys,rfl,hk⟩:=Be hk;obtain ⟨rfl,hk⟩:=Dt hk;obtain ⟨k,n,hx,hk⟩:=Dp hk;obtain ⟨m,hy,hk⟩:=H8 hk
 have hargs:c.args = #[x,y]:=by
  have:c.args=([x,y]:List Operand).toArray:=by rw [←hxs]
  exact this
 refine ⟨_,hk,C7 ?_⟩;unfold execOp;rw [ho];simp [resolve,hc,invoke,builtin,hargs,Builtin.max_,Builtin.max2,Cx h hx,Cx h hy]
theorem Abz (h:B4 N w0 X0 Y β s a w){op:UnOp}{t:TypeId}{x:Operand}(ho:o.op=.unOp op t x){K:PV->Option R}(hk:unK op (Cm s.tm x) K=some r):
  ∃v,K v=some r∧Fi P a w o Y β s v [] []:=by
 unfold unK at hk;split at hk
 ·obtain ⟨b,hb,hk⟩:=G0 hk;refine ⟨_,hk,C7 ?_⟩;unfold execOp;rw [ho];simp [Op.unary,Cx h hb]
 ·obtain ⟨k,n,hb,hk⟩:=Dp hk;refine ⟨_,hk,C7 ?_⟩;unfold execOp;rw [ho];simp [Op.unary,Op.intArith,Cx h hb]
 ·obtain ⟨k,n,hb,hk⟩:=Dp hk;refine ⟨_,hk,C7 ?_⟩;unfold execOp;rw [ho];simp [Op.unary,Op.intBits,Cx h hb,At1]
 ·cases hk
theorem Aek {op:BinOp}{k:IntKind}{m n:Int}{t:TypeId}{x y:Operand}{K:PV->Option R}(hs1:op ≠ .shl)(hs2:op ≠ .shr)(hk:KF op k m n K=some r):
  ∃v,K (.sc v)=some r∧(do eqGuard op t x y (.int k m) (.int k n);binOp op t (.int k m) (.int k n)).run P w=.ok v w:=by
 cases op<;>first
  |exact absurd rfl hs1
  |exact absurd rfl hs2
  |(obtain ⟨hb,hk⟩:=Ax hk;have hb:=of_decide_eq_true hb;exact ⟨_,hk,by simp [eqGuard,binOp,Op.intDiv,hb]⟩)
  |exact ⟨_,hk,by simp [eqGuard,binOp,-BitVec.toNat_and,-BitVec.toNat_or,-BitVec.toNat_xor,-gt_iff_lt,-ge_iff_le]<;>rfl⟩
theorem Ad0 {op:BinOp}{m n:ByteArray}{t:TypeId}{x y:Operand}{K:PV->Option R}(hk:LZ op m n K=some r):
  ∃v,K (.sc v)=some r∧(do eqGuard op t x y (.string m) (.string n);binOp op t (.string m) (.string n)).run P w=.ok v w:=by
 cases op<;>first
  |cases hk
  |(obtain ⟨hb,hk⟩:=Ax hk;have hb:=of_decide_eq_true hb;exact ⟨_,hk,by
    have hb':¬(((m.size+n.size:Nat):Int)>IntKind.i64.max):=by
     have:IntKind.i64.max=9223372036854775807:=rfl;rw [this];omega
    simp only [eqGuard,binOp,Op.stringOp,if_neg hb'];rfl⟩)
  |exact ⟨_,hk,by simp only [eqGuard,binOp,Op.stringOp,ByteArray.toList_eq];rfl⟩
end
open Go.RowKit
section
variable {R:Type} {r:R} {P:Program} {N:Nat} {w0:World} {X0:Fh} {Y:Nat->Prop} {β β':Bt} {s:St} {a:Act} {w w':World} {o:Oper} {A:Nat->Prop}
theorem MW {t:TypeId}(hu:P.underlying t=some .bool)(x y:Bool):(Op.equal t (.bool x) (.bool y)).run P w=.ok (x==y) w:=by
 have h:∀d,(Op.equalIn (d+1) t (.bool x) (.bool y)).run P w=.ok (x==y) w:=fun d=>by simp [Op.equalIn,run_underlying hu]
 exact h 9999
theorem Xq {t e:TypeId}(hu:P.underlying t=some (.slice e)) (x:Option Addr)(n c:Nat):(Op.equal t (.slice x n c) (.slice none 0 0)).run P w=.ok x.isNone w:=by
 have h:∀d,(Op.equalIn (d+1) t (.slice x n c) (.slice none 0 0)).run P w=.ok x.isNone w:=fun d=>by
  cases x<;>simp [Op.equalIn,run_underlying hu]
 exact h 9999
theorem Vy {t:TypeId}(d:Nat){v u:Value}(hv:(∃k m n,P.underlying t=some (.int k)∧v=.int k m∧u=.int k n)∨(∃m n,P.underlying t=some .bool∧v=.bool m∧u=.bool n)∨∃m n,P.underlying t=some .string∧v=.string m∧u=.string n) {b:Bool}
  (hb:∀k m n,v=.int k m->u=.int k n->b=(m==n)) (hb':∀m n,v=.bool m->u=.bool n->b=(m==n)) (hb'':∀m n,v=.string m->u=.string n->b=(m==n)):(Op.equalIn (d+1) t v u).run P w=.ok b w:=by
 rcases hv with ⟨k,m,n,hu,rfl,rfl⟩|⟨m,n,hu,rfl,rfl⟩|⟨m,n,hu,rfl,rfl⟩
 ·rw [hb k m n rfl rfl];simp [Op.equalIn,run_underlying hu]
 ·rw [hb' m n rfl rfl];simp [Op.equalIn,run_underlying hu]
 ·rw [hb'' m n rfl rfl];simp [Op.equalIn,run_underlying hu]
theorem MQ {t:TypeId}{dsc:TypeDesc}(hu:P.underlying t=some dsc)(hd:Cv P t=false){xs:Array Value}{i:Nat}{v:Value}(hv:xs[i]?=some v):(part t xs i).run P w=.ok v w:=by
 simp only [part,Sem.run_bind,Sf hu,hd,Result.andThen_ok];simp [hv]
theorem Adx (d : Nat) : ∀ (fs : List Field) (i : Nat) (xs ys : Array Value) (ps qs : List PV) (K : Bool -> Option R), MM P fs i = true -> KI (fs.map (fty P)) ps qs K = some r ->
    (∀ (j : Nat) p, ps[j]? = some p -> ∃ v, xs[i + j]? = some v ∧ Cc w A β p v) -> (∀ (j : Nat) p, qs[j]? = some p -> ∃ v, ys[i + j]? = some v ∧ Cc w A β p v) ->
    ∃ b, K b = some r ∧ (forIn fs ((none, ()) : Option Bool × Unit) fun (f : Field) (_ : Option Bool × Unit) =>
            if f.name = "_" then pure (ForInStep.yield ((none, ()) : Option Bool × Unit))
            else do
              let x ← part f.type xs f.offset
              let y ← part f.type ys f.offset
              let e ← Op.equalIn (d + 1) f.type x y
              if e = false then pure (ForInStep.done ((some false, ()) : Option Bool × Unit)) else pure (ForInStep.yield ((none, ()) : Option Bool × Unit)) : Sem (Option Bool × Unit)).run P w = .ok (if b then (none, ()) else (some false, ())) w
  | [], i, xs, ys, ps, qs, K, _, hk, _, _ => by
    cases ps with
    | nil => cases qs with
      | nil => exact ⟨true, hk, by simp⟩
      | cons q qs => cases hk
    | cons p ps => cases hk
  | f :: fs, i, xs, ys, ps, qs, K, hfl, hk, hp, hq => by
    simp only [MM, Bool.and_eq_true] at hfl
    obtain ⟨⟨⟨hoff, hname⟩, hty⟩, hrest⟩ := hfl
    have hoff := Nat.eq_of_beq_eq_true hoff
    have hname' : f.name ≠ "_" := by simpa using hname
    cases ps with
    | nil =>
      simp only [List.map_cons] at hk
      cases hfty : fty P f <;> rw [hfty] at hk <;> cases hk
    | cons p ps =>
      cases qs with
      | nil =>
        simp only [List.map_cons] at hk
        cases hfty : fty P f <;> rw [hfty] at hk <;> cases hk
      | cons q qs =>
        obtain ⟨v, hv, hpv⟩ := hp 0 p rfl
        obtain ⟨u, hu, hqu⟩ := hq 0 q rfl
        rw [Nat.add_zero] at hv hu
        have main : ∃ b0 dsc, P.underlying f.type = some dsc ∧ Cv P f.type = false ∧ (Op.equalIn (d + 1) f.type v u).run P w = .ok b0 w ∧ KI (fs.map (fty P)) ps qs (fun r => K (b0 && r)) = some r := by
          simp only [List.map_cons] at hk
          unfold fty at hk
          split at hk
          · rename_i k hun
            obtain ⟨m, hpm, hk1⟩ := H8 (show Ad k p _ = some r from hk)
            obtain ⟨n, hqn, hk2⟩ := H8 hk1
            subst hpm hqn
            have hv' : v = .int k m := A7.val (w := w) (A := A) hpv
            have hu' : u = .int k n := A7.val (w := w) (A := A) hqu
            subst hv' hu'
            refine ⟨m == n, _, hun, by simp [Cv, hun], Vy d (.inl ⟨k, m, n, hun, rfl, rfl⟩) ?_ ?_ ?_, hk2⟩
            · intro k' m' n' h1 h2; injection h1 with _ h1; injection h2 with _ h2; rw [h1, h2]
            · intro m' n' h1; cases h1
            · intro m' n' h1; cases h1
          · rename_i hun
            obtain ⟨m, hpm, hk1⟩ := G0 (show Bj p _ = some r from hk)
            obtain ⟨n, hqn, hk2⟩ := G0 hk1
            subst hpm hqn
            have hv' : v = .bool m := A7.val (w := w) (A := A) hpv
            have hu' : u = .bool n := A7.val (w := w) (A := A) hqu
            subst hv' hu'
            refine ⟨m == n, _, hun, by simp [Cv, hun], Vy d (.inr (.inl ⟨m, n, hun, rfl, rfl⟩)) ?_ ?_ ?_, hk2⟩
            · intro k' m' n' h1; cases h1
            · intro m' n' h1 h2; injection h1 with h1; injection h2 with h2; rw [h1, h2]
            · intro m' n' h1; cases h1
          · rename_i hun
            obtain ⟨m, hpm, hk1⟩ := Gb (show Cj p _ = some r from hk)
            obtain ⟨n, hqn, hk2⟩ := Gb hk1
            subst hpm hqn
            have hv' : v = .string m := A7.val (w := w) (A := A) hpv
            have hu' : u = .string n := A7.val (w := w) (A := A) hqu
            subst hv' hu'
            refine ⟨m == n, _, hun, by simp [Cv, hun], Vy d (.inr (.inr ⟨m, n, hun, rfl, rfl⟩)) ?_ ?_ ?_, hk2⟩
            · intro k' m' n' h1; cases h1
            · intro m' n' h1; cases h1
            · intro m' n' h1 h2; injection h1 with h1; injection h2 with h2; rw [h1, h2]
          · cases hk
        obtain ⟨b0, dsc, hun, hagg, he, hk⟩ := main
        obtain ⟨b, hkb, hrun⟩ := Adx d fs (i + 1) xs ys ps qs _ hrest hk (fun j p' hj => by have := hp (j + 1) p' hj; rwa [Nat.add_assoc, Nat.add_comm 1 j]) (fun j p' hj => by have := hq (j + 1) p' hj; rwa [Nat.add_assoc, Nat.add_comm 1 j])
        refine ⟨b0 && b, hkb, ?_⟩
        have hpx : (part f.type xs f.offset).run P w = .ok v w := MQ hun hagg (by rw [hoff]; exact hv)
        have hpy : (part f.type ys f.offset).run P w = .ok u w := MQ hun hagg (by rw [hoff]; exact hu)
        cases b0
        · simp [List.forIn_cons, hname', hpx, hpy, he]
        · simp only [Bool.true_and]
          rw [← hrun]
          simp [List.forIn_cons, hname', hpx, hpy, he]
theorem LU (d:Nat){t:TypeId}{fs:Array Field}(hu:P.underlying t=some (.struct fs)) (hst:P.stoodInHeld t=false)(hfl:MM P fs.toList 0=true){xs ys:List PV}{vx vy:List Value}
  (hvx:Bk (Cc w A β) xs vx) (hvy:Bk (Cc w A β) ys vy) {K:Bool->Option R}(hk:KI (fs.toList.map (fty P)) xs ys K=some r):
  ∃b,K b=some r∧(Op.equalIn (d+2) t (.agg ⟨vx⟩) (.agg ⟨vy⟩)).run P w=.ok b w:=by
 obtain ⟨b,hkb,hrun⟩:=Adx (P:=P) (w:=w) (A:=A) (β:=β) d fs.toList 0 ⟨vx⟩ ⟨vy⟩ xs ys K hfl hk (fun j p hj=>by
   obtain ⟨v,hv,hc⟩:=hvx.get hj;exact ⟨v,by simpa using hv,hc⟩) (fun j p hj=>by
   obtain ⟨v,hv,hc⟩:=hvy.get hj;exact ⟨v,by simpa using hv,hc⟩)
 refine ⟨b,hkb,?_⟩;rw [Array.forIn_toList] at hrun;rw [Op.equalIn];simp [run_underlying hu,hst];rw [hrun];cases b<;>simp
theorem RP (h:B4 N w0 X0 Y β s a w){t:TypeId}{fs:Array Field}{x y:Operand}{op:BinOp}(hop:op=.eql∨op=.neq)(hu:P.underlying t=some (.struct fs)) (hfl:TE P t fs=true){xs ys:List PV}
  (hx:Cm s.tm x=.agg xs)(hy:Cm s.tm y=.agg ys){K:Bool->Option R}(hk:KI (fs.toList.map (fty P)) xs ys K=some r):
  ∃b,K b=some r∧(do eqGuard op t x y (a.eval x) (a.eval y);binOp op t (a.eval x) (a.eval y)).run P w=.ok (.bool (if op=.eql then b else !b)) w:=by
 have hxv:=Df h x;have hyv:=Df h y;rw [hx] at hxv;rw [hy] at hyv;obtain ⟨vx,hax,hvx⟩:=hxv;obtain ⟨vy,hay,hvy⟩:=hyv;simp only [TE,Bool.and_eq_true,Bool.not_eq_true'] at hfl;obtain ⟨⟨hfl,hst⟩,heg⟩:=hfl;obtain ⟨b,hkb,heq⟩:=LU 9998 hu hst hfl hvx hvy hk;have heq:(Op.equal t (.agg ⟨vx⟩) (.agg ⟨vy⟩)).run P w=.ok b w:=heq;refine ⟨b,hkb,?_⟩;rw [hax,hay];rcases hop with rfl|rfl
 ·simp [eqGuard,binOp,heq,heg]
 ·simp [eqGuard,binOp,heq,heg]
theorem VF (h:B4 N w0 X0 Y β s a w){op:BinOp}{t ty:TypeId}{x y:Operand}(ho:o.op=.binOp op t x y ty){K:PV->Option R}
  (hk:Xi P op t (Cm s.tm x) (Cm s.tm y) K=some r):∃v,K v=some r∧Fi P a w o Y β s v [] []:=by
 have hrun:∀v,(do eqGuard op t x y (a.eval x) (a.eval y);binOp op t (a.eval x) (a.eval y)).run P w=.ok v w->(execOp a.eval o).run P w=.ok (.value v) w:=by
  intro v hv;unfold execOp;rw [ho];simp only [Sem.run_bind] at hv ⊢;rw [hv];rfl
 unfold Xi at hk;split at hk
 ·rename_i fs hu;split at hk
  ·obtain ⟨hfl,hk⟩:=Ax hk;obtain ⟨xs,hx,hk⟩:=Id hk;obtain ⟨ys,hy,hk⟩:=Id hk;obtain ⟨b,hk,hr⟩:=RP h (.inl rfl) hu hfl hx hy hk;exact ⟨_,hk,C7 (hrun _ (by rw [hr];rfl))⟩
  ·obtain ⟨hfl,hk⟩:=Ax hk;obtain ⟨xs,hx,hk⟩:=Id hk;obtain ⟨ys,hy,hk⟩:=Id hk;obtain ⟨b,hk,hr⟩:=RP h (.inr rfl) hu hfl hx hy hk;exact ⟨_,hk,C7 (hrun _ (by rw [hr];rfl))⟩
  ·cases hk
 ·unfold Aj9 at hk;split at hk
  ·rename_i k hu;split at hk
   ·obtain ⟨m,hx,hk⟩:=H8 hk;obtain ⟨k2,n,hy,hk⟩:=Dp hk;obtain ⟨hb,hk⟩:=Ax hk;have hb:=of_decide_eq_true hb;refine ⟨_,hk,C7 (hrun _ ?_)⟩;have:¬n<0:=by omega
    simp [eqGuard,binOp,Op.shift,Cx h hx,Cx h hy,this]
   ·obtain ⟨m,hx,hk⟩:=H8 hk;obtain ⟨k2,n,hy,hk⟩:=Dp hk;obtain ⟨hb,hk⟩:=Ax hk;have hb:=of_decide_eq_true hb;refine ⟨_,hk,C7 (hrun _ ?_)⟩;have:¬n<0:=by omega
    simp [eqGuard,binOp,Op.shift,Cx h hx,Cx h hy,this]
   ·rename_i hs1 hs2;obtain ⟨m,hx,hk⟩:=H8 hk;obtain ⟨n,hy,hk⟩:=H8 hk;obtain ⟨v,hk,hr⟩:=Aek (P:=P) (w:=w) (t:=t) (x:=x) (y:=y) hs1 hs2 hk;exact ⟨_,hk,C7 (hrun _ (by rw [Cx h hx,Cx h hy];exact hr))⟩
  ·rename_i hu;obtain ⟨m,hx,hk⟩:=Gb hk;obtain ⟨n,hy,hk⟩:=Gb hk;obtain ⟨v,hk,hr⟩:=Ad0 (P:=P) (w:=w) (t:=t) (x:=x) (y:=y) hk;exact ⟨_,hk,C7 (hrun _ (by rw [Cx h hx,Cx h hy];exact hr))⟩
  ·rename_i hu;split at hk
   ·obtain ⟨m,hx,hk⟩:=G0 hk;obtain ⟨n,hy,hk⟩:=G0 hk;refine ⟨_,hk,C7 (hrun _ ?_)⟩;simp [eqGuard,binOp,Cx h hx,Cx h hy,MW hu]
   ·obtain ⟨m,hx,hk⟩:=G0 hk;obtain ⟨n,hy,hk⟩:=G0 hk;refine ⟨_,hk,C7 (hrun _ ?_)⟩;simp [eqGuard,binOp,Cx h hx,Cx h hy,MW hu]
   ·cases hk
  ·rename_i e hu;have hx:=Df h x
   have nilQ:∀{e:Bool} {K':PV->Option R},LV e (Cm s.tm x) K'=some r->∃q ad n c,K' q=some r∧a.eval x=.slice ad n c∧(q=.sc (.bool (if ad.isNone then e else !e))∨q=.ub):=by
    intro e K' hq;unfold LV at hq;split at hq
    ·rename_i e';exact ⟨_,none,0,0,hq,Cx h e',.inl rfl⟩
    ·rename_i z es n c e';rcases Ia (.inl e') hx with ⟨hax,rfl,_⟩|⟨ad,cap,hax,rfl,_⟩|⟨ad,cap,hax,rfl,rfl,_⟩
     ·rcases O6 hq with ⟨_,hq⟩|⟨_,hq⟩
      ·exact ⟨_,none,0,0,hq,hax,.inl rfl⟩
      ·rcases O6 hq with ⟨hb,_⟩|⟨_,hq⟩
       ·exact absurd (of_decide_eq_true hb) (by omega)
       ·exact ⟨_,none,0,0,hq,hax,.inr rfl⟩
     ·rcases O6 hq with ⟨hz,_⟩|⟨_,hq⟩
      ·cases hz
      ·rcases O6 hq with ⟨_,hq⟩|⟨_,hq⟩
       ·exact ⟨_,some ad,n,cap,hq,hax,.inl rfl⟩
       ·exact ⟨_,some ad,n,cap,hq,hax,.inr rfl⟩
     ·rcases O6 hq with ⟨hz,_⟩|⟨_,hq⟩
      ·cases hz
      ·rcases O6 hq with ⟨hb,_⟩|⟨_,hq⟩
       ·exact absurd (of_decide_eq_true hb) (by omega)
       ·exact ⟨_,some ad,0,cap,hq,hax,.inr rfl⟩
    ·rename_i id es off n e';rw [e'] at hx;rcases hx with ⟨_,_,rfl,hax⟩|⟨b,ob,y',cap,_,hax,_⟩
     ·rcases O6 hq with ⟨hb,_⟩|⟨_,hq⟩
      ·exact absurd (of_decide_eq_true hb) (by omega)
      ·exact ⟨_,none,0,0,hq,hax,.inr rfl⟩
     ·rcases O6 hq with ⟨_,hq⟩|⟨_,hq⟩
      ·exact ⟨_,_,n,cap,hq,hax,.inl rfl⟩
      ·exact ⟨_,_,n,cap,hq,hax,.inr rfl⟩
    ·cases hq
   split at hk
   ·rename_i hy;obtain ⟨q,ad,n,c,hk,hax,hb⟩:=nilQ hk;rcases hb with rfl|rfl
    ·refine ⟨_,hk,C7 (hrun _ ?_)⟩;cases ad<;>simp [eqGuard,binOp,hax,Cx h hy,Xq hu]
    ·refine ⟨_,hk,Ch (val:=.bool ad.isNone) (hrun _ ?_) (A7.ub _) (by intro i hi;cases hi)⟩
     simp [eqGuard,binOp,hax,Cx h hy,Xq hu]
   ·rename_i hy;obtain ⟨q,ad,n,c,hk,hax,hb⟩:=nilQ hk;rcases hb with rfl|rfl
    ·refine ⟨_,hk,C7 (hrun _ ?_)⟩;cases ad<;>simp [eqGuard,binOp,hax,Cx h hy,Xq hu]
    ·refine ⟨_,hk,Ch (val:=.bool !ad.isNone) (hrun _ ?_) (A7.ub _) (by intro i hi;cases hi)⟩
     simp [eqGuard,binOp,hax,Cx h hy,Xq hu]
   ·cases hk
  ·cases hk
end
open Go.RowKit
section
variable {R:Type} {r:R} {P:Program} {N:Nat} {w0:World} {X0:Fh} {Y:Nat->Prop} {β β':Bt} {s:St} {a:Act} {w w':World} {o:Oper} {A:Nat->Prop}
theorem Ww:∀{c:List PV}{l:List UInt8},bytesOf c=some l->∃ns:List Int,c=ns.map (fun n=>.sc (.int .u8 n))∧l=ns.map fun n=>n.toNat.toUInt8
 |[],l,h=>⟨[],rfl,by simp [bytesOf] at h;subst h;rfl⟩
 |p::c,l,h=>by
  unfold bytesOf at h;split at h
  ·rename_i e;cases e
  ·rename_i n r e;cases e;cases hr:bytesOf c with
   |none=>rw [hr] at h;cases h
   |some l'=>
    rw [hr] at h;simp at h;obtain ⟨ns,rfl,rfl⟩:=Ww hr;exact ⟨n::ns,rfl,h.symm⟩
  ·cases h
theorem U9:∀(ns:List Int)(b:ByteArray),ns.foldl (fun r n=>r.push (UInt8.ofNat n.toNat)) b=⟨b.data++(ns.map fun n=>n.toNat.toUInt8).toArray⟩
 |[],b=>by simp
 |n::ns,b=>by
  simp only [List.foldl_cons];rw [U9 ns];simp [ByteArray.push]
theorem VW (h:B4 N w0 X0 Y β s a w){es:Nat}{x:Operand}{K:Nat->List PV->Option R}(hk:Abr (Kz s.hp) es (Cm s.tm x) K=some r):
  ∃n c,K n c=some r∧((a.eval x=.slice none 0 0∧n=0∧c=[])∨∃ad cap,a.eval x=.slice (some ad) n cap∧n<=cap∧(c=[]∨ad.block<w.heap.size)∧QC w (C1 s.hp β Y) ad c):=by
 have hx:=Df h x;have hxr:=Fu h x;unfold Abr at hk;split at hk
 ·rename_i id es' off n e;rw [e] at hx hxr;cases hb:Nat.beq es' es
  ·rw [hb] at hk;cases hk
  ·rw [hb] at hk;obtain ⟨c,hc,hk⟩:=Dd (show E5 _ _=some r from hk)
   obtain ⟨hl,hk⟩:=Ax hk;have hl:=of_decide_eq_true hl;obtain ⟨f,hbox⟩:=UE hc;refine ⟨_,_,hk,?_⟩;rcases hx with ⟨_,rfl,rfl,hax⟩|⟨b,ob,y,cap,hβ,hax,hy,hn,_,hlt⟩
   ·exact .inl ⟨hax,rfl,by simp⟩
   ·refine .inr ⟨_,cap,hax,hn,.inr hlt,fun j p hj=>?_⟩
    have hpos:0<n*es:=by
     rcases Nat.eq_zero_or_pos (n*es) with h0|h0
     ·rw [h0] at hj;simp at hj
     ·exact h0
    have hn0:n≠0:=by rintro rfl;simp at hpos
    have hy:y=ob+off:=by rcases hy with hy|⟨h0,_⟩<;>omega
    subst hy;rw [List.getElem?_take] at hj;split at hj
    ·rw [List.getElem?_drop] at hj;rcases h.box id _ hbox with ⟨h1,_⟩|⟨b',o',h1,h2,_⟩
     ·rw [hβ] at h1;cases h1
     ·rw [hβ] at h1;simp at h1;obtain ⟨rfl,rfl⟩:=h1
      obtain ⟨v,hv,h3,ht⟩:=h2 (off+j) p hj;rw [D6] at hv;exact ⟨v,by rw [D6,Nat.add_assoc];exact hv,h3,ht⟩
    ·cases hj
 ·obtain ⟨z,n,c,hk,hp⟩:=Gt hk;refine ⟨n,c,hk,?_⟩;rcases Ia hp hx with h1|⟨ad,cap,hax,_,hn,h1,h2,_,h4⟩|⟨ad,cap,hax,_,rfl,rfl⟩
  ·exact .inl h1
  ·exact .inr ⟨ad,cap,hax,hn,.inr h2,h4⟩
  ·exact .inr ⟨ad,cap,hax,Nat.zero_le _,.inl rfl,fun j c hj=>by simp at hj⟩
theorem Aej (b:ByteArray)(j:Nat)(p:PV)(h:(Dv b)[j]?=some p):∃x,b.data[j]?=some x∧p=.sc (.int .u8 x.toNat):=by
 unfold Dv at h;rw [List.getElem?_map] at h;cases hx:b.data.toList[j]? with
 |none=>rw [hx] at h;cases h
 |some x=>
  rw [hx] at h;simp at h;exact ⟨x,by simpa using hx,h.symm⟩
theorem Aag (h:B4 N w0 X0 Y β s a w){src dst:TypeId}{x:Operand}(ho:o.op=.convert src dst x){d:Nat}{K:PV->List (Nat × Bn)->Option R}
  (hk:NK P (Kz s.hp) d src dst (Cm s.tm x) K=some r):∃v nw,K v nw=some r∧Fi P a w o Y β s v [] nw:=by
 have hrun:∀v w',(convert src dst (a.eval x)).run P w=.ok v w'->(execOp a.eval o).run P w=.ok (.value v) w':=by
  intro v w' hv;unfold execOp;rw [ho];simp [hv]
 unfold NK at hk;split at hk
 ·rename_i k hu;obtain ⟨hs,hk⟩:=Ax hk;obtain ⟨k',n,hx,hk⟩:=Dp hk;exact ⟨_,_,hk,C7 (hrun _ _ (by rw [Cx h hx];obtain ⟨ds,hds⟩:=Option.isSome_iff_exists.1 hs;cases ds<;>simp [convert,run_underlying hds,run_underlying hu,Conv.intToInt]))⟩
 ·rename_i hu;split at hk
  ·rename_i hs;obtain ⟨b,hx,hk⟩:=Gb hk;exact ⟨_,_,hk,C7 (hrun _ _ (by rw [Cx h hx];simp [convert,run_underlying hs,run_underlying hu]))⟩
  ·rename_i e hs;split at hk
   ·rename_i he;obtain ⟨n,c,hk,hc⟩:=VW h hk;obtain ⟨hl,hk⟩:=Ax hk;have hl:=of_decide_eq_true hl;obtain ⟨l,hb,hk⟩:=Dd hk;obtain ⟨ns,rfl,rfl⟩:=Ww hb;refine ⟨_,_,hk,C7 (hrun _ _ ?_)⟩;rcases hc with ⟨hax,rfl,hn⟩|⟨ad,cap,hax,_,_,hrd⟩
    ·have:ns=[]:=by simpa using hn
     subst this;rw [hax,run_convert_bytes_string w src dst e none 0 0 hs he hu];rfl
    ·rw [hax,run_convert_bytes_string w src dst e _ _ _ hs he hu]
     have hld:(loadCells ad n).run P w=.ok (ns.map (Value.int .u8)).toArray w:=by
      have:=run_loadCells_list (P:=P) w ad (ns.map (Value.int .u8)) (fun j v hj=>by
       rw [List.getElem?_map] at hj;cases hn:ns[j]? with
       |none=>rw [hn] at hj;cases hj
       |some m=>
        rw [hn] at hj;simp at hj;subst hj;obtain ⟨v,hv,_,ht⟩:=hrd j (.sc (.int .u8 m)) (by rw [List.getElem?_map,hn];rfl)
        rw [ht.val] at hv;exact hv)
      simp only [List.length_map] at this hl;rw [hl] at this;exact this
     rw [run_bytesToString w ad n cap ns hld,U9];simp
   ·cases hk
  ·cases hk
 ·rename_i e hu;split at hk
  ·rename_i he hs;obtain ⟨b,hx,hk⟩:=Gb hk;obtain ⟨hsz,hk⟩:=Ax hk;have hr:=run_bytes_of_string (P:=P) w src dst e b hs hu he;rw [←Cx h hx] at hr
   have hcap:b.size<=grownCap w b.size 0 e:=by
    unfold grownCap;simp [Question.cut]
   have hsize:(bytesRow b (grownCap w b.size 0 e)).size=grownCap w b.size 0 e:=by
    simp only [bytesRow,Array.size_append,Array.size_map,Array.size_replicate];have:b.data.size=b.size:=rfl;omega
   refine ⟨_,_,hk,Sc (c:=bytesRow b (grownCap w b.size 0 e)) (e:=e) (by simp) (hrun _ _ hr) ?_ (fun j p hj=>?_) (.inr ⟨1,b.size,grownCap w b.size 0 e,rfl,rfl,hcap,by rw [hsize];omega⟩)⟩
   ·exact ⟨rfl,rfl,rfl,fun i hi=>Below.heap_alloc w.drew _ i hi,by show (w.heap.push _).size=_;simp,_,by show (w.heap.push _)[w.heap.size]?=_;simp;rfl,.inr (Nat.le_refl _)⟩
   ·obtain ⟨y,hy,rfl⟩:=Aej b j p hj;refine ⟨.int .u8 y.toNat,?_,rfl,A7.sc _⟩
    have hlt:j<b.data.size:=by
     rcases Nat.lt_or_ge j b.data.size with h|h
     ·exact h
     ·rw [Array.getElem?_eq_none h] at hy;cases hy
    simp only [bytesRow];rw [Array.getElem?_append_left (by simpa using hlt),Array.getElem?_map,hy]
    rfl
  ·cases hk
 ·cases hk
end
open Go.RowKit
section
variable {R:Type} {r:R} {P:Program} {N:Nat} {w0:World} {X0:Fh} {Y:Nat->Prop} {β β':Bt} {s:St} {a:Act} {w w':World} {o:Oper} {A:Nat->Prop}
theorem DB:∀{n:Nat}{l:List PV}{j:Nat}{c:PV},(Sw n l)[j]?=some c->j<n*l.length∧l[j % l.length]?=some c
 |0,l,j,c,h=>by simp [Sw] at h
 |n+1,l,j,c,h=>by
  have e:Sw (n+1) l=l++Sw n l:=by simp [Sw,List.replicate_succ]
  rw [e] at h;by_cases hj:j<l.length
  ·rw [List.getElem?_append_left hj] at h;refine ⟨by rw [Nat.add_mul];omega,?_⟩
   rw [Nat.mod_eq_of_lt hj];exact h
  ·rw [List.getElem?_append_right (by omega)] at h
   obtain ⟨h1,h2⟩:=DB h;refine ⟨by rw [Nat.add_mul];omega,?_⟩
   rw [Nat.mod_eq_sub_mod (by omega)];exact h2
theorem VC (n:Nat)(l:List PV):(Sw n l).length=n*l.length:=by
 induction n with
 |zero=>simp [Sw]
 |succ n ih=>
  have e:Sw (n+1) l=l++Sw n l:=by simp [Sw,List.replicate_succ]
  rw [e,List.length_append,ih,Nat.add_mul];omega
theorem YZ {z:Array Value}{n j:Nat}(hj:j<n){v:Value}(hv:z[j % z.size]?=some v):(madeCells z n)[j]?=some v:=by
 unfold madeCells;rw [Array.getElem?_map,Array.getElem?_range,if_pos hj];simp only [Option.map_some];rw [getElem!_def,hv]
theorem Aaa (h:B4 N w0 X0 Y β s a w){t:TypeId}{x y:Operand}(ho:o.op=.makeSlice t x y){d:Nat}{K:PV->List Nat->List (Nat × Bn)->Option R}
  (hk:(match P.underlying t with
   |some (.slice e)=>Dw (Cm s.tm x) fun _ n=>Dw (Cm s.tm y) fun _ m=>
     Au (decide (0<=n)&&decide (n<=m)&&decide (m*((P.info? e).map (·.bytes)).getD 0<=1099511627776)&&decide (m<=1099511627776))
      (Hw P e fun z=>K (.view d (Bi P e) 0 n.toNat) [] [(d,.ar false (Sw n.toNat z))])
   |_=>none)=some r):∃v fz nw,K v fz nw=some r∧Fi P a w o Y β s v fz nw:=by
 split at hk
 ·rename_i e hu;obtain ⟨k1,n,hx,hk⟩:=Dp hk;obtain ⟨k2,m,hy,hk⟩:=Dp hk;obtain ⟨hb,hk⟩:=Ax hk;simp only [Bool.and_eq_true,decide_eq_true_eq] at hb;obtain ⟨⟨⟨h0,hnm⟩,hbytes⟩,hm⟩:=hb;obtain ⟨z,cs,hk,hz,hct,hl,hsz,hc⟩:=Qz hk
  have hzc:∃i,P.info? e=some i∧i.zero=some z:=by
   unfold AX at hz;cases hi:P.info? e with
   |none=>rw [hi] at hz;cases hz
   |some i=>rw [hi] at hz;exact ⟨i,rfl,hz⟩
  obtain ⟨i,hi,hzi⟩:=hzc;have hisz:Bi P e=i.size:=by simp [Bi,hi]
  simp only [hi,Option.map_some,Option.getD_some] at hbytes;have hr:=run_make (P:=P) w t e i z hu hi hzi k1 k2 n m h0 hnm (by rw [Int.mul_comm];omega) (by omega)
  have hrun:(execOp a.eval o).run P w=.ok (.value (.slice (some ⟨w.heap.size,0,none⟩) n.toNat m.toNat)) (w.alloc (.cells (madeCells z.cells (m.toNat*i.size)) e)):=by
   unfold execOp;rw [ho];simp [Cx h hx,Cx h hy,hr]
  have hzl:z.cells.size=Bi P e:=by
   have:z.cells.toList.length=z.cells.size:=by simp
   omega
  refine ⟨_,_,_,hk,Sc (c:=madeCells z.cells (m.toNat*i.size)) (e:=e) (by simp) hrun (Hg.alloc w _ e) (fun j p hj=>?_) (.inr ⟨Bi P e,n.toNat,m.toNat,rfl,rfl,by omega,by rw [size_madeCells,hisz];exact Nat.le_refl _⟩)⟩
  obtain ⟨h1,h2⟩:=DB hj;obtain ⟨hT,u,hu',h1',hv⟩:=hc _ p h2;refine ⟨u,YZ ?_ ?_,h1',hv _ _⟩
  ·have:n.toNat*cs.length<=m.toNat*i.size:=by
    rw [hsz,hisz];exact Nat.mul_le_mul_right _ (by omega)
   omega
  ·rw [hzl,←hsz]
   simpa using hu'
 ·cases hk
theorem Agd {p:PV}{v:Value}(hp:okP p=true)(hv:Dx w A β p v):Bk (Cc w A β) (cellsOf p) v.cells.toList:=by
 have one:v.oneCell'=true->Cc w A β p v->(∀x,p ≠ .agg x)->Bk (Cc w A β) (cellsOf p) v.cells.toList:=by
  intro h1 h2 h3;have:cellsOf p=[p]:=by cases p<;>first|rfl|exact absurd rfl (h3 _)
  rw [this,Pd h1];exact ⟨h2,trivial⟩
 unfold okP at hp;split at hp
 ·obtain ⟨vs,rfl,h2⟩:=hv;exact h2
 ·refine one ?_ hv (by simp)
  have hv':A7 w A _ v:=hv;cases hv'<;>rfl
 ·refine one ?_ hv (by simp)
  rcases hv with ⟨_,_,_,rfl⟩|⟨_,_,_,_,_,rfl,_⟩<;>rfl
 ·have:=Ql hv;subst this;exact one rfl hv (by simp)
 ·have:=Ql hv;subst this;exact one rfl hv (by simp)
 ·have:=Ql hv;subst this;exact one rfl hv (by simp)
 ·have:=Ql hv;subst this;exact one rfl hv (by simp)
 ·cases hp
theorem Acm:∀(vs:List Value)(k off:Nat)(cells:Array Value),off+k+vs.length<=cells.size ->
  ((vs.zipIdx k).foldl (fun cs (q:Value × Nat)=>cs.setIfInBounds (off+q.2) q.1) cells).toList=cells.toList.take (off+k)++vs++cells.toList.drop (off+k+vs.length)
 |[],k,off,cells,_=>by simp
 |v::vs,k,off,cells,h=>by
  simp only [List.zipIdx_cons,List.foldl_cons,List.length_cons] at h ⊢;rw [Acm vs (k+1) off _ (by simp;omega)]
  have hlt:off+k<cells.toList.length:=by simp;omega
  simp only [Array.toList_setIfInBounds];rw [show off+(k+1)=off+k+1 from by omega,List.take_succ_eq_append_getElem (by simpa using hlt)]
  rw [List.getElem_set_self,List.take_set_of_le (Nat.le_refl _),List.drop_set_of_lt (by omega)]
  simp only [List.append_assoc,List.cons_append,List.nil_append];rw [show off+k+1+vs.length=off+k+(vs.length+1) from by omega]
theorem JG (h:B4 N w0 X0 Y β s a w){Hy:Nat->Option (Nat × Nat)}:∀{parts:List (Nat × Operand)} {pc:List PV}{vc:Array Value}{K:List PV->Option R},
  Vr Hy (parts.map fun q=>(q.1,Cm s.tm q.2)) pc K=some r->Bk (Cc w (C1 s.hp β Y) β) pc vc.toList->(∀c∈pc,∀id∈Ay c,s.hp id≠none) ->
  ∃pc' vc',K pc'=some r∧Instr.fill Hy vc (parts.map fun q=>(q.1,a.eval q.2))=some vc'∧Bk (Cc w (C1 s.hp β Y) β) pc' vc'.toList∧pc'.length=pc.length∧∀c∈pc',∀id∈Ay c,s.hp id≠none
 |[],pc,vc,K,hk,hv,hr=>⟨pc,vc,hk,rfl,hv,rfl,hr⟩
 |(i,x)::parts,pc,vc,K,hk,hv,hr=>by
  simp only [List.map_cons] at hk;unfold Vr at hk;obtain ⟨⟨off,size⟩,hpl,hk⟩:=Dd hk;obtain ⟨hb,hk⟩:=Ax hk;simp only [Bool.and_eq_true] at hb;obtain ⟨⟨hok,hsz⟩,hle⟩:=hb;have hsz:(cellsOf (Cm s.tm x)).length=size:=Nat.eq_of_beq_eq_true hsz;have hle:off+size<=pc.length:=Nat.le_of_ble_eq_true hle;have hxc:=Agd hok (Df h x);have hxl:=hxc.len;have hvl:=hv.len;have hvs:vc.toList.length=vc.size:=by simp
  have hcs:(a.eval x).cells.toList.length=(a.eval x).cells.size:=by simp
  have hset:=Acm (a.eval x).cells.toList 0 off vc (by omega)
  simp only [Nat.add_zero] at hset
  have hset':((a.eval x).cells.zipIdx.foldl (fun cs (q:Value × Nat)=>cs.setIfInBounds (off+q.2) q.1) vc).toList=vc.toList.take off++(a.eval x).cells.toList++vc.toList.drop (off+(a.eval x).cells.toList.length):=by
   rw [←hset,←Array.foldl_toList];simp
  obtain ⟨pc',vc',hk,hf,h2,hl,hr'⟩:=JG h (pc:=Bd pc (cellsOf (Cm s.tm x)) off) (vc:=(a.eval x).cells.zipIdx.foldl (fun cs (q:Value × Nat)=>cs.setIfInBounds (off+q.2) q.1) vc) hk (by
    rw [hset',←hxl];exact (((hv.take off).app hxc).app (hv.drop _))) (by
    intro c hc id hid;unfold Bd at hc;rcases List.mem_append.1 hc with hc|hc
    ·rcases List.mem_append.1 hc with hc|hc
     ·exact hr c (List.mem_of_mem_take hc) id hid
     ·refine Fu h x id ?_;cases hp:Cm s.tm x with
      |agg cs=>rw [hp] at hc;exact List.mem_flatMap.2 ⟨c,hc,hid⟩
      |tup cs=>rw [hp] at hc;simp [cellsOf] at hc;subst hc;cases hid
      |_=>rw [hp] at hc;simp [cellsOf] at hc;subst hc;exact hid
    ·exact hr c (List.mem_of_mem_drop hc) id hid)
  refine ⟨pc',vc',hk,?_,h2,?_,hr'⟩
  ·simp only [List.map_cons,Instr.fill,hpl];rw [if_neg (by simp;omega)]
   exact hf
  ·rw [hl];simp [Bd];omega
theorem WI {t:TypeId}{z:Value}{cs:List PV}(hl:cs.length=z.cells.toList.length)(hc:∀(j:Nat) c,cs[j]?=some c->Zc c∧∃u,z.cells.toList[j]?=some u∧u.oneCell'=true∧∀(w:World)(A:Nat->Prop),A7 w A c u) (_ht:AX P t=some z):
  Bk (Cc w A β) cs z.cells.toList∧∀c∈cs,Ay c=[]:=by
 refine ⟨Bk.of_at hl fun i c u hci hu=>?_,fun c hcm=>?_⟩
 ·obtain ⟨hT,u',hu',_,hv⟩:=hc i c hci;rw [hu] at hu';cases hu';exact (Ng hT).2 (hv _ _)
 ·obtain ⟨j,hj⟩:=List.mem_iff_getElem?.1 hcm;exact Ik (hc j c hj).1
theorem NO:∀{fs:List Field},(fs.all fun f=>LG P f.type)=true->fs.mapM (fun f=>(P.info? f.type).map fun i=>(f.offset,i.size))=some (fs.map fun f=>(f.offset,Bi P f.type))
 |[],_=>rfl
 |f::fs,h=>by
  simp only [List.all_cons,Bool.and_eq_true] at h;obtain ⟨i,hi⟩:=Option.isSome_iff_exists.1 h.1;simp [List.mapM_cons,hi,NO h.2,Bi]
theorem AL {p q:Nat->Option (Nat × Nat)} (h:∀i,p i=q i)(cells:Array Value)(parts:List (Nat × Value)):Instr.fill p cells parts=Instr.fill q cells parts:=by
 have:p=q:=funext h;rw [this]
theorem YO (h:B4 N w0 X0 Y β s a w){t:TypeId}{ps:Array (Nat × Operand)} (ho:o.op=.build t ps){K:PV->Option R}
  (hk:(Au (Tm P t&&Cv P t)<|Hw P t fun z=>Vr (Tv P t) (ps.toList.map fun q=>(q.1,Cm s.tm q.2)) z fun cs=>Ry (Iz P t) cs 0 fun cs'=>K (.agg cs'))=some r):∃v,K v=some r∧Fi P a w o Y β s v [] []:=by
 obtain ⟨hpl,hk⟩:=Ax hk;simp only [Bool.and_eq_true] at hpl;obtain ⟨hpl,hagg⟩:=hpl;obtain ⟨z,cs,hk,hz,hct,hl,hsz,hc⟩:=Qz hk;obtain ⟨hzr,hzf⟩:=WI (w:=w) (A:=C1 s.hp β Y) (β:=β) hl hc hz;obtain ⟨pc',vc',hk,hf,h2,hl',hr'⟩:=JG h hk hzr (fun c hcm id hid=>by rw [hzf c hcm] at hid;cases hid)
 obtain ⟨qs,hk,hql,hna,hq⟩:=Wi hk
 have hbuilt:P.built t (ps.toList.map fun q=>(q.1,a.eval q.2))=some vc':=by
  have hzi:∃i,P.info? t=some i∧i.zero=some z:=by
   unfold AX at hz;cases hi:P.info? t with
   |none=>rw [hi] at hz;cases hz
   |some i=>rw [hi] at hz;exact ⟨i,rfl,hz⟩
  obtain ⟨i,hi,hzi⟩:=hzi;unfold Tm at hpl;unfold Program.built;split at hpl
  ·rename_i fs hu
   have hf':Instr.fill (((fs.toList.map fun f=>(f.offset,Bi P f.type)).toArray)[·]?) z.cells (ps.toList.map fun q=>(q.1,a.eval q.2))=some vc':=by
    rw [←hf];refine AL (fun j=>?_) _ _
    simp [Tv,hu]
   simp only [hi,hu,hzi,NO hpl];exact hf'
  ·rename_i n e hu;obtain ⟨ie,hie⟩:=Option.isSome_iff_exists.1 hpl
   have hf':Instr.fill (fun j=>some (j*ie.size,ie.size)) z.cells (ps.toList.map fun q=>(q.1,a.eval q.2))=some vc':=by
    rw [←hf];refine AL (fun j=>?_) _ _
    simp [Tv,hu,Bi,hie]
   simp only [hi,hu,hzi,hie];exact hf'
  ·rename_i e hu;simp [Cv,hu] at hagg
  ·cases hpl
 refine ⟨_,hk,Ch (val:=.agg vc') ?_ ⟨vc'.toList,rfl,?_⟩ ?_⟩
 ·unfold execOp;rw [ho];have:=run_build (P:=P) w t (ps.map fun q=>(q.1,a.eval q.2)) vc' (by simpa using hbuilt)
  simp [this]
 ·refine Bk.of_at (by have:=h2.len;omega) fun j c u hcj hu=>?_
  obtain ⟨p,hp,_,_,hpv⟩:=hq j c hcj;rw [Nat.zero_add] at hp;exact (hpv _ _ _ _ (h2.at_ hp hu)).1
 ·intro id hid;obtain ⟨c,hcm,hid⟩:=List.mem_flatMap.1 (show id∈qs.flatMap Ay from hid)
  obtain ⟨j,hj⟩:=List.mem_iff_getElem?.1 hcm;obtain ⟨p,hp,_,hpr,_⟩:=hq j c hj;rw [Nat.zero_add] at hp;exact hr' p (List.mem_of_getElem? hp) id (hpr id hid)
end
open Go.RowKit
section
variable {R:Type} {r:R} {P:Program} {N:Nat} {w0:World} {X0:Fh} {Y:Nat->Prop} {β β':Bt} {s:St} {a:Act} {w w':World} {o:Oper} {A:Nat->Prop}
theorem Abj (h:B4 N w0 X0 Y β s a w){fz:List Nat}(hfz:∀id∈fz,∃f c,s.hp id=some (.ar f c)) {id:Nat}(hm:id∈fz){f:Bool}{c:List PV}(hb:s.hp id=some (.ar f c)) {b ob:Nat}(hβ:β id=some (b,ob)):
  ¬C1 (Ai s.hp fz) β Y b∧QC w (C1 (Ai s.hp fz) β Y) ⟨b,ob,none⟩ c∧b<w.heap.size:=by
 have hf:=h.freeze hfz;have he:Ai s.hp fz id=some (.ar true c):=by rw [Ca,if_pos hm,hb];rfl
 rcases hf.box id _ he with ⟨h1,_⟩|⟨b',o',h1,h2,_,h4⟩
 ·rw [hβ] at h1;cases h1
 ·rw [hβ] at h1;simp at h1;obtain ⟨rfl,rfl⟩:=h1;exact ⟨h4 rfl,h2,h.blt id b ob (by rw [hb];simp) hβ⟩
theorem Af8 (h:B4 N w0 X0 Y β s a w){fz:List Nat}(hfz:∀id∈fz,∃f c,s.hp id=some (.ar f c)) {id es off n:Nat}(hm:id∈fz){f:Bool}{c:List PV}(hb:s.hp id=some (.ar f c)) {v:Value}
  (hv:Cc w (C1 s.hp β Y) β (.view id es off n) v):A7 w (C1 (Ai s.hp fz) β Y) (.lst false es n ((c.drop off).take (n*es))) v:=by
 rcases hv with ⟨_,rfl,rfl,rfl⟩|⟨b,ob,y,cap,hβ,rfl,hy,hn,_,hlt⟩
 ·simp only [Nat.zero_mul,List.take_zero];exact A7.lnil false es
 ·obtain ⟨h1,h2,_⟩:=Abj h hfz hm hb hβ;by_cases hn0:n*es=0
  ·rw [hn0,List.take_zero];exact A7.lst es n [] ⟨b,y,none⟩ cap (fun _=>undef) rfl hlt h1 hn (by simp) (by simp) (by simp)
  ·have hy:y=ob+off:=by
    rcases hy with hy|⟨h0,_⟩
    ·exact hy
    ·rw [h0] at hn0;simp at hn0
   subst hy
   have hcell:∀(j:Nat) q,((c.drop off).take (n*es))[j]?=some q->c[off+j]?=some q:=by
    intro j q hq;rw [List.getElem?_take] at hq;split at hq
    ·rw [List.getElem?_drop] at hq;exact hq
    ·cases hq
   refine A7.lst es n _ ⟨b,ob+off,none⟩ cap (fun j=>(w.cell? ⟨b,ob+off+j,none⟩).getD undef) rfl hlt h1 hn (fun j q hq=>?_) (fun j q hq=>?_) (fun j q hq=>?_)
   ·obtain ⟨v,hv,_⟩:=h2 _ q (hcell j q hq);rw [D6,←Nat.add_assoc] at hv;rw [D6,hv];rfl
   ·obtain ⟨v,hv,h3,_⟩:=h2 _ q (hcell j q hq);rw [D6,←Nat.add_assoc] at hv;rw [hv];exact h3
   ·obtain ⟨v,hv,_,ht⟩:=h2 _ q (hcell j q hq);rw [D6,←Nat.add_assoc] at hv;rw [hv];exact ht
theorem A7.zf {A:Nat->Prop}{z:Bool}{es n:Nat}{c:List PV}{v:Value}(h:A7 w A (.lst z es n c) v):A7 w A (.lst false es n c) v:=by
 cases h with
 |lnil=>exact .lnil _ _
 |lemp=>exact .lemp _ _ _
 |lst _ _ _ a cap f hs hb hA hn hc h1 hr=>exact .lst _ _ _ a cap f hs hb hA hn hc h1 hr
theorem MR (h:B4 N w0 X0 Y β s a w){t:CT}{p:PV}{K:PV->List Nat->Option R}(hk:Qy (Kz s.hp) t p K=some r):
  ∃c m,K c m=some r∧Zc c∧OO p∧(∀id∈m,∃f cc,s.hp id=some (.ar f cc))∧∀fz:List Nat,(∀id∈m,id∈fz)->(∀id∈fz,∃f cc,s.hp id=some (.ar f cc))->∀v,Cc w (C1 s.hp β Y) β p v->A7 w (C1 (Ai s.hp fz) β Y) c v∧v.oneCell'=true:=by
 have tree:∀t',(FK t' p fun c=>K c [])=some r->∃c m,K c m=some r∧Zc c∧OO p∧(∀id∈m,∃f cc,s.hp id=some (.ar f cc))∧∀fz:List Nat,(∀id∈m,id∈fz)->(∀id∈fz,∃f cc,s.hp id=some (.ar f cc))->∀v,Cc w (C1 s.hp β Y) β p v->A7 w (C1 (Ai s.hp fz) β Y) c v∧v.oneCell'=true:=by
  intro t' hk;obtain ⟨c,hk,hT,hpT,hv⟩:=Pc hk;refine ⟨c,[],hk,hT,Uv hpT,by simp,fun fz _ hfz v hpv=>?_⟩
  obtain ⟨h1,h2⟩:=hv _ _ _ _ hpv;exact ⟨h1.step (Cb.refl _ _) (fun b _ hb=>hb.imp Sh id),h2⟩
 cases t with
 |sl es=>
  unfold Qy at hk;dsimp only at hk;split at hk
  ·rename_i id es' off n;cases hb:Nat.beq es' es
   ·rw [hb] at hk;cases hk
   ·rw [hb] at hk;have:=Nat.eq_of_beq_eq_true hb;subst this;obtain ⟨c,hc,hk⟩:=Dd (show E5 _ _=some r from hk)
    obtain ⟨_,hk⟩:=Ax hk;obtain ⟨f,hbx⟩:=UE hc;refine ⟨_,[id],hk,trivial,trivial,?_,fun fz hm hfz v hv=>⟨Af8 h hfz (hm id (by simp)) hbx hv,?_⟩⟩
    ·intro i hi;simp at hi;subst hi;exact ⟨f,c,hbx⟩
    ·rcases hv with ⟨_,_,_,rfl⟩|⟨_,_,_,_,_,rfl,_⟩<;>rfl
  ·obtain ⟨z,n,c,hk,hp⟩:=Gt hk;refine ⟨_,[],hk,trivial,?_,by simp,fun fz _ hfz v hpv=>?_⟩
   ·rcases hp with rfl|⟨rfl,_⟩<;>trivial
   ·have ht:=Zv hp hpv;refine ⟨A7.zf (ht.step (Cb.refl _ _) (fun b _ hb=>hb.imp Sh id)),?_⟩
    cases ht<;>rfl
 |int k=>exact tree (.int k) hk
 |bool=>exact tree .bool hk
 |str=>exact tree .str hk
 |any=>exact tree .any hk
theorem Sx (h:B4 N w0 X0 Y β s a w):∀{ts:List CT}{ps:List PV}{K:List PV->List Nat->Option R},Po (Kz s.hp) ts ps K=some r ->
  ∃cs m,K cs m=some r∧cs.length=ts.length∧ps.length=ts.length∧(∀c∈cs,Zc c)∧(∀p∈ps,OO p)∧(∀id∈m,∃f cc,s.hp id=some (.ar f cc)) ∧
   ∀fz:List Nat,(∀id∈m,id∈fz)->(∀id∈fz,∃f cc,s.hp id=some (.ar f cc))->∀vs,Bk (Cc w (C1 s.hp β Y) β) ps vs->Bk (A7 w (C1 (Ai s.hp fz) β Y)) cs vs∧∀v∈vs,v.oneCell'=true
 |[],[],K,hk=>⟨[],[],hk,rfl,rfl,by simp,by simp,by simp,fun fz _ _ vs hv=>by
   cases vs with
   |nil=>exact ⟨trivial,by simp⟩
   |cons v vs=>exact hv.elim⟩
 |[],_::_,K,hk=>by cases hk
 |_::_,[],K,hk=>by cases hk
 |t::ts,p::ps,K,hk=>by
  unfold Po at hk;obtain ⟨c,m,hk,hT,hF,hm,hv⟩:=MR h hk;obtain ⟨cs,ms,hk,hl,hl',hTs,hFs,hms,hvs⟩:=Sx h hk;refine ⟨c::cs,m++ms,hk,by simp [hl],by simp [hl'],?_,?_,?_,fun fz hfm hfz vs h2=>?_⟩
  ·intro x hx;rcases List.mem_cons.1 hx with rfl|hx
   ·exact hT
   ·exact hTs x hx
  ·intro x hx;rcases List.mem_cons.1 hx with rfl|hx
   ·exact hF
   ·exact hFs x hx
  ·intro x hx;rcases List.mem_append.1 hx with hx|hx
   ·exact hm x hx
   ·exact hms x hx
  ·cases vs with
   |nil=>exact h2.elim
   |cons v vs=>
    obtain ⟨h3,h4⟩:=hv fz (fun i hi=>hfm i (by simp [hi])) hfz v h2.1
    obtain ⟨h5,h6⟩:=hvs fz (fun i hi=>hfm i (by simp [hi])) hfz vs h2.2
    refine ⟨⟨h3,h5⟩,?_⟩;intro x hx;rcases List.mem_cons.1 hx with rfl|hx
    ·exact h4
    ·exact h6 x hx
theorem Af5 {R':PV->Value->Prop}{cs:List PV}{z:Array Value}(h:Bk R' cs z.toList)(n:Nat):Bk R' (Sw n cs) (madeCells z (n*cs.length)).toList:=by
 have hzl:z.size=cs.length:=by have:=h.len;simp at this;exact this.symm
 refine Bk.of_at ?_ fun j c v hc hv=>?_
 ·rw [VC];simp [size_madeCells]
 ·obtain ⟨h1,h2⟩:=DB hc
  have hlt:j % cs.length<cs.length:=by
   rcases Nat.lt_or_ge (j % cs.length) cs.length with h|h
   ·exact h
   ·rw [List.getElem?_eq_none h] at h2;cases h2
  obtain ⟨u,hu,hcu⟩:=h.get h2;have:(madeCells z (n*cs.length))[j]?=some u:=YZ h1 (by rw [hzl];simpa using hu)
  have hv':(madeCells z (n*cs.length))[j]?=some v:=by simpa using hv
  rw [this] at hv';cases hv';exact hcu
theorem GB (h:B4 N w0 X0 Y β s a w){t:TypeId}{n:Nat}{ps:Array (Nat × Operand)} (ho:o.op=.buildSlice t n ps){d:Nat}{K:PV->List Nat->List (Nat × Bn)->Option R}
  (hk:(match P.underlying t with
   |some (.slice e)=>Au (Tm P t&&Nat.ble (n*Bi P e) 16777216) (Hw P e fun z=>Vr (Tv P t) (ps.toList.map fun q=>(q.1,Cm s.tm q.2)) (Sw n z) fun cs=>
     Po (Kz s.hp) (List.replicate n (Iz P e)).flatten cs fun cs' m=>K (.view d (Bi P e) 0 n) m [(d,.ar false cs')])
   |_=>none)=some r):∃v fz nw,K v fz nw=some r∧Fi P a w o Y β s v fz nw:=by
 split at hk
 ·rename_i e hu;obtain ⟨hb,hk⟩:=Ax hk;simp only [Bool.and_eq_true] at hb;have hle:n*Bi P e<=16777216:=Nat.le_of_ble_eq_true hb.2;have hinf:(P.info? e).isSome=true:=by have:=hb.1;unfold Tm at this;rw [hu] at this;exact this
  obtain ⟨z,cs,hk,hz,hct,hl,hsz,hc⟩:=Qz hk;obtain ⟨hzr,hzf⟩:=WI (w:=w) (A:=C1 s.hp β Y) (β:=β) hl hc hz;have hrep:=Af5 hzr n
  obtain ⟨pc',vc',hk,hf,h2,hl',hr'⟩:=JG h hk hrep (fun c hcm id hid=>by
   obtain ⟨j,hj⟩:=List.mem_iff_getElem?.1 hcm;obtain ⟨_,hg⟩:=DB hj;rw [hzf c (List.mem_of_getElem? hg)] at hid;cases hid)
  obtain ⟨qs,m,hk,hql,hpl,hqT,_,hm,hqv⟩:=Sx h hk;obtain ⟨h3,h3'⟩:=hqv m (fun _ hi=>hi) hm _ h2
  have hf':Instr.fill (fun i=>some (i*Bi P e,Bi P e)) (madeCells z.cells (n*cs.length)) (ps.toList.map fun q=>(q.1,a.eval q.2))=some vc':=by
   rw [←hf];refine AL (fun i=>?_) _ _
   simp [Tv,hu]
  have hvl:vc'.size=n*Bi P e:=by
   have h4:=h2.len;rw [hl',VC] at h4;simp at h4;rw [←h4,hsz]
  have hrun:(execOp a.eval o).run P w=.ok (.value (.slice (some ⟨w.heap.size,0,none⟩) n n)) (w.alloc (.cells vc' e)):=by
   unfold execOp;rw [ho];have hle':¬(n*Bi P e>2 ^ 24):=by omega
   rw [hsz] at hf';by_cases hn0:n*Bi P e=0
   ·simp only [Instr.buildSlice,Sem.run_bind,run_underlying hu,Result.andThen_ok,Eh hinf,if_neg hle',hn0];rw [hn0] at hf';have e0:madeCells z.cells 0=(Array.range 0).map (fun _=>default):=by simp [madeCells]
    rw [e0] at hf';simp [hf',newRow]
   ·simp only [Instr.buildSlice,Sem.run_bind,run_underlying hu,Result.andThen_ok,Eh hinf,if_neg hle',if_neg hn0,Yt hz];unfold madeCells at hf';simp [hf',newRow]
  refine ⟨_,_,_,hk,Sc (c:=vc') (e:=e) hm hrun (Hg.alloc w vc' e) (fun j p hj=>?_) (.inr ⟨Bi P e,n,n,rfl,rfl,Nat.le_refl _,by rw [hvl];exact Nat.le_refl _⟩)⟩
  obtain ⟨u,hu',hp⟩:=h3.get hj;exact ⟨u,by simpa using hu',h3' u (List.mem_of_getElem? hu'),hp⟩
 ·cases hk
end
end
end Go.Proofs.YtdjihiphpgkfmaaGreatDoor.Pv
