/-
  The proof of MetadataForward, part 1.
-/
import Derived.Orders
import Derived.LoopN
import Derived.Below
import Derived.Lib.ValidU
import Derived.Lib.Bytealg
import Derived.IntWalk
import Derived.WalkKit
import Derived.WalkLawsBesides
import Derived.Laws.IdiomStrings
import Derived.Laws.MakeOwn
import Derived.Laws.Tables
set_option linter.unusedSimpArgs false
set_option linter.unusedVariables false
namespace Go.Proofs.YtpogefhpiaaliaaDoor.Pv
section
inductive PV where
 |sc (v:Value)
 |lst (z:Bool) (es n:Nat) (cells:List PV)
 |own (es n:Nat) (cells:List PV)
 |view (id es off n:Nat)
 |ptr (id off:Nat)
 |iptr (cells:List PV) (off:Nat)
 |pbox (cells:List PV)
 |agg (cells:List PV)
 |tup (vs:List PV)
 |top
 |ub
inductive Bx where
 |st (cells:List PV)
 |ar (fz:Bool) (cells:List PV)
 |mv
structure St where
 tm:Nat->PV
 hp:Nat->Option Bx
structure A5 where
 vals:List PV
 outs:List (List PV)
structure I3 where
 shr:FuncId->Bool
 mvd:FuncId->Nat->Bool
 lnd:FuncId->Nat->Bool
 kz:FuncId->Bool
 ext:FuncId->Option (List PV->Option A5)
def I3.core (C:I3):I3:={ C with ext:=fun _=>none }
def Da {α:Type}(f:Nat->α)(i:Nat)(v:α):Nat->α:=fun j=>bif Nat.beq j i then v else f j
def rd (hp:Nat->Option Bx)(id:Nat):Option (List PV):=
 match hp id with
 |some (.st c)=>some c
 |some (.ar _ c)=>some c
 |_=>none
def M4 (hp:Nat->Option Bx)(id:Nat):Option (List PV):=
 match hp id with
 |some (.ar _ c)=>some c
 |_=>none
inductive CT where
 |int (k:IntKind)
 |bool
 |str
 |sl (es:Nat)
 |any
def Bl (P:Program)(t:TypeId):Nat:=((P.info? t).map (·.size)).getD 0
def Cr (P:Program)(t:TypeId):Bool:=
 match P.underlying t with
 |some (.struct _)=>true
 |some (.array _ _)=>true
 |_=>false
def Azp (P:Program):Nat->TypeId->List CT
 |0,_=>[]
 |d+1,t=>
  match P.underlying t with
  |some (.int k)=>[.int k]
  |some .bool=>[.bool]
  |some .string=>[.str]
  |some (.slice e)=>[.sl (Bl P e)]
  |some (.struct fs)=>fs.toList.flatMap fun f=>Azp P d f.type
  |some (.array n e)=>(List.replicate n (Azp P d e)).flatten
  |_=>[.any]
abbrev Kh (P:Program)(t:TypeId):List CT:=Azp P 9 t
def Lj (P:Program)(t:TypeId):Bool:=(P.underlying t).isSome&&Nat.beq (Kh P t).length (Bl P t)
abbrev W7 (k:IntKind)(a b:Int):Int:=k.wrap (BitVec.ofInt k.bits a &&& BitVec.ofInt k.bits b).toNat
abbrev UF (k:IntKind)(a b:Int):Int:=k.wrap (BitVec.ofInt k.bits a ||| BitVec.ofInt k.bits b).toNat
abbrev Ev (k:IntKind)(a b:Int):Int:=k.wrap (BitVec.ofInt k.bits a ^^^ BitVec.ofInt k.bits b).toNat
abbrev Auh (k:IntKind)(a b:Int):Int:=k.wrap (BitVec.ofInt k.bits a &&& ~~~BitVec.ofInt k.bits b).toNat
abbrev Jj (k:IntKind)(a b:Int):Int:=k.wrap (a*2 ^ (min b.toNat k.bits))
abbrev Ik (k:IntKind)(a b:Int):Int:=a.fdiv (2 ^ (min b.toNat k.bits))
abbrev A2e (k:IntKind)(n:Int):Int:=k.wrap (BitVec.ofInt k.bits (if k.signed then -1 else k.max) ^^^ BitVec.ofInt k.bits n).toNat
section
variable {R:Type}
def Ae (k:IntKind)(p:PV)(K:Int->Option R):Option R:=
 match p with
 |.sc (.int k' n)=>if k'=k then K n else none
 |_=>none
def Bu (p:PV)(K:Bool->Option R):Option R:=
 match p with
 |.sc (.bool b)=>K b
 |_=>none
def Iz (p:PV)(K:ByteArray->Option R):Option R:=
 match p with
 |.sc (.string s)=>K s
 |_=>none
def Fq (es:Nat)(p:PV)(K:Bool->Nat->List PV->Option R):Option R:=
 match p with
 |.lst z es' n c=>bif Nat.beq es' es then K z n c else none
 |.sc (.slice none 0 0)=>K true 0 []
 |_=>none
def fsK (es:Nat)(p:PV)(K:PV->Option R):Option R:=
 match p with
 |.view id es' off n=>bif Nat.beq es' es then K (.view id es off n) else none
 |p=>Fq es p fun z n c=>K (.lst z es n c)
def Gl (es:Nat)(p:PV)(K:Nat->List PV->Option R):Option R:=
 match p with
 |.own es' n c=>bif Nat.beq es' es then K n c else none
 |_=>none
def Ar (b:Bool)(K:Option R):Option R:=bif b then K else none
abbrev Aa {α:Type}(x:α)(K:α->Option R):Option R:=K x
def SI (b:Bool)(x y:Option R):Option R:=bif b then x else y
abbrev A5s (x:Nat)(K:Nat->Option R):Option R:=K x
def Aoi (x:List (List Nat)) (K:List (List Nat)->Option R):Option R:=K x
def Bi (b:Bool)(x y:Option R):Option R:=bif b then x else y
def F8 {α:Type}(o:Option α)(K:α->Option R):Option R:=
 match o with
 |some a=>K a
 |none=>none
def Ab {α:Type}(l:List α)(K:α->List α->Option R):Option R:=
 match l with
 |a::r=>K a r
 |[]=>none
def Ac {α:Type}(l:List α)(K:Option R):Option R:=
 match l with
 |[]=>K
 |_::_=>none
def Fm (p:PV)(K:List PV->Option R):Option R:=
 match p with
 |.agg c=>K c
 |_=>none
def DO (p:PV)(K:List PV->Option R):Option R:=
 match p with
 |.pbox c=>K c
 |_=>none
def Ai (r:Option A5)(K:List PV->List (List PV)->Option R):Option R:=
 match r with
 |some ⟨v,o⟩=>K v o
 |none=>none
def fnK (p:PV)(K:Value->Option R):Option R:=
 match p with
 |.sc (.func f a b)=>K (.func f a b)
 |_=>none
def fvK (p:PV)(K:FuncId->Option R):Option R:=
 match p with
 |.sc (.func (.func f) a b)=>bif a.isEmpty&&b.isEmpty then K f else none
 |_=>none
def HJ (t:CT)(p:PV)(K:PV->Option R):Option R:=
 match t with
 |.int k=>Ae k p fun n=>K (.sc (.int k n))
 |.bool=>Bu p fun b=>K (.sc (.bool b))
 |.str=>Iz p fun s=>K (.sc (.string s))
 |.sl es=>Fq es p fun z n c=>K (.lst z es n c)
 |.any=>fnK p fun v=>K (.sc v)
def fcK (t:CT)(p:PV)(K:PV->Option R):Option R:=
 match t with
 |.sl es=>fsK es p K
 |t=>HJ t p K
def Xk:List CT->List PV->Nat->(List PV->Option R)->Option R
 |[],_,_,K=>K []
 |t::ts,cells,off,K=>HJ t (cells.getD off .top) fun c=>Xk ts cells (off+1) fun r=>K (c::r)
def Tf:List CT->List PV->Nat->(List PV->Option R)->Option R
 |[],_,_,K=>K []
 |t::ts,cells,off,K=>fcK t (cells.getD off .top) fun c=>Tf ts cells (off+1) fun r=>K (c::r)
def mkV (agg:Bool)(cells:List PV)(K:PV->Option R):Option R:=
 bif agg then K (.agg cells) else Ab cells fun c r=>Ac r (K c)
def cellsOf:PV->List PV
 |.agg c=>c
 |p=>[p]
def cvK (P:Program)(t:TypeId)(v:Value)(K:PV->Option R):Option R:=
 match v with
 |.agg cs=>Ar (Nat.beq cs.toList.length (Kh P t).length) (Xk (Kh P t) (cs.toList.map .sc) 0 fun c=>K (.agg c))
 |.slice none 0 0=>
  match P.underlying t with
  |some (.slice e)=>K (.lst true (Bl P e) 0 [])
  |_=>none
 |v=>K (.sc v)
end
def Ct (tm:Nat->PV):Operand->PV
 |.tmp t=>tm t
 |.const (.agg cs)=>.agg (cs.toList.map .sc)
 |.const v=>.sc v
 |.func f=>.sc (.func (.func f) #[] #[])
 |.global g=>.sc (.pointer (some ⟨g,0,none⟩))
section
variable {R:Type}
def Ef (p:PV)(K:IntKind->Int->Option R):Option R:=
 match p with
 |.sc (.int k n)=>K k n
 |_=>none
def Afu (rdf:Nat->Option (List PV)) (es:Nat)(p:PV)(K:Nat->List PV->Option R):Option R:=
 match p with
 |.view id es' off n=>bif Nat.beq es' es then F8 (rdf id) fun c=>Ar (decide (off+n*es<=c.length)) (K n ((c.drop off).take (n*es))) else none
 |p=>Fq es p fun _ n c=>K n c
def R2 (rdf:Nat->Option (List PV)) (t:CT)(p:PV)(K:PV->List Nat->Option R):Option R:=
 match t with
 |.sl es=>
  match p with
  |.view id es' off n=>bif Nat.beq es' es then F8 (rdf id) fun c=>Ar (decide (off+n*es<=c.length)) (K (.lst false es n ((c.drop off).take (n*es))) [id]) else none
  |p=>Fq es p fun _ n c=>K (.lst false es n c) []
 |t=>HJ t p fun c=>K c []
def Ro (rdf:Nat->Option (List PV)):List CT->List PV->(List PV->List Nat->Option R)->Option R
 |[],[],K=>K [] []
 |t::ts,p::ps,K=>R2 rdf t p fun c m=>Ro rdf ts ps fun cs ms=>K (c::cs) (m++ms)
 |_,_,_=>none
def Ag0 (P:Program)(rdf:Nat->Option (List PV)) (t:TypeId)(p:PV)(K:PV->List Nat->Option R):Option R:=
 bif Cr P t then Fm p fun ps=>Ro rdf (Kh P t) ps fun cs m=>K (.agg cs) m
 else Ro rdf (Kh P t) [p] fun cs m=>Ab cs fun c r=>Ac r (K c m)
def QO (P:Program)(rdf:Nat->Option (List PV)):List TypeId->List PV->(List PV->List Nat->Option R)->Option R
 |[],[],K=>K [] []
 |t::ts,p::ps,K=>Ag0 P rdf t p fun v m=>QO P rdf ts ps fun vs ms=>K (v::vs) (m++ms)
 |_,_,_=>none
def Am9 (shr:Bool)(id:Nat)(t:CT)(p:PV)(K:PV->List (Nat × Bx)->Option R):Option R:=
 match t with
 |.sl es=>bif shr then Fq es p fun _ n c=>K (.lst false es n c) [] else Gl es p fun n c=>K (.view id es 0 n) [(id,.ar false c)]
 |t=>HJ t p fun c=>K c []
def Ty (shr:Bool)(N:Nat):Nat->List CT->List PV->(List PV->List (Nat × Bx)->Option R)->Option R
 |_,[],ps,K=>Ac ps (K [] [])
 |id,t::ts,ps,K=>Ab ps fun p ps=>Am9 shr id t p fun c b=>Ty shr N (id+N) ts ps fun cs bs=>K (c::cs) (b++bs)
def EC (P:Program)(t:TypeId):Option TypeId:=
 match P.underlying t with
 |some (.pointer e)=>some e
 |_=>none
def Adl (P:Program)(t:TypeId):Nat:=
 match EC P t with
 |some e=>1+(Kh P e).length
 |none=>(Kh P t).length
def Aka (P:Program)(shr:Bool)(N:Nat)(id:Nat)(t:TypeId)(p:PV)(K:PV->List (Nat × Bx)->Option R):Option R:=
 match EC P t with
 |some e=>DO p fun ps=>Ty shr N (id+N) (Kh P e) ps fun cs bs=>K (.ptr id 0) ((id,.st cs)::bs)
 |none=>
 bif Cr P t then Fm p fun ps=>Ty shr N id (Kh P t) ps fun cs bs=>K (.agg cs) bs
 else Ty shr N id (Kh P t) [p] fun cs bs=>Ab cs fun c r=>Ac r (K c bs)
def JS (P:Program)(shr:Bool)(N:Nat):Nat->List TypeId->List PV->(List PV->List (Nat × Bx)->Option R)->Option R
 |_,[],ps,K=>Ac ps (K [] [])
 |id,t::ts,ps,K=>Ab ps fun p ps=>Aka P shr N id t p fun v bs=>JS P shr N (id+N*Adl P t) ts ps fun vs bs'=>K (v::vs) (bs++bs')
def Ru (P:Program)(t:TypeId):List TypeId:=
 match P.underlying t with
 |some (.tuple ts)=>ts.toList
 |_=>[t]
def Qx (vs:List PV)(t:Bool):PV:=bif t then .tup vs else vs.headD .top
def Si (P:Program)(t:TypeId):Bool:=
 match P.underlying t with
 |some (.tuple _)=>true
 |_=>false
def Atj (op:BinOp)(a b:Int)(K:Bool->Option R):Option R:=
 match op with
 |.eql=>K (a==b)
 |.neq=>K (a != b)
 |.lss=>K (decide (a<b))
 |.leq=>K (decide (a<=b))
 |.gtr=>K (decide (a>b))
 |.geq=>K (decide (a>=b))
 |_=>none
def ON (op:BinOp)(k:IntKind)(a b:Int)(K:PV->Option R):Option R:=
 match op with
 |.add=>Aa ((k.wrap (a+b))) fun n=>K (.sc (.int k n))
 |.sub=>Aa ((k.wrap (a-b))) fun n=>K (.sc (.int k n))
 |.mul=>Aa ((k.wrap (a*b))) fun n=>K (.sc (.int k n))
 |.quo=>Ar (decide (b≠0)) (Aa ((k.wrap (a.tdiv b))) fun n=>K (.sc (.int k n)))
 |.rem=>Ar (decide (b≠0)) (Aa ((a.tmod b)) fun n=>K (.sc (.int k n)))
 |.and=>Aa (W7 k a b) fun n=>K (.sc (.int k n))
 |.or=>Aa (UF k a b) fun n=>K (.sc (.int k n))
 |.xor=>Aa (Ev k a b) fun n=>K (.sc (.int k n))
 |.andNot=>Aa (Auh k a b) fun n=>K (.sc (.int k n))
 |op=>Atj op a b fun r=>K (.sc (.bool r))
def PD (op:BinOp)(x y:ByteArray)(K:PV->Option R):Option R:=
 match op with
 |.add=>Ar (decide (x.size+y.size<=9223372036854775807)) (Aa (x++y) fun s=>K (.sc (.string s)))
 |.eql=>K (.sc (.bool (x.data.toList==y.data.toList)))
 |.neq=>K (.sc (.bool !(x.data.toList==y.data.toList)))
 |.lss=>K (.sc (.bool (Op.bytesLess x.data.toList y.data.toList)))
 |.leq=>K (.sc (.bool (Op.bytesLess x.data.toList y.data.toList||x.data.toList==y.data.toList)))
 |.gtr=>K (.sc (.bool !(Op.bytesLess x.data.toList y.data.toList||x.data.toList==y.data.toList)))
 |.geq=>K (.sc (.bool !(Op.bytesLess x.data.toList y.data.toList)))
 |_=>none
def RG (e:Bool)(p:PV)(K:PV->Option R):Option R:=
 match p with
 |.sc (.slice none 0 0)=>K (.sc (.bool e))
 |.lst z _ n _=>Bi z (K (.sc (.bool e))) (Bi (decide (0<n)) (K (.sc (.bool !e))) (K .ub))
 |.view _ _ _ n=>Bi (decide (0<n)) (K (.sc (.bool !e))) (K .ub)
 |_=>none
def Abd (P:Program):List Field->Nat->Bool
 |[],_=>true
 |f::r,i=>Nat.beq f.offset i&&(f.name != "_")&&(match P.underlying f.type with|some (.int _)=>true|some .bool=>true|some .string=>true|_=>false)&&Abd P r (i+1)
def Rj (P:Program):List Field->Nat->Bool
  |[],_=>true
  |f::r,i=>Nat.beq f.offset i&&(f.name != "_") &&
    (match P.underlying f.type with
     |some (.int _)=>Rj P r (i+1)
     |some .bool=>Rj P r (i+1)
     |some .string=>Rj P r (i+1)
     |some (.struct gs)=>Abd P gs.toList 0 && !P.stoodInHeld f.type&&(P.info? f.type).isSome&&Nat.beq (Bl P f.type) gs.size&&Rj P r (i+gs.size)
     |_=>false)
def Aad (P:Program)(t:TypeId)(fs:Array Field):Bool:=Rj P fs.toList 0 && !P.stoodInHeld t && !P.eqGuardType P.depth t
def fty (P:Program)(f:Field):CT:=
 match P.underlying f.type with
 |some (.int k)=>.int k
 |some .bool=>.bool
 |some .string=>.str
 |_=>.any
def Adn (P:Program)(f:Field):List CT:=
 match P.underlying f.type with
 |some (.struct gs)=>gs.toList.map (fty P)
 |_=>[fty P f]
def Z8 (P:Program):List Field->List CT
 |[]=>[]
 |f::r=>Adn P f++Z8 P r
def Od:List CT->List PV->List PV->(Bool->Option R)->Option R
 |[],[],[],K=>K true
 |.int k::ts,p::ps,q::qs,K=>Ae k p fun a=>Ae k q fun b=>Od ts ps qs fun r=>K ((a==b)&&r)
 |.bool::ts,p::ps,q::qs,K=>Bu p fun a=>Bu q fun b=>Od ts ps qs fun r=>K ((a==b)&&r)
 |.str::ts,p::ps,q::qs,K=>Iz p fun a=>Iz q fun b=>Od ts ps qs fun r=>K ((a==b)&&r)
 |_,_,_,_=>none
def Aor (P:Program)(op:BinOp)(t:TypeId)(x y:PV)(K:PV->Option R):Option R:=
 match P.underlying t with
 |some (.int k)=>
  match op with
  |.shl=>Ae k x fun a=>Ef y fun _ b=>Ar (decide (0<=b)) (Aa (Jj k a b) fun n=>K (.sc (.int k n)))
  |.shr=>Ae k x fun a=>Ef y fun _ b=>Ar (decide (0<=b)) (Aa (Ik k a b) fun n=>K (.sc (.int k n)))
  |op=>Ae k x fun a=>Ae k y fun b=>ON op k a b K
 |some .string=>Iz x fun a=>Iz y fun b=>PD op a b K
 |some .bool=>
  match op with
  |.eql=>Bu x fun a=>Bu y fun b=>K (.sc (.bool (a==b)))
  |.neq=>Bu x fun a=>Bu y fun b=>K (.sc (.bool !(a==b)))
  |_=>none
 |some (.slice _)=>
  match op,y with
  |.eql,.sc (.slice none 0 0)=>RG true x K
  |.neq,.sc (.slice none 0 0)=>RG false x K
  |_,_=>none
 |_=>none
def Zc (P:Program)(op:BinOp)(t:TypeId)(x y:PV)(K:PV->Option R):Option R:=
 match P.underlying t with
 |some (.struct fs)=>
  match op with
  |.eql=>Ar (Aad P t fs) (Fm x fun xs=>Fm y fun ys=>Od (Z8 P fs.toList) xs ys fun b=>K (.sc (.bool b)))
  |.neq=>Ar (Aad P t fs) (Fm x fun xs=>Fm y fun ys=>Od (Z8 P fs.toList) xs ys fun b=>K (.sc (.bool !b)))
  |_=>none
 |_=>Aor P op t x y K
def unK (op:UnOp)(x:PV)(K:PV->Option R):Option R:=
 match op with
 |.not=>Bu x fun b=>K (.sc (.bool !b))
 |.neg=>Ef x fun k n=>Aa (k.wrap (0-n)) fun n=>K (.sc (.int k n))
 |.xor=>Ef x fun k n=>Aa (A2e k n) fun n=>K (.sc (.int k n))
 |_=>none
def bytesOf:List PV->Option (List UInt8)
 |[]=>some []
 |.sc (.int .u8 n)::r=>(bytesOf r).map (n.toNat.toUInt8 :: ·)
 |_::_=>none
def Fo (s:ByteArray):List PV:=s.data.toList.map fun b=>.sc (.int .u8 b.toNat)
def QL (P:Program)(rdf:Nat->Option (List PV)) (d:Nat)(src dst:TypeId)(x:PV)(K:PV->List (Nat × Bx)->Option R):Option R:=
 match P.underlying dst with
 |some (.int k)=>Ar (P.underlying src).isSome (Ef x fun _ n=>Aa (k.wrap n) fun n=>K (.sc (.int k n)) [])
 |some .string=>
  match P.underlying src with
  |some .string=>Iz x fun s=>K (.sc (.string s)) []
  |some (.slice e)=>
   match P.underlying e with
   |some (.int .u8)=>Afu rdf 1 x fun n c=>Ar (decide (c.length=n)) (F8 (bytesOf c) fun b=>K (.sc (.string ⟨b.toArray⟩)) [])
   |_=>none
  |_=>none
 |some (.slice e)=>
  match P.underlying e,P.underlying src with
  |some (.int .u8),some .string=>Iz x fun s=>Ar (decide (s.size<=1099511627776)) (K (.view d 1 0 s.size) [(d,.ar false (Fo s))])
  |_,_=>none
 |_=>none
def I4 (p:Option PV)(dflt:Nat)(K:Nat->Option R):Option R:=
 match p with
 |none=>K dflt
 |some p=>Ef p fun _ i=>Ar (decide (0<=i)) (K i.toNat)
def IP (P:Program)(rdf:Nat->Option (List PV)) (t:TypeId)(x:PV)(lo hi:Option PV)(K:PV->Option R):Option R:=
 match P.underlying t with
 |some .string=>Iz x fun s=>I4 lo 0 fun l=>I4 hi s.size fun h=>Ar (decide (l<=h)&&decide (h<=s.size)) (Aa (s.extract l h) fun s=>K (.sc (.string s)))
 |some (.slice e)=>Ar (P.info? e).isSome (
  match x with
  |.view id es off n=>Ar (Nat.beq es (Bl P e)) (I4 lo 0 fun l=>I4 hi n fun h=>Ar (decide (l<=h)&&decide (h<=n)) (Aa (off+l*es) fun o=>Aa (h-l) fun n=>K (.view id es o n)))
  |x=>Fq (Bl P e) x fun z n c=>I4 lo 0 fun l=>I4 hi n fun h=>Ar (decide (l<=h)&&decide (h<=n)) (Aa (h-l) fun n=>Aa ((c.drop (l*Bl P e)).take (n*Bl P e)) fun c=>K (.lst z (Bl P e) n c)))
 |some (.array n e)=>Ar (P.info? e).isSome (
  match x with
  |.ptr id off=>F8 (rdf id) fun c=>Ar (decide (1<=n*Bl P e)&&decide (off+n*Bl P e<=c.length))<|I4 lo 0 fun l=>I4 hi n fun h=>Ar (decide (l<=h)&&decide (h<=n)) (Aa (off+l*Bl P e) fun o=>Aa (h-l) fun n=>K (.view id (Bl P e) o n))
  |_=>none)
 |_=>none
def Zf (P:Program)(d:Nat)(t:TypeId)(x:PV)(lo hi mx:Option PV)(K:PV->List (Nat × Bx)->Option R):Option R:=
 match P.underlying t with
 |some (.slice e)=>Ar ((P.info? e).isSome&&hi.isSome) (
  match x with
  |.view _ es _ n=>Ar (Nat.beq es (Bl P e)) (I4 lo 0 fun l=>I4 hi n fun h=>I4 mx n fun m=>Ar (Nat.beq l m&&Nat.beq h m&&decide (m<=n)) (K (.view d (Bl P e) 0 0) [(d,.ar false [])]))
  |x=>Fq (Bl P e) x fun _ n _=>I4 lo 0 fun l=>I4 hi n fun h=>I4 mx n fun m=>Ar (Nat.beq l m&&Nat.beq h m&&decide (m<=n)) (K (.view d (Bl P e) 0 0) [(d,.ar false [])]))
 |_=>none
def Xp (x:PV)(d:Nat)(K:PV->Option R):Option R:=
 match x with
 |.ptr id off=>K (.ptr id (off+d))
 |.iptr c off=>K (.iptr c (off+d))
 |_=>none
def QR (P:Program)(e:TypeId):Bool:=(P.info? e).isSome
def Uu (P:Program)(t:TypeId)(f:Nat):Option (Nat × TypeId):=
 match P.underlying t with
 |some (.struct fs)=>(fs[f]?).map fun g=>(g.offset,g.type)
 |_=>none
def Nz (P:Program)(t:TypeId)(x:PV)(i:Int)(K:PV->Option R):Option R:=
 match P.underlying t with
 |some (.array n e)=>Ar (QR P e) (Ar (decide (0<=i)&&decide (i<n)) (Xp x (i.toNat*Bl P e) K))
 |some (.slice e)=>Ar (QR P e) (
  match x with
  |.view id es off n=>Ar (Nat.beq es (Bl P e)) (Ar (decide (0<=i)&&decide (i<n)) (K (.ptr id (off+i.toNat*es))))
  |x=>Fq (Bl P e) x fun _ n c=>Ar (decide (0<=i)&&decide (i<n)) (K (.iptr c (i.toNat*Bl P e))))
 |_=>none
def OS (P:Program)(rdf:Nat->Option (List PV)) (t:TypeId)(x:PV)(K:PV->Option R):Option R:=
 match x with
 |.ptr id off=>Ar (Lj P t) (F8 (rdf id) fun c=>Tf (Kh P t) c off fun cs=>mkV (Cr P t) cs K)
 |.iptr c off=>Ar (Lj P t) (Xk (Kh P t) c off fun cs=>mkV (Cr P t) cs K)
 |_=>none
def XI:PV->PV
 |.lst _ es n c=>.lst false es n c
 |p=>p
def Ajo:PV->PV
 |.agg cs=>.agg (cs.map XI)
 |p=>XI p
def EW (P:Program)(rdf rdaf:Nat->Option (List PV)) (t:TypeId)(x:PV)(K:PV->Option R):Option R:=
 match x with
 |.ptr id off=>Ar (Lj P t) (
  match rdaf id with
  |some c=>Xk (Kh P t) c off fun cs=>mkV (Cr P t) cs fun v=>K (Ajo v)
  |none=>F8 (rdf id) fun c=>Tf (Kh P t) c off fun cs=>mkV (Cr P t) cs K)
 |.iptr c off=>Ar (Lj P t) (Xk (Kh P t) c off fun cs=>mkV (Cr P t) cs fun v=>K (Ajo v))
 |_=>none
def Bn (cells new:List PV)(off:Nat):List PV:=cells.take off++new++cells.drop (off+new.length)
def okP:PV->Bool
 |.agg _=>true
 |.lst _ _ _ _=>true
 |.view _ _ _ _=>true
 |.sc (.int _ _)=>true
 |.sc (.bool _)=>true
 |.sc (.string _)=>true
 |.sc (.slice none 0 0)=>true
 |_=>false
def Xl (Ji:Nat->Option (Nat × Nat)):List (Nat × PV)->List PV->(List PV->Option R)->Option R
 |[],cells,K=>K cells
 |(i,p)::r,cells,K=>F8 (Ji i) fun q=>Ar (okP p&&Nat.beq (cellsOf p).length q.2&&Nat.ble (q.1+q.2) cells.length) (Aa (Bn cells (cellsOf p) q.1) fun cells=>Xl Ji r cells K)
def Wc (P:Program)(t:TypeId)(i:Nat):Option (Nat × Nat):=
 match P.underlying t with
 |some (.struct fs)=>(fs[i]?).map fun f=>(f.offset,Bl P f.type)
 |some (.array _ e)=>some (i*Bl P e,Bl P e)
 |some (.slice e)=>some (i*Bl P e,Bl P e)
 |_=>none
def Uc (P:Program)(t:TypeId):Bool:=
 match P.underlying t with
 |some (.struct fs)=>fs.toList.all fun f=>QR P f.type
 |some (.array _ e)=>QR P e
 |some (.slice e)=>QR P e
 |_=>false
def DE (P:Program)(t:TypeId):Option Value:=(P.info? t).bind (·.zero)
def I8 (P:Program)(t:TypeId)(K:List PV->Option R):Option R:=
 F8 (DE P t) fun v=>Ar (Nat.beq v.cells.toList.length (Kh P t).length&&Lj P t) (Xk (Kh P t) (v.cells.toList.map .sc) 0 K)
def Yg (P:Program)(t:TypeId):Bool:=
 match P.underlying t with
 |some (.array _ _)=>true
 |_=>false
def Anm (P:Program)(t:TypeId)(cells:List PV):Bx:=bif Yg P t then .ar false cells else .st cells
def Up (n:Nat)(l:List PV):List PV:=(List.replicate n l).flatten
def Aua (a b:PV)(K:PV->Option R):Option R:=Ef a fun k x=>Ae k b fun y=>Aa (if y<x then y else x) fun n=>K (.sc (.int k n))
def Aux (a b:PV)(K:PV->Option R):Option R:=Ef a fun k x=>Ae k b fun y=>Aa (if x<y then y else x) fun n=>K (.sc (.int k n))
def Alt (P:Program)(t:TypeId)(x:PV)(K:Nat->Option R):Option R:=
 match P.underlying t with
 |some .string=>Iz x fun s=>K s.size
 |some (.array n _)=>K n
 |some (.slice e)=>
  match x with
  |.view _ es _ n=>Ar (Nat.beq es (Bl P e)) (K n)
  |x=>Fq (Bl P e) x fun _ n _=>K n
 |_=>none
end
abbrev Ah:=FuncId->List PV->Option A5
section
variable {R:Type}
def Mn (P:Program)(ts:List TypeId):Bool:=ts.any fun t=>(EC P t).isSome||(Kh P t).any fun c=>match c with | .sl _=>true|_=>false
def ID (P:Program)(t:TypeId)(tm:Nat->PV)(x:Operand)(K:PV->Option R):Option R:=
 match x with
 |.const v=>cvK P t v K
 |x=>K (Ct tm x)
def ZY (P:Program)(e:TypeId):Bool:=
 match P.info? e with
 |some i=>(match i.zero with|some z=>Nat.beq z.cells.size i.size|none=>false)
 |none=>false
def Af3 (P:Program)(rdaf:Nat->Option (List PV)) (es:Nat)(t:TypeId)(x:PV)(K:Nat->List PV->Option R):Option R:=
 match P.underlying t with
 |some .string=>Ar (Nat.beq es 1) (Iz x fun b=>K b.size (Fo b))
 |some (.slice _)=>Afu rdaf es x K
 |_=>none
abbrev Afo (P:Program)(s:St)(es:Nat)(t:TypeId)(x:PV)(K:Nat->List PV->Option R):Option R:=Af3 P (M4 s.hp) es t x K
def EG (c:Call):Bool:=
 match c.args.toList with
 |.const (.slice none 0 0)::_=>true
 |_=>false
def Y8 (P:Program)(rdaf:Nat->Option (List PV)) (d:Nat)(t tx:TypeId)(x:PV)(K:PV->List (Nat × Bx)->Option R):Option R:=
 match P.underlying t with
 |some (.slice e)=>Ar (ZY P e) <|
  Af3 P rdaf (Bl P e) tx x fun m new=>
   Ar (decide (new.length=m*Bl P e)&&decide (m*((P.info? e).map (·.bytes)).getD 0<=1099511627776)&&decide (m<=1099511627776)) (K (.view d (Bl P e) 0 m) [(d,.ar false new)])
 |_=>none
def Lx (k:Bool):List Operand->List PV->List PV
  |x::xs,p::ps=>
    (match x,p with
     |.const (.slice none 0 0),.lst z es 0 []=>.lst (k||z) es 0 []
     |_,p=>p)::Lx k xs ps
  |_,ps=>ps
def Ali (P:Program)(t:TypeId)(x:PV)(K:Nat->Option R):Option R:=
 match P.underlying t with
 |some (.slice e)=>Fq (Bl P e) x fun z _ _=>Ar z (K 0)
 |_=>none
def QB (P:Program)(f:FuncId)(c:Call):List TypeId:=
 match P.funcs[f]? with
 |some fn=>fn.params.toList
 |none=>c.argTypes.toList
def RF (C:I3)(P:Program)(N:Nat)(call:Ah)(tm:Nat->PV)(rdaf:Nat->Option (List PV)) (o:Oper)(c:Call)(f:FuncId)(K:PV->List Nat->List (Nat × Bx)->Option R):Option R:=
 QO P rdaf (QB P f c) (c.args.toList.map (Ct tm)) fun vs m=>
  Ai (call f (Lx (C.kz f) c.args.toList vs)) fun rv ro=>Ac ro (Ar (Nat.blt 0 N)<|JS P (C.shr f) N (o.dst.getD 0) (Ru P o.type) rv fun ws bs=>
   Ar (bif Si P o.type then !Nat.beq ws.length 1 else Nat.beq ws.length 1)<|K (Qx ws (Si P o.type)) (bif Mn P (Ru P o.type) then m else []) bs)
def PK (C:I3)(P:Program)(N:Nat)(call:Ah)(tm:Nat->PV)(rdf rdaf:Nat->Option (List PV)) (o:Oper)(K:PV->List Nat->List (Nat × Bx)->Option R):Option R:=
  match o.op with
  |.move x=>ID P o.type tm x fun p=>K p [] []
  |.assign x=>ID P o.type tm x fun p=>K p [] []
  |.pick c a b=>Bu (Ct tm c) fun t=>Bi t (K (Ct tm a) [] []) (K (Ct tm b) [] [])
  |.alloc t=>F8 o.dst fun d=>I8 P t fun cs=>K (.ptr d 0) [] [(d,Anm P t cs)]
  |.box t x=>F8 o.dst fun d=>Ar (Lj P t&&Nat.beq (cellsOf (Ct tm x)).length (Kh P t).length)
      (bif Yg P t then Xk (Kh P t) (cellsOf (Ct tm x)) 0 fun cs=>K (.ptr d 0) [] [(d,.ar false cs)]
       else Tf (Kh P t) (cellsOf (Ct tm x)) 0 fun cs=>K (.ptr d 0) [] [(d,.st cs)])
  |.build t ps=>Ar (Uc P t&&Cr P t)<|I8 P t fun z=>Xl (Wc P t) (ps.toList.map fun q=>(q.1,Ct tm q.2)) z fun cs=>Tf (Kh P t) cs 0 fun cs'=>K (.agg cs') [] []
  |.buildSlice t n ps=>F8 o.dst fun d=>
      match P.underlying t with
      |some (.slice e)=>Ar (Uc P t&&Nat.ble (n*Bl P e) 16777216) (I8 P e fun z=>Xl (Wc P t) (ps.toList.map fun q=>(q.1,Ct tm q.2)) (Up n z) fun cs=>
          Ro rdaf (List.replicate n (Kh P e)).flatten cs fun cs' m=>K (.view d (Bl P e) 0 n) m [(d,.ar false cs')])
      |_=>none
  |.load t a=>EW P rdf rdaf t (Ct tm a) fun v=>K v [] []
  |.nilCheck x=>Xp (Ct tm x) 0 fun p=>K p [] []
  |.binOp op t x y _=>
      Zc P op t (Ct tm x) (Ct tm y) fun v=>K v [] []
  |.unOp op _ x=>unK op (Ct tm x) fun v=>K v [] []
  |.convert src dst x=>QL P rdaf (o.dst.getD 0) src dst (Ct tm x) fun v b=>F8 o.dst fun _=>K v [] b
  |.makeSlice t l c=>F8 o.dst fun d=>
      match P.underlying t with
      |some (.slice e)=>Ef (Ct tm l) fun _ n=>Ef (Ct tm c) fun _ m=>
          Ar (decide (0<=n)&&decide (n<=m)&&decide (m*((P.info? e).map (·.bytes)).getD 0<=1099511627776)&&decide (m<=1099511627776))
            (I8 P e fun z=>K (.view d (Bl P e) 0 n.toNat) [] [(d,.ar false (Up n.toNat z))])
      |_=>none
  |.slice t x lo hi mx=>
      match mx with
      |none=>IP P rdf t (Ct tm x) (lo.map (Ct tm)) (hi.map (Ct tm)) fun v=>K v [] []
      |some m=>F8 o.dst fun d=>Zf P d t (Ct tm x) (lo.map (Ct tm)) (hi.map (Ct tm)) (some (Ct tm m)) fun v nw=>K v [] nw
  |.fieldAddr t x f=>F8 (Uu P t f) fun q=>Ar (Nat.ble 1 (Bl P q.2)) (Xp (Ct tm x) q.1 fun p=>K p [] [])
  |.field t x f=>F8 (Uu P t f) fun q=>Ar (Lj P q.2)<|Fm (Ct tm x) fun cs=>Tf (Kh P q.2) cs q.1 fun c=>mkV (Cr P q.2) c fun v=>K v [] []
  |.indexAddr t x i=>Ef (Ct tm i) fun _ n=>Nz P t (Ct tm x) n fun p=>K p [] []
  |.index t x i=>Ef (Ct tm i) fun _ n=>
      match P.underlying t with
      |some .string=>Iz (Ct tm x) fun s=>Ar (decide (0<=n)) (F8 (s.data.toList[n.toNat]?) fun b=>K (.sc (.int .u8 b.toNat)) [] [])
      |some (.array len e)=>Fm (Ct tm x) fun cs=>Ar (decide (0<=n)&&decide (n<len)&&Lj P e) (Tf (Kh P e) cs (n.toNat*Bl P e) fun c=>mkV (Cr P e) c fun v=>K v [] [])
      |_=>none
  |.extract x i=>
      match Ct tm x with
      |.tup vs=>F8 vs[i]? fun p=>K p [] []
      |_=>none
  |.call c=>
      match c.callee with
      |.builtin .len=>Ab c.args.toList fun x _=>Ab c.argTypes.toList fun t _=>Alt P t (Ct tm x) fun n=>K (.sc (.int .i64 n)) [] []
      |.builtin .cap=>Ab c.args.toList fun x _=>Ab c.argTypes.toList fun t _=>Ali P t (Ct tm x) fun n=>K (.sc (.int .i64 n)) [] []
      |.builtin .min=>Ab c.args.toList fun x r=>Ab r fun y r'=>Ac r' (Aua (Ct tm x) (Ct tm y) fun v=>K v [] [])
      |.builtin .max=>Ab c.args.toList fun x r=>Ab r fun y r'=>Ac r' (Aux (Ct tm x) (Ct tm y) fun v=>K v [] [])
      |.builtin .append=>Ar (EG c) (F8 o.dst fun d=>Ab c.args.toList fun _ r=>Ab r fun x r'=>Ac r' (Ab c.argTypes.toList fun t u=>Ab u fun tx _=>Y8 P rdaf d t tx (Ct tm x) fun v nw=>K v [] nw))
      |.value (.func f)=>RF C P N call tm rdaf o c f K
      |.value (.tmp t)=>fvK (tm t) fun f=>RF C P N call tm rdaf o c f K
      |_=>none
  |_=>none
def Vl (C:I3)(P:Program)(o:Op):Bool:=
 match o with
 |.store .. =>true
 |.call c=>
  match c.callee with
  |.builtin .append=> !EG c
  |.builtin .copy=>true
  |.builtin _=>false
  |.value (.func f)=>((QB P f c).any fun t=>(EC P t).isSome)||((QB P f c).zipIdx.any fun q=>C.mvd f q.2||C.lnd f q.2)
  |_=>false
 |_=>false
def Yl (b:Bx):Bx:=
 match b with
 |.ar _ c=>.ar true c
 |b=>b
def Ag (hp:Nat->Option Bx)(ids:List Nat):Nat->Option Bx:=fun i=>bif ids.any (Nat.beq i) then (hp i).map Yl else hp i
def A6 (hp:Nat->Option Bx):List (Nat × Bx)->Nat->Option Bx
 |[]=>hp
 |(i,b)::r=>A6 (Da hp i (some b)) r
def Ck (hp:Nat->Option Bx):List (Nat × Bx)->Bool
 |[]=>true
 |(i,_)::r=>(hp i).isNone && !(r.any fun q=>Nat.beq q.1 i)&&Ck hp r
def B8 (tm:Nat->PV)(d:Option Tmp)(v:PV):Nat->PV:=
 match d with
 |some i=>Da tm i v
 |none=>tm
def Ih (N:Nat)(d:Option Tmp):Bool:=
 match d with
 |some i=>Nat.blt i N
 |none=>true
def HK (N:Nat)(s:St)(d:Option Tmp)(v:PV)(fz:List Nat)(nw:List (Nat × Bx)) (K:St->Option R):Option R:=
 Ar (Ih N d&&Ck s.hp nw) (K ⟨B8 s.tm d v,A6 (Ag s.hp fz) nw⟩)
def IR (P:Program)(s:St)(t:TypeId)(a x:PV)(K:St->Option R):Option R:=
 match a with
 |.ptr id off=>
  match s.hp id with
  |some (.st c)=>Ar (Lj P t&&Nat.beq (cellsOf x).length (Kh P t).length&&decide (off+(Kh P t).length<=c.length)) (Tf (Kh P t) (cellsOf x) 0 fun cs=>Aa (Bn c cs off) fun c=>K ⟨s.tm,Da s.hp id (some (.st c))⟩)
  |some (.ar false c)=>Ar (Lj P t&&decide (off+(Kh P t).length<=c.length)) (Ro (M4 s.hp) (Kh P t) (cellsOf x) fun cs m=>Ar (!m.any (Nat.beq id)) (Aa (Bn c cs off) fun c=>K ⟨s.tm,Da (Ag s.hp m) id (some (.ar false c))⟩))
  |_=>none
 |_=>none
def ED (P:Program)(t:TypeId):Bool:=
 match P.underlying t with
 |some (.int _)=>true
 |_=>false
def Yh (P:Program)(N:Nat)(s:St)(d:Nat)(e:TypeId)(b x:PV)(K:St->Option R):Option R:=
 Ef x fun _ n=>Fq (Bl P e) b fun z _ _=>
  Ar (z&&Nat.blt d N&&(s.hp d).isNone&&decide (0<=n)&&decide (n.toNat*((P.info? e).map (·.bytes)).getD 0<=1099511627776)&&decide (n<=1099511627776))
   (K ⟨Da s.tm d (.view d (Bl P e) 0 n.toNat),Da s.hp d (some (.ar false []))⟩)
def S3 (P:Program)(N:Nat)(s:St)(d:Nat)(t tx:TypeId)(b x:PV)(K:St->Option R):Option R:=
 match P.underlying t with
 |some (.slice e)=>Ar (ZY P e) <|
  bif ED P tx then Yh P N s d e b x K else
  Afo P s (Bl P e) tx x fun m new=>
  match b with
  |.view id es off n=>
   match s.hp id with
   |some (.ar false c)=>
    Ar (Nat.beq es (Bl P e)&&Nat.beq off 0&&Nat.blt d N&&(s.hp d).isNone&&decide (n*es<=c.length)&&decide (new.length=m*es)
     && decide ((n+m)*((P.info? e).map (·.bytes)).getD 0<=1099511627776)&&decide (n+m<=1099511627776))
     (Aa (n+m) fun n'=>Aa (c.take (n*es)++new) fun c=>K ⟨Da s.tm d (.view d es 0 n'),Da (Da s.hp id (some .mv)) d (some (.ar false c))⟩)
   |_=>none
  |b=>Fq (Bl P e) b fun z _ _=>
    Ar (z&&Nat.blt d N&&(s.hp d).isNone&&decide (new.length=m*Bl P e)&&decide (m*((P.info? e).map (·.bytes)).getD 0<=1099511627776)&&decide (m<=1099511627776))
     (K ⟨Da s.tm d (.view d (Bl P e) 0 m),Da s.hp d (some (.ar false new))⟩)
 |_=>none
def UJ (P:Program)(N:Nat)(s:St)(d:Option Tmp)(t tx:TypeId)(b x:PV)(K:St->Option R):Option R:=
 match P.underlying t with
 |some (.slice e)=>Ar (QR P e&&Ih N d) <|
  Afo P s (Bl P e) tx x fun m new=>
  match b with
  |.view id es off n=>
   match s.hp id with
   |some (.ar false c)=>Ar (Nat.beq es (Bl P e)&&decide (off+n*es<=c.length)&&decide (new.length=m*es))
     (Aa (min m n) fun k=>Aa (Bn c (new.take (k*es)) off) fun c=>K ⟨B8 s.tm d (.sc (.int .i64 k)),Da s.hp id (some (.ar false c))⟩)
   |_=>none
  |_=>none
 |_=>none
def Aje (mv:Bool)(hp:Nat->Option Bx)(t:CT)(p:PV)(K:PV->List Nat->List Nat->Option R):Option R:=
 match t with
 |.sl es=>
  bif mv then
   match p with
   |.view id es' off n=>
    match hp id with
    |some (.ar false c)=>
     bif Nat.beq es' es&&Nat.beq off 0 then Ar (decide (n*es<=c.length)) (K (.own es n (c.take (n*es))) [] [id])
     else R2 (M4 hp) (.sl es) (.view id es' off n) fun c m=>K c m []
    |_=>R2 (M4 hp) (.sl es) (.view id es' off n) fun c m=>K c m []
   |p=>Fq es p fun z n c=>bif z then K (.own es 0 []) [] [] else K (.lst false es n c) [] []
  else R2 (M4 hp) (.sl es) p fun c m=>K c m []
 |t=>HJ t p fun c=>K c [] []
def KJ (mv:Bool)(hp:Nat->Option Bx):List CT->List PV->(List PV->List Nat->List Nat->Option R)->Option R
 |[],[],K=>K [] [] []
 |t::ts,p::ps,K=>Aje mv hp t p fun c m x=>KJ mv hp ts ps fun cs ms xs=>K (c::cs) (m++ms) (x++xs)
 |_,_,_=>none
inductive I1 where
 |var (id off:Nat) (cts:List CT) (ws:List PV)
 |row (id:Nat)
 |none
def I1.ids:I1->List Nat
 |.var id _ _ _=>[id]
 |.row id=>[id]
 |.none=>[]
def A3i (P:Program)(t:TypeId):Option TypeId:=
 match P.underlying t with
 |some (.slice e)=>some e
 |_=>none
def Arm (hp:Nat->Option Bx)(es:Nat)(p:PV)(K:PV->List I1->Option R):Option R:=
 match p with
 |.view id es' off n=>
  match hp id with
  |some (.ar false c)=>Ar (Nat.beq es' es&&Nat.beq off 0) (K (.tup [.own es n c]) [.row id])
  |_=>none
 |p=>Fq es p fun z _ _=>Ar z (K (.tup [.own es 0 []]) [.none])
def GX (C:I3)(P:Program)(f:FuncId)(hp:Nat->Option Bx)(i:Nat)(t:TypeId)(p:PV)(K:PV->List Nat->List Nat->List I1->Option R):Option R:=
 match EC P t with
 |some e=>
  match p with
  |.ptr id off=>
   match hp id with
   |some (.st c)=>Ar (Lj P e&&decide (off+(Kh P e).length<=c.length)) (KJ (C.mvd f i) hp (Kh P e) ((c.drop off).take (Kh P e).length) fun cs m x=>K (.pbox cs) m x [.var id off (Kh P e) cs])
   |_=>none
  |_=>none
 |none=>
  bif C.lnd f i then F8 (A3i P t) fun e=>Arm hp (Bl P e) p fun v l=>K v [] [] l
  else bif Cr P t then Fm p fun ps=>KJ (C.mvd f i) hp (Kh P t) ps fun cs m x=>K (.agg cs) m x []
  else KJ (C.mvd f i) hp (Kh P t) [p] fun cs m x=>Ab cs fun c r=>Ac r (K c m x [])
def UY (C:I3)(P:Program)(f:FuncId)(hp:Nat->Option Bx):Nat->List TypeId->List PV->(List PV->List Nat->List Nat->List I1->Option R)->Option R
 |_,[],[],K=>K [] [] [] []
 |i,t::ts,p::ps,K=>GX C P f hp i t p fun v m x l=>UY C P f hp (i+1) ts ps fun vs ms xs ls=>K (v::vs) (m++ms) (x++xs) (l++ls)
 |_,_,_,_=>none
def X3 (hp:Nat->Option Bx)(ids:List Nat):Nat->Option Bx:=fun i=>bif ids.any (Nat.beq i) then (hp i).map (fun _=>Bx.mv) else hp i
def nid (N t:Nat):Nat:=N*(1000+t)
def Abl (N:Nat)(hp:Nat->Option Bx):Nat->Nat->Nat
 |0,t=>t
 |k+1,t=>bif (hp (nid N t)).isNone then t else Abl N hp k (t+1)
def All (N t:Nat)(ct:CT)(was p:PV)(K:Nat->PV->List (Nat × Bx)->Option R):Option R:=
 match ct with
 |.sl es=>
  match was with
  |.own _ _ _=>Gl es p fun n c=>K (t+1) (.view (nid N t) es 0 n) [(nid N t,.ar false c)]
  |_=>Fq es p fun _ n c=>K t (.lst false es n c) []
 |ct=>HJ ct p fun c=>K t c []
def XG (N:Nat):Nat->List CT->List PV->List PV->(Nat->List PV->List (Nat × Bx)->Option R)->Option R
 |t,[],[],ps,K=>Ac ps (K t [] [])
 |t,ct::cts,w::ws,ps,K=>Ab ps fun p ps=>All N t ct w p fun t' c b=>XG N t' cts ws ps fun t'' cs bs=>K t'' (c::cs) (b++bs)
 |_,_,_,_,_=>none
def BM (N:Nat):Nat->List I1->List (List PV)->(Nat->Option Bx)->((Nat->Option Bx)->List (Nat × Bx)->Option R)->Option R
 |_,[],ro,hp,K=>Ac ro (K hp [])
 |t,.var id off cts ws::l,ro,hp,K=>Ab ro fun cs ro=>XG N t cts ws cs fun t' cs' bs=>
   match hp id with
   |some (.st c)=>Aa (Bn c cs' off) fun c=>BM N t' l ro (Da hp id (some (.st c))) fun C1 bs'=>K C1 (bs++bs')
   |_=>none
 |t,.row id::l,ro,hp,K=>Ab ro fun cs ro=>BM N t l ro (Da hp id (some (.ar false cs))) K
 |t,.none::l,ro,hp,K=>Ab ro fun _ ro=>BM N t l ro hp K
def Fh:List Nat->Bool
 |[]=>true
 |a::r=> !(r.any (Nat.beq a))&&Fh r
def IU (C:I3)(P:Program)(N:Nat)(call:Ah)(s:St)(o:Oper)(f:FuncId)(c:Call)(K:St->Option R):Option R:=
 UY C P f s.hp 0 (QB P f c) (c.args.toList.map (Ct s.tm)) fun vs m x l=>
  Ar (Fh (l.flatMap I1.ids++x)&&m.all (fun i=> !((l.flatMap I1.ids++x).any (Nat.beq i)))&&Nat.blt 0 N&&Ih N o.dst) <|
  Ai (call f (Lx (C.kz f) c.args.toList vs)) fun rv ro=>
   JS P (C.shr f) N (o.dst.getD N) (Ru P o.type) rv fun ws bs=>
    Ar (bif Si P o.type then !Nat.beq ws.length 1 else Nat.beq ws.length 1) <|
    A5s (Abl N s.hp 100 0) fun t0=>BM N t0 l ro (X3 (Ag s.hp m) x) fun C1 bs'=>
     Ar (Ck C1 (bs++bs')) (K ⟨B8 s.tm o.dst (Qx ws (Si P o.type)),A6 C1 (bs++bs')⟩)
def Zu (C:I3)(P:Program)(N:Nat)(call:Ah)(s:St)(o:Oper)(K:St->Option R):Option R:=
 match o.op with
 |.store t a x=>Ar (o.dst.isNone) (IR P s t (Ct s.tm a) (Ct s.tm x) K)
 |.call c=>
  match c.callee with
  |.builtin .append=>F8 o.dst fun d=>Ab c.args.toList fun b r=>Ab r fun x r'=>Ac r' (Ab c.argTypes.toList fun t u=>Ab u fun tx _=>S3 P N s d t tx (Ct s.tm b) (Ct s.tm x) K)
  |.builtin .copy=>Ab c.args.toList fun b r=>Ab r fun x r'=>Ac r' (Ab c.argTypes.toList fun t u=>Ab u fun tx _=>UJ P N s o.dst t tx (Ct s.tm b) (Ct s.tm x) K)
  |.value (.func f)=>IU C P N call s o f c K
  |_=>none
 |_=>none
def Adt (C:I3)(P:Program)(N:Nat)(call:Ah)(o:Oper)(s:St)(K:St->Option R):Option R:=
 bif Vl C P o.op then Zu C P N call s o K
 else PK C P N call s.tm (rd s.hp) (M4 s.hp) o fun v fz nw=>HK N s o.dst v fz nw K
def Ee (C:I3)(P:Program)(N:Nat)(call:Ah)(ops:Array Oper)(o:Oper)(s:St)(K:St->Option R):Option R:=
 match o.guard with
 |none=>Adt C P N call o s K
 |some (j,want)=>
  match (ops[j]?).bind (·.dst) with
  |none=>none
  |some d=>
   match s.tm d with
   |.sc (.bool b)=>
    Bi b (bif want then Adt C P N call o ⟨Da s.tm d (.sc (.bool true)),s.hp⟩ K else Ar (Ih N o.dst) (K ⟨B8 (Da s.tm d (.sc (.bool true))) o.dst (.sc undef),s.hp⟩))
     (bif want then Ar (Ih N o.dst) (K ⟨B8 (Da s.tm d (.sc (.bool false))) o.dst (.sc undef),s.hp⟩) else Adt C P N call o ⟨Da s.tm d (.sc (.bool false)),s.hp⟩ K)
   |.sc (.tuple _)=>Ar (Ih N o.dst) (K ⟨B8 s.tm o.dst (.sc undef),s.hp⟩)
   |_=>none
def Qt (C:I3)(P:Program)(N:Nat)(call:Ah)(ops:Array Oper):List Oper->St->(St->Option R)->Option R
 |[],s,K=>K s
 |o::r,s,K=>Ee C P N call ops o s fun s'=>Qt C P N call ops r s' K
noncomputable def Wp (x y:Option R):Option R:=open Classical in if x=y then x else none
noncomputable def Agd (ops:Array Oper)(o:Oper)(s:St)(F:St->Option R):Option R:=
 match o.guard with
 |none=>F s
 |some (j,_)=>
  match (ops[j]?).bind (·.dst) with
  |none=>F s
  |some d=>
   match s.tm d with
   |.ub=>Wp (F ⟨Da s.tm d (.sc (.bool true)),s.hp⟩) (F ⟨Da s.tm d (.sc (.bool false)),s.hp⟩)
   |_=>F s
noncomputable def Ke (C:I3)(P:Program)(N:Nat)(call:Ah)(ops:Array Oper):List Oper->St->(St->Option R)->Option R
 |[],s,K=>K s
 |o::r,s,K=>Agd ops o s fun s1=>Ee C P N call ops o s1 fun s'=>Ke C P N call ops r s' K
end
def Aqt (o:Oper):List Nat:=o.op.operands.toList.filterMap fun x=>match x with | .tmp t=>some t|_=>none
def looks (ops:Array Oper)(o:Oper):List Nat:=
 Aqt o++(match o.guard with|some (g,_)=>((ops[g]?).bind (·.dst)).toList|none=>[])
def J5 (P:Program)(o:Op):Bool:=
 match o with
 |.slice t .. =>match P.underlying t with|some (.array _ _)=>true|_=>false
 |.buildSlice t _ _=>match P.underlying t with|some (.slice e)=>Mn P [e]|_=>true
 |.convert _ dst _=>match P.underlying dst with|some .string=>true|_=>false
 |.alloc _ | .box .. | .makeSlice .. =>false
 |.move _ | .assign _ | .pick .. | .build .. | .binOp .. | .unOp .. | .fieldAddr .. | .field .. | .index .. | .indexAddr .. | .extract .. | .nilCheck _=>false
 |.call c=>match c.callee with | .builtin .len=>false | .builtin .min=>false | .builtin .max=>false|_=>true
 |_=>true
def QV (C:I3)(P:Program)(ops:Array Oper)(x y:Oper):Bool:=
 (match x.dst with|some d=>(looks ops y).any (Nat.beq d)||(match y.dst with|some e=>Nat.beq d e|none=>false)|none=>false) ||
 (match y.dst with|some e=>(looks ops x).any (Nat.beq e)|none=>false) ||
 (Vl C P x.op&&J5 P y.op)||(Vl C P y.op&&J5 P x.op)
def Ks (ops:List Oper):List Nat->List Nat
 |acc=>match ops with
  |[]=>acc
  |o::r=>Ks r (acc++[o.after.toList.foldl (fun s e=>bif Region.binds .any e then s ||| 2 ^ e.on ||| acc.getD e.on 0 else s) 0])
def MY (C:I3)(P:Program)(ops:Array Oper)(bs:List Nat):List Oper->Nat->Bool
 |[],_=>true
 |o::r,i=>(ops.toList.zipIdx.all fun q=> !Nat.blt q.2 i || !QV C P ops q.1 o||(bs.getD i 0).testBit q.2)&&MY C P ops bs r (i+1)
def NU (C:I3)(P:Program)(ops:Array Oper):Bool:=
 ops.toList.zipIdx.all (fun q=>q.1.after.toList.all fun e=> !Region.binds .any e||Nat.blt e.on q.2)&&MY C P ops (Ks ops.toList []) ops.toList 0
def Av:PV->List Nat
 |.view id _ _ _=>[id]
 |.ptr id _=>[id]
 |_=>[]
def Cj:PV->List Nat
 |.agg cs=>cs.flatMap Av
 |p=>Av p
def B7:PV->List Nat
 |.tup ps=>ps.flatMap Cj
 |p=>Cj p
def Yn (P:Program)(o:Op):Bool:=
 match o with
 |.load .. =>true
 |.convert _ dst _=>(match P.underlying dst with|some .string=>true|_=>false)
 |_=>false
def Qo (o:Op):Bool:=
 match o with
 |.call c=>(match c.callee with | .builtin .append=> !EG c|_=>false)
 |_=>false
def Aq1 (ops:Array Oper)(x y:Oper):Bool:=
 (match x.dst with|some d=>(looks ops y).any (Nat.beq d)||(match y.dst with|some e=>Nat.beq d e|none=>false)|none=>false) ||
 (match y.dst with|some e=>(looks ops x).any (Nat.beq e)|none=>false)
def Vn (C:I3)(P:Program)(x y:Oper):Bool:=(Vl C P x.op&&J5 P y.op)||(Vl C P y.op&&J5 P x.op)
def M6 (C:I3)(P:Program)(x y:Oper):Bool:=(Vl C P x.op&&Yn P y.op)||(Vl C P y.op&&Yn P x.op)||(Qo x.op&&Qo y.op)
def Apm (C:I3)(P:Program)(ops:Array Oper)(x y:Oper):Bool:=Aq1 ops x y||(Vn C P x y && !M6 C P x y)
def FW (C:I3)(P:Program)(ops:Array Oper)(bs:List Nat):List Oper->Nat->Bool
 |[],_=>true
 |o::r,i=>(ops.toList.zipIdx.all fun q=> !Nat.blt q.2 i || !Apm C P ops q.1 o||(bs.getD i 0).testBit q.2)&&FW C P ops bs r (i+1)
def PH (C:I3)(P:Program)(ops:Array Oper):Bool:=
 ops.toList.zipIdx.all (fun q=>q.1.after.toList.all fun e=> !Region.binds .any e||Nat.blt e.on q.2)&&FW C P ops (Ks ops.toList []) ops.toList 0
def Pq (C:I3)(P:Program)(s:St)(o:Oper):List Nat:=
 let l:=o.op.operands.toList.flatMap fun y=>B7 (Ct s.tm y)
 bif Vl C P o.op && !Qo o.op then l++l.flatMap (fun i=>match s.hp i with|some (.st c)=>c.flatMap Av|_=>[])
 else bif Yn P o.op||Qo o.op then l else []
def Ajt (a b:List Nat):Bool:=a.all fun i=> !b.any (Nat.beq i)
def GE (C:I3)(P:Program)(ops:Array Oper)(bs:List Nat)(i:Nat)(o:Oper):List Nat:=
 (ops.toList.zipIdx.filter fun q=>M6 C P q.1 o && !(Nat.blt q.2 i&&(bs.getD i 0).testBit q.2) && !(Nat.blt i q.2&&(bs.getD q.2 0).testBit i)).map (·.2)
def KK (C:I3)(P:Program)(ops:Array Oper)(bs:List Nat):List (List Nat):=ops.toList.zipIdx.map fun q=>GE C P ops bs q.2 q.1
def MV (C:I3)(P:Program)(sm:List (List Nat)) (s:St)(i:Nat)(o:Oper):List Nat:=
 match sm.getD i [] with
 |[]=>[]
 |_::_=>Pq C P s o
def ST (C:I3)(P:Program)(sm:List (List Nat)) (s:St)(i:Nat)(o:Oper)(q:Nat × Oper × List Nat):Bool:=
 !((sm.getD i []).any (Nat.beq q.1))||Ajt q.2.2 (MV C P sm s i o)
def Kf {R:Type}(C:I3)(P:Program)(N:Nat)(call:Ah)(ops:Array Oper)(sm:List (List Nat)):List (Nat × Oper × List Nat)->List Nat->St->(St->Option R)->Option R
 |_,[],s,K=>K s
 |dn,i::l,s,K=>F8 ops[i]? fun o=>Ar (dn.all (ST C P sm s i o)&&(MV C P sm s i o).all (fun k=>(s.hp k).isSome)) (Ee C P N call ops o s fun s'=>Kf C P N call ops sm ((i,o,MV C P sm s i o)::dn) l s' K)
def Aou (m i:Nat):Nat:=m ||| 2 ^ i
def Baf (m i:Nat):Nat:=bif m.testBit i then m ^^^ 2 ^ i else m
def Ahx (ops:Array Oper):List Oper->Nat->Nat
 |[],m=>m
 |o::r,m=>
  let m1:=Ahx ops r m
  let m2:=match o.dst with|some d=>Baf m1 d|none=>m1
  (looks ops o).foldl Aou m2
def Rz:Code->Nat->(Nat->Nat)->Nat->Nat
 |.skip,ln,_,_=>ln
 |.region _ ops _,ln,_,_=>Ahx ops ops.toList ln
 |.seq a b,ln,lx,lr=>Rz a (Rz b ln lx lr) lx lr
 |.cond c a b,ln,lx,lr=>let m:=Rz a ln lx lr ||| Rz b ln lx lr;match c with | .tmp d=>Aou m d|_=>m
 |.block id c,ln,lx,lr=>Rz c ln (fun j=>bif Nat.beq j id then ln else lx j) lr
 |.loop c,_,lx,lr=>Rz c (Rz c 0 lx lr) lx lr
 |.exit id,_,lx,_=>lx id
 |.ret,_,_,lr=>lr
 |_,_,_,_=>0
def Arc (ops:List Oper):List Nat:=(ops.filterMap fun o=>o.guard.map (·.1)).eraseDups
def Rx:Code->Nat
 |.region _ _ _=>1
 |.seq a b=>Rx a+Rx b
 |.cond _ a b=>Rx a+Rx b
 |.block _ c=>Rx c
 |.loop c=>Rx c
 |_=>0
def LN:Code->Nat
 |.skip=>1
 |.region _ ops _=>2 ^ min 6 (Arc ops.toList).length
 |.seq a b=>bif (Nat.ble 7 (LN a)&&Nat.ble 6 (Rx b))||(Nat.ble 5 (LN a)&&Nat.ble 9 (Rx b)) then LN b else min 1000 (LN a*LN b)
 |.cond _ a b=>LN a+LN b
 |.block _ c=>LN c
 |.loop _=>1
 |.exit _=>1
 |_=>0
def Av1 (P:Program)(o:Oper):Bool:=
 match o.op with
 |.load t _=>Yg P t&&Nat.ble 8 (Bl P t)
 |.store t _ _=>Yg P t&&Nat.ble 8 (Bl P t)
 |_=>false
def Aa6 (P:Program):Code->Bool
 |.region _ ops _=>ops.toList.any (Av1 P)
 |.seq a _=>Aa6 P a
 |_=>false
def Aif (P:Program):Code->Bool
 |.region _ ops _=>ops.toList.any (Av1 P)
 |.seq _ b=>Aif P b
 |_=>false
def Aov (x y:Code):Bool:=(Nat.beq (LN x) 4&&Nat.beq (Rx x) 7&&(Nat.beq (Rx y) 3||Nat.beq (Rx y) 1))||(Nat.beq (LN x) 9&&Nat.beq (Rx x) 5&&Nat.beq (Rx y) 5)
def FD (a b:Code):Bool:=Aov a b||(match b with | .seq x y=>Aov x y|_=>false)
def Aho (P:Program)(a b:Code):Bool:=(Nat.ble 7 (LN a)&&Nat.ble 6 (Rx b))||(Nat.ble 5 (LN a)&&Nat.ble 9 (Rx b))||FD a b||Aa6 P b||Aif P a
def Pc (m:Nat):Nat->List Nat
 |0=>[]
 |n+1=>Pc m n++(bif m.testBit n then [n] else [])
def lk (l:List (Nat × PV)) (i:Nat):PV:=
 match l with
 |[]=>.top
 |(j,p)::r=>bif Nat.beq i j then p else lk r i
def Br (l:List (Nat × Bx)) (i:Nat):Option Bx:=
 match l with
 |[]=>none
 |(j,b)::r=>bif Nat.beq i j then some b else Br r i
def Zj (l:List (Nat × Nat)) (i:Nat):Option Nat:=
 match l with
 |[]=>none
 |(j,b)::r=>bif Nat.beq i j then some b else Zj r i
def NJ (N:Nat)(s:St)(i:Nat):St:=
 match s.tm i with
 |.lst true es 0 []=>
  bif (s.hp i).isNone then ⟨Da s.tm i (.view i es 0 0),Da s.hp i (some (.ar false []))⟩
  else bif (s.hp (i+N*3000)).isNone then ⟨Da s.tm i (.view (i+N*3000) es 0 0),Da s.hp (i+N*3000) (some (.ar false []))⟩
  else s
 |_=>s
def YE (N:Nat)(id:Nat)(s:St)(j:Nat):St:=
 match s.hp id with
 |some (.st c)=>
  match c[j]? with
  |some (.lst true es 0 [])=>bif (s.hp (id+N*(j+1))).isNone then ⟨s.tm,Da (Da s.hp id (some (.st (c.set j (.view (id+N*(j+1)) es 0 0))))) (id+N*(j+1)) (some (.ar false []))⟩ else s
  |_=>s
 |_=>s
def XM (N:Nat)(s:St)(i:Nat):St:=
 match s.tm i with
 |.ptr id _=>
  match s.hp id with
  |some (.st c)=>(List.range c.length).foldl (YE N id) s
  |_=>s
 |_=>s
def VX (m:List (Nat × Nat)) (old new:Nat):List (Nat × Nat):=
 match Zj m old with
 |some _=>m
 |none=>m++[(old,new)]
def Vj (N new:Nat):List PV->Nat->List (Nat × Nat)->List (Nat × Nat)
 |[],_,m=>m
 |.view id _ _ _::r,j,m=>Vj N new r (j+1) (VX m id (new+N*(j+1)))
 |_::r,j,m=>Vj N new r (j+1) m
def NH (N:Nat)(s:St)(m:List (Nat × Nat)) (i:Nat):List (Nat × Nat):=
 match s.tm i with
 |.view id _ _ _=>VX m id i
 |.ptr id _=>
  match Zj m id with
  |some _=>m
  |none=>
   match s.hp id with
   |some (.st c)=>Vj N i c 0 (VX m id i)
   |_=>VX m id i
 |.agg c=>Vj N i c 0 m
 |_=>m
def Aex (m:List (Nat × Nat)):PV->PV
 |.view id es off n=>match Zj m id with|some j=>.view j es off n|none=>.top
 |.ptr id off=>match Zj m id with|some j=>.ptr j off|none=>.top
 |.sc v=>.sc v
 |.lst z es n c=>.lst z es n c
 |.iptr c off=>.iptr c off
 |_=>.top
def Akn (m:List (Nat × Nat)):PV->PV
 |.agg c=>.agg (c.map (Aex m))
 |p=>Aex m p
def Auy (m:List (Nat × Nat)):Bx->Bx
 |.st c=>.st (c.map (Aex m))
 |b=>b
def Dh (N i:Nat):Nat:=i+N*2000
def Aa8 (N:Nat)(hp:Nat->Option Bx):Nat->List (Nat × Nat)
 |0=>[]
 |i+1=>bif (hp (Dh N i)).isSome then Aa8 N hp i++[(Dh N i,Dh N i)] else Aa8 N hp i
def Xo (N:Nat)(hp:Nat->Option Bx):Nat->List (Nat × Nat)->List (Nat × Nat)
 |0,m=>m
 |i+1,m=>
  match hp (Dh N i) with
  |some (.st c)=>Vj N (Dh N i) c 0 (Xo N hp i m)
  |_=>Xo N hp i m
def A65 (N:Nat)(hp:Nat->Option Bx)(k:Nat):List (Nat × Nat):=Xo N hp k (Aa8 N hp k)
def Pu (m:List (Nat × Nat)) (hp:Nat->Option Bx):List (Nat × Nat)->List (Nat × Bx)
 |[]=>[]
 |(old,new)::r=>match hp old with
  |some b=>(new,Auy m b)::Pu m hp r
  |none=>Pu m hp r
section
variable {R:Type}
def Aih (N:Nat)(ls:List Nat)(q:Bool)(s:St)(K:St->Option R):Option R:=
 let s2:=bif q then s else ls.foldl (XM N) (ls.foldl (NJ N) s)
 let m:=ls.foldl (NH N s2) (A65 N s2.hp 8)
 Ar (Fh (m.map (·.1))&&Fh (m.map (·.2))) (K ⟨lk (ls.map fun i=>(i,Akn m (s2.tm i))),Br (Pu m s2.hp m)⟩)
def Ir (N L:Nat)(s:St)(K:St->Option R):Option R:=Aih N (Pc L N) false s K
def Acb (N L:Nat)(s:St)(K:St->Option R):Option R:=Aih N (Pc L N) true s K
def SJ (F:(St->Option R)->St->Option R) (nm:St->(St->Option R)->Option R):Nat->St->Option R
 |0,_=>none
 |n+1,s=>F (fun s'=>nm s' (SJ F nm n)) s
def PC (n:Nat)(F:St->Option R)(s:St):Option R:=
 match n with
 |0=>none
 |_+1=>F s
noncomputable def Anc (s:St)(c:Operand)(kt kf:St->Option R):Option R:=
 match c with
 |.tmp d=>
  match s.tm d with
  |.sc (.bool b)=>Bi b (kt ⟨Da s.tm d (.sc (.bool true)),s.hp⟩) (kf ⟨Da s.tm d (.sc (.bool false)),s.hp⟩)
  |.ub=>Wp (kt s) (kf s)
  |_=>none
 |.const (.bool true)=>kt s
 |.const (.bool false)=>kf s
 |_=>none
noncomputable def Mq (C:I3)(P:Program)(fu N:Nat)(call:Ah):Code->Nat->(Nat->Nat)->Nat->(St->Option R)->(Nat->St->Option R)->(St->Option R)->St->Option R
 |.skip,_,_,_,kn,_,_,s=>kn s
 |.region _ ops draw,_,_,_,kn,_,_,s=>SI (draw && !NU C P ops) (Ar (PH C P ops) (Aoi (KK C P ops (Ks ops.toList [])) fun sm=>Kf C P N call ops sm [] (List.range ops.size) s kn)) (SI draw (Qt C P N call ops ops.toList s kn) (Ke C P N call ops ops.toList s kn))
 |.seq a b,ln,lx,lr,kn,kx,kr,s=>Mq C P fu N call a (Rz b ln lx lr) lx lr (fun s'=>SI (Aho P a b) (SI (FD a b) (Acb N (Rz b ln lx lr) s' (PC fu fun s''=>Mq C P fu N call b ln lx lr kn kx kr s'')) (Ir N (Rz b ln lx lr) s' (PC fu fun s''=>Mq C P fu N call b ln lx lr kn kx kr s''))) (Mq C P fu N call b ln lx lr kn kx kr s')) kx kr s
 |.cond c a b,ln,lx,lr,kn,kx,kr,s=>Anc s c (Mq C P fu N call a ln lx lr kn kx kr) (Mq C P fu N call b ln lx lr kn kx kr)
 |.block id c,ln,lx,lr,kn,kx,kr,s=>Mq C P fu N call c ln (fun j=>bif Nat.beq j id then ln else lx j) lr kn (fun j s'=>bif Nat.beq j id then kn s' else kx j s') kr s
 |.loop c,ln,lx,lr,_,kx,kr,s=>
  Ir N (Rz (.loop c) ln lx lr) s (SJ (fun k s'=>Mq C P fu N call c (Rz (.loop c) ln lx lr) lx lr k kx kr s') (Ir N (Rz (.loop c) ln lx lr)) fu)
 |.exit id,_,_,_,_,kx,_,s=>kx id s
 |.ret,_,_,_,_,_,kr,s=>kr s
 |_,_,_,_,_,_,_,_=>none
def Ap3 (id:Nat)(t:CT)(p:PV)(K:PV->List (Nat × Bx)->Option R):Option R:=
 match t with
 |.sl es=>
  match p with
  |.own es' n c=>bif Nat.beq es' es then K (.view id es 0 n) [(id,.ar false c)] else none
  |p=>Fq es p fun z n c=>K (.lst z es n c) []
 |t=>HJ t p fun c=>K c []
def JB (N:Nat):Nat->List CT->List PV->(List PV->List (Nat × Bx)->Option R)->Option R
 |_,[],ps,K=>Ac ps (K [] [])
 |id,t::ts,ps,K=>Ab ps fun p ps=>Ap3 id t p fun c b=>JB N (id+N) ts ps fun cs bs=>K (c::cs) (b++bs)
def inK (P:Program)(N i:Nat)(t:TypeId)(p:PV)(K:PV->List (Nat × Bx)->Option R):Option R:=
 match EC P t with
 |some e=>DO p fun ps=>Ar (Nat.blt i 8) (JB N (Dh N i+N) (Kh P e) ps fun cs bs=>K (.ptr (Dh N i) 0) ((Dh N i,.st cs)::bs))
 |none=>
  match p with
  |.tup ps=>F8 (A3i P t) fun e=>Ar (Nat.blt i 8) (Ab ps fun q r=>Ac r (Gl (Bl P e) q fun n c=>K (.view (Dh N i) (Bl P e) 0 n) [(Dh N i,.ar false c)]))
  |p=>
   bif Cr P t then Fm p fun ps=>JB N (i+N) (Kh P t) ps fun cs bs=>K (.agg cs) bs
   else JB N (i+N) (Kh P t) [p] fun cs bs=>Ab cs fun c r=>Ac r (K c bs)
def Afr (P:Program)(N:Nat):Nat->List TypeId->List PV->(List (Nat × PV)->List (Nat × Bx)->Option R)->Option R
 |_,[],ps,K=>Ac ps (K [] [])
 |i,t::ts,ps,K=>Ab ps fun p ps=>inK P N i t p fun v bs=>Afr P N (i+1) ts ps fun vs bs'=>K ((i,v)::vs) (bs++bs')
def Axj (hp:Nat->Option Bx)(t:CT)(p:PV)(K:PV->List Nat->List Nat->Option R):Option R:=
  match t with
  |.sl es=>
    match p with
    |.view id es' off n=>bif Nat.beq es' es&&Nat.beq off 0 then
        (match hp id with
         |some (.ar false c)=>Ar (decide (n*es<=c.length)) (K (.own es n (c.take (n*es))) [id] [])
         |_=>none) else none
    |p=>Fq es p fun z _ _=>Ar z (K (.own es 0 []) [] [])
  |t=>HJ t p fun c=>K c [] []
def Aia (shr:Bool)(hp:Nat->Option Bx)(t:CT)(p:PV)(K:PV->List Nat->List Nat->Option R):Option R:=
 bif shr then R2 (M4 hp) t p fun c m=>K c [] m else Axj hp t p K
def II (shr:Bool)(hp:Nat->Option Bx):List CT->List PV->(List PV->List Nat->List Nat->Option R)->Option R
 |[],[],K=>K [] [] []
 |t::ts,p::ps,K=>Aia shr hp t p fun c m z=>II shr hp ts ps fun cs ms zs=>K (c::cs) (m++ms) (z++zs)
 |_,_,_=>none
def An2 (P:Program)(shr:Bool)(hp:Nat->Option Bx)(t:TypeId)(p:PV)(K:PV->List Nat->List Nat->Option R):Option R:=
 match EC P t with
 |some e=>
  match p with
  |.ptr id off=>
   match hp id with
   |some (.st c)=>Ar (Nat.beq off 0) (II shr hp (Kh P e) c fun cs m z=>K (.pbox cs) (id::m) z)
   |_=>none
  |_=>none
 |none=>
  bif Cr P t then Fm p fun ps=>II shr hp (Kh P t) ps fun cs m z=>K (.agg cs) m z
  else II shr hp (Kh P t) [p] fun cs m z=>Ab cs fun c r=>Ac r (K c m z)
def Ani (P:Program)(s:St)(r:ResultVar)(K:PV->Option R):Option R:=
 match r with
 |.tmp t=>K (s.tm t)
 |.cell a t=>EW P (rd s.hp) (M4 s.hp) t (s.tm a) K
def ZZ (P:Program)(shr:Bool)(s:St):List ResultVar->List TypeId->(List PV->List Nat->List Nat->Option R)->Option R
 |[],[],K=>K [] [] []
 |r::rs,t::ts,K=>Ani P s r fun p=>An2 P shr s.hp t p fun v m z=>ZZ P shr s rs ts fun vs ms zs=>K (v::vs) (m++ms) (z++zs)
 |_,_,_=>none
def NL (hp:Nat->Option Bx):List CT->List PV->List PV->(List PV->List Nat->List Nat->Option R)->Option R
 |[],[],[],K=>K [] [] []
 |t::ts,w::ws,p::ps,K=>Aia (match w with | .own _ _ _=>false|_=>true) hp t p fun c m z=>NL hp ts ws ps fun cs ms zs=>K (c::cs) (m++ms) (z++zs)
 |_,_,_,_=>none
def HI (P:Program)(N:Nat)(hp:Nat->Option Bx):Nat->List TypeId->List PV->(List (List PV)->List Nat->List Nat->List Nat->Option R)->Option R
 |_,[],ps,K=>Ac ps (K [] [] [] [])
 |i,t::ts,ps,K=>Ab ps fun p ps=>
  match p with
  |.pbox ws=>F8 (EC P t) fun e=>
    match hp (Dh N i) with
    |some (.st c)=>NL hp (Kh P e) ws c fun cs m z=>HI P N hp (i+1) ts ps fun r m' z' q=>K (cs::r) (m++m') (z++z') (Dh N i::q)
    |_=>none
  |.tup _=>
    match hp (Dh N i) with
    |some (.ar false c)=>HI P N hp (i+1) ts ps fun r m' z' q=>K (c::r) m' z' (Dh N i::q)
    |_=>none
  |_=>HI P N hp (i+1) ts ps K
def Aid (rs:List ResultVar):Nat:=rs.foldl (fun m r=>match r with | .tmp t=>Aou m t | .cell a _=>Aou m a) 0
end
def QA (P:Program):Nat->List TypeId->Nat->Nat
 |_,[],m=>m
 |i,t::ts,m=>QA P (i+1) ts (match P.underlying t with|some (.pointer _)=>Aou m i|_=>m)
def Acx (C:I3)(P:Program)(f:FuncId)(fn:Func)(args:List PV)(s:St):Option A5:=
 ZZ P (C.shr f) s fn.results.toList fn.resultTypes.toList fun vs m z=>HI P fn.ntmps s.hp 0 fn.params.toList args fun os m' z' q=>
  Ar (Fh ((m++m')++q)&&(z++z').all (fun i=> !(((m++m')++q).any (Nat.beq i)))) (some ⟨vs,os⟩)
noncomputable def Aug (C:I3)(P:Program)(fu:Nat)(call:Ah)(f:FuncId)(fn:Func)(c:Code)(args:List PV):Option A5:=
  Afr P fn.ntmps 0 fn.params.toList args fun tms bs=>Ar (Nat.ble args.length fn.ntmps&&Ck (fun _=>none) bs)
    (let lr:=QA P 0 fn.params.toList (Aid fn.results.toList)
     Mq C P fu fn.ntmps call c lr (fun _=>0) lr (Acx C P f fn args) (fun _ _=>none) (Acx C P f fn args) ⟨lk tms,Br bs⟩)
noncomputable def Ad (C:I3)(P:Program)(fu:Nat):Nat->FuncId->List PV->Option A5
 |0,_,_=>none
 |d+1,f,args=>
  match C.ext f with
  |some g=>g args
  |none=>
   match P.funcs[f]? with
   |none=>none
   |some fn=>match fn.body with
    |none=>none
    |some c=>Aug C.core P fu (Ad C P fu d) f fn c args
inductive Dir where
 |l
 |r
 |i (m:Nat)
section
variable {R:Type}
noncomputable def CA (C:I3)(P:Program)(fu N:Nat)(call:Ah):List Dir->Code->Nat->(Nat->Nat)->Nat->(St->Option R)->(Nat->St->Option R)->(St->Option R)->Nat->St->Option R
 |[],.seq _ b,ln,lx,lr,kn,kx,kr,n,s=>PC n (fun s''=>Mq C P fu N call b ln lx lr kn kx kr s'') s
 |[],.loop c,ln,lx,lr,_,kx,kr,n,s=>SJ (fun k s'=>Mq C P fu N call c (Rz (.loop c) ln lx lr) lx lr k kx kr s') (Ir N (Rz (.loop c) ln lx lr)) n s
 |.l::p,.seq a b,ln,lx,lr,kn,kx,kr,n,s=>CA C P fu N call p a (Rz b ln lx lr) lx lr (fun s'=>SI (Aho P a b) (SI (FD a b) (Acb N (Rz b ln lx lr) s' (PC fu fun s''=>Mq C P fu N call b ln lx lr kn kx kr s'')) (Ir N (Rz b ln lx lr) s' (PC fu fun s''=>Mq C P fu N call b ln lx lr kn kx kr s''))) (Mq C P fu N call b ln lx lr kn kx kr s')) kx kr n s
 |.r::p,.seq _ b,ln,lx,lr,kn,kx,kr,n,s=>CA C P fu N call p b ln lx lr kn kx kr n s
 |.l::p,.cond _ a _,ln,lx,lr,kn,kx,kr,n,s=>CA C P fu N call p a ln lx lr kn kx kr n s
 |.r::p,.cond _ _ b,ln,lx,lr,kn,kx,kr,n,s=>CA C P fu N call p b ln lx lr kn kx kr n s
 |.l::p,.block id c,ln,lx,lr,kn,kx,kr,n,s=>CA C P fu N call p c ln (fun j=>bif Nat.beq j id then ln else lx j) lr kn (fun j s'=>bif Nat.beq j id then kn s' else kx j s') kr n s
 |.i m::p,.loop c,ln,lx,lr,_,kx,kr,n,s=>
  CA C P fu N call p c (Rz (.loop c) ln lx lr) lx lr
   (fun s'=>Ir N (Rz (.loop c) ln lx lr) s' (SJ (fun k s'=>Mq C P fu N call c (Rz (.loop c) ln lx lr) lx lr k kx kr s') (Ir N (Rz (.loop c) ln lx lr)) m)) kx kr n s
 |_,_,_,_,_,_,_,_,_,_=>none
end
noncomputable def Du (C:I3)(P:Program)(fu:Nat)(call:Ah)(f:FuncId)(fn:Func)(c:Code)(args:List PV)(p:List Dir)(n:Nat)(s:St):Option A5:=
 let lr:=QA P 0 fn.params.toList (Aid fn.results.toList)
 CA C P fu fn.ntmps call p c lr (fun _=>0) lr (Acx C P f fn args) (fun _ _=>none) (Acx C P f fn args) n s
def Au8:List Nat:=[
 1000000]
def Az1:List Nat:=[
 11,
 4,
 15,
 34,
 59,
 6,
 18,
 12,
 26,
 27,
 1000000]
def Ax3:List Nat:=[
 1000000]
def Axp:List Nat:=[
 54,
 76,
 52,
 55,
 91,
 78,
 79,
 93,
 75,
 56,
 77,
 1000000]
def NS (args:List PV):Option A5:=
 match args with
 |[.sc (.string s)]=>bif decide (s.size<=9223372036854775807) then some ⟨[.sc (.bool (Lib.validD s.data.toList))],[]⟩ else none
 |_=>none
def X7 (args:List PV):Option A5:=
  match args with
  |[.lst _ 1 n c,.lst _ 1 m c']=>bif Nat.beq c.length n&&Nat.beq c'.length m then
      (match bytesOf c,bytesOf c' with
       |some a,some b=>some ⟨[.sc (.int .i64 (Lib.compareBytes a b))],[]⟩
       |_,_=>none) else none
  |_=>none
def GO:List Nat:=[
 87,
 32,
 67,
 68,
 66,
 43,
 21,
 69,
 99,
 97,
 95,
 85,
 94,
 86,
 44,
 45,
 70,
 61,
 46,
 48,
 24,
 22,
 23,
 60,
 49,
 72,
 81,
 14,
 35,
 37,
 26,
 27,
 12,
 18,
 1000000]
def CB:I3:=⟨fun f=>Az1.any (Nat.beq f),fun f i=>Nat.beq i 0&&Axp.any (Nat.beq f),fun f i=>Nat.beq i 0&&Ax3.any (Nat.beq f),fun f=>Au8.any (Nat.beq f),fun _=>none⟩
def CX (xs:FuncId->Option (List PV->Option A5)):I3:={ CB with ext:=fun f=>bif GO.any (Nat.beq f) then none else xs f }
def Ca (f:Func):Code:=match f.body with|some c=>c|none=>.skip
section
variable {R:Type} {r:Option R}
theorem Az {k:IntKind}{p:PV}{K:Int->Option R}{n:Int}(h:p=.sc (.int k n)) (hk:K n=r):Ae k p K=r:=by
 subst h;unfold Ae;simp[hk]
theorem A76 {p:PV}{K:IntKind->Int->Option R}{k:IntKind}{n:Int}(h:p=.sc (.int k n)) (hk:K k n=r):Ef p K=r:=by
 subst h;exact hk
theorem A9 {p:PV}{K:Bool->Option R}{b:Bool}(h:p=.sc (.bool b)) (hk:K b=r):Bu p K=r:=by
 subst h;exact hk
theorem Cz {p:PV}{K:ByteArray->Option R}{s:ByteArray}(h:p=.sc (.string s)) (hk:K s=r):Iz p K=r:=by
 subst h;exact hk
theorem Bv {es:Nat}{p:PV}{K:Bool->Nat->List PV->Option R}{z:Bool}{n:Nat}{c:List PV}(h:p=.lst z es n c)(hk:K z n c=r):Fq es p K=r:=by
 subst h;unfold Fq;simp[Nat.beq_refl,hk]
theorem Bq {es:Nat}{p:PV}{K:Nat->List PV->Option R}{n:Nat}{c:List PV}(h:p=.own es n c)(hk:K n c=r):Gl es p K=r:=by
 subst h;unfold Gl;simp[Nat.beq_refl,hk]
theorem A4 {b:Bool}{K:Option R}(h:b=true)(hk:K=r):Ar b K=r:=by
 subst h;exact hk
theorem Apz {b:Bool}{x y:Option R}(hx:b=true->x=r)(hy:b=false->y=r):Bi b x y=r:=by
 cases b
 ·exact hy rfl
 ·exact hx rfl
theorem A3 {b:Bool}{x y:Option R}(h:b=true)(hx:x=r):Bi b x y=r:=by
 subst h;exact hx
theorem Ay {b:Bool}{x y:Option R}(h:b=false)(hx:y=r):Bi b x y=r:=by
 subst h;exact hx
theorem Aft {α:Type}{o:Option α}{K:α->Option R}{a:α}(h:o=some a)(hk:K a=r):F8 o K=r:=by
 subst h;exact hk
theorem Ap {α:Type}{l:List α}{K:α->List α->Option R}{a:α}{t:List α}(h:l=a::t)(hk:K a t=r):Ab l K=r:=by
 subst h;exact hk
theorem Ax {α:Type}{l:List α}{K:Option R}(h:l=[]) (hk:K=r):Ac l K=r:=by
 subst h;exact hk
theorem Bp {p:PV}{K:List PV->Option R}{c:List PV}(h:p=.agg c)(hk:K c=r):Fm p K=r:=by
 subst h;exact hk
theorem A5c {p:PV}{K:List PV->Option R}{c:List PV}(h:p=.pbox c)(hk:K c=r):DO p K=r:=by
 subst h;exact hk
theorem Aq {o:Option A5}{K:List PV->List (List PV)->Option R} {v:List PV}{q:List (List PV)} (h:o=some ⟨v,q⟩)(hk:K v q=r):Ai o K=r:=by
 subst h;exact hk
theorem XV {x y:Option R}(hx:x=r)(hy:y=r):Wp x y=r:=by subst hx;subst hy;unfold Wp;simp
end
theorem MF (a b:Int):(a != b)=decide (a≠b):=by by_cases h:a=b<;>simp[h,bne]
theorem Akh (a b:Int):(a==b)=decide (a=b):=by by_cases h:a=b<;>simp[h]
section
variable {R:Type}
theorem Ahw (v:List PV)(o:List (List PV)) (K:List PV->List (List PV)->Option R):Ai (some ⟨v,o⟩) K=K v o:=by exact id rfl
theorem Arj {α:Type}(K:Option R):Ac ([]:List α) K=K:=by exact id rfl
theorem Ah4 {α:Type}(a:α)(r:List α)(K:α->List α->Option R):Ab (a::r) K=K a r:=by exact id rfl
theorem Ahc (b:Bool)(K:Bool->Option R):Bu (.sc (.bool b)) K=K b:=by exact id rfl
theorem Anj (s:ByteArray)(K:ByteArray->Option R):Iz (.sc (.string s)) K=K s:=by exact id rfl
theorem Aab (k:IntKind)(n:Int)(K:Int->Option R):Ae k (.sc (.int k n)) K=K n:=by unfold Ae;simp
theorem Aqz (k:IntKind)(n:Int)(K:IntKind->Int->Option R):Ef (.sc (.int k n)) K=K k n:=by exact id rfl
theorem Awg (z:Bool)(es n:Nat)(c:List PV)(K:Bool->Nat->List PV->Option R):Fq es (.lst z es n c) K=K z n c:=by unfold Fq;simp
theorem Awx (es n:Nat)(c:List PV)(K:Nat->List PV->Option R):Gl es (.own es n c) K=K n c:=by unfold Gl;simp
theorem Aqe (c:List PV)(K:List PV->Option R):Fm (.agg c) K=K c:=by exact id rfl
theorem Ait (c:List PV)(K:List PV->Option R):DO (.pbox c) K=K c:=by exact id rfl
theorem Am0 {α:Type}(a:α)(K:α->Option R):F8 (some a) K=K a:=by exact id rfl
theorem Js {α:Type}(a:α)(K:α->Option R):Aa a K=K a:=by exact id rfl
theorem Apg (K:Option R):Ar true K=K:=by exact id rfl
theorem Ahf (p:Prop) [Decidable p] (K:Option R)(h:p):Ar (decide p) K=K:=by simp[Ar,h]
theorem Ain (b c:Bool)(K:Option R):Ar (b&&c) K=Ar b (Ar c K):=by cases b<;>rfl
theorem Amo (x y:Option R):Bi true x y=x:=by exact id rfl
theorem Ap5 (x y:Option R):Bi false x y=y:=by exact id rfl
theorem BP (p:Prop) [Decidable p] (x y:Option R)(h:p):Bi (decide p) x y=x:=by simp[Bi,h]
theorem Fi (p:Prop) [Decidable p] (x y:Option R)(h:¬p):Bi (decide p) x y=y:=by simp[Bi,h]
theorem IX (p:Prop) [Decidable p] (x y:Option R):Bi (decide p) x y=if p then x else y:=by by_cases h:p<;>simp[Bi,h]
theorem L7 (a b:Int)(x y:Option R):Bi (a==b) x y=if a=b then x else y:=by
 rw[Akh,IX]
theorem Gz (a b:Int)(x y:Option R):Bi (a != b) x y=if a=b then y else x:=by
 rw[MF,IX];by_cases h:a=b<;>simp[h]
theorem NF (x:Option R):Wp x x=x:=by unfold Wp;simp
end
theorem Ak {x:Int}(h1: -9223372036854775808<=x)(h2:x<=9223372036854775807):IntKind.wrap .i64 x=x:=by
 have:=IntWalk.i64_in x (by omega)
 exact this
theorem Ea {x:Int}(h1:0<=x)(h2:x<=18446744073709551615):IntKind.wrap .u64 x=x:=by
 simp only[IntKind.wrap,IntKind.signed,IntKind.bits];simp;omega
theorem Kx {x:Int}(h1:0<=x)(h2:x<=255):IntKind.wrap .u8 x=x:=by
 simp only[IntKind.wrap,IntKind.signed,IntKind.bits];simp;omega
theorem Qy (x:Int):0<=IntKind.wrap .u64 x∧IntKind.wrap .u64 x<=18446744073709551615:=by
 simp only[IntKind.wrap,IntKind.signed,IntKind.bits];simp;omega
theorem Dx {α:Type}{l r:List α}{x:α}{i:Nat}(h:l.drop i=x::r):i<l.length∧l[i]?=some x∧l.drop (i+1)=r:=by
 have h1:i<l.length:=by
  rcases Nat.lt_or_ge i l.length with h1|h1
  ·exact h1
  ·rw[List.drop_of_length_le h1] at h;cases h
 rw[List.drop_eq_getElem_cons h1] at h;injection h with h2 h3;exact⟨h1,by rw[List.getElem?_eq_getElem h1,h2],h3⟩
theorem drop_nil {α:Type}{l:List α}{i:Nat}(h:l.drop i=[]):l.length<=i:=by
 have:=congrArg List.length h;simp at this;omega
section
variable {α:Type} {f:α->List PV} {k:Nat}
theorem Te (hf:∀x,(f x).length=k):∀(l:List α),(l.flatMap f).length=l.length*k
 |[]=>by simp
 |x::l=>by simp[hf x,Te hf l,Nat.succ_mul];omega
theorem Aaf (hf:∀x,(f x).length=k):∀(l:List α)(i:Nat),(l.flatMap f).drop (i*k)=(l.drop i).flatMap f
 |l,0=>by simp
 |[],i+1=>by simp
 |x::l,i+1=>by
  rw[List.flatMap_cons,Nat.succ_mul,Nat.add_comm,←List.drop_drop,List.drop_append_of_le_length (by rw[hf x];omega)]
  rw[show (f x).drop k=[] from List.drop_of_length_le (by rw[hf x];omega),List.nil_append]
  exact Aaf hf l i
theorem Aik (hf:∀x,(f x).length=k):∀(l:List α)(i:Nat),(l.flatMap f).take (i*k)=(l.take i).flatMap f
 |l,0=>by simp
 |[],i+1=>by simp
 |x::l,i+1=>by
  rw[List.flatMap_cons,Nat.succ_mul,Nat.add_comm,List.take_succ_cons,List.flatMap_cons,←Aik hf l i];rw[show k+i*k=(f x).length+i*k by rw[hf x],List.take_length_add_append]
theorem Ie (hf:∀x,(f x).length=k) {l:List α}{i:Nat}{x:α}(h:l[i]?=some x) {j:Nat}(hj:j<k):(l.flatMap f).getD (i*k+j) .top=(f x).getD j .top:=by
 have h1:((l.flatMap f).drop (i*k))[j]?=(l.flatMap f)[i*k+j]?:=List.getElem?_drop;rw[Aaf hf] at h1
 have h2:i<l.length:=by
  rcases Nat.lt_or_ge i l.length with h1|h1
  ·exact h1
  ·rw[List.getElem?_eq_none h1] at h;cases h
 rw[List.drop_eq_getElem_cons h2,List.flatMap_cons] at h1;have h3:l[i]=x:=by rw[List.getElem?_eq_getElem h2] at h;injection h
 rw[h3,List.getElem?_append_left (by rw[hf x];exact hj)] at h1
 simp only[List.getD_eq_getElem?_getD,←h1]
theorem Gs {c:List PV}{p:PV}{i:Nat}(h:i<c.length):Bn c [p] i=c.set i p:=by
 unfold Bn;rw[List.set_eq_take_append_cons_drop,if_pos h];simp
end
theorem Ayz {α:Type}{l:List α}{i:Nat}{x:α}(h:l[i]?=some x):i<l.length:=by
 rcases Nat.lt_or_ge i l.length with h1|h1
 ·exact h1
 ·rw[List.getElem?_eq_none h1] at h;cases h
abbrev Aym (k:IntKind)(n:Int):List PV:=[.sc (.int k n)]
abbrev Af (k:IntKind)(l:List Int):List PV:=l.flatMap (Aym k)
theorem FJ (k:IntKind)(n:Int):(Aym k n).length=1:=rfl
theorem BI {k:IntKind}{l:List Int}{i:Nat}{n:Int}(h:l[i]?=some n):(Af k l).getD i .top=.sc (.int k n):=by
 have:=Ie (FJ k) h (j:=0) (by omega)
 simpa using this
theorem At (k:IntKind)(l:List Int):(Af k l).length=l.length:=by rw[Te (FJ k)];omega
theorem Jl (k:IntKind)(l:List Int)(n:Int):Af k l++[.sc (.int k n)]=Af k (l++[n]):=by simp
theorem Tl (k:IntKind)(l:List Int):List.take l.length (Af k l)=Af k l:=List.take_of_length_le (by rw[At];omega)
theorem Cu:type_of% @Ahw∧type_of% @Arj∧type_of% @Ah4∧type_of% @Ahc∧type_of% @Anj∧type_of% @Aab∧type_of% @Aqz∧type_of% @Awg∧type_of% @Awx∧type_of% @Aqe∧type_of% @Ait∧type_of% @Am0∧type_of% @Js∧type_of% @Apg∧type_of% @Ahf∧type_of% @Ain∧type_of% @Amo∧type_of% @Ap5∧type_of% @BP∧type_of% @Fi∧type_of% @NF∧type_of% @Bool.not_true∧type_of% @Bool.not_false∧type_of% @Bool.false_eq_true∧type_of% @if_true.{1}∧type_of% @if_false.{1}∧type_of% @Bool.true_and∧type_of% @Bool.and_true∧type_of% @Bool.false_and∧type_of% @Bool.and_false∧type_of% @decide_true∧type_of% @decide_false:=
 ⟨@Ahw,@Arj,@Ah4,@Ahc,@Anj,@Aab,@Aqz,@Awg,@Awx,@Aqe,@Ait,@Am0,@Js,@Apg,@Ahf,@Ain,@Amo,@Ap5,@BP,@Fi,@NF,@Bool.not_true,@Bool.not_false,@Bool.false_eq_true,@if_true.{1},@if_false.{1},@Bool.true_and,@Bool.and_true,@Bool.false_and,@Bool.and_false,@decide_true,@decide_false⟩
theorem gT:type_of% @Bool.and_eq_true∧type_of% @decide_eq_true_eq∧type_of% @beq_iff_eq.{0}∧type_of% @bne_iff_ne.{0}∧type_of% @ne_eq.{1}∧type_of% @Bool.not_eq_true'∧type_of% @true_and∧type_of% @and_true:=
 ⟨@Bool.and_eq_true,@decide_eq_true_eq,@beq_iff_eq.{0},@bne_iff_ne.{0},@ne_eq.{1},@Bool.not_eq_true',@true_and,@and_true⟩
theorem gF:type_of% @decide_eq_false_iff_not∧type_of% @beq_eq_false_iff_ne.{0}∧type_of% @bne_eq_false_iff_eq.{0}∧type_of% @ne_eq.{1}∧type_of% @Bool.not_eq_false':=
 ⟨@decide_eq_false_iff_not,@beq_eq_false_iff_ne.{0},@bne_eq_false_iff_eq.{0},@ne_eq.{1},@Bool.not_eq_false'⟩
end
section
open Go.RowKit
def Bw {α β:Type}(R:α->β->Prop):List α->List β->Prop
 |[],[]=>True
 |a::zs,b::bs=>R a b∧Bw R zs bs
 |_,_=>False
section
variable {α β γ:Type} {R S:α->β->Prop}
theorem Bw.len:∀{zs:List α}{bs:List β},Bw R zs bs->zs.length=bs.length
 |[],[],_=>rfl
 |_::_,_::_,h=>by simp[Bw.len h.2]
 |[],_::_,h=>h.elim
 |_::_,[],h=>h.elim
theorem Bw.at_:∀{zs:List α}{bs:List β},Bw R zs bs->∀{i:Nat} {a b},zs[i]?=some a->bs[i]?=some b->R a b
 |[],[],_,i,a,b,h,_=>by simp at h
 |_::_,_::_,h,0,a,b,ha,hb=>by simp at ha hb;subst ha;subst hb;exact h.1
 |_::_,_::_,h,i+1,a,b,ha,hb=>by simp at ha hb;exact Bw.at_ h.2 ha hb
 |[],_::_,h,_,_,_,_,_=>h.elim
 |_::_,[],h,_,_,_,_,_=>h.elim
theorem Bw.of_at:∀{zs:List α}{bs:List β},zs.length=bs.length->(∀(i:Nat) a b,zs[i]?=some a->bs[i]?=some b->R a b)->Bw R zs bs
 |[],[],_,_=>trivial
 |a::zs,b::bs,hl,h=>⟨h 0 a b rfl rfl,Bw.of_at (by simpa using hl) fun i x y hx hy=>h (i+1) x y hx hy⟩
 |[],_::_,hl,_=>by simp at hl
 |_::_,[],hl,_=>by simp at hl
theorem Bw.mono (hRS:∀a b,R a b->S a b):∀{zs:List α}{bs:List β},Bw R zs bs->Bw S zs bs
 |[],[],_=>trivial
 |_::_,_::_,h=>⟨hRS _ _ h.1,Bw.mono hRS h.2⟩
 |[],_::_,h=>h.elim
 |_::_,[],h=>h.elim
theorem Bw.mono_mem:∀{zs:List α}{bs:List β},(∀a∈zs,∀b,R a b->S a b)->Bw R zs bs->Bw S zs bs
 |[],[],_,_=>trivial
 |a::_,_::_,hRS,h=>⟨hRS a (by simp) _ h.1,Bw.mono_mem (fun x hx=>hRS x (by simp[hx])) h.2⟩
 |[],_::_,_,h=>h.elim
 |_::_,[],_,h=>h.elim
theorem Bw.app:∀{zs:List α}{bs:List β}{as':List α}{bs':List β},Bw R zs bs->Bw R as' bs'->Bw R (zs++as') (bs++bs')
 |[],[],_,_,_,h'=>h'
 |_::_,_::_,_,_,h,h'=>⟨h.1,Bw.app h.2 h'⟩
 |[],_::_,_,_,h,_=>h.elim
 |_::_,[],_,_,h,_=>h.elim
theorem Bw.take:∀(n:Nat){zs:List α}{bs:List β},Bw R zs bs->Bw R (zs.take n) (bs.take n)
 |0,_,_,_=>by simp[Bw]
 |_+1,[],[],_=>trivial
 |n+1,_::_,_::_,h=>⟨h.1,Bw.take n h.2⟩
 |_+1,[],_::_,h=>h.elim
 |_+1,_::_,[],h=>h.elim
theorem Bw.drop:∀(n:Nat){zs:List α}{bs:List β},Bw R zs bs->Bw R (zs.drop n) (bs.drop n)
 |0,_,_,h=>h
 |_+1,[],[],_=>trivial
 |n+1,_::_,_::_,h=>Bw.drop n h.2
 |_+1,[],_::_,h=>h.elim
 |_+1,_::_,[],h=>h.elim
end
inductive Aw (w:World) (A:Nat->Prop):PV->Value->Prop where
 |sc (v:Value):Aw w A (.sc v) v
 |top (v:Value):Aw w A .top v
 |ub (b:Bool):Aw w A .ub (.bool b)
 |lnil (z:Bool) (es:Nat):Aw w A (.lst z es 0 []) (.slice none 0 0)
 |lemp (es:Nat) (a:Addr) (cap:Nat):Aw w A (.lst false es 0 []) (.slice (some a) 0 cap)
 |lst (es n:Nat) (cells:List PV) (a:Addr) (cap:Nat) (f:Nat->Value) (hs:a.spot=none) (hb:a.block<w.heap.size) (hA:¬A a.block) (hn:n<=cap)
   (hc:∀j c,cells[j]?=some c->w.cell? (a.add j)=some (f j)) (h1:∀j c,cells[j]?=some c->(f j).oneCell'=true) (hr:∀j c,cells[j]?=some c->Aw w A c (f j)):Aw w A (.lst false es n cells) (.slice (some a) n cap)
def bsz (w:World)(b:Nat):Nat:=
 match w.heap[b]? with
 |some (.cells c _ _)=>c.size
 |_=>0
def TN (w:World)(A:Nat->Prop)(a:Addr)(cells:List PV):Prop:=∀j c,cells[j]?=some c->∃v,w.cell? (a.add j)=some v∧v.oneCell'=true∧Aw w A c v
def Ci (w:World)(A:Nat->Prop)(β:Nat->Option (Nat × Nat)) (p:PV)(v:Value):Prop:=
 match p with
 |.view id es off n=>(β id=none∧off=0∧n=0∧∃ad,v=.slice ad 0 0) ∨
   ∃b o x cap,β id=some (b,o)∧v=.slice (some ⟨b,x,none⟩) n cap∧(x=o+off∨(n=0∧off≠0))∧n<=cap∧x+cap*es<=bsz w b∧b<w.heap.size
 |.ptr id off=>∃b o,β id=some (b,o)∧v=.pointer (some ⟨b,o+off,none⟩)
 |.iptr c off=>∃a:Addr,v=.pointer (some (a.add off))∧a.spot=none∧a.block<w.heap.size∧¬A a.block∧TN w A a c
 |p=>Aw w A p v
def H2 (w:World)(A:Nat->Prop)(β:Nat->Option (Nat × Nat)) (p:PV)(v:Value):Prop:=
 match p with
 |.agg cs=>∃vs,v=.agg ⟨vs⟩∧Bw (Ci w A β) cs vs
 |p=>Ci w A β p v
def Ed (w:World)(A:Nat->Prop)(β:Nat->Option (Nat × Nat)) (p:PV)(v:Value):Prop:=
 match p with
 |.tup ps=>∃vs,v=.tuple ⟨vs⟩∧Bw (H2 w A β) ps vs
 |p=>H2 w A β p v
structure Co (A:Nat->Prop) (w w':World):Prop where
 size:w.heap.size<=w'.heap.size
 keep:∀b,b<w.heap.size->¬A b->w'.heap[b]?=w.heap[b]?
 bs:∀b,b<w.heap.size->bsz w b<=bsz w' b
theorem G9 (a:Addr)(j:Nat):(a.add j).block=a.block:=by unfold Addr.add;split<;>rfl
theorem add_add (a:Addr)(i j:Nat):(a.add i).add j=a.add (i+j):=by
 unfold Addr.add;by_cases hi:i=0<;>by_cases hj:j=0<;>simp[hi,hj,Nat.add_assoc]
theorem Er (b o j:Nat):(⟨b,o,none⟩:Addr).add j=⟨b,o+j,none⟩:=by
 unfold Addr.add;by_cases hj:j=0<;>simp[hj]
theorem Aoc {a:Addr}(h:a.spot=none)(j:Nat):(a.add j).spot=none:=by unfold Addr.add;split<;>simp[h]
section
variable {w w':World} {A A':Nat->Prop} {β β':Nat->Option (Nat × Nat)}
theorem Co.cell (h:Co A w w'){a:Addr}(hb:a.block<w.heap.size)(hA:¬A a.block):w'.cell? a=w.cell? a:=
 World.cell?_of_block (h.keep a.block hb hA)
theorem Aw.step (h:Co A w w')(hA:∀b,b<w.heap.size->A' b->A b){p:PV}{v:Value}(t:Aw w A p v):Aw w' A' p v:=by
 induction t with
 |sc v=>exact .sc v
 |top v=>exact .top v
 |ub b=>exact .ub b
 |lnil z es=>exact .lnil z es
 |lemp es a cap=>exact .lemp es a cap
 |lst es n cells a cap f hs hb hA1 hn hc h1 hr ih=>
  refine .lst es n cells a cap f hs (Nat.lt_of_lt_of_le hb h.size) (fun x=>hA1 (hA _ hb x)) hn (fun j c hj=>?_) h1 (fun j c hj=>ih j c hj)
  rw[h.cell (by rw[G9];exact hb) (by rw[G9];exact hA1)]
  exact hc j c hj
theorem TN.step (h:Co A w w')(hA:∀b,b<w.heap.size->A' b->A b){a:Addr}(hb:a.block<w.heap.size)(hn:¬A a.block){cells:List PV}(t:TN w A a cells):TN w' A' a cells:=by
 intro j c hj;obtain⟨v,hv,h1,ht⟩:=t j c hj;exact⟨v,by rw[h.cell (by rw[G9];exact hb) (by rw[G9];exact hn)];exact hv,h1,ht.step h hA⟩
theorem Ci.step (h:Co A w w')(hA:∀b,b<w.heap.size->A' b->A b){p:PV}{v:Value}(hβ:∀id∈Av p,β' id=β id)(t:Ci w A β p v):Ci w' A' β' p v:=by
 cases p with
 |view id es off n=>
  have e:=hβ id (by simp[Av])
  rcases t with⟨h1,h2,h3,h4⟩|⟨b,o,x,cap,h1,h2,hx,h3,h4,h5⟩
  ·exact .inl ⟨by rw[e];exact h1,h2,h3,h4⟩
  ·exact .inr ⟨b,o,x,cap,by rw[e];exact h1,h2,hx,h3,Nat.le_trans h4 (h.bs b h5),Nat.lt_of_lt_of_le h5 h.size⟩
 |ptr id off=>
  have e:=hβ id (by simp[Av])
  obtain⟨b,o,h1,h2⟩:=t;exact⟨b,o,by rw[e];exact h1,h2⟩
 |iptr c off=>
  obtain⟨a,h1,h2,h3,h4,h5⟩:=t;exact⟨a,h1,h2,Nat.lt_of_lt_of_le h3 h.size,fun x=>h4 (hA _ h3 x),h5.step h hA h3 h4⟩
 |sc v=>exact Aw.step h hA t
 |lst z es n c=>exact Aw.step h hA t
 |own es n c=>exact Aw.step h hA t
 |pbox c=>exact Aw.step h hA t
 |agg c=>exact Aw.step h hA t
 |tup c=>exact Aw.step h hA t
 |top=>exact Aw.step h hA t
 |ub=>exact Aw.step h hA t
theorem H2.step (h:Co A w w')(hA:∀b,b<w.heap.size->A' b->A b){p:PV}{v:Value}(hβ:∀id∈Cj p,β' id=β id)(t:H2 w A β p v):H2 w' A' β' p v:=by
 cases p with
 |agg cs=>
  obtain⟨vs,rfl,h2⟩:=t;exact⟨vs,rfl,h2.mono_mem fun c hc v hv=>hv.step h hA fun id Bo=>hβ id (by simp only[Cj,List.mem_flatMap];exact⟨c,hc,Bo⟩)⟩
 |sc x=>exact Ci.step (p:=.sc x) h hA hβ t
 |lst x y z u=>exact Ci.step (p:=.lst x y z u) h hA hβ t
 |own x y z=>exact Ci.step (p:=.own x y z) h hA hβ t
 |view x y z u=>exact Ci.step (p:=.view x y z u) h hA hβ t
 |ptr x y=>exact Ci.step (p:=.ptr x y) h hA hβ t
 |iptr x y=>exact Ci.step (p:=.iptr x y) h hA hβ t
 |pbox x=>exact Ci.step (p:=.pbox x) h hA hβ t
 |tup x=>exact Ci.step (p:=.tup x) h hA hβ t
 |top=>exact Ci.step (p:=.top) h hA hβ t
 |ub=>exact Ci.step (p:=.ub) h hA hβ t
theorem Ed.step (h:Co A w w')(hA:∀b,b<w.heap.size->A' b->A b){p:PV}{v:Value}(hβ:∀id∈B7 p,β' id=β id)(t:Ed w A β p v):Ed w' A' β' p v:=by
 cases p with
 |tup cs=>
  obtain⟨vs,rfl,h2⟩:=t;exact⟨vs,rfl,h2.mono_mem fun c hc v hv=>hv.step h hA fun id Bo=>hβ id (by simp only[B7,List.mem_flatMap];exact⟨c,hc,Bo⟩)⟩
 |sc x=>exact H2.step (p:=.sc x) h hA hβ t
 |lst x y z u=>exact H2.step (p:=.lst x y z u) h hA hβ t
 |own x y z=>exact H2.step (p:=.own x y z) h hA hβ t
 |view x y z u=>exact H2.step (p:=.view x y z u) h hA hβ t
 |ptr x y=>exact H2.step (p:=.ptr x y) h hA hβ t
 |iptr x y=>exact H2.step (p:=.iptr x y) h hA hβ t
 |pbox x=>exact H2.step (p:=.pbox x) h hA hβ t
 |top=>exact H2.step (p:=.top) h hA hβ t
 |ub=>exact H2.step (p:=.ub) h hA hβ t
 |agg x=>exact H2.step (p:=.agg x) h hA hβ t
theorem Co.refl (A:Nat->Prop)(w:World):Co A w w:=⟨Nat.le_refl _,fun _ _ _=>rfl,fun _ _=>Nat.le_refl _⟩
theorem TN.weak (hA:∀b,b<w.heap.size->A' b->A b){a:Addr}{cells:List PV}(t:TN w A a cells):TN w A' a cells:=by
 intro j c hj;obtain⟨v,hv,h1,ht⟩:=t j c hj;exact⟨v,hv,h1,ht.step (Co.refl A w) hA⟩
theorem Co.trans {w'':World}(h:Co A w w')(h':Co A' w' w'')(hA:∀b,b<w.heap.size->A' b->A b):Co A w w'':=
  ⟨Nat.le_trans h.size h'.size,fun b hb hn=>(h'.keep b (Nat.lt_of_lt_of_le hb h.size) (fun x=>hn (hA b hb x))).trans (h.keep b hb hn),
   fun b hb=>Nat.le_trans (h.bs b hb) (h'.bs b (Nat.lt_of_lt_of_le hb h.size))⟩
theorem Co.weaken (h:Co A w w')(hA:∀b,b<w.heap.size->A b->A' b):Co A' w w':=⟨h.size,fun b hb hn=>h.keep b hb (fun x=>hn (hA b hb x)),h.bs⟩
end
section
variable {R:Type} {r:R}
theorem F5 {k:IntKind}{p:PV}{K:Int->Option R}(h:Ae k p K=some r):∃n,p=.sc (.int k n)∧K n=some r:=by
 unfold Ae at h;split at h
 ·split at h
  ·rename_i hk;subst hk;exact⟨_,rfl,h⟩
  ·cases h
 ·cases h
theorem Ek {p:PV}{K:Bool->Option R}(h:Bu p K=some r):∃b,p=.sc (.bool b)∧K b=some r:=by
 unfold Bu at h;split at h
 ·exact⟨_,rfl,h⟩
 ·cases h
theorem El {p:PV}{K:ByteArray->Option R}(h:Iz p K=some r):∃b,p=.sc (.string b)∧K b=some r:=by
 unfold Iz at h;split at h
 ·exact⟨_,rfl,h⟩
 ·cases h
theorem D5 {p:PV}{K:IntKind->Int->Option R}(h:Ef p K=some r):∃k n,p=.sc (.int k n)∧K k n=some r:=by
 unfold Ef at h;split at h
 ·exact⟨_,_,rfl,h⟩
 ·cases h
theorem As {b:Bool}{K:Option R}(h:Ar b K=some r):b=true∧K=some r:=by
 unfold Ar at h;cases b
 ·cases h
 ·exact⟨rfl,h⟩
theorem Dl {α:Type}{o:Option α}{K:α->Option R}(h:F8 o K=some r):∃a,o=some a∧K a=some r:=by
 unfold F8 at h;split at h
 ·exact⟨_,rfl,h⟩
 ·cases h
theorem Bk {α:Type}{l:List α}{K:α->List α->Option R}(h:Ab l K=some r):∃a t,l=a::t∧K a t=some r:=by
 unfold Ab at h;split at h
 ·exact⟨_,_,rfl,h⟩
 ·cases h
theorem Ec {α:Type}{l:List α}{K:Option R}(h:Ac l K=some r):l=[]∧K=some r:=by
 unfold Ac at h;split at h
 ·exact⟨rfl,h⟩
 ·cases h
theorem Jy {p:PV}{K:List PV->Option R}(h:Fm p K=some r):∃c,p=.agg c∧K c=some r:=by
 unfold Fm at h;split at h
 ·exact⟨_,rfl,h⟩
 ·cases h
theorem WK {p:PV}{K:List PV->Option R}(h:DO p K=some r):∃c,p=.pbox c∧K c=some r:=by
 unfold DO at h;split at h
 ·exact⟨_,rfl,h⟩
 ·cases h
theorem YO {p:PV}{K:Value->Option R}(h:fnK p K=some r):∃f a b,p=.sc (.func f a b)∧K (.func f a b)=some r:=by
 unfold fnK at h;split at h
 ·exact⟨_,_,_,rfl,h⟩
 ·cases h
theorem Aus {p:PV}{K:FuncId->Option R}(h:fvK p K=some r):∃f,p=.sc (.func (.func f) #[] #[])∧K f=some r:=by
 unfold fvK at h;split at h
 ·rename_i f a b;cases hb:(a.isEmpty&&b.isEmpty)<;>rw[hb] at h
  ·cases h
  ·simp only[Bool.and_eq_true,Array.isEmpty_iff] at hb;rw[hb.1,hb.2];exact⟨f,rfl,h⟩
 ·cases h
theorem UU {o:Option A5}{K:List PV->List (List PV)->Option R} (h:Ai o K=some r):∃v x,o=some ⟨v,x⟩∧K v x=some r:=by
 unfold Ai at h;split at h
 ·exact⟨_,_,rfl,h⟩
 ·cases h
theorem P9 {b:Bool}{x y:Option R}(h:Bi b x y=some r):(b=true∧x=some r)∨(b=false∧y=some r):=by
 unfold Bi at h;cases b
 ·exact .inr ⟨rfl,h⟩
 ·exact .inl ⟨rfl,h⟩
theorem Hg {es:Nat}{p:PV}{K:Bool->Nat->List PV->Option R}(h:Fq es p K=some r):
  ∃z n c,K z n c=some r∧(p=.lst z es n c∨(p=.sc (.slice none 0 0)∧z=true∧n=0∧c=[])):=by
 unfold Fq at h;split at h
 ·rename_i z es' n c;cases hb:Nat.beq es' es
  ·rw[hb] at h;cases h
  ·rw[hb] at h;have:=Nat.eq_of_beq_eq_true hb;subst this;exact⟨z,n,c,h,.inl rfl⟩
 ·exact⟨true,0,[],h,.inr ⟨rfl,rfl,rfl,rfl⟩⟩
 ·cases h
def AC:PV->Prop
 |.sc _=>True
 |.lst _ _ _ _=>True
 |_=>False
def SM:PV->Prop
 |.sc _=>True
 |.lst _ _ _ _=>True
 |.view _ _ _ _=>True
 |_=>False
theorem Vu {c:PV}(h:AC c):SM c:=by
 cases c<;>first|trivial|exact h.elim
theorem J2 {c:PV}(h:AC c):Av c=[]:=by
 cases c<;>first|rfl|exact h.elim
variable {w:World} {A:Nat->Prop} {β:Nat->Option (Nat × Nat)}
theorem O4 {c:PV}{v:Value}(h:AC c):Ci w A β c v↔Aw w A c v:=by
 cases c<;>first|exact Iff.rfl|exact h.elim
theorem V6 {c:PV}{v:Value}(h:∀cs,c ≠ .agg cs):H2 w A β c v↔Ci w A β c v:=by
 cases c<;>first|exact Iff.rfl|exact absurd rfl (h _)
theorem Qc {c:PV}{v:Value}(h:∀cs,c ≠ .tup cs):Ed w A β c v↔H2 w A β c v:=by
 cases c<;>first|exact Iff.rfl|exact absurd rfl (h _)
theorem DP {c:PV}(h:AC c)(cs:List PV):c ≠ .agg cs:=by rintro rfl;exact h
theorem Aiy {c:PV}(h:AC c)(cs:List PV):c ≠ .tup cs:=by rintro rfl;exact h
theorem Aw.val {v u:Value}(h:Aw w A (.sc v) u):u=v:=by cases h;rfl
theorem BH {es n:Nat}{z:Bool}{c:List PV}{p:PV}{v:Value}(h:p=.lst z es n c∨(p=.sc (.slice none 0 0)∧z=true∧n=0∧c=[])) (hv:Ci w A β p v):Aw w A (.lst z es n c) v:=by
 rcases h with rfl|⟨rfl,rfl,rfl,rfl⟩
 ·exact hv
 ·have:=Aw.val (w:=w) (A:=A) hv;subst this;exact .lnil true es
theorem P5 {t:CT}{p:PV}{K:PV->Option R}(h:HJ t p K=some r):
  ∃c,K c=some r∧AC c∧AC p∧∀(w:World) (A:Nat->Prop) (β:Nat->Option (Nat × Nat)) (v:Value),Ci w A β p v->Aw w A c v∧v.oneCell'=true:=by
 cases t with
 |int k=>obtain⟨n,rfl,h2⟩:=F5 h;exact⟨_,h2,trivial,trivial,fun w A β v hv=>⟨hv,by have:=Aw.val (w:=w) (A:=A) hv;subst this;rfl⟩⟩
 |bool=>obtain⟨n,rfl,h⟩:=Ek h;exact⟨_,h,trivial,trivial,fun w A β v hv=>⟨hv,by have:=Aw.val (w:=w) (A:=A) hv;subst this;rfl⟩⟩
 |str=>obtain⟨n,rfl,h⟩:=El h;exact⟨_,h,trivial,trivial,fun w A β v hv=>⟨hv,by have:=Aw.val (w:=w) (A:=A) hv;subst this;rfl⟩⟩
 |sl es=>
  obtain⟨z,n,c,h,hp⟩:=Hg h;refine⟨_,h,trivial,?_,fun w A β v hv=>⟨BH hp hv,?_⟩⟩
  ·rcases hp with rfl|⟨rfl,_⟩<;>trivial
  ·have ht:=BH hp hv;cases ht<;>rfl
 |any=>
  obtain⟨f,a,b,rfl,h2⟩:=YO (show fnK p (fun v=>K (.sc v))=some r from h)
  exact⟨_,h2,trivial,trivial,fun w A β v hv=>⟨hv,by have:=Aw.val (w:=w) (A:=A) hv;subst this;rfl⟩⟩
theorem Avp {t:CT}{p:PV}{K:PV->Option R}(h:fcK t p K=some r):
  ∃c,K c=some r∧(AC c∨c=p)∧SM p∧p ≠ .top∧(∀cs,c ≠ .agg cs)∧(∀cs,c ≠ .tup cs)∧(∀id,id∈Av c->id∈Av p)∧∀(w:World) (A:Nat->Prop) (β:Nat->Option (Nat × Nat)) (v:Value),Ci w A β p v->Ci w A β c v∧v.oneCell'=true:=by
 have tree:∀t',HJ t' p K=some r->∃c,K c=some r∧(AC c∨c=p)∧SM p∧p ≠ .top∧(∀cs,c ≠ .agg cs)∧(∀cs,c ≠ .tup cs)∧(∀id,id∈Av c->id∈Av p)∧∀(w:World) (A:Nat->Prop) (β:Nat->Option (Nat × Nat)) (v:Value),Ci w A β p v->Ci w A β c v∧v.oneCell'=true:=by
  intro t' h;obtain⟨c,h,hc,hp,hv⟩:=P5 h;exact⟨c,h,.inl hc,Vu hp,by rintro rfl;exact hp,DP hc,Aiy hc,by rw[J2 hc];simp,fun w A β v h=>⟨(O4 hc).2 (hv w A β v h).1,(hv w A β v h).2⟩⟩
 cases t with
 |sl es=>
  unfold fcK fsK at h;dsimp only at h;split at h
  ·rename_i id es' off n;cases hb:Nat.beq es' es
   ·rw[hb] at h;cases h
   ·rw[hb] at h;have:=Nat.eq_of_beq_eq_true hb;subst this;exact⟨_,h,.inr rfl,trivial,by simp,by simp,by simp,fun _ h=>h,fun _ _ _ _ h=>⟨h,by rcases h with⟨_,_,_,_,rfl⟩|⟨_,_,_,_,_,rfl,_⟩<;>rfl⟩⟩
  ·exact tree (.sl es) h
 |int k=>exact tree (.int k) h
 |bool=>exact tree (.bool) h
 |str=>exact tree (.str) h
 |any=>exact tree (.any) h
theorem JF {cells:List PV}{i:Nat}{p:PV}(h:cells.getD i .top=p)(hp:p ≠ .top):cells[i]?=some p:=by
 rw[List.getD_eq_getElem?_getD] at h;cases hc:cells[i]? with
 |none=>rw[hc] at h;exact absurd h.symm hp
 |some q=>rw[hc] at h;simp at h;rw[h]
theorem Ym:∀{ts:List CT}{cells:List PV}{off:Nat}{K:List PV->Option R},Xk ts cells off K=some r ->
  ∃cs,K cs=some r∧cs.length=ts.length∧∀j c,cs[j]?=some c->AC c∧∃p,cells[off+j]?=some p∧AC p ∧
   ∀(w:World) (A:Nat->Prop) (β:Nat->Option (Nat × Nat)) (v:Value),Ci w A β p v->Aw w A c v∧v.oneCell'=true
 |[],_,_,_,h=>⟨[],h,rfl,fun j c hj=>by simp at hj⟩
 |t::ts,cells,off,K,h=>by
  unfold Xk at h;obtain⟨c,h,hc,hp,hv⟩:=P5 h;obtain⟨cs,h,hl,WX⟩:=Ym h;refine⟨c::cs,h,by simp[hl],fun j c' hj=>?_⟩
  cases j with
  |zero=>
   simp at hj;subst hj;refine⟨hc,cells.getD off .top,JF rfl ?_,hp,hv⟩;intro e;rw[e] at hp;exact hp
  |succ j=>
   simp at hj;have:=WX j c' hj
   rwa [Nat.add_right_comm,Nat.add_assoc] at this
theorem Yi:∀{ts:List CT}{cells:List PV}{off:Nat}{K:List PV->Option R},Tf ts cells off K=some r ->
  ∃cs,K cs=some r∧cs.length=ts.length∧(∀c∈cs,(∀x,c ≠ .agg x)∧(∀x,c ≠ .tup x))∧∀j c,cs[j]?=some c->∃p,cells[off+j]?=some p∧SM p∧(∀id,id∈Av c->id∈Av p) ∧
   ∀(w:World) (A:Nat->Prop) (β:Nat->Option (Nat × Nat)) (v:Value),Ci w A β p v->Ci w A β c v∧v.oneCell'=true
 |[],_,_,_,h=>⟨[],h,rfl,by simp,fun j c hj=>by simp at hj⟩
 |t::ts,cells,off,K,h=>by
  unfold Tf at h;obtain⟨c,h,hc,hf,hp,ha,ht,hr,hv⟩:=Avp h;obtain⟨cs,h,hl,HL,WX⟩:=Yi h;refine⟨c::cs,h,by simp[hl],?_,fun j c' hj=>?_⟩
  ·intro x hx;rcases List.mem_cons.1 hx with rfl|hx
   ·exact⟨ha,ht⟩
   ·exact HL x hx
  ·cases j with
   |zero=>
    simp at hj;subst hj;exact⟨cells.getD off .top,JF rfl hp,hf,hr,hv⟩
   |succ j=>
    simp at hj;have:=WX j c' hj
    rwa [Nat.add_right_comm,Nat.add_assoc] at this
theorem Aae {agg:Bool}{cells:List PV}{K:PV->Option R}(h:mkV agg cells K=some r):
  (agg=true∧K (.agg cells)=some r)∨(agg=false∧∃c,cells=[c]∧K c=some r):=by
 unfold mkV at h;cases agg
 ·obtain⟨c,t,rfl,h⟩:=Bk h;obtain⟨rfl,h⟩:=Ec h;exact .inr ⟨rfl,c,rfl,h⟩
 ·exact .inl ⟨rfl,h⟩
end
open Go.RowKit
def Cs (b:Option Bx):Prop:=
 match b with
 |some (.st _)=>True
 |some (.ar false _)=>True
 |_=>False
abbrev Bt:=Nat->Option (Nat × Nat)
def BZ (hp:Nat->Option Bx)(β:Bt)(b:Nat):Prop:=∃id o,Cs (hp id)∧β id=some (b,o)
def Db (hp:Nat->Option Bx)(β:Bt)(Y:Nat->Prop)(b:Nat):Prop:=BZ hp β b∨Y b
def Tv (w:World)(A:Nat->Prop)(β:Bt)(id:Nat)(bx:Bx):Prop:=
 match bx with
 |.st cells=>∃b o,β id=some (b,o)∧(∀j c,cells[j]?=some c->∃v,w.cell? ⟨b,o+j,none⟩=some v∧Ci w A β c v)∧∀j,j<cells.length->w.frozen? ⟨b,o+j,none⟩=false
 |.ar fz cells=>(β id=none∧cells=[])∨∃b o,β id=some (b,o)∧TN w A ⟨b,o,none⟩ cells∧(fz=false->∀j,o<=j->j<bsz w b->w.frozen? ⟨b,j,none⟩=false)∧(fz=true->¬A b)
 |.mv=>True
structure Fp where
 X:Nat->Prop
 L:Nat->Nat->Prop
 pn:Nat->Prop
 pt:Nat->Option (Nat × Nat)
 p8:∀i,pn i->i<8
def BR (bx:Bx)(o j:Nat):Prop:=
 match bx with
 |.st c=>o<=j∧j<o+c.length
 |.ar _ _=>o<=j
 |.mv=>False
structure Fr (X0:Fp) (w0 w:World):Prop where
 os:w.os=w0.os
 tape:w.tape=w0.tape
 output:w.output=w0.output
 step:Co X0.X w0 w
 rng:∀b j,b<w0.heap.size->¬X0.L b j->w.cell? ⟨b,j,none⟩=w0.cell? ⟨b,j,none⟩∧w.frozen? ⟨b,j,none⟩=w0.frozen? ⟨b,j,none⟩
structure B4 (N:Nat) (w0:World) (X0:Fp) (Y:Nat->Prop) (β:Bt) (s:St) (a:Act) (w:World):Prop where
 dfr:a.defers=[]
 tsz:a.tmps.size=N
 tmo:∀i,N<=i->s.tm i=.top
 tms:∀i,i<N->Ed w (Db s.hp β Y) β (s.tm i) (a.tmps.getD i undef)
 box:∀id b,s.hp id=some b->Tv w (Db s.hp β Y) β id b
 inj:∀id id' b o o',Cs (s.hp id)->Cs (s.hp id')->β id=some (b,o)->β id'=some (b,o')->id=id'
 blt:∀id b o,s.hp id≠none->β id=some (b,o)->b<w.heap.size
 wfT:∀i,i<N->∀id∈B7 (s.tm i),s.hp id≠none
 wfB:∀id cells,s.hp id=some (.st cells)->∀c∈cells,∀id'∈Av c,s.hp id'≠none
 ownd:∀b,BZ s.hp β b->X0.X b∨w0.heap.size<=b
 rngB:∀id bx b o,s.hp id=some bx->Cs (some bx)->β id=some (b,o)->b<w0.heap.size->∀j,BR bx o j->X0.L b j
 pin:∀i,X0.pn i->s.hp (Dh N i)≠none∧β (Dh N i)=X0.pt i
 stp:∀id c b o,s.hp id=some (.st c)->β id=some (b,o)->b<w0.heap.size->∃i,id=Dh N i∧X0.pn i
 Yx:∀b,Y b->¬BZ s.hp β b
 Ylt:∀b,Y b->b<w0.heap.size
 fr:Fr X0 w0 w
theorem Dg {b:Option Bx}(h:Cs b):b≠none:=by rintro rfl;exact h
theorem Au {α:Type}(f:Nat->α)(i:Nat)(v:α):Da f i v i=v:=by simp[Da,Nat.beq_refl]
theorem Am {α:Type}(f:Nat->α){i j:Nat}(v:α)(h:j≠i):Da f i v j=f j:=by
 have:Nat.beq j i=false:=by
  cases hb:Nat.beq j i
  ·rfl
  ·exact absurd (Nat.eq_of_beq_eq_true hb) h
 simp[Da,this]
theorem FQ {α:Type}(f:Nat->α){i:Nat}{v:α}(h:f i=v):Da f i v=f:=by
 funext j
 by_cases e:j=i
 ·subst e;rw[Au];exact h.symm
 ·exact Am f v e
theorem Acv {α:Type}(f:Nat->α){i j:Nat}(u v:α)(h:i≠j):Da (Da f i u) j v=Da (Da f j v) i u:=by
 funext k
 by_cases e:k=j
 ·subst e;rw[Au,Am _ _ (Ne.symm h),Au]
 ·rw[Am _ _ e];by_cases e':k=i
  ·subst e';rw[Au,Au]
  ·rw[Am _ _ e',Am _ _ e',Am _ _ e]
theorem TC {a:Act}{d:Nat}{v:Value}(h:d<a.tmps.size):(a.put (some d) v).tmps.getD d undef=v:=by
 simp[Act.put,h]
theorem QY {a:Act}{d i:Nat}{v:Value}(h:i≠d):(a.put (some d) v).tmps.getD i undef=a.tmps.getD i undef:=by
 have h':d≠i:=fun e=>h e.symm
 simp[Act.put,Array.getElem?_setIfInBounds_ne h']
section
variable {N:Nat} {w0:World} {X0:Fp} {Y:Nat->Prop} {β β':Bt} {s:St} {a:Act} {w w':World}
theorem Hc (d:Option Tmp)(v:Value):(a.put d v).tmps.size=a.tmps.size:=by cases d<;>simp[Act.put]
theorem Jn (d:Option Tmp)(v:Value):(a.put d v).defers=a.defers:=by cases d<;>rfl
theorem Uo {d:Option Tmp}(h:Ih N d=true){i:Nat}(e:d=some i):i<N:=by
 subst e;exact Nat.lt_of_succ_le (Nat.le_of_ble_eq_true h)
theorem Sf {Q:Nat->PV->Value->Prop}{tm:Nat->PV}{d:Option Tmp}{v:PV}{val:Value}(hN:a.tmps.size=N)(hd:Ih N d=true)
  (h:∀i,i<N->Q i (tm i) (a.tmps.getD i undef)) (hv:∀i,Q i v val):∀i,i<N->Q i (B8 tm d v i) ((a.put d val).tmps.getD i undef):=by
 intro i hi;cases d with
 |none=>exact h i hi
 |some d=>
  have Cd:=Uo hd rfl;by_cases e:i=d
  ·subst e;show Q i (Da tm i v i) _;rw[Au,TC (by omega)]
   exact hv i
  ·show Q i (Da tm d v i) _;rw[Am _ _ e,QY e];exact h i hi
theorem ZK {tm:Nat->PV}{d:Option Tmp}{v:PV}(hd:Ih N d=true)(h:∀i,N<=i->tm i=.top):∀i,N<=i->B8 tm d v i=.top:=by
 intro i hi;cases d with
 |none=>exact h i hi
 |some d=>
  have:=Uo hd rfl;show Da tm d v i=_;rw[Am _ _ (by omega)]
  exact h i hi
theorem B4.put (h:B4 N w0 X0 Y β s a w){d:Option Tmp}{v:PV}{val:Value}(hd:Ih N d=true)(hv:Ed w (Db s.hp β Y) β v val) (hr:∀id∈B7 v,s.hp id≠none):
  B4 N w0 X0 Y β ⟨B8 s.tm d v,s.hp⟩ (a.put d val) w where
 dfr:=by rw[Jn];exact h.dfr
 tsz:=by rw[Hc];exact h.tsz
 tmo:=ZK hd h.tmo
 tms:=Sf (Q:=fun _ p u=>Ed w (Db s.hp β Y) β p u) h.tsz hd h.tms (fun _=>hv)
 box:=h.box
 inj:=h.inj
 blt:=h.blt
 wfT:=by
  have:=Sf (Q:=fun _ p _=>∀id∈B7 p,s.hp id≠none) (val:=val) h.tsz hd h.wfT (fun _=>hr)
  exact this
 wfB:=h.wfB
 ownd:=h.ownd
 rngB:=h.rngB
 pin:=h.pin
 stp:=h.stp
 Yx:=h.Yx
 Ylt:=h.Ylt
 fr:=h.fr
theorem Cn (hp:Nat->Option Bx)(ids:List Nat)(i:Nat):Ag hp ids i=if i∈ids then (hp i).map Yl else hp i:=by
 unfold Ag;by_cases hi:i∈ids
 ·have:ids.any (Nat.beq i)=true:=List.any_eq_true.2 ⟨i,hi,Nat.beq_refl i⟩;rw[this,if_pos hi];rfl
 ·have:ids.any (Nat.beq i)=false:=by
   cases hb:ids.any (Nat.beq i)
   ·rfl
   ·obtain⟨j,hj,e⟩:=List.any_eq_true.1 hb;exact absurd (Nat.eq_of_beq_eq_true e ▸ hj) hi
  rw[this,if_neg hi];rfl
theorem Ff {hp:Nat->Option Bx}{ids:List Nat}{i:Nat}:Ag hp ids i=none↔hp i=none:=by
 rw[Cn];split<;>simp
theorem Sj {hp:Nat->Option Bx}{ids:List Nat}{i:Nat}(h:Cs (Ag hp ids i)):Cs (hp i):=by
 rw[Cn] at h;split at h
 ·cases hb:hp i with
  |none=>rw[hb] at h;exact h
  |some b=>cases b with
   |st c=>trivial
   |ar fz c=>rw[hb] at h;exact h.elim
   |mv=>rw[hb] at h;exact h
 ·exact h
theorem Lg {hp:Nat->Option Bx}{ids:List Nat}{i:Nat}{bx:Bx}(h:Ag hp ids i=some bx)(hl:Cs (some bx)):hp i=some bx:=by
 rw[Cn] at h;split at h
 ·cases hb:hp i with
  |none=>rw[hb] at h;cases h
  |some b=>
   rw[hb] at h;cases b with
   |st c=>exact h
   |ar fz c=>simp only[Option.map_some,Yl,Option.some.injEq] at h;subst h;exact hl.elim
   |mv=>simp only[Option.map_some,Yl,Option.some.injEq] at h;subst h;exact hl.elim
 ·exact h
theorem Uh {hp:Nat->Option Bx}{ids:List Nat}{b:Nat}(h:BZ (Ag hp ids) β b):BZ hp β b:=by
 obtain⟨id,o,hl,hb⟩:=h;exact⟨id,o,Sj hl,hb⟩
theorem Tv.step' {A A':Nat->Prop}{id:Nat}{bx:Bx}(hA:∀b,A' b->A b)(h:Tv w A β id bx):Tv w A' β id bx:=by
 have hs:=Co.refl A w;cases bx with
 |st c=>
  obtain⟨b,o,h1,h2,h3⟩:=h;exact⟨b,o,h1,fun j c hj=>let ⟨v,hv,hc⟩:=h2 j c hj;⟨v,hv,hc.step hs (fun b _=>hA b) (fun _ _=>rfl)⟩,h3⟩
 |ar fz c=>
  rcases h with h|⟨b,o,h1,h2,h3,h4⟩
  ·exact .inl h
  ·exact .inr ⟨b,o,h1,h2.weak (fun b _=>hA b),h3,fun e x=>h4 e (hA b x)⟩
 |mv=>trivial
theorem B4.freeze (h:B4 N w0 X0 Y β s a w){fz:List Nat}(HO:∀id∈fz,∃f c,s.hp id=some (.ar f c)):B4 N w0 X0 Y β ⟨s.tm,Ag s.hp fz⟩ a w:=by
 have hA:∀b,Db (Ag s.hp fz) β Y b->Db s.hp β Y b:=fun b hb=>hb.imp Uh id
 refine⟨h.dfr,h.tsz,h.tmo,fun i hi=>(h.tms i hi).step (Co.refl _ _) (fun b _=>hA b) (fun _ _=>rfl),fun id b hb=>?_,fun id id' b o o' h1 h2=>h.inj id id' b o o' (Sj h1) (Sj h2),
  fun id b o hn=>h.blt id b o (fun e=>hn (Ff.2 e)),fun i hi id Bo e=>h.wfT i hi id Bo (Ff.1 e),fun id cells hc c hcm id' Bo e=>?_,fun b hb=>h.ownd b (Uh hb),
  fun id bx b o hb hl=>h.rngB id bx b o (Lg hb hl) hl,fun i hi=>⟨fun e=>(h.pin i hi).1 (Ff.1 e),(h.pin i hi).2⟩,fun id c b o hc=>h.stp id c b o (Lg hc trivial),fun b hb x=>h.Yx b hb (Uh x),h.Ylt,h.fr⟩
 ·simp only at hb;rw[Cn] at hb;split at hb
  ·rename_i hm;obtain⟨f,c,hc⟩:=HO id hm;rw[hc] at hb;simp only[Option.map_some,Yl,Option.some.injEq] at hb;subst hb;have Mx:=h.box id _ hc;rcases Mx with Mx|⟨b,o,h1,h2,h3,h4⟩
   ·exact .inl Mx
   ·refine .inr ⟨b,o,h1,h2.weak (fun b _=>hA b),(fun e=>by cases e),fun _ hb=>?_⟩
    rcases hb with⟨id',o',hl,hb⟩|hY
    ·have Vc:=Sj hl;cases f with
     |true=>exact h4 rfl (.inl ⟨id',o',Vc,hb⟩)
     |false=>
      have e:=h.inj id' id b o' o Vc (by rw[hc];trivial) hb h1
      subst e;simp only at hl;rw[Cn,if_pos hm,hc] at hl;exact hl
    ·cases f with
     |true=>exact h4 rfl (.inr hY)
     |false=>exact h.Yx b hY ⟨id,o,by rw[hc];trivial,h1⟩
  ·exact (h.box id b hb).step' hA
 ·simp only at hc;rw[Cn] at hc;refine h.wfB id cells ?_ c hcm id' Bo (Ff.1 e);split at hc
  ·rename_i hm;obtain⟨f,c,Vo⟩:=HO id hm;rw[Vo] at hc;cases hc
  ·exact hc
theorem B5:∀{nw:List (Nat × Bx)} {hp:Nat->Option Bx},Ck hp nw=true ->
  (∀id bx,(id,bx)∈nw->hp id=none)∧(∀id bx bx',(id,bx)∈nw->(id,bx')∈nw->bx=bx')
 |[],_,_=>⟨by simp,by simp⟩
 |(i,b)::r,hp,h=>by
  simp only[Ck,Bool.and_eq_true,Option.isNone_iff_eq_none,Bool.not_eq_true'] at h;obtain⟨⟨h1,h2⟩,h3⟩:=h;obtain⟨h4,h5⟩:=B5 h3
  have F9:∀bx,(i,bx) ∉ r:=by
   intro bx hm;have:r.any (fun q=>Nat.beq q.1 i)=true:=List.any_eq_true.2 ⟨_,hm,Nat.beq_refl i⟩
   rw[this] at h2;cases h2
  refine⟨fun id bx hm=>?_,fun id bx bx' hm Qf=>?_⟩
  ·rcases List.mem_cons.1 hm with e|hm
   ·cases e;exact h1
   ·exact h4 id bx hm
  ·rcases List.mem_cons.1 hm with e|hm
   ·cases e;rcases List.mem_cons.1 Qf with e|Qf
    ·cases e;rfl
    ·exact absurd Qf (F9 _)
   ·rcases List.mem_cons.1 Qf with e|Qf
    ·cases e;exact absurd hm (F9 _)
    ·exact h5 id bx bx' hm Qf
theorem Fy:∀{nw:List (Nat × Bx)} {hp:Nat->Option Bx},(∀id bx bx',(id,bx)∈nw->(id,bx')∈nw->bx=bx') ->
  (∀id bx,(id,bx)∈nw->A6 hp nw id=some bx)∧(∀id,(∀bx,(id,bx) ∉ nw)->A6 hp nw id=hp id)
 |[],_,_=>⟨by simp,fun _ _=>rfl⟩
 |(i,b)::r,hp,h=>by
  obtain⟨h1,h2⟩:=Fy (nw:=r) (hp:=Da hp i (some b)) (fun id bx bx' hm Qf=>h id bx bx' (by simp[hm]) (by simp[Qf]))
  refine⟨fun id bx hm=>?_,fun id hn=>?_⟩
  ·by_cases hr:∃bx',(id,bx')∈r
   ·obtain⟨bx',hr⟩:=hr;have:=h id bx bx' hm (by simp[hr])
    subst this;exact h1 id bx hr
   ·rcases List.mem_cons.1 hm with e|hm
    ·cases e;show A6 (Da hp i (some b)) r i=_;rw[h2 i (fun bx' hb=>hr ⟨bx',hb⟩),Au]
    ·exact absurd ⟨bx,hm⟩ hr
  ·show A6 (Da hp i (some b)) r id=_;rw[h2 id (fun bx hb=>hn bx (by simp[hb])),Am]
   rintro rfl
   exact hn b (by simp)
structure UH (Y:Nat->Prop) (β:Bt) (s:St) (w:World) (v:PV) (nw:List (Nat × Bx)) (val:Value) (w':World) (β':Bt):Prop where
 os:w'.os=w.os
 tape:w'.tape=w.tape
 output:w'.output=w.output
 ext:Co (fun _=>False) w w'
 old:∀id,s.hp id≠none->β' id=β id
 nlive:∀id bx,(id,bx)∈nw->Cs (some bx)
 nbox:∀id bx,(id,bx)∈nw->Tv w' (Db (A6 s.hp nw) β' Y) β' id bx
 nblk:∀id bx b o,(id,bx)∈nw->β' id=some (b,o)->w.heap.size<=b∧b<w'.heap.size
 ninj:∀id bx id' bx' b o o',(id,bx)∈nw->(id',bx')∈nw->β' id=some (b,o)->β' id'=some (b,o')->id=id'
 nwf:∀id cells,(id,.st cells)∈nw->∀c∈cells,∀id'∈Av c,s.hp id'≠none∨∃bx,(id',bx)∈nw
 val:Ed w' (Db (A6 s.hp nw) β' Y) β' v val
 vwf:∀id∈B7 v,s.hp id≠none∨∃bx,(id,bx)∈nw
theorem B4.stepR (h:B4 N w0 X0 Y β s a w){d:Option Tmp}{v:PV}{nw:List (Nat × Bx)} {val:Value}(hd:Ih N d=true)(Tp:Ck s.hp nw=true)
  (st:UH Y β s w v nw val w' β'):B4 N w0 X0 Y β' ⟨B8 s.tm d v,A6 s.hp nw⟩ (a.put d val) w':=by
 obtain⟨ha1,ha2⟩:=B5 Tp;obtain⟨hg1,hg2⟩:=Fy (hp:=s.hp) ha2
 have Jw:∀id,(∃bx,(id,bx)∈nw)∨A6 s.hp nw id=s.hp id:=fun id=>by
  by_cases hx:∃bx,(id,bx)∈nw
  ·exact .inl hx
  ·exact .inr (hg2 id fun bx hb=>hx ⟨bx,hb⟩)
 have A35:∀id,s.hp id≠none->A6 s.hp nw id=s.hp id:=fun id hn=>by
  rcases Jw id with⟨bx,hx⟩|e
  ·exact absurd (ha1 id bx hx) hn
  ·exact e
 have U7:∀id,(s.hp id≠none∨∃bx,(id,bx)∈nw)->A6 s.hp nw id≠none:=by
  rintro id (hn|⟨bx,hx⟩)
  ·rw[A35 id hn];exact hn
  ·rw[hg1 id bx hx];simp
 have Awo:∀b,b<w.heap.size->BZ (A6 s.hp nw) β' b->BZ s.hp β b:=by
  rintro b hb ⟨id,o,hl,hβ⟩
  rcases Jw id with⟨bx,hx⟩|e
  ·have:=(st.nblk id bx b o hx hβ).1;omega
  ·rw[e] at hl;exact⟨id,o,hl,by rw[←st.old id (Dg hl)];exact hβ⟩
 have Ahy:∀b,b<w.heap.size->Db (A6 s.hp nw) β' Y b->Db s.hp β Y b:=fun b hb hA=>hA.imp (Awo b hb) id
 have Ao1:Co (Db s.hp β Y) w w':=st.ext.weaken (fun _ _ x=>x.elim)
 refine⟨by rw[Jn];exact h.dfr,by rw[Hc];exact h.tsz,ZK hd h.tmo,?_,?_,?_,?_,?_,?_,?_,?_,?_,?_,?_,h.Ylt,?_⟩
 ·refine Sf (Q:=fun _ p u=>Ed w' (Db (A6 s.hp nw) β' Y) β' p u) h.tsz hd (fun i hi=>?_) (fun _=>st.val)
  exact (h.tms i hi).step Ao1 Ahy fun id Bo=>st.old id (h.wfT i hi id Bo)
 ·intro id b hb;simp only at hb;rcases Jw id with⟨bx,hx⟩|e
  ·rw[hg1 id bx hx] at hb;cases hb;exact st.nbox id _ hx
  ·rw[e] at hb;have hβ:=st.old id (by rw[hb];simp)
   have Mx:=h.box id b hb;have Cd:=h.blt id;have F9:s.hp id≠none:=by rw[hb];simp
   cases b with
   |st c=>
    obtain⟨b,o,h1,h2,h3⟩:=Mx;have Ip:=Cd b o F9 h1;have CP:=st.ext.keep b Ip (fun x=>x)
    refine⟨b,o,by rw[hβ];exact h1,fun j c hj=>?_,fun j hj=>?_⟩
    ·obtain⟨v,hv,hc⟩:=h2 j c hj;refine⟨v,by rw[World.cell?_of_block (w:=w) CP];exact hv,hc.step Ao1 Ahy fun id' Bo=>st.old id' ?_⟩
     exact h.wfB id _ hb c (List.mem_of_getElem? hj) id' Bo
    ·rw[World.frozen?_of_block (w:=w) CP];exact h3 j hj
   |ar fz c=>
    rcases Mx with⟨h1,h2⟩|⟨b,o,h1,h2,h3,h4⟩
    ·exact .inl ⟨by rw[hβ];exact h1,h2⟩
    ·have Ip:=Cd b o F9 h1;have CP:=st.ext.keep b Ip (fun x=>x)
     have OL:bsz w' b=bsz w b:=by unfold bsz;rw[CP]
     refine .inr ⟨b,o,by rw[hβ];exact h1,fun j c hj=>?_,fun e j hj Xe=>?_,fun e x=>h4 e (Ahy b Ip x)⟩
     ·obtain⟨v,hv,h5,hc⟩:=h2 j c hj;exact⟨v,by rw[World.cell?_of_block (w:=w) (by rw[G9];exact CP)];exact hv,h5,hc.step Ao1 Ahy⟩
     ·rw[World.frozen?_of_block (w:=w) CP];exact h3 e j hj (by rw[←OL];exact Xe)
   |mv=>trivial
 ·intro id id' b o o' hl Nj hb Ip;simp only at hl Nj;rcases Jw id with⟨bx,hx⟩|e
  ·rcases Jw id' with⟨bx',Z6⟩|e'
   ·exact st.ninj id bx id' bx' b o o' hx Z6 hb Ip
   ·rw[e'] at Nj;have h1:=(st.nblk id bx b o hx hb).1;have h2:=h.blt id' b o' (Dg Nj) (by rw[←st.old id' (Dg Nj)];exact Ip)
    omega
  ·rw[e] at hl;rcases Jw id' with⟨bx',Z6⟩|e'
   ·have h1:=(st.nblk id' bx' b o' Z6 Ip).1;have h2:=h.blt id b o (Dg hl) (by rw[←st.old id (Dg hl)];exact hb)
    omega
   ·rw[e'] at Nj;exact h.inj id id' b o o' hl Nj (by rw[←st.old id (Dg hl)];exact hb) (by rw[←st.old id' (Dg Nj)];exact Ip)
 ·intro id b o hn hb;simp only at hn;rcases Jw id with⟨bx,hx⟩|e
  ·exact (st.nblk id bx b o hx hb).2
  ·rw[e] at hn;exact Nat.lt_of_lt_of_le (h.blt id b o hn (by rw[←st.old id hn];exact hb)) st.ext.size
 ·have:=Sf (Q:=fun _ p _=>∀id∈B7 p,A6 s.hp nw id≠none) (val:=val) (d:=d) (v:=v) h.tsz hd (fun i hi id Bo=>U7 id (.inl (h.wfT i hi id Bo))) (fun _ id Bo=>U7 id (st.vwf id Bo))
  exact this
 ·intro id cells hc c hcm id' Bo;simp only at hc;rcases Jw id with⟨bx,hx⟩|e
  ·rw[hg1 id bx hx] at hc;cases hc;exact U7 id' (st.nwf id _ hx c hcm id' Bo)
  ·rw[e] at hc;exact U7 id' (.inl (h.wfB id cells hc c hcm id' Bo))
 ·rintro b ⟨id,o,hl,hb⟩
  simp only at hl;rcases Jw id with⟨bx,hx⟩|e
  ·exact .inr (Nat.le_trans h.fr.step.size (st.nblk id bx b o hx hb).1)
  ·rw[e] at hl;exact h.ownd b ⟨id,o,hl,by rw[←st.old id (Dg hl)];exact hb⟩
 ·intro id bx b o hb hl hβ Cd;simp only at hb;rcases Jw id with⟨bx',hx⟩|e
  ·have:=(st.nblk id bx' b o hx hβ).1;have:=h.fr.step.size;omega
  ·rw[e] at hb;exact h.rngB id bx b o hb hl (by rw[←st.old id (by rw[hb];simp)];exact hβ) Cd
 ·intro i hi;obtain⟨h1,h2⟩:=h.pin i hi;exact⟨U7 _ (.inl h1),by rw[st.old _ h1];exact h2⟩
 ·intro id c b o hb hβ Cd;simp only at hb;rcases Jw id with⟨bx',hx⟩|e
  ·have:=(st.nblk id bx' b o hx hβ).1;have:=h.fr.step.size;omega
  ·rw[e] at hb;exact h.stp id c b o hb (by rw[←st.old id (by rw[hb];simp)];exact hβ) Cd
 ·rintro b hY hX
  have hb:b<w.heap.size:=Nat.lt_of_lt_of_le (h.Ylt b hY) h.fr.step.size;exact h.Yx b hY (Awo b hb hX)
 ·refine⟨st.os.trans h.fr.os,st.tape.trans h.fr.tape,st.output.trans h.fr.output,h.fr.step.trans st.ext (fun _ _ x=>x.elim),fun b j hb hL=>?_⟩
  have CP:=st.ext.keep b (Nat.lt_of_lt_of_le hb h.fr.step.size) (fun x=>x)
  have hc:w'.cell? ⟨b,j,none⟩=w.cell? ⟨b,j,none⟩:=World.cell?_of_block (w:=w) CP;have hf:w'.frozen? ⟨b,j,none⟩=w.frozen? ⟨b,j,none⟩:=World.frozen?_of_block (w:=w) CP;rw[hc,hf];exact h.fr.rng b j hb hL
end
open Go.RowKit
section
variable {P:Program} {N:Nat} {w0:World} {X0:Fp} {Y:Nat->Prop} {β β':Bt} {s:St} {a:Act} {w w':World} {o:Oper}
theorem Ade (cs:List Value)(A:Nat->Prop):Bw (Ci w A β) (cs.map PV.sc) cs:=by
 induction cs with
 |nil=>trivial
 |cons v r ih=>exact⟨Aw.sc v,ih⟩
theorem Agx (cs:List Value):(cs.map PV.sc).flatMap Av=[]:=by
 induction cs with
 |nil=>rfl
 |cons v r ih=>exact ih
theorem Dw (h:B4 N w0 X0 Y β s a w)(x:Operand):Ed w (Db s.hp β Y) β (Ct s.tm x) (a.eval x):=by
 cases x with
 |tmp t=>
  show Ed _ _ _ (s.tm t) (a.tmps.getD t undef);by_cases ht:t<N
  ·exact h.tms t ht
  ·rw[h.tmo t (Nat.le_of_not_lt ht)];exact Aw.top _
 |const v=>
  cases v with
  |agg cs=>exact⟨cs.toList,by simp[Act.eval],Ade cs.toList _⟩
  |_=>exact Aw.sc _
 |func f=>exact Aw.sc _
 |global g=>exact Aw.sc _
theorem Gq (h:B4 N w0 X0 Y β s a w)(x:Operand):∀id∈B7 (Ct s.tm x),s.hp id≠none:=by
 cases x with
 |tmp t=>
  show ∀id∈B7 (s.tm t),_;by_cases ht:t<N
  ·exact h.wfT t ht
  ·rw[h.tmo t (Nat.le_of_not_lt ht)];intro id Bo;cases Bo
 |const v=>
  cases v with
  |agg cs=>
   intro id Bo;have:B7 (.agg (cs.toList.map .sc))=[]:=Agx cs.toList;simp only[Ct] at Bo;rw[this] at Bo;cases Bo
  |_=>intro id Bo;cases Bo
 |func f=>intro id Bo;cases Bo
 |global g=>intro id Bo;cases Bo
theorem K8 {A:Nat->Prop}{v u:Value}(h:Ed w A β (.sc v) u):u=v:=Aw.val h
theorem Dc (h:B4 N w0 X0 Y β s a w){x:Operand}{v:Value}(e:Ct s.tm x=.sc v):a.eval x=v:=by
 have:=Dw h x;rw[e] at this;exact K8 this
def F3 (P:Program)(a:Act)(w:World)(o:Oper)(Y:Nat->Prop)(β:Bt)(s:St)(v:PV)(fz:List Nat)(nw:List (Nat × Bx)):Prop:=
 (∀id∈fz,∃f c,s.hp id=some (.ar f c))∧∃val w',(execOp a.eval o).run P w=.ok (.value val) w'∧(Ck s.hp nw=true->∃β',UH Y β ⟨s.tm,Ag s.hp fz⟩ w v nw val w' β')
theorem Agi {v:PV}{val:Value}(hv:Ed w (Db s.hp β Y) β v val) (hr:∀id∈B7 v,s.hp id≠none):UH Y β s w v [] val w β:=
 ⟨rfl,rfl,rfl,Co.refl _ _,fun _ _=>rfl,by simp,by simp,by simp,by simp,by simp,hv,fun id Bo=>.inl (hr id Bo)⟩
theorem Cw {v:PV}{val:Value}(Di:(execOp a.eval o).run P w=.ok (.value val) w) (hv:Ed w (Db s.hp β Y) β v val) (hr:∀id∈B7 v,s.hp id≠none):F3 P a w o Y β s v [] []:=
 ⟨by simp,val,w,Di,fun _=>⟨β,Agi (s:=⟨s.tm,Ag s.hp []⟩) hv hr⟩⟩
theorem Dk {v:Value}(Di:(execOp a.eval o).run P w=.ok (.value v) w):F3 P a w o Y β s (.sc v) [] []:=Cw Di (Aw.sc v) (by intro id Bo;cases Bo)
structure Id (w w':World) (c:Array Value) (e:TypeId):Prop where
 os:w'.os=w.os
 tape:w'.tape=w.tape
 output:w'.output=w.output
 old:∀b,b<w.heap.size->w'.heap[b]?=w.heap[b]?
 size:w'.heap.size=w.heap.size+1
 new:∃fz:Nat × Nat,w'.heap[w.heap.size]?=some (.cells c e fz)∧(fz.1=fz.2∨c.size<=fz.1)
theorem Id.alloc (w:World)(c:Array Value)(e:TypeId):Id w (w.alloc (.cells c e)) c e:=
 ⟨rfl,rfl,rfl,fun b hb=>Below.heap_alloc w _ b hb,by show (w.heap.push _).size=_;simp,(0,0),by show (w.heap.push _)[w.heap.size]?=_;simp,.inl rfl⟩
theorem Id.drew {c:Array Value}{e:TypeId}(h:Id w w' c e):Id w w'.drew c e:=⟨h.os,h.tape,h.output,h.old,h.size,h.new⟩
section
variable {c:Array Value} {e:TypeId}
theorem Id.step (h:Id w w' c e):Co (fun _=>False) w w':=
 ⟨by rw[h.size];omega,fun b hb _=>h.old b hb,fun b hb=>by unfold bsz;rw[h.old b hb];exact Nat.le_refl _⟩
theorem Id.cell (h:Id w w' c e)(j:Nat):w'.cell? ⟨w.heap.size,j,none⟩=c[j]?:=by
 obtain⟨fz,hn,_⟩:=h.new;simp[World.cell?,hn]
theorem Id.frozen (h:Id w w' c e){j:Nat}(hj:j<c.size):w'.frozen? ⟨w.heap.size,j,none⟩=false:=by
 obtain⟨fz,hn,hf⟩:=h.new;simp only[World.frozen?,hn];rcases hf with hf|hf<;>simp<;>omega
theorem Id.bsz (h:Id w w' c e):bsz w' w.heap.size=c.size:=by
 obtain⟨fz,hn,_⟩:=h.new;simp[Pv.bsz,hn]
end
theorem Ur {c:Array Value}{e:TypeId}{d:Nat}{bx:Bx}{v:PV}{val:Value}(hg:Id w w' c e)(hd:s.hp d=none)(hl:Cs (some bx))
  (Mx:Tv w' (Db (Da s.hp d (some bx)) (Da β d (some (w.heap.size,0))) Y) (Da β d (some (w.heap.size,0))) d bx)
  (hcw:∀cells,bx=.st cells->∀x∈cells,∀id'∈Av x,s.hp id'≠none)
  (hv:Ed w' (Db (Da s.hp d (some bx)) (Da β d (some (w.heap.size,0))) Y) (Da β d (some (w.heap.size,0))) v val)
  (hvr:∀id∈B7 v,s.hp id≠none∨id=d):UH Y β s w v [(d,bx)] val w' (Da β d (some (w.heap.size,0))) where
 os:=hg.os
 tape:=hg.tape
 output:=hg.output
 ext:=hg.step
 old:=fun id hn=>Am _ _ (by rintro rfl;exact hn hd)
 nlive:=by intro id b hm;simp at hm;obtain⟨rfl,rfl⟩:=hm;exact hl
 nbox:=by intro id b hm;simp at hm;obtain⟨rfl,rfl⟩:=hm;exact Mx
 nblk:=by
  intro id b x y hm hb;simp at hm;obtain⟨rfl,rfl⟩:=hm;rw[Au] at hb;simp at hb;have:=hg.size;omega
 ninj:=by intro id b id' b' x y z hm Qf _ _;simp at hm Qf;rw[hm.1,Qf.1]
 nwf:=by intro id cells hm x hx id' Bo;simp at hm;exact .inl (hcw cells hm.2.symm x hx id' Bo)
 val:=hv
 vwf:=by
  intro id Bo;rcases hvr id Bo with h|rfl
  ·exact .inl h
  ·exact .inr ⟨bx,by simp⟩
theorem Ahv {c:Array Value}{e:TypeId}(hg:Id w w' c e){A A':Nat->Prop}(hA:∀b,b<w.heap.size->A' b->A b){cells:List PV}
  (h:∀(j:Nat) p,cells[j]?=some p->∃v,c[j]?=some v∧v.oneCell'=true∧Aw w A p v):TN w' A' ⟨w.heap.size,0,none⟩ cells:=by
 intro j p hj;obtain⟨v,hv,h1,ht⟩:=h j p hj;exact⟨v,by rw[Er,Nat.zero_add,hg.cell];exact hv,h1,ht.step (hg.step.weaken (fun _ _ x=>x.elim)) hA⟩
theorem Ah8 {d:Nat}{bx:Bx}(hwf:s.hp d=none):∀b,b<w.heap.size->Db (Da s.hp d (some bx)) (Da β d (some (w.heap.size,0))) Y b->Db s.hp β Y b:=by
 intro b hb hA;rcases hA with⟨id,o,hl,hβ⟩|hY
 ·by_cases e:id=d
  ·subst e;rw[Au] at hβ;simp at hβ;omega
  ·rw[Am _ _ e] at hl hβ;exact .inl ⟨id,o,hl,hβ⟩
 ·exact .inr hY
theorem Tq {c:Array Value}{e:TypeId}{d:Nat}{cells:List PV}{fz:List Nat}{v:PV}{val:Value}
  (HO:∀id∈fz,∃f c,s.hp id=some (.ar f c))
  (Di:(execOp a.eval o).run P w=.ok (.value val) w') (hg:Id w w' c e)
  (hc:∀(j:Nat) p,cells[j]?=some p->∃u,c[j]?=some u∧u.oneCell'=true∧Aw w (Db (Ag s.hp fz) β Y) p u)
  (hv:(v=.ptr d 0∧val=.pointer (some ⟨w.heap.size,0,none⟩))∨∃es n cap,v=.view d es 0 n∧val=.slice (some ⟨w.heap.size,0,none⟩) n cap∧n<=cap∧cap*es<=c.size):
  F3 P a w o Y β s v fz [(d,.ar false cells)]:=by
 refine⟨HO,val,w',Di,fun Tp=>⟨Da β d (some (w.heap.size,0)),?_⟩⟩
 have hd:s.hp d=none:=(B5 Tp).1 d (.ar false cells) (by simp)
 have hd':Ag s.hp fz d=none:=Ff.2 hd;refine Ur (s:=⟨s.tm,Ag s.hp fz⟩) hg hd' trivial ?_ (fun cells hx=>by cases hx) ?_ ?_
 ·refine .inr ⟨w.heap.size,0,Au _ _ _,?_,fun _ j _ hj=>?_,(fun x=>by cases x)⟩
  ·exact Ahv hg (Ah8 (s:=⟨s.tm,Ag s.hp fz⟩) hd') hc
  ·rw[hg.bsz] at hj;exact hg.frozen hj
 ·rcases hv with⟨rfl,rfl⟩|⟨es,n,cap,rfl,rfl,hn,LO⟩
  ·exact⟨w.heap.size,0,Au _ _ _,rfl⟩
  ·exact .inr ⟨w.heap.size,0,0,cap,Au _ _ _,rfl,.inl rfl,hn,by rw[hg.bsz];omega,by rw[hg.size];omega⟩
 ·intro id Bo;rcases hv with⟨rfl,_⟩|⟨es,n,cap,rfl,_⟩<;>(simp[B7,Cj,Av] at Bo;exact .inr Bo)
theorem WA {c:Array Value}{e:TypeId}{d:Nat}{cells:List PV}
  (Di:(execOp a.eval o).run P w=.ok (.value (.pointer (some ⟨w.heap.size,0,none⟩))) w') (hg:Id w w' c e)
  (hc:∀(j:Nat) p,cells[j]?=some p->∃u,c[j]?=some u∧Ci w (Db s.hp β Y) β p u) (hr:∀x∈cells,∀id∈Av x,s.hp id≠none):
  F3 P a w o Y β s (.ptr d 0) [] [(d,.st cells)]:=by
 refine⟨by simp,_,w',Di,fun Tp=>⟨Da β d (some (w.heap.size,0)),?_⟩⟩
 have hd:s.hp d=none:=(B5 Tp).1 d (.st cells) (by simp)
 refine Ur (s:=⟨s.tm,Ag s.hp []⟩) hg hd trivial ?_ (fun cs hx x hxm id Bo=>?_) ?_ ?_
 ·refine⟨w.heap.size,0,Au _ _ _,fun j p hj=>?_,fun j hj=>?_⟩
  ·obtain⟨u,hu,hp⟩:=hc j p hj;refine⟨u,by rw[Nat.zero_add,hg.cell];exact hu,hp.step (hg.step.weaken (fun _ _ x=>x.elim)) (Ah8 (s:=⟨s.tm,Ag s.hp []⟩) hd) fun id Bo=>Am _ _ ?_⟩
   rintro rfl
   exact hr p (List.mem_of_getElem? hj) id Bo hd
  ·rw[Nat.zero_add];obtain⟨u,hu,_⟩:=hc j _ (List.getElem?_eq_getElem hj)
   exact hg.frozen (by
    rcases Nat.lt_or_ge j c.size with h|h
    ·exact h
    ·rw[Array.getElem?_eq_none h] at hu;cases hu)
 ·injection hx with hx;subst hx;exact hr x hxm id Bo
 ·exact⟨w.heap.size,0,Au _ _ _,rfl⟩
 ·intro id Bo;simp[B7,Cj,Av] at Bo;exact .inr Bo
end
open Go.RowKit
section
variable {R:Type} {r:R} {P:Program} {N:Nat} {w0:World} {X0:Fp} {Y:Nat->Prop} {β β':Bt} {s:St} {a:Act} {w w':World} {o:Oper}
theorem Nl {t:TypeId}{n:Nat}(h:(P.info? t).map (·.size)=some n) (w:World):(sizeOf t).run P w=.ok n w:=by
 cases hi:P.info? t with
 |none=>rw[hi] at h;cases h
 |some i=>rw[hi] at h;simp at h;simp[sizeOf,typeInfo,hi,h]
theorem Anb {t:TypeId}{n:Nat}(h:Bl P t=n)(hn:0<n):(P.info? t).map (·.size)=some n:=by
 unfold Bl at h;cases hi:(P.info? t).map (·.size) with
 |none=>rw[hi] at h;simp at h;omega
 |some i=>rw[hi] at h;simp at h;rw[h]
theorem Qj {t:TypeId}{d:TypeDesc}(h:P.underlying t=some d)(w:World):(isAgg t).run P w=.ok (Cr P t) w:=by
 unfold isAgg Cr;rw[h];simp only[Sem.run_bind,run_underlying h,Result.andThen_ok];cases d<;>rfl
theorem Au5 {t:TypeId}{v:Value}{K:PV->Option R}(h:cvK P t v K=some r):∃p,K p=some r∧B7 p=[]∧∀(w:World)(A:Nat->Prop)(β:Bt),Ed w A β p v:=by
 have sc:∀v:Value,K (.sc v)=some r->∃p,K p=some r∧B7 p=[]∧∀(w:World) (A:Nat->Prop) (β:Bt),Ed w A β p v:=fun v h=>⟨_,h,rfl,fun w A β=>Aw.sc v⟩
 unfold cvK at h;split at h
 ·rename_i cs;obtain⟨hl,h⟩:=As h;obtain⟨xs,h,hxl,hx⟩:=Ym h;have hl:=Nat.eq_of_beq_eq_true hl;refine⟨_,h,?_,fun w A β=>⟨cs.toList,by simp,?_⟩⟩
  ·show xs.flatMap Av=[];rw[List.flatMap_eq_nil_iff];intro c hc;obtain⟨j,hj⟩:=List.mem_iff_getElem?.1 hc;exact J2 (hx j c hj).1
  ·refine Bw.of_at (by rw[hxl,hl]) fun i c u hc hu=>?_
   obtain⟨hT,p,hp,_,CE⟩:=hx i c hc;refine (O4 hT).2 (CE w A β u ?_).1;rw[Nat.zero_add,List.getElem?_map,hu] at hp;simp at hp;subst hp;exact Aw.sc u
 ·split at h
  ·exact⟨_,h,rfl,fun w A β=>Aw.lnil true _⟩
  ·cases h
 ·exact sc _ h
theorem GG (h:B4 N w0 X0 Y β s a w){x:Operand}(Di:(execOp a.eval o).run P w=.ok (.value (a.eval x)) w) {K:PV->Option R}(hk:ID P o.type s.tm x K=some r):
  ∃v,K v=some r∧F3 P a w o Y β s v [] []:=by
 have dflt:K (Ct s.tm x)=some r->∃v,K v=some r∧F3 P a w o Y β s v [] []:=fun hk=>⟨_,hk,Cw Di (Dw h x) (Gq h x)⟩
 cases x with
 |const v=>
  obtain⟨p,hk,hr,hv⟩:=Au5 hk;exact⟨p,hk,Cw Di (hv _ _ _) (by rw[hr];simp)⟩
 |tmp t=>exact dflt hk
 |func f=>exact dflt hk
 |global g=>exact dflt hk
theorem Akr {x:Operand}(ho:o.op=.move x):(execOp a.eval o).run P w=.ok (.value (a.eval x)) w:=by unfold execOp;rw[ho];rfl
theorem Aby {x:Operand}(ho:o.op=.assign x):(execOp a.eval o).run P w=.ok (.value (a.eval x)) w:=by unfold execOp;rw[ho];rfl
theorem Afd (h:B4 N w0 X0 Y β s a w){c x y:Operand}(ho:o.op=.pick c x y){K:PV->Option R}(hk:(Bu (Ct s.tm c) fun t=>Bi t (K (Ct s.tm x)) (K (Ct s.tm y)))=some r):
  ∃v,K v=some r∧F3 P a w o Y β s v [] []:=by
 obtain⟨b,hb,hk⟩:=Ek hk;have hc:=Dc h hb;rcases P9 hk with⟨rfl,hk⟩|⟨rfl,hk⟩
 ·exact⟨_,hk,Cw (by unfold execOp;rw[ho];simp[asBool,hc]) (Dw h x) (Gq h x)⟩
 ·exact⟨_,hk,Cw (by unfold execOp;rw[ho];simp[asBool,hc]) (Dw h y) (Gq h y)⟩
theorem Sq {t:TypeId}{K:List PV->Option R}(h:I8 P t K=some r):∃(v:Value)(cs:List PV),K cs=some r∧DE P t=some v∧cs.length=(Kh P t).length∧cs.length=v.cells.toList.length∧cs.length=Bl P t ∧
  ∀(j:Nat) c,cs[j]?=some c->AC c∧∃u,v.cells.toList[j]?=some u∧u.oneCell'=true∧∀(w:World) (A:Nat->Prop),Aw w A c u:=by
 unfold I8 at h;obtain⟨v,hz,h⟩:=Dl h;obtain⟨hl,h⟩:=As h;obtain⟨cs,h,W9,hc⟩:=Ym h;simp only[Bool.and_eq_true] at hl;have GT:=Nat.eq_of_beq_eq_true hl.1
 have LZ:(Kh P t).length=Bl P t:=by
  have:=hl.2;simp only[Lj,Bool.and_eq_true] at this;exact Nat.eq_of_beq_eq_true this.2
 refine⟨v,cs,h,hz,W9,by rw[W9,GT],by rw[W9,LZ],fun j c hj=>?_⟩
 obtain⟨hT,p,hp,_,CE⟩:=hc j c hj;rw[Nat.zero_add,List.getElem?_map] at hp;cases hu:v.cells.toList[j]? with
 |none=>rw[hu] at hp;cases hp
 |some u=>
  rw[hu] at hp;simp at hp;subst hp;exact⟨hT,u,rfl,(CE default (fun _=>False) (fun _=>none) u (Aw.sc u)).2,fun w A=>(CE w A (fun _=>none) u (Aw.sc u)).1⟩
theorem AO {t:TypeId}{v:Value}(h:DE P t=some v)(w:World):(zeroValue t).run P w=.ok v w:=by
 unfold DE at h;cases hi:P.info? t with
 |none=>rw[hi] at h;cases h
 |some i=>rw[hi] at h;simp at h;simp[zeroValue,typeInfo,hi,h]
theorem Abz {t:TypeId}(ho:o.op=.alloc t){d:Nat}{K:PV->List Nat->List (Nat × Bx)->Option R}
  (hk:(I8 P t fun cs=>K (.ptr d 0) [] [(d,Anm P t cs)])=some r):∃v fz nw,K v fz nw=some r∧F3 P a w o Y β s v fz nw:=by
 obtain⟨z,cs,hk,hz,_,hl,_,hc⟩:=Sq hk
 have Di:(execOp a.eval o).run P w=.ok (.value (.pointer (some ⟨w.heap.size,0,none⟩))) (w.alloc (.cells z.cells t)):=by
  unfold execOp;rw[ho];simp[Instr.alloc,AO hz,newVar,newRow]
 have hg:=Id.alloc w z.cells t;refine⟨_,_,_,hk,?_⟩;unfold Anm;cases Yg P t
 ·refine WA Di hg (fun j p hj=>?_) fun x hx id Bo=>?_
  ·obtain⟨hT,u,hu,_,hv⟩:=hc j p hj;exact⟨u,by simpa using hu,(O4 hT).2 (hv _ _)⟩
  ·obtain⟨j,hj⟩:=List.mem_iff_getElem?.1 hx;rw[J2 (hc j x hj).1] at Bo;cases Bo
 ·refine Tq (by simp) Di hg (fun j p hj=>?_) (.inl ⟨rfl,rfl⟩)
  obtain⟨hT,u,hu,h1,hv⟩:=hc j p hj;exact⟨u,by simpa using hu,h1,hv _ _⟩
end
open Go.RowKit
section
variable {R:Type} {r:R} {P:Program} {N:Nat} {w0:World} {X0:Fp} {Y:Nat->Prop} {β β':Bt} {s:St} {a:Act} {w w':World} {o:Oper} {A:Nat->Prop}
theorem Uf {t:TypeId}(h:Lj P t=true):(∃d,P.underlying t=some d)∧(Kh P t).length=Bl P t∧(P.info? t).map (·.size)=some (Bl P t):=by
 simp only[Lj,Bool.and_eq_true] at h;refine⟨Option.isSome_iff_exists.1 h.1,Nat.eq_of_beq_eq_true h.2,?_⟩;unfold Bl;cases hi:P.info? t with
 |none=>unfold Program.underlying at h;rw[hi] at h;cases h.1
 |some i=>simp
theorem Qk {v:Value}(h:v.oneCell'=true):v.cells = #[v]:=by cases v<;>first|rfl|cases h
theorem Ah5 {p:PV}{v:Value}{ts:List CT}{K:List PV->Option R}(hv:Ed w A β p v)(hl:(cellsOf p).length=ts.length) (h:Tf ts (cellsOf p) 0 K=some r):
  ∃cs,K cs=some r∧cs.length=ts.length∧Bw (Ci w A β) cs v.cells.toList∧(∀u∈v.cells.toList,u.oneCell'=true)∧(∀c∈cs,∀id∈Av c,id∈B7 p)∧∀c∈cs,(∀x,c ≠ .agg x)∧(∀x,c ≠ .tup x):=by
 obtain⟨cs,h,W9,HL,hc⟩:=Yi h;refine⟨cs,h,W9,?_⟩
 have single:(∀x,p ≠ .agg x)->cellsOf p=[p]:=by
  intro hp;cases p<;>first|rfl|exact absurd rfl (hp _)
 by_cases H6:∃x,p=.agg x
 ·obtain⟨x,rfl⟩:=H6;obtain⟨vs,rfl,h2⟩:=hv;have Gv:cs.length=vs.length:=by rw[W9,←hl];exact h2.len
  have key:∀(i:Nat) c u,cs[i]?=some c->vs[i]?=some u->Ci w A β c u∧u.oneCell'=true:=by
   intro i c u Vo hu;obtain⟨q,hq,_,_,hqv⟩:=hc i c Vo;rw[Nat.zero_add] at hq;exact hqv w A β u (h2.at_ hq hu)
  refine⟨Bw.of_at Gv fun i c u Vo hu=>(key i c u Vo hu).1,?_,?_,HL⟩
  ·intro u hu;obtain⟨i,hi⟩:=List.mem_iff_getElem?.1 (show u∈vs from hu)
   have Cd:i<vs.length:=by
    rcases Nat.lt_or_ge i vs.length with h|h
    ·exact h
    ·rw[List.getElem?_eq_none h] at hi;cases hi
   exact (key i _ u (List.getElem?_eq_getElem (by omega)) hi).2
  ·intro c hcm id Bo;obtain⟨i,hi⟩:=List.mem_iff_getElem?.1 hcm;obtain⟨q,hq,_,hr,_⟩:=hc i c hi;rw[Nat.zero_add] at hq;show id∈x.flatMap Av;exact List.mem_flatMap.2 ⟨q,List.mem_of_getElem? hq,hr id Bo⟩
 ·have hp:∀x,p ≠ .agg x:=fun x e=>H6 ⟨x,e⟩
  rw[single hp] at hl hc;have GT:cs.length=1:=by rw[W9,←hl];rfl
  match cs,GT with
  |[c],_=>
   obtain⟨q,hq,hf,hr,hqv⟩:=hc 0 c rfl;simp at hq;subst hq;have T9:∀x,p ≠ .tup x:=by rintro x rfl;exact hf
   have Sh:Ci w A β p v:=(V6 hp).1 ((Qc T9).1 hv);obtain⟨h5,h6⟩:=hqv w A β v Sh;rw[Qk h6];refine⟨⟨h5,trivial⟩,?_,?_,HL⟩
   ·intro u hu;simp at hu;subst hu;exact h6
   ·intro c' Vo id Bo;simp at Vo;subst Vo;have:=hr id Bo;cases p<;>first|exact this|exact absurd rfl (hp _)|exact absurd rfl (T9 _)
end
open Go.RowKit
section
variable {R:Type} {r:R} {P:Program} {N:Nat} {w0:World} {X0:Fp} {Y:Nat->Prop} {β β':Bt} {s:St} {a:Act} {w w':World} {o:Oper} {A:Nat->Prop}
theorem Bw.get {α β':Type}{R':α->β'->Prop}{zs:List α}{bs:List β'}(h:Bw R' zs bs){i:Nat}{x:α}(hx:zs[i]?=some x):∃y,bs[i]?=some y∧R' x y:=by
 have Cd:i<zs.length:=by
  rcases Nat.lt_or_ge i zs.length with h|h
  ·exact h
  ·rw[List.getElem?_eq_none h] at hx;cases hx
 have hb:bs[i]?=some (bs[i]'(by rw[←h.len];exact Cd)):=List.getElem?_eq_getElem _
 exact⟨_,hb,h.at_ hx hb⟩
theorem Avj {p:PV}{v:Value}{ts:List CT}{K:List PV->Option R}(hv:Ed w A β p v)(hl:(cellsOf p).length=ts.length) (h:Xk ts (cellsOf p) 0 K=some r):
  ∃cs,K cs=some r∧cs.length=ts.length∧Bw (Aw w A) cs v.cells.toList∧∀u∈v.cells.toList,u.oneCell'=true:=by
 obtain⟨cs,h,W9,hc⟩:=Ym h;refine⟨cs,h,W9,?_⟩;by_cases H6:∃x,p=.agg x
 ·obtain⟨x,rfl⟩:=H6;obtain⟨vs,rfl,h2⟩:=hv;have Gv:cs.length=vs.length:=by rw[W9,←hl];exact h2.len
  have key:∀(i:Nat) c u,cs[i]?=some c->vs[i]?=some u->Aw w A c u∧u.oneCell'=true:=by
   intro i c u Vo hu;obtain⟨_,q,hq,_,hqv⟩:=hc i c Vo;rw[Nat.zero_add] at hq;exact hqv w A β u (h2.at_ hq hu)
  refine⟨Bw.of_at Gv fun i c u Vo hu=>(key i c u Vo hu).1,?_⟩
  intro u hu;obtain⟨i,hi⟩:=List.mem_iff_getElem?.1 (show u∈vs from hu)
  have Cd:i<vs.length:=by
   rcases Nat.lt_or_ge i vs.length with h|h
   ·exact h
   ·rw[List.getElem?_eq_none h] at hi;cases hi
  exact (key i _ u (List.getElem?_eq_getElem (by omega)) hi).2
 ·have hp:∀x,p ≠ .agg x:=fun x e=>H6 ⟨x,e⟩
  have single:cellsOf p=[p]:=by cases p<;>first|rfl|exact absurd rfl (hp _)
  rw[single] at hl hc;have GT:cs.length=1:=by rw[W9,←hl];rfl
  match cs,GT with
  |[c],_=>
   obtain⟨_,q,hq,hf,hqv⟩:=hc 0 c rfl;simp at hq;subst hq;have T9:∀x,p ≠ .tup x:=by rintro x rfl;exact hf
   have Sh:Ci w A β p v:=(V6 hp).1 ((Qc T9).1 hv);obtain⟨h5,h6⟩:=hqv w A β v Sh;rw[Qk h6];exact⟨⟨h5,trivial⟩,fun u hu=>by simp at hu;subst hu;exact h6⟩
theorem Alb (h:B4 N w0 X0 Y β s a w){t:TypeId}{x:Operand}(ho:o.op=.box t x){d:Nat}{K:PV->List Nat->List (Nat × Bx)->Option R}
    (hk:(Ar (Lj P t&&Nat.beq (cellsOf (Ct s.tm x)).length (Kh P t).length)
      (bif Yg P t then Xk (Kh P t) (cellsOf (Ct s.tm x)) 0 fun cs=>K (.ptr d 0) [] [(d,.ar false cs)]
       else Tf (Kh P t) (cellsOf (Ct s.tm x)) 0 fun cs=>K (.ptr d 0) [] [(d,.st cs)]))=some r):∃v fz nw,K v fz nw=some r∧F3 P a w o Y β s v fz nw:=by
  obtain⟨hl,hk⟩:=As hk
  simp only[Bool.and_eq_true] at hl
  have hl:=Nat.eq_of_beq_eq_true hl.2
  have Di:(execOp a.eval o).run P w=.ok (.value (.pointer (some ⟨w.heap.size,0,none⟩))) (w.alloc (.cells (a.eval x).cells t)):=by
    unfold execOp
    rw[ho]
    simp[Instr.box,newVar,newRow]
  have hg:=Id.alloc w (a.eval x).cells t
  cases ha:Yg P t
  · rw[ha] at hk
    obtain⟨cs,hk,_,h2,_,hr,_⟩:=Ah5 (Dw h x) hl hk
    refine⟨_,_,_,hk,WA Di hg (fun j p hj=>?_) fun c hc id Bo=>Gq h x id (hr c hc id Bo)⟩
    obtain⟨u,hu,hp⟩:=h2.get hj
    exact⟨u,by simpa using hu,hp⟩
  · rw[ha] at hk
    obtain⟨cs,hk,_,h2,h1⟩:=Avj (Dw h x) hl hk
    refine⟨_,_,_,hk,Tq (by simp) Di hg (fun j p hj=>?_) (.inl ⟨rfl,rfl⟩)⟩
    obtain⟨u,hu,hp⟩:=h2.get hj
    exact⟨u,by simpa using hu,h1 u (List.mem_of_getElem? hu),hp⟩
theorem Afp {c:PV}(h1:∀x,c ≠ .agg x)(h2:∀x,c ≠ .tup x):B7 c=Av c:=by
 cases c<;>first|rfl|exact absurd rfl (h1 _)|exact absurd rfl (h2 _)
theorem DV {t:TypeId}{ad:Addr}{cs:List PV}{p:PV}(hok:Lj P t=true)(Gv:cs.length=(Kh P t).length)
  (HL:∀c∈cs,(∀x,c ≠ .agg x)∧(∀x,c ≠ .tup x))
  (hc:∀(j:Nat) c,cs[j]?=some c->∃v,w.cell? (ad.add j)=some v∧Ci w A β c v)
  (hp:(Cr P t=true∧p=.agg cs)∨(Cr P t=false∧cs=[p])):∃val,(loadVar t ad).run P w=.ok val w∧Ed w A β p val:=by
 obtain⟨⟨d,hd⟩,hl,hi⟩:=Uf hok;rcases hp with⟨H6,rfl⟩|⟨H6,rfl⟩
 ·have hf:∀j,j<Bl P t->w.cell? (ad.add j)=some ((w.cell? (ad.add j)).getD undef):=by
   intro j hj;obtain⟨v,hv,_⟩:=hc j _ (List.getElem?_eq_getElem (by omega))
   rw[hv];rfl
  refine⟨_,?_,(List.range (Bl P t)).map (fun j=>(w.cell? (ad.add j)).getD undef),rfl,?_⟩
  ·simp only[loadVar,Sem.run_bind,Qj hd,H6,Result.andThen_ok,if_true,Nl hi,run_loadCells w ad (Bl P t) _ hf];simp
  ·refine Bw.of_at (by simp;omega) fun i c u Vo hu=>?_
   obtain⟨v,hv,JZ⟩:=hc i c Vo
   have Cd:i<Bl P t:=by
    rcases Nat.lt_or_ge i cs.length with h|h
    ·omega
    ·rw[List.getElem?_eq_none h] at Vo;cases Vo
   rw[List.getElem?_map,List.getElem?_range Cd] at hu;simp[hv] at hu;subst hu;exact JZ
 ·obtain⟨v,hv,JZ⟩:=hc 0 p rfl;have hn:=HL p (by simp)
  have h0:ad.add 0=ad:=by simp[Addr.add]
  rw[h0] at hv;refine⟨v,?_,(Qc hn.2).2 ((V6 hn.1).2 JZ)⟩;simp only[loadVar,Sem.run_bind,Qj hd,H6,Result.andThen_ok];simp[hv]
theorem Arg {hp:Nat->Option Bx}{id:Nat}{c:List PV}(h:rd hp id=some c):hp id=some (.st c)∨∃f,hp id=some (.ar f c):=by
 unfold rd at h;split at h
 ·rename_i e;simp at h;subst h;exact .inl e
 ·rename_i f _ e;simp at h;subst h;exact .inr ⟨_,e⟩
 ·cases h
theorem ZO {hp:Nat->Option Bx}{id:Nat}{c:List PV}(h:M4 hp id=some c):∃f,hp id=some (.ar f c):=by
 unfold M4 at h;split at h
 ·rename_i e;simp at h;subst h;exact⟨_,e⟩
 ·cases h
theorem PJ (h:B4 N w0 X0 Y β s a w){id:Nat}{c:List PV}(hr:rd s.hp id=some c){b ob:Nat}(hβ:β id=some (b,ob)) {j:Nat}{p:PV}(hj:c[j]?=some p):
  ∃v,w.cell? ⟨b,ob+j,none⟩=some v∧Ci w (Db s.hp β Y) β p v:=by
 rcases Arg hr with hb|⟨f,hb⟩
 ·obtain⟨b',o',h1,h2,_⟩:=h.box id _ hb;rw[hβ] at h1;simp at h1;obtain⟨rfl,rfl⟩:=h1;exact h2 j p hj
 ·rcases h.box id _ hb with⟨h1,_⟩|⟨b',o',h1,h2,_⟩
  ·rw[hβ] at h1;cases h1
  ·rw[hβ] at h1;simp at h1;obtain⟨rfl,rfl⟩:=h1
   obtain⟨v,hv,_,ht⟩:=h2 j p hj;rw[Er] at hv;refine⟨v,hv,?_⟩;cases ht with
   |sc=>exact Aw.sc _
   |top=>exact Aw.top _
   |ub=>exact Aw.ub _
   |lnil=>exact Aw.lnil _ _
   |lemp=>exact Aw.lemp _ _ _
   |lst es n cells a cap f hs hb hA hn hc h1 hr=>exact Aw.lst es n cells a cap f hs hb hA hn hc h1 hr
theorem Ny:∀{ts:List CT}{cells:List PV}{off:Nat}{K:List PV->Option R},Xk ts cells off K=some r->Tf ts cells off K=some r
 |[],_,_,_,h=>h
 |.int k::ts,cells,off,K,h=>by
  obtain⟨n,hp,h⟩:=F5 (show Ae k (cells.getD off .top) _=some r from h)
  show Ae k _ _=_;rw[hp];simp only[Ae,if_true];exact Ny h
 |.bool::ts,cells,off,K,h=>by
  obtain⟨n,hp,h⟩:=Ek (show Bu (cells.getD off .top) _=some r from h)
  show Bu _ _=_;rw[hp];exact Ny h
 |.str::ts,cells,off,K,h=>by
  obtain⟨n,hp,h⟩:=El (show Iz (cells.getD off .top) _=some r from h)
  show Iz _ _=_;rw[hp];exact Ny h
 |.sl es::ts,cells,off,K,h=>by
  obtain⟨z,n,c,h,hp⟩:=Hg (show Fq es (cells.getD off .top) _=some r from h)
  change fcK (.sl es) (cells.getD off .top) (fun c=>Tf ts cells (off+1) fun r=>K (c::r))=some r
  unfold fcK;dsimp only;unfold fsK;rcases hp with hp|⟨hp,rfl,rfl,rfl⟩
  ·rw[hp];simp only[Fq,Nat.beq_refl,cond_true];exact Ny h
  ·rw[hp];exact Ny h
 |.any::ts,cells,off,K,h=>by
  obtain⟨f,a,b,hp,h⟩:=YO (show fnK (cells.getD off .top) (fun v=>Xk ts cells (off+1) fun r=>K (.sc v::r))=some r from h)
  show fnK (cells.getD off .top) (fun v=>Tf ts cells (off+1) fun r=>K (.sc v::r))=some r
  rw[hp];exact Ny h
theorem Aw.unz {w:World}{A:Nat->Prop}{z:Bool}{es n:Nat}{c:List PV}{u:Value}(h:Aw w A (.lst z es n c) u):Aw w A (.lst false es n c) u:=by
 cases h with
 |lnil z es=>exact .lnil false es
 |lemp es a cap=>exact .lemp es a cap
 |lst es n c a cap f h1 h2 h3 h4 h5 h6 h7=>exact .lst es n c a cap f h1 h2 h3 h4 h5 h6 h7
theorem Ajs {w:World}{A:Nat->Prop}{β:Bt}{p:PV}{u:Value}(h:Ci w A β p u):Ci w A β (XI p) u:=by
 cases p with
 |lst z es n c=>exact Aw.unz h
 |_=>exact h
theorem Aev (p:PV):Av (XI p)=Av p:=by cases p<;>rfl
theorem WV {w:World}{A:Nat->Prop}{β:Bt}:∀{cs:List PV}{vs:List Value},Bw (Ci w A β) cs vs->Bw (Ci w A β) (cs.map XI) vs
 |[],[],_=>trivial
 |_::_,_::_,h=>⟨Ajs h.1,WV h.2⟩
 |[],_::_,h=>h.elim
 |_::_,[],h=>h.elim
theorem Akw {w:World}{A:Nat->Prop}{β:Bt}{p:PV}{u:Value}(h:Ed w A β p u):Ed w A β (Ajo p) u:=by
 cases p with
 |agg cs=>
  obtain⟨vs,h1,h2⟩:=(show H2 w A β (.agg cs) u from h)
  exact⟨vs,h1,WV h2⟩
 |lst z es n c=>exact Aw.unz (show Aw w A (.lst z es n c) u from h)
 |_=>exact h
theorem Aju (p:PV):B7 (Ajo p)=B7 p:=by
 cases p with
 |agg cs=>
  show (cs.map XI).flatMap Av=cs.flatMap Av
  induction cs with
  |nil=>rfl
  |cons a l ih=>rw[List.map_cons,List.flatMap_cons,List.flatMap_cons,ih,Aev]
 |_=>rfl
theorem Asd {hp:Nat->Option Bx}{t:TypeId}{x:PV}{K:PV->Option R}(h:EW P (rd hp) (M4 hp) t x K=some r):
  OS P (rd hp) t x K=some r∨OS P (rd hp) t x (fun v=>K (Ajo v))=some r:=by
 unfold EW at h;unfold OS;split at h
 ·rename_i id off;obtain⟨hb,h⟩:=As h;rw[hb];show F8 _ _=_∨F8 _ _=_;split at h
  ·rename_i c hc;obtain⟨f,Mx⟩:=ZO hc;have:rd hp id=some c:=by unfold rd;rw[Mx]
   rw[this];exact .inr (Ny h)
  ·exact .inl h
 ·exact .inr h
 ·cases h
theorem WU (h:B4 N w0 X0 Y β s a w){t:TypeId}{x:PV}{u:Value}(hx:Ed w (Db s.hp β Y) β x u) {K:PV->Option R}(hk:OS P (rd s.hp) t x K=some r):
  ∃v ad val,K v=some r∧u=.pointer (some ad)∧(loadVar t ad).run P w=.ok val w∧Ed w (Db s.hp β Y) β v val∧∀i∈B7 v,s.hp i≠none:=by
 unfold OS at hk;split at hk
 ·rename_i id off;obtain⟨hok,hk⟩:=As hk;obtain⟨c,hr,hk⟩:=Dl hk;obtain⟨cs,hk,hl,HL,hc⟩:=Yi hk;obtain⟨b,ob,hβ,D3⟩:=hx
  have hcell:∀(j:Nat) q,cs[j]?=some q->∃v,w.cell? ((⟨b,ob+off,none⟩:Addr).add j)=some v∧Ci w (Db s.hp β Y) β q v:=by
   intro j q hq;obtain⟨p,hp,_,_,CE⟩:=hc j q hq;obtain⟨v,hv,JZ⟩:=PJ h hr hβ hp;exact⟨v,by rw[Er,Nat.add_assoc];exact hv,(CE _ _ _ _ JZ).1⟩
  have AH:∀q∈cs,∀i∈Av q,s.hp i≠none:=by
   intro q hq i hi;obtain⟨j,hj⟩:=List.mem_iff_getElem?.1 hq;obtain⟨p,hp,_,hpr,_⟩:=hc j q hj;rcases Arg hr with hb|⟨f,hb⟩
   ·exact h.wfB id c hb p (List.mem_of_getElem? hp) i (hpr i hi)
   ·obtain⟨v,hv,JZ⟩:=PJ h hr hβ hp;exfalso;have C1:=hpr i hi;rcases h.box id _ hb with⟨_,rfl⟩|⟨b',o',h1,h2,_⟩
    ·simp at hp
    ·obtain⟨v',_,_,ht⟩:=h2 _ p hp;cases ht<;>cases C1
  rcases Aae hk with⟨H6,Gc⟩|⟨H6,q,rfl,Gc⟩
  ·obtain⟨val,EE,hv⟩:=DV hok hl HL hcell (.inl ⟨H6,rfl⟩);refine⟨_,_,val,Gc,D3,EE,hv,fun i hi=>?_⟩
   obtain⟨q,hq,hi⟩:=List.mem_flatMap.1 (show i∈cs.flatMap Av from hi)
   exact AH q hq i hi
  ·obtain⟨val,EE,hv⟩:=DV hok hl HL hcell (.inr ⟨H6,rfl⟩);refine⟨_,_,val,Gc,D3,EE,hv,fun i hi=>AH q (by simp) i ?_⟩
   have hn:=HL q (by simp)
   rw[Afp hn.1 hn.2] at hi;exact hi
 ·rename_i c off;obtain⟨hok,hk⟩:=As hk;obtain⟨cs,hk,hl,hc⟩:=Ym hk;obtain⟨ad,D3,hs,hb,hA,hrd⟩:=hx
  have HL:∀q∈cs,(∀x,q ≠ .agg x)∧(∀x,q ≠ .tup x):=by
   intro q hq;obtain⟨j,hj⟩:=List.mem_iff_getElem?.1 hq;exact⟨DP (hc j q hj).1,Aiy (hc j q hj).1⟩
  have hcell:∀(j:Nat) q,cs[j]?=some q->∃v,w.cell? ((ad.add off).add j)=some v∧Ci w (Db s.hp β Y) β q v:=by
   intro j q hq;obtain⟨hT,p,hp,PI,CE⟩:=hc j q hq;obtain⟨v,hv,_,ht⟩:=hrd (off+j) p hp;exact⟨v,by rw[add_add];exact hv,(O4 hT).2 (CE w (Db s.hp β Y) β v ((O4 PI).2 ht)).1⟩
  have AH:∀q∈cs,Av q=[]:=by
   intro q hq;obtain⟨j,hj⟩:=List.mem_iff_getElem?.1 hq;exact J2 (hc j q hj).1
  rcases Aae hk with⟨H6,Gc⟩|⟨H6,q,rfl,Gc⟩
  ·obtain⟨val,EE,hv⟩:=DV hok hl HL hcell (.inl ⟨H6,rfl⟩);refine⟨_,_,val,Gc,D3,EE,hv,fun i hi=>?_⟩
   obtain⟨q,hq,hi⟩:=List.mem_flatMap.1 (show i∈cs.flatMap Av from hi)
   rw[AH q hq] at hi;cases hi
  ·obtain⟨val,EE,hv⟩:=DV hok hl HL hcell (.inr ⟨H6,rfl⟩);refine⟨_,_,val,Gc,D3,EE,hv,fun i hi=>?_⟩
   have hn:=HL q (by simp)
   rw[Afp hn.1 hn.2,AH q (by simp)] at hi
   cases hi
 ·cases hk
theorem Adg (h:B4 N w0 X0 Y β s a w){t:TypeId}{x:PV}{u:Value}(hx:Ed w (Db s.hp β Y) β x u) {K:PV->Option R}(hk:EW P (rd s.hp) (M4 s.hp) t x K=some r):
  ∃v ad val,K v=some r∧u=.pointer (some ad)∧(loadVar t ad).run P w=.ok val w∧Ed w (Db s.hp β Y) β v val∧∀i∈B7 v,s.hp i≠none:=by
 rcases Asd hk with hk|hk
 ·exact WU h hx hk
 ·obtain⟨v,ad,val,h1,h2,h3,h4,h5⟩:=WU h hx hk;exact⟨Ajo v,ad,val,h1,h2,h3,Akw h4,by rw[Aju];exact h5⟩
theorem Afy (h:B4 N w0 X0 Y β s a w){t:TypeId}{x:Operand}(ho:o.op=.load t x){K:PV->Option R}(hk:EW P (rd s.hp) (M4 s.hp) t (Ct s.tm x) K=some r):
  ∃v,K v=some r∧F3 P a w o Y β s v [] []:=by
 obtain⟨v,ad,val,D4,D3,hl,hv,hr⟩:=Adg h (Dw h x) hk;refine⟨v,D4,Cw ?_ hv hr⟩;unfold execOp;rw[ho];simp[Instr.loadAt,Instr.sureAddr,D3,hl]
theorem Ala {x:PV}{d:Nat}{K:PV->Option R}(h:Xp x d K=some r):(∃id off,x=.ptr id off∧K (.ptr id (off+d))=some r)∨∃c off,x=.iptr c off∧K (.iptr c (off+d))=some r:=by
 unfold Xp at h;split at h
 ·exact .inl ⟨_,_,rfl,h⟩
 ·exact .inr ⟨_,_,rfl,h⟩
 ·cases h
theorem CQ (h:B4 N w0 X0 Y β s a w){x:Operand}{d:Nat}{K:PV->Option R}(hk:Xp (Ct s.tm x) d K=some r)
  (Di:∀ad:Addr,a.eval x=.pointer (some ad)->(execOp a.eval o).run P w=.ok (.value (.pointer (some (ad.add d)))) w):∃v,K v=some r∧F3 P a w o Y β s v [] []:=by
 have hx:=Dw h x;have RU:=Gq h x;rcases Ala hk with⟨id,off,e,hk⟩|⟨c,off,e,hk⟩
 ·rw[e] at hx RU;obtain⟨b,ob,hβ,D3⟩:=hx;refine⟨_,hk,Cw (Di _ D3) ⟨b,ob,hβ,by rw[Er,Nat.add_assoc]⟩ RU⟩
 ·rw[e] at hx;obtain⟨ad,D3,h1,h2,h3,h4⟩:=hx;exact⟨_,hk,Cw (Di _ D3) ⟨ad,by rw[add_add],h1,h2,h3,h4⟩ (by intro i hi;cases hi)⟩
theorem QF (h:B4 N w0 X0 Y β s a w){x:Operand}(ho:o.op=.nilCheck x){K:PV->Option R}(hk:Xp (Ct s.tm x) 0 K=some r):∃v,K v=some r∧F3 P a w o Y β s v [] []:=by
 refine CQ h hk fun ad D3=>?_
 unfold execOp;rw[ho];simp[D3,Addr.add]
theorem GJ {t:TypeId}{f:Nat}{q:Nat × TypeId}(h:Uu P t f=some q):∃fs g,P.underlying t=some (.struct fs)∧fs[f]?=some g∧q=(g.offset,g.type):=by
 unfold Uu at h;split at h
 ·rename_i fs e;cases hg:fs[f]? with
  |none=>rw[hg] at h;cases h
  |some g=>rw[hg] at h;simp at h;exact⟨fs,g,e,hg,h.symm⟩
 ·cases h
theorem MG (h:B4 N w0 X0 Y β s a w){t:TypeId}{x:Operand}{f:Nat}(ho:o.op=.fieldAddr t x f){K:PV->Option R}
  (hk:(F8 (Uu P t f) fun q=>Ar (Nat.ble 1 (Bl P q.2)) (Xp (Ct s.tm x) q.1 K))=some r):∃v,K v=some r∧F3 P a w o Y β s v [] []:=by
 obtain⟨q,hq,hk⟩:=Dl hk;obtain⟨hs,hk⟩:=As hk;obtain⟨fs,g,hu,hg,rfl⟩:=GJ hq;have hs:1<=Bl P g.type:=Nat.le_of_ble_eq_true hs;have Ku:=Anb (P:=P) (t:=g.type) rfl (by omega)
 refine CQ h hk fun ad D3=>?_
 unfold execOp;rw[ho];have F9:¬Bl P g.type=0:=by omega
 simp[Instr.fieldAt,run_underlying hu,hg,Instr.sureAddr,D3,fieldPlace,Nl Ku,F9]
end
open Go.RowKit
section
variable {R:Type} {r:R} {P:Program} {N:Nat} {w0:World} {X0:Fp} {Y:Nat->Prop} {β β':Bt} {s:St} {a:Act} {w w':World} {o:Oper} {A:Nat->Prop}
theorem OZ (h:B4 N w0 X0 Y β s a w){t:TypeId}{cs:List PV}{vs:List Value}{off:Nat}{K:PV->Option R}{x:Operand}(hx:Ct s.tm x=.agg cs)(hv:Bw (Ci w (Db s.hp β Y) β) cs vs)
  (hk:Ar (Lj P t) (Tf (Kh P t) cs off fun c=>mkV (Cr P t) c K)=some r)
  (Di:∀val,(part t ⟨vs⟩ off).run P w=.ok val w->(execOp a.eval o).run P w=.ok (.value val) w):∃v,K v=some r∧F3 P a w o Y β s v [] []:=by
 obtain⟨hok,hk⟩:=As hk;obtain⟨⟨d,hd⟩,hl,hi⟩:=Uf hok;obtain⟨qs,hk,hql,HL,hq⟩:=Yi hk;have RU:=Gq h x;rw[hx] at RU
 have hcell:∀(j:Nat) q,qs[j]?=some q->∃v,vs[off+j]?=some v∧Ci w (Db s.hp β Y) β q v:=by
  intro j q hj;obtain⟨p,hp,_,_,CE⟩:=hq j q hj;obtain⟨v,Sh,hc⟩:=hv.get hp;exact⟨v,Sh,(CE _ _ _ _ hc).1⟩
 have AH:∀q∈qs,∀i∈Av q,s.hp i≠none:=by
  intro q hqm i hi;obtain⟨j,hj⟩:=List.mem_iff_getElem?.1 hqm;obtain⟨p,hp,_,hpr,_⟩:=hq j q hj;exact RU i (List.mem_flatMap.2 ⟨p,List.mem_of_getElem? hp,hpr i hi⟩)
 rcases Aae hk with⟨H6,Gc⟩|⟨H6,q,rfl,Gc⟩
 ·have Xa:Bl P t=0∨off+Bl P t<=vs.length:=by
   rcases Nat.eq_zero_or_pos (Bl P t) with h0|h0
   ·exact .inl h0
   ·obtain⟨v,Sh,_⟩:=hcell (Bl P t-1) _ (List.getElem?_eq_getElem (by omega))
    have:off+(Bl P t-1)<vs.length:=by
     rcases Nat.lt_or_ge (off+(Bl P t-1)) vs.length with h|h
     ·exact h
     ·rw[List.getElem?_eq_none h] at Sh;cases Sh
    exact .inr (by omega)
  refine⟨_,Gc,Cw (Di (.agg ⟨(vs.drop off).take (Bl P t)⟩) ?_) ⟨(vs.drop off).take (Bl P t),rfl,?_⟩ fun i hi=>?_⟩
  ·simp only[part,Sem.run_bind,Qj hd,H6,Result.andThen_ok,if_true,Nl hi];simp[List.extract_eq_take_drop]
  ·refine Bw.of_at ?_ fun i c u hc hu=>?_
   ·simp only[List.length_take,List.length_drop];omega
   ·obtain⟨v,Sh,JZ⟩:=hcell i c hc
    have Cd:i<Bl P t:=by
     rcases Nat.lt_or_ge i qs.length with h|h
     ·omega
     ·rw[List.getElem?_eq_none h] at hc;cases hc
    rw[List.getElem?_take_of_lt Cd,List.getElem?_drop,Sh] at hu;cases hu;exact JZ
  ·obtain⟨q,hqm,hi⟩:=List.mem_flatMap.1 (show i∈qs.flatMap Av from hi)
   exact AH q hqm i hi
 ·obtain⟨v,Sh,JZ⟩:=hcell 0 q rfl;have hn:=HL q (by simp)
  refine⟨_,Gc,Cw (Di v ?_) ((Qc hn.2).2 ((V6 hn.1).2 JZ)) fun i hi=>?_⟩
  ·simp only[part,Sem.run_bind,Qj hd,H6,Result.andThen_ok];rw[Nat.add_zero] at Sh;simp[Sh]
  ·rw[Afp hn.1 hn.2] at hi;exact AH q (by simp) i hi
theorem Aee (h:B4 N w0 X0 Y β s a w){t:TypeId}{x:Operand}{f:Nat}(ho:o.op=.field t x f){K:PV->Option R}
  (hk:(F8 (Uu P t f) fun q=>Ar (Lj P q.2)<|Fm (Ct s.tm x) fun cs=>Tf (Kh P q.2) cs q.1 fun c=>mkV (Cr P q.2) c K)=some r):∃v,K v=some r∧F3 P a w o Y β s v [] []:=by
 obtain⟨q,hq,hk⟩:=Dl hk;obtain⟨hok,hk⟩:=As hk;obtain⟨cs,hx,hk⟩:=Jy hk;obtain⟨fs,g,hu,hg,rfl⟩:=GJ hq;have hxv:=Dw h x;rw[hx] at hxv;obtain⟨vs,D3,hv⟩:=hxv;refine OZ (t:=g.type) (off:=g.offset) h hx hv (by rw[show Lj P g.type=true from hok];exact hk) fun val hp=>?_
 unfold execOp;rw[ho];simp[Instr.field,run_underlying hu,hg,asAgg,D3,hp]
theorem SL (h:B4 N w0 X0 Y β s a w){x:Operand}{i:Nat}(ho:o.op=.extract x i){K:PV->Option R}
  (hk:(match Ct s.tm x with | .tup vs=>F8 vs[i]? K|_=>none)=some r):∃v,K v=some r∧F3 P a w o Y β s v [] []:=by
 have hx:=Dw h x;have RU:=Gq h x;split at hk
 ·rename_i ps e;rw[e] at hx RU;obtain⟨p,hp,hk⟩:=Dl hk;obtain⟨vs,D3,hv⟩:=hx;obtain⟨v,Sh,CE⟩:=hv.get hp
  have Awc:∀y,p ≠ .tup y:=by
   rintro y rfl
   have A55:Aw _ _ (.tup y) v:=CE;cases A55
  refine⟨p,hk,Cw (val:=v) ?_ ((Qc Awc).2 CE) fun id Bo=>RU id ?_⟩
  ·unfold execOp;rw[ho];simp[Instr.extract,D3,Sh]
  ·refine List.mem_flatMap.2 ⟨p,List.mem_of_getElem? hp,?_⟩;cases p<;>first|exact Bo|exact absurd rfl (Awc _)
 ·cases hk
theorem slice_form {es:Nat}{p:PV}{z:Bool}{n:Nat}{c:List PV}{v:Value}(hp:p=.lst z es n c∨(p=.sc (.slice none 0 0)∧z=true∧n=0∧c=[])) (hv:Ed w A β p v):
  (v=.slice none 0 0∧n=0∧c=[])∨(∃ad cap,v=.slice (some ad) n cap∧z=false∧n<=cap∧ad.spot=none∧ad.block<w.heap.size∧¬A ad.block∧TN w A ad c)∨∃ad cap,v=.slice (some ad) 0 cap∧z=false∧n=0∧c=[]:=by
 have Sh:Ci w A β p v:=by rcases hp with rfl|⟨rfl,_⟩<;>exact hv
 have ht:=BH hp Sh;cases ht with
 |lnil=>exact .inl ⟨rfl,rfl,rfl⟩
 |lst _ _ _ ad cap f hs hb hA hn hc h1 hr=>exact .inr (.inl ⟨ad,cap,rfl,rfl,hn,hs,hb,hA,fun j q hj=>⟨f j,hc j q hj,h1 j q hj,hr j q hj⟩⟩)
 |lemp _ ad cap=>exact .inr (.inr ⟨ad,cap,rfl,rfl,rfl,rfl⟩)
theorem MR (h:B4 N w0 X0 Y β s a w){t:TypeId}{x i:Operand}(ho:o.op=.indexAddr t x i){K:PV->Option R}
  (hk:(Ef (Ct s.tm i) fun _ n=>Nz P t (Ct s.tm x) n K)=some r):∃v,K v=some r∧F3 P a w o Y β s v [] []:=by
 obtain⟨ik,n,hi,hk⟩:=D5 hk;have hai:=Dc h hi;have hx:=Dw h x;have RU:=Gq h x;unfold Nz at hk;split at hk
 ·rename_i len e hu;obtain⟨hz,hk⟩:=As hk;obtain⟨hb,hk⟩:=As hk;simp only[Bool.and_eq_true,decide_eq_true_eq] at hb;obtain⟨inf,Tb⟩:=Option.isSome_iff_exists.1 hz;refine CQ h hk fun ad D3=>?_
  unfold execOp;rw[ho];simp[Instr.indexAt,asIntOf,hai,D3,run_underlying hu,Instr.sureAddr,hb.1,hb.2,sizeOf,typeInfo,Tb,Bl]
 ·rename_i e hu;obtain⟨hz,hk⟩:=As hk;obtain⟨inf,Tb⟩:=Option.isSome_iff_exists.1 hz;have Ku:Bl P e=inf.size:=by simp[Bl,Tb]
  split at hk
  ·rename_i id es off n' e';rw[e'] at hx RU;obtain⟨KE,hk⟩:=As hk;have KE:=Nat.eq_of_beq_eq_true KE;subst KE;obtain⟨hb,hk⟩:=As hk;simp only[Bool.and_eq_true,decide_eq_true_eq] at hb;rcases hx with⟨_,_,rfl,_⟩|⟨b,ob,y,cap,hβ,D3,hy,_⟩
   ·omega
   ·have hy:y=ob+off:=by rcases hy with hy|⟨rfl,_⟩<;>omega
    subst hy;refine⟨_,hk,Cw (val:=.pointer (some ⟨b,ob+(off+n.toNat*Bl P e),none⟩)) ?_ ⟨b,ob,hβ,rfl⟩ RU⟩;unfold execOp;rw[ho];simp[Instr.indexAt,asIntOf,hai,D3,run_underlying hu,hb.1,hb.2,sizeOf,typeInfo,Tb,Ku,Er,Nat.add_assoc]
  ·obtain⟨z,n',c,hk,hp⟩:=Hg hk;obtain⟨hb,hk⟩:=As hk;simp only[Bool.and_eq_true,decide_eq_true_eq] at hb;rcases slice_form hp hx with⟨_,rfl,_⟩|⟨ad,cap,D3,_,_,h1,h2,h3,h4⟩|⟨_,_,_,_,rfl,_⟩
   ·omega
   rotate_left
   ·omega
   ·refine⟨_,hk,Cw (val:=.pointer (some (ad.add (n.toNat*Bl P e)))) ?_ ⟨ad,rfl,h1,h2,h3,h4⟩ (by intro i hi;cases hi)⟩
    unfold execOp;rw[ho];simp[Instr.indexAt,asIntOf,hai,D3,run_underlying hu,hb.1,hb.2,sizeOf,typeInfo,Tb,Ku]
 ·cases hk
theorem Aa1 (h:B4 N w0 X0 Y β s a w){t:TypeId}{x i:Operand}(ho:o.op=.index t x i){K:PV->Option R}
  (hk:(Ef (Ct s.tm i) fun _ n=>
   match P.underlying t with
   |some .string=>Iz (Ct s.tm x) fun s=>Ar (decide (0<=n)) (F8 (s.data.toList[n.toNat]?) fun b=>K (.sc (.int .u8 b.toNat)))
   |some (.array len e)=>Fm (Ct s.tm x) fun cs=>Ar (decide (0<=n)&&decide (n<len)&&Lj P e) (Tf (Kh P e) cs (n.toNat*Bl P e) fun c=>mkV (Cr P e) c K)
   |_=>none)=some r):∃v,K v=some r∧F3 P a w o Y β s v [] []:=by
 obtain⟨ik,n,hi,hk⟩:=D5 hk;have hai:=Dc h hi;split at hk
 ·rename_i hu;obtain⟨sb,hx,hk⟩:=El hk;have D3:=Dc h hx;obtain⟨h0,hk⟩:=As hk;obtain⟨b,hb,hk⟩:=Dl hk;have h0:=of_decide_eq_true h0;refine⟨_,hk,Dk ?_⟩
  have Cd:n.toNat<sb.size:=by
   rcases Nat.lt_or_ge n.toNat sb.data.toList.length with h|h
   ·simpa using h
   ·rw[List.getElem?_eq_none h] at hb;cases hb
  have Ip:sb[n.toNat]=b:=by
   have:sb.data.toList[n.toNat]?=some sb[n.toNat]:=by
    rw[List.getElem?_eq_getElem (by simpa using Cd)]
    rfl
   rw[hb] at this;injection this with this;exact this.symm
  unfold execOp;rw[ho];simp[Instr.index,asIntOf,hai,D3,run_underlying hu,h0,Cd,Ip]
 ·rename_i len e hu;obtain⟨cs,hx,hk⟩:=Jy hk;obtain⟨hb,hk⟩:=As hk;simp only[Bool.and_eq_true,decide_eq_true_eq] at hb;have hxv:=Dw h x;rw[hx] at hxv;obtain⟨vs,D3,hv⟩:=hxv;obtain⟨_,_,Ku⟩:=Uf hb.2;refine OZ (t:=e) (off:=n.toNat*Bl P e) h hx hv (by rw[hb.2];exact hk) fun val hp=>?_
  unfold execOp;rw[ho];simp[Instr.index,asIntOf,hai,D3,run_underlying hu,hb.1.1,hb.1.2,Nl Ku,hp]
 ·cases hk
end
open Go.RowKit
section
variable {R:Type} {r:R} {P:Program} {N:Nat} {w0:World} {X0:Fp} {Y:Nat->Prop} {β β':Bt} {s:St} {a:Act} {w w':World} {o:Oper} {A:Nat->Prop}
theorem Ex (h:B4 N w0 X0 Y β s a w){x:Option Operand}{dflt:Nat}{K:Nat->Option R}(hk:I4 (x.map (Ct s.tm)) dflt K=some r):
  ∃l,K l=some r∧((x=none∧l=dflt)∨∃y k,x=some y∧a.eval y=.int k (l:Int)):=by
 cases x with
 |none=>exact⟨dflt,hk,.inl ⟨rfl,rfl⟩⟩
 |some y=>
  obtain⟨k,i,hi,hk⟩:=D5 (show Ef (Ct s.tm y) _=some r from hk)
  obtain⟨h0,hk⟩:=As hk;have h0:=of_decide_eq_true h0;exact⟨i.toNat,hk,.inr ⟨y,k,rfl,by rw[Dc h hi,Int.toNat_of_nonneg h0]⟩⟩
theorem K9 {lo hi:Option Operand}{isS:Bool}{len cap l u:Nat}(hl:(lo=none∧l=0)∨∃y k,lo=some y∧a.eval y=.int k (l:Int))
  (hu:(hi=none∧u=len)∨∃y k,hi=some y∧a.eval y=.int k (u:Int)) (h1:l<=u)(h2:u<=cap):
  (Instr.sliceBounds isS len cap (lo.map a.eval) (hi.map a.eval) none).run P w=.ok (l,u,cap) w:=by
 rcases hl with⟨rfl,rfl⟩|⟨y,k,rfl,hy⟩<;>rcases hu with⟨rfl,rfl⟩|⟨y',k',rfl,hy'⟩
 ·simp[Instr.sliceBounds]
 ·simp[Instr.sliceBounds,Instr.sliceBound,asIntOf,hy',h2]
 ·simp[Instr.sliceBounds,Instr.sliceBound,asIntOf,hy,h1]
 ·simp[Instr.sliceBounds,Instr.sliceBound,asIntOf,hy,hy',h1,h2]
theorem Dj {e:TypeId}(h:(P.info? e).isSome=true) (w:World):(sizeOf e).run P w=.ok (Bl P e) w:=by
 obtain⟨i,hi⟩:=Option.isSome_iff_exists.1 h;exact Nl (by simp[Bl,hi]) w
theorem OR {b j:Nat}{v:Value}(h:w.cell? ⟨b,j,none⟩=some v):j<bsz w b:=by
 unfold World.cell? at h;unfold bsz;split at h
 ·rename_i c e fz hb;simp only at hb;rw[hb];simp only[Option.isSome_none,Bool.false_eq_true,if_false] at h;rcases Nat.lt_or_ge j c.size with Cd|hge
  ·exact Cd
  ·rw[Array.getElem?_eq_none hge] at h;cases h
 ·cases h
theorem Acm (h:B4 N w0 X0 Y β s a w){t:TypeId}{x:Operand}{lo hi:Option Operand}(ho:o.op=.slice t x lo hi none){K:PV->Option R}
  (hk:IP P (rd s.hp) t (Ct s.tm x) (lo.map (Ct s.tm)) (hi.map (Ct s.tm)) K=some r):∃v,K v=some r∧F3 P a w o Y β s v [] []:=by
 have hx:=Dw h x;have RU:=Gq h x;unfold IP at hk;split at hk
 ·rename_i hu;obtain⟨sb,RY,hk⟩:=El hk;have D3:=Dc h RY;obtain⟨l,hk,hl⟩:=Ex h hk;obtain⟨u,hk,Lq⟩:=Ex h hk;obtain⟨hb,hk⟩:=As hk;simp only[Bool.and_eq_true,decide_eq_true_eq] at hb;refine⟨_,hk,Dk ?_⟩;unfold execOp;rw[ho];simp[Instr.sliceAt,Instr.slice,run_underlying hu,D3,K9 hl Lq hb.1 hb.2]
 ·rename_i e hu;obtain⟨Tb,hk⟩:=As hk;split at hk
  ·rename_i id es off n e';rw[e'] at hx RU;obtain⟨KE,hk⟩:=As hk;have KE:=Nat.eq_of_beq_eq_true KE;subst KE;obtain⟨l,hk,hl⟩:=Ex h hk;obtain⟨u,hk,Lq⟩:=Ex h hk;obtain⟨hb,hk⟩:=As hk;simp only[Bool.and_eq_true,decide_eq_true_eq] at hb;rcases hx with⟨hβ,rfl,rfl,ad,D3⟩|⟨b,ob,y,cap,hβ,D3,hy,hn,LO,Cd⟩
   ·have hu0:u=0:=by omega
    have Vc:l=0:=by omega
    subst hu0 Vc;refine⟨_,hk,Cw (val:=.slice ad 0 0) ?_ (.inl ⟨hβ,by simp,rfl,ad,rfl⟩) RU⟩
    unfold execOp;rw[ho];cases ad<;>simp[Instr.sliceAt,Instr.slice,run_underlying hu,D3,K9 hl Lq (Nat.le_refl 0) (Nat.le_refl 0),Dj Tb]
   ·have Di:(execOp a.eval o).run P w=.ok (.value (.slice (some (if cap=l then ⟨b,y,none⟩ else ⟨b,y+l*Bl P e,none⟩)) (u-l) (cap-l))) w:=by
     unfold execOp;rw[ho];have hbr:=K9 (P:=P) (w:=w) (isS:=true) hl Lq hb.1 (Nat.le_trans hb.2 hn);simp[Instr.sliceAt,Instr.slice,run_underlying hu,D3,hbr,Dj Tb,Er];split<;>rfl
    refine⟨_,hk,Cw Di (.inr ?_) RU⟩;by_cases hc:cap=l
    ·rw[if_pos hc];refine⟨b,ob,y,cap-l,hβ,rfl,?_,by omega,by rw[hc,Nat.sub_self];omega,Cd⟩
     by_cases h0:l*Bl P e=0
     ·rw[h0,Nat.add_zero];rcases hy with hy|⟨NC,Tk⟩
      ·exact .inl hy
      ·exact .inr ⟨by omega,Tk⟩
     ·exact .inr ⟨by omega,by omega⟩
    ·rw[if_neg hc];refine⟨b,ob,y+l*Bl P e,cap-l,hβ,rfl,?_,by omega,?_,Cd⟩
     ·rcases hy with hy|⟨NC,Tk⟩
      ·exact .inl (by omega)
      ·exact .inr ⟨by omega,by omega⟩
     ·have:l*Bl P e+(cap-l)*Bl P e=cap*Bl P e:=by
       rw[←Nat.add_mul]
       congr 1
       omega
      omega
  ·obtain⟨z,n,c,hk,hp⟩:=Hg hk;obtain⟨l,hk,hl⟩:=Ex h hk;obtain⟨u,hk,Lq⟩:=Ex h hk;obtain⟨hb,hk⟩:=As hk;simp only[Bool.and_eq_true,decide_eq_true_eq] at hb;rcases slice_form hp hx with⟨D3,rfl,rfl⟩|⟨ad,cap,D3,rfl,hn,h1,h2,h3,h4⟩|⟨ad,cap,D3,rfl,rfl,rfl⟩
   rotate_right
   ·have hu0:u=0:=by omega
    have Vc:l=0:=by omega
    subst hu0 Vc;refine⟨_,hk,Cw (val:=.slice (some (if cap=0 then ad else ad.add (0*Bl P e))) (0-0) (cap-0)) ?_ ?_ (by intro i hi;cases hi)⟩
    ·unfold execOp;rw[ho];have hbr:=K9 (P:=P) (w:=w) (isS:=true) hl Lq (Nat.le_refl 0) (Nat.zero_le cap);simp[Instr.sliceAt,Instr.slice,run_underlying hu,D3,hbr,Dj Tb];split<;>rfl
    ·have:((([]:List PV).drop (0*Bl P e)).take ((0-0)*Bl P e))=[]:=by simp
     rw[this];exact Aw.lemp _ _ _
   ·have hu0:u=0:=by omega
    have Vc:l=0:=by omega
    subst hu0 Vc;refine⟨_,hk,Cw (val:=.slice none 0 0) ?_ ?_ (by intro i hi;cases hi)⟩
    ·unfold execOp;rw[ho];simp[Instr.sliceAt,Instr.slice,run_underlying hu,D3,K9 hl Lq (Nat.le_refl 0) (Nat.le_refl 0),Dj Tb]
    ·have:((([]:List PV).drop (0*Bl P e)).take ((0-0)*Bl P e))=[]:=by simp
     rw[this];exact Aw.lnil z _
   ·have Di:(execOp a.eval o).run P w=.ok (.value (.slice (some (if cap=l then ad else ad.add (l*Bl P e))) (u-l) (cap-l))) w:=by
     unfold execOp;rw[ho];have hbr:=K9 (P:=P) (w:=w) (isS:=true) hl Lq hb.1 (Nat.le_trans hb.2 hn);simp[Instr.sliceAt,Instr.slice,run_underlying hu,D3,hbr,Dj Tb];split<;>rfl
    refine⟨_,hk,Cw Di ?_ (by intro i hi;cases hi)⟩
    by_cases hc:cap=l
    ·rw[if_pos hc];have:u-l=0:=by omega
     rw[this];simp only[Nat.zero_mul,List.take_zero];exact Aw.lst _ _ [] ad _ (fun _=>undef) h1 h2 h3 (by omega) (by simp) (by simp) (by simp)
    ·rw[if_neg hc]
     have hcell:∀(j:Nat) q,((c.drop (l*Bl P e)).take ((u-l)*Bl P e))[j]?=some q->c[l*Bl P e+j]?=some q:=by
      intro j q hq;rw[List.getElem?_take] at hq;split at hq
      ·rw[List.getElem?_drop] at hq;exact hq
      ·cases hq
     refine Aw.lst _ _ _ (ad.add (l*Bl P e)) _ (fun j=>(w.cell? (ad.add (l*Bl P e+j))).getD undef) (Aoc h1 _) (by rw[G9];exact h2) (by rw[G9];exact h3) (by omega) (fun j q hq=>?_) (fun j q hq=>?_) (fun j q hq=>?_)
     ·obtain⟨v,hv,_⟩:=h4 _ q (hcell j q hq);rw[add_add,hv];rfl
     ·obtain⟨v,hv,h5,_⟩:=h4 _ q (hcell j q hq);rw[hv];exact h5
     ·obtain⟨v,hv,_,ht⟩:=h4 _ q (hcell j q hq);rw[hv];exact ht
 ·rename_i n e hu;obtain⟨Tb,hk⟩:=As hk;split at hk
  ·rename_i id off e';rw[e'] at hx RU;obtain⟨c,hrc,hk⟩:=Dl hk;obtain⟨Gv,hk⟩:=As hk;simp only[Bool.and_eq_true,decide_eq_true_eq] at Gv;obtain⟨l,hk,hl⟩:=Ex h hk;obtain⟨u,hk,Lq⟩:=Ex h hk;obtain⟨hb,hk⟩:=As hk;simp only[Bool.and_eq_true,decide_eq_true_eq] at hb;obtain⟨b,ob,hβ,D3⟩:=hx
   have OL:ob+off+n*Bl P e<=bsz w b:=by
    obtain⟨v,hv,_⟩:=PJ h hrc hβ (j:=off+n*Bl P e-1) (List.getElem?_eq_getElem (by omega))
    have:=OR hv;omega
   have Cd:b<w.heap.size:=h.blt id b ob (RU id (by simp[B7,Cj,Av])) hβ
   have Di:(execOp a.eval o).run P w=.ok (.value (.slice (some (if n=l then ⟨b,ob+off,none⟩ else ⟨b,ob+off+l*Bl P e,none⟩)) (u-l) (n-l))) w:=by
    unfold execOp;rw[ho];have hbr:=K9 (P:=P) (w:=w) (isS:=false) hl Lq hb.1 hb.2;simp[Instr.sliceAt,Instr.sureAddr,run_underlying hu,D3,hbr,Dj Tb,Er]
   refine⟨_,hk,Cw Di (.inr ?_) RU⟩;by_cases hc:n=l
   ·rw[if_pos hc];refine⟨b,ob,ob+off,n-l,hβ,rfl,?_,by omega,by rw[hc,Nat.sub_self];omega,Cd⟩
    by_cases h0:l*Bl P e=0
    ·rw[h0,Nat.add_zero];exact .inl rfl
    ·exact .inr ⟨by omega,by omega⟩
   ·rw[if_neg hc];refine⟨b,ob,ob+off+l*Bl P e,n-l,hβ,rfl,.inl (by omega),by omega,?_,Cd⟩
    have:l*Bl P e+(n-l)*Bl P e=n*Bl P e:=by
     rw[←Nat.add_mul]
     congr 1
     omega
    omega
  ·cases hk
 ·cases hk
end
open Go.RowKit
section
variable {R:Type} {r:R} {P:Program} {N:Nat} {w0:World} {X0:Fp} {Y:Nat->Prop} {β β':Bt} {s:St} {a:Act} {w w':World} {o:Oper} {A:Nat->Prop}
theorem Akg (h:B4 N w0 X0 Y β s a w){c:Call}(ho:o.op=.call c)(hc:c.callee=.builtin .len){K:PV->Option R}
  (hk:(Ab c.args.toList fun x _=>Ab c.argTypes.toList fun t _=>Alt P t (Ct s.tm x) fun n=>K (.sc (.int .i64 n)))=some r):∃v,K v=some r∧F3 P a w o Y β s v [] []:=by
 obtain⟨x,xs,RY,hk⟩:=Bk hk;obtain⟨t,ts,hts,hk⟩:=Bk hk;have hx:=Dw h x;have Es:c.args=(x::xs).toArray:=by rw[←RY]
 have LQ:c.argTypes=(t::ts).toArray:=by rw[←hts]
 have Di:∀n:Nat,(Builtin.len_ c.argTypes o.type (c.args.map a.eval)).run P w=.ok (.int .i64 n) w->(execOp a.eval o).run P w=.ok (.value (.int .i64 n)) w:=by
  intro n hl;unfold execOp;rw[ho];simp only[resolve,hc,invoke,builtin,Sem.run_bind,Sem.run_pure,Result.andThen_ok,hl]
 unfold Alt at hk;split at hk
 ·rename_i hu;obtain⟨sb,A6s,hk⟩:=El hk;have D3:=Dc h A6s;refine⟨_,hk,Dk (Di _ ?_)⟩;simp[Builtin.len_,Es,LQ,run_underlying hu,D3,goInt]
 ·rename_i n e hu;refine⟨_,hk,Dk (Di _ ?_)⟩;simp[Builtin.len_,Es,LQ,run_underlying hu,goInt]
 ·rename_i e hu;split at hk
  ·rename_i id es off n e';rw[e'] at hx;obtain⟨_,hk⟩:=As hk;refine⟨_,hk,Dk (Di _ ?_)⟩;rcases hx with⟨_,_,rfl,ad,D3⟩|⟨b,ob,y,cap,_,D3,_⟩<;>simp[Builtin.len_,Es,LQ,run_underlying hu,D3,goInt]
  ·obtain⟨z,n,cc,hk,hp⟩:=Hg hk;refine⟨_,hk,Dk (Di _ ?_)⟩;rcases slice_form hp hx with⟨D3,rfl,_⟩|⟨ad,cap,D3,_⟩|⟨ad,cap,D3,_,rfl,_⟩<;>simp[Builtin.len_,Es,LQ,run_underlying hu,D3,goInt]
 ·cases hk
theorem Aks (h:B4 N w0 X0 Y β s a w){c:Call}(ho:o.op=.call c)(hc:c.callee=.builtin .cap){K:PV->Option R}
  (hk:(Ab c.args.toList fun x _=>Ab c.argTypes.toList fun t _=>Ali P t (Ct s.tm x) fun n=>K (.sc (.int .i64 n)))=some r):∃v,K v=some r∧F3 P a w o Y β s v [] []:=by
 obtain⟨x,xs,RY,hk⟩:=Bk hk;obtain⟨t,ts,hts,hk⟩:=Bk hk;have hx:=Dw h x;have Es:c.args=(x::xs).toArray:=by rw[←RY]
 have LQ:c.argTypes=(t::ts).toArray:=by rw[←hts]
 have Di:∀n:Nat,(Builtin.cap_ c.argTypes o.type (c.args.map a.eval)).run P w=.ok (.int .i64 n) w->(execOp a.eval o).run P w=.ok (.value (.int .i64 n)) w:=by
  intro n hl;unfold execOp;rw[ho];simp only[resolve,hc,invoke,builtin,Sem.run_bind,Sem.run_pure,Result.andThen_ok,hl]
 unfold Ali at hk;split at hk
 ·rename_i e hu;obtain⟨z,n,cc,hk,hp⟩:=Hg hk;obtain⟨hz,hk⟩:=As hk;refine⟨_,hk,Dk (Di _ ?_)⟩;rcases slice_form hp hx with⟨D3,rfl,_⟩|⟨ad,cap,D3,OY,_⟩|⟨ad,cap,D3,OY,_,_⟩
  ·simp[Builtin.cap_,Es,LQ,run_underlying hu,D3,goInt]
  ·rw[hz] at OY;cases OY
  ·rw[hz] at OY;cases OY
 ·cases hk
theorem Ajl (h:B4 N w0 X0 Y β s a w){c:Call}(ho:o.op=.call c)(hc:c.callee=.builtin .min){K:PV->Option R}
  (hk:(Ab c.args.toList fun x r=>Ab r fun y r'=>Ac r' (Aua (Ct s.tm x) (Ct s.tm y) K))=some r):∃v,K v=some r∧F3 P a w o Y β s v [] []:=by
 obtain⟨x,xs,RY,hk⟩:=Bk hk;obtain⟨y,ys,rfl,hk⟩:=Bk hk;obtain⟨rfl,hk⟩:=Ec hk;obtain⟨k,n,hx,hk⟩:=D5 hk;obtain⟨m,hy,hk⟩:=F5 hk
 have Es:c.args = #[x,y]:=by
  have:c.args=([x,y]:List Operand).toArray:=by rw[←RY]
  exact this
 refine⟨_,hk,Dk ?_⟩;unfold execOp;rw[ho];simp[resolve,hc,invoke,builtin,Es,Builtin.min_,Builtin.min2,Dc h hx,Dc h hy]
theorem Ajz (h:B4 N w0 X0 Y β s a w){c:Call}(ho:o.op=.call c)(hc:c.callee=.builtin .max){K:PV->Option R}
  (hk:(Ab c.args.toList fun x r=>Ab r fun y r'=>Ac r' (Aux (Ct s.tm x) (Ct s.tm y) K))=some r):∃v,K v=some r∧F3 P a w o Y β s v [] []:=by
 obtain⟨x,xs,RY,hk⟩:=Bk hk;obtain⟨y,ys,rfl,hk⟩:=Bk hk;obtain⟨rfl,hk⟩:=Ec hk;obtain⟨k,n,hx,hk⟩:=D5 hk;obtain⟨m,hy,hk⟩:=F5 hk
 have Es:c.args = #[x,y]:=by
  have:c.args=([x,y]:List Operand).toArray:=by rw[←RY]
  exact this
 refine⟨_,hk,Dk ?_⟩;unfold execOp;rw[ho];simp[resolve,hc,invoke,builtin,Es,Builtin.max_,Builtin.max2,Dc h hx,Dc h hy]
theorem Af6 (h:B4 N w0 X0 Y β s a w){op:UnOp}{t:TypeId}{x:Operand}(ho:o.op=.unOp op t x){K:PV->Option R}(hk:unK op (Ct s.tm x) K=some r):
  ∃v,K v=some r∧F3 P a w o Y β s v [] []:=by
 unfold unK at hk;split at hk
 ·obtain⟨b,hb,hk⟩:=Ek hk;refine⟨_,hk,Dk ?_⟩;unfold execOp;rw[ho];simp[Op.unary,Dc h hb]
 ·obtain⟨k,n,hb,hk⟩:=D5 hk;refine⟨_,hk,Dk ?_⟩;unfold execOp;rw[ho];simp[Op.unary,Op.intArith,Dc h hb]
 ·obtain⟨k,n,hb,hk⟩:=D5 hk;refine⟨_,hk,Dk ?_⟩;unfold execOp;rw[ho];simp[Op.unary,Op.intBits,Dc h hb,A2e]
 ·cases hk
theorem Akf {op:BinOp}{k:IntKind}{m n:Int}{t:TypeId}{x y:Operand}{K:PV->Option R}(JA:op ≠ .shl)(PF:op ≠ .shr)(hk:ON op k m n K=some r):
  ∃v,K (.sc v)=some r∧(do eqGuard op t x y (.int k m) (.int k n);binOp op t (.int k m) (.int k n)).run P w=.ok v w:=by
 cases op<;>first
  |exact absurd rfl JA
  |exact absurd rfl PF
  |(obtain⟨hb,hk⟩:=As hk;have hb:=of_decide_eq_true hb;exact⟨_,hk,by simp[eqGuard,binOp,Op.intDiv,hb]⟩)
  |exact⟨_,hk,by simp[eqGuard,binOp,-BitVec.toNat_and,-BitVec.toNat_or,-BitVec.toNat_xor,-gt_iff_lt,-ge_iff_le]<;>rfl⟩
theorem Ako {op:BinOp}{m n:ByteArray}{t:TypeId}{x y:Operand}{K:PV->Option R}(hk:PD op m n K=some r):
  ∃v,K (.sc v)=some r∧(do eqGuard op t x y (.string m) (.string n);binOp op t (.string m) (.string n)).run P w=.ok v w:=by
 cases op<;>first
  |cases hk
  |(obtain⟨hb,hk⟩:=As hk;have hb:=of_decide_eq_true hb;exact⟨_,hk,by
    have Ip:¬(((m.size+n.size:Nat):Int)>IntKind.i64.max):=by
     have:IntKind.i64.max=9223372036854775807:=rfl;rw[this];omega
    simp only[eqGuard,binOp,Op.stringOp,if_neg Ip];rfl⟩)
  |exact⟨_,hk,by simp only[eqGuard,binOp,Op.stringOp,ByteArray.toList_eq];rfl⟩
end
open Go.RowKit
section
variable {R:Type} {r:R} {P:Program} {N:Nat} {w0:World} {X0:Fp} {Y:Nat->Prop} {β β':Bt} {s:St} {a:Act} {w w':World} {o:Oper} {A:Nat->Prop}
theorem PQ {t:TypeId}(hu:P.underlying t=some .bool)(x y:Bool):(Op.equal t (.bool x) (.bool y)).run P w=.ok (x==y) w:=by
 have h:∀d,(Op.equalIn (d+1) t (.bool x) (.bool y)).run P w=.ok (x==y) w:=fun d=>by simp[Op.equalIn,run_underlying hu]
 exact h 9999
theorem Ze {t e:TypeId}(hu:P.underlying t=some (.slice e)) (x:Option Addr)(n c:Nat):(Op.equal t (.slice x n c) (.slice none 0 0)).run P w=.ok x.isNone w:=by
 have h:∀d,(Op.equalIn (d+1) t (.slice x n c) (.slice none 0 0)).run P w=.ok x.isNone w:=fun d=>by
  cases x<;>simp[Op.equalIn,run_underlying hu]
 exact h 9999
theorem Ll {t:TypeId}(d:Nat){v u:Value}(hv:(∃k m n,P.underlying t=some (.int k)∧v=.int k m∧u=.int k n)∨(∃m n,P.underlying t=some .bool∧v=.bool m∧u=.bool n)∨∃m n,P.underlying t=some .string∧v=.string m∧u=.string n) {b:Bool}
  (hb:∀k m n,v=.int k m->u=.int k n->b=(m==n)) (Ip:∀m n,v=.bool m->u=.bool n->b=(m==n)) (A9m:∀m n,v=.string m->u=.string n->b=(m==n)):(Op.equalIn (d+1) t v u).run P w=.ok b w:=by
 rcases hv with⟨k,m,n,hu,rfl,rfl⟩|⟨m,n,hu,rfl,rfl⟩|⟨m,n,hu,rfl,rfl⟩
 ·rw[hb k m n rfl rfl];simp[Op.equalIn,run_underlying hu]
 ·rw[Ip m n rfl rfl];simp[Op.equalIn,run_underlying hu]
 ·rw[A9m m n rfl rfl];simp[Op.equalIn,run_underlying hu]
theorem Vh {t:TypeId}{dsc:TypeDesc}(hu:P.underlying t=some dsc)(hd:Cr P t=false){xs:Array Value}{i:Nat}{v:Value}(hv:xs[i]?=some v):(part t xs i).run P w=.ok v w:=by
 simp only[part,Sem.run_bind,Qj hu,hd,Result.andThen_ok];simp[hv]
theorem UD (k:IntKind)(n:Int)(K:Int->Option R):Ae k (.sc (.int k n)) K=K n:=by simp[Ae]
theorem Adr (d : Nat) : ∀ (fs : List Field) (i : Nat) (xs ys : Array Value) (ps qs : List PV) (K : Bool -> Option R), Abd P fs i = true -> Od (fs.map (fty P)) ps qs K = some r ->
    (∀ (j : Nat) p, ps[j]? = some p -> ∃ v, xs[i + j]? = some v ∧ Ci w A β p v) -> (∀ (j : Nat) p, qs[j]? = some p -> ∃ v, ys[i + j]? = some v ∧ Ci w A β p v) ->
    ∃ b, K b = some r ∧ (forIn fs ((none, ()) : Option Bool × Unit) fun (f : Field) (_ : Option Bool × Unit) =>
            if f.name = "_" then pure (ForInStep.yield ((none, ()) : Option Bool × Unit))
            else do
              let x ← part f.type xs f.offset
              let y ← part f.type ys f.offset
              let e ← Op.equalIn (d + 1) f.type x y
              if e = false then pure (ForInStep.done ((some false, ()) : Option Bool × Unit)) else pure (ForInStep.yield ((none, ()) : Option Bool × Unit)) : Sem (Option Bool × Unit)).run P w = .ok (if b then (none, ()) else (some false, ())) w
  | [], i, xs, ys, ps, qs, K, _, hk, _, _ => by
    cases ps with
    | nil => cases qs with
      | nil => exact⟨true, hk, by simp⟩
      | cons q qs => cases hk
    | cons p ps => cases hk
  | f :: fs, i, xs, ys, ps, qs, K, VP, hk, hp, hq => by
    simp only[Abd, Bool.and_eq_true] at VP
    obtain⟨⟨⟨Tk, Amk⟩, hty⟩, AM⟩ := VP
    have Tk := Nat.eq_of_beq_eq_true Tk
    have OP : f.name ≠ "_" := by simpa using Amk
    cases ps with
    | nil =>
      simp only[List.map_cons] at hk
      cases Az6 : fty P f <;> rw[Az6] at hk <;> cases hk
    | cons p ps =>
      cases qs with
      | nil =>
        simp only[List.map_cons] at hk
        cases Az6 : fty P f <;> rw[Az6] at hk <;> cases hk
      | cons q qs =>
        obtain⟨v, hv, CE⟩ := hp 0 p rfl
        obtain⟨u, hu, hqu⟩ := hq 0 q rfl
        rw[Nat.add_zero] at hv hu
        have main : ∃ b0 dsc, P.underlying f.type = some dsc ∧ Cr P f.type = false ∧ (Op.equalIn (d + 1) f.type v u).run P w = .ok b0 w ∧ Od (fs.map (fty P)) ps qs (fun r => K (b0 && r)) = some r := by
          simp only[List.map_cons] at hk
          unfold fty at hk
          split at hk
          · rename_i k M3
            obtain⟨m, UT, D4⟩ := F5 (show Ae k p _ = some r from hk)
            obtain⟨n, RZ, Gc⟩ := F5 D4
            subst UT RZ
            have Sh : v = .int k m := Aw.val (w := w) (A := A) CE
            have Lq : u = .int k n := Aw.val (w := w) (A := A) hqu
            subst Sh Lq
            refine⟨m == n, _, M3, by simp[Cr, M3], Ll d (.inl ⟨k, m, n, M3, rfl, rfl⟩) ?_ ?_ ?_, Gc⟩
            · intro k' m' n' h1 h2; injection h1 with _ h1; injection h2 with _ h2; rw[h1, h2]
            · intro m' n' h1; cases h1
            · intro m' n' h1; cases h1
          · rename_i M3
            obtain⟨m, UT, D4⟩ := Ek (show Bu p _ = some r from hk)
            obtain⟨n, RZ, Gc⟩ := Ek D4
            subst UT RZ
            have Sh : v = .bool m := Aw.val (w := w) (A := A) CE
            have Lq : u = .bool n := Aw.val (w := w) (A := A) hqu
            subst Sh Lq
            refine⟨m == n, _, M3, by simp[Cr, M3], Ll d (.inr (.inl ⟨m, n, M3, rfl, rfl⟩)) ?_ ?_ ?_, Gc⟩
            · intro k' m' n' h1; cases h1
            · intro m' n' h1 h2; injection h1 with h1; injection h2 with h2; rw[h1, h2]
            · intro m' n' h1; cases h1
          · rename_i M3
            obtain⟨m, UT, D4⟩ := El (show Iz p _ = some r from hk)
            obtain⟨n, RZ, Gc⟩ := El D4
            subst UT RZ
            have Sh : v = .string m := Aw.val (w := w) (A := A) CE
            have Lq : u = .string n := Aw.val (w := w) (A := A) hqu
            subst Sh Lq
            refine⟨m == n, _, M3, by simp[Cr, M3], Ll d (.inr (.inr ⟨m, n, M3, rfl, rfl⟩)) ?_ ?_ ?_, Gc⟩
            · intro k' m' n' h1; cases h1
            · intro m' n' h1; cases h1
            · intro m' n' h1 h2; injection h1 with h1; injection h2 with h2; rw[h1, h2]
          · cases hk
        obtain⟨b0, dsc, M3, H6, he, hk⟩ := main
        obtain⟨b, hkb, Di⟩ := Adr d fs (i + 1) xs ys ps qs _ AM hk (fun j p' hj => by have := hp (j + 1) p' hj; rwa [Nat.add_assoc, Nat.add_comm 1 j]) (fun j p' hj => by have := hq (j + 1) p' hj; rwa [Nat.add_assoc, Nat.add_comm 1 j])
        refine⟨b0 && b, hkb, ?_⟩
        have hpx : (part f.type xs f.offset).run P w = .ok v w := Vh M3 H6 (by rw[Tk]; exact hv)
        have hpy : (part f.type ys f.offset).run P w = .ok u w := Vh M3 H6 (by rw[Tk]; exact hu)
        cases b0
        · simp[List.forIn_cons, OP, hpx, hpy, he]
        · simp only[Bool.true_and]
          rw[← Di]
          simp[List.forIn_cons, OP, hpx, hpy, he]
theorem MU (d:Nat){t:TypeId}{fs:Array Field}(hu:P.underlying t=some (.struct fs)) (Gk:P.stoodInHeld t=false)(VP:Abd P fs.toList 0=true){xs ys:List PV}{vx vy:List Value}
  (hvx:Bw (Ci w A β) xs vx) (hvy:Bw (Ci w A β) ys vy) {K:Bool->Option R}(hk:Od (fs.toList.map (fty P)) xs ys K=some r):
  ∃b,K b=some r∧(Op.equalIn (d+2) t (.agg ⟨vx⟩) (.agg ⟨vy⟩)).run P w=.ok b w:=by
 obtain⟨b,hkb,Di⟩:=Adr (P:=P) (w:=w) (A:=A) (β:=β) d fs.toList 0 ⟨vx⟩ ⟨vy⟩ xs ys K VP hk (fun j p hj=>by
   obtain⟨v,hv,hc⟩:=hvx.get hj;exact⟨v,by simpa using hv,hc⟩) (fun j p hj=>by
   obtain⟨v,hv,hc⟩:=hvy.get hj;exact⟨v,by simpa using hv,hc⟩)
 refine⟨b,hkb,?_⟩;rw[Array.forIn_toList] at Di;rw[Op.equalIn];simp[run_underlying hu,Gk];rw[Di];cases b<;>simp
theorem GA:∀(ts1:List CT){ts2:List CT}{ps qs:List PV}{K:Bool->Option R},Od (ts1++ts2) ps qs K=some r ->
  Od ts1 (ps.take ts1.length) (qs.take ts1.length) (fun b=>Od ts2 (ps.drop ts1.length) (qs.drop ts1.length) fun r'=>K (b&&r'))=some r
 |[],ts2,ps,qs,K,h=>by
  simp only[List.length_nil,List.take_zero,List.drop_zero,Od,Bool.true_and];exact h
 |t::ts1,ts2,ps,qs,K,h=>by
  rw[List.cons_append] at h;cases ps with
  |nil=>cases t<;>cases h
  |cons p ps=>
   cases qs with
   |nil=>cases t<;>cases h
   |cons q qs=>
    simp only[List.length_cons,List.take_succ_cons,List.drop_succ_cons];cases t with
    |int k=>
     obtain⟨m,UT,h1⟩:=F5 (show Ae k p _=some r from h)
     obtain⟨n,RZ,h2⟩:=F5 h1;subst UT RZ;have:=GA ts1 h2;simp only[←Bool.and_assoc] at this;exact (UD _ _ _).trans ((UD _ _ _).trans this)
    |bool=>
     obtain⟨m,UT,h1⟩:=Ek (show Bu p _=some r from h)
     obtain⟨n,RZ,h2⟩:=Ek h1;subst UT RZ;have:=GA ts1 h2;simp only[←Bool.and_assoc] at this;exact this
    |str=>
     obtain⟨m,UT,h1⟩:=El (show Iz p _=some r from h)
     obtain⟨n,RZ,h2⟩:=El h1;subst UT RZ;have:=GA ts1 h2;simp only[←Bool.and_assoc] at this;exact this
    |sl es=>cases h
    |any=>cases h
theorem Acc:∀(ts:List CT){ps qs:List PV}{K:Bool->Option R},Od ts ps qs K=some r->ps.length=ts.length∧qs.length=ts.length
 |[],ps,qs,K,h=>by
  cases ps with
  |nil=>cases qs with
   |nil=>exact⟨rfl,rfl⟩
   |cons q qs=>cases h
  |cons p ps=>cases h
 |t::ts,ps,qs,K,h=>by
  cases ps with
  |nil=>cases t<;>cases h
  |cons p ps=>
   cases qs with
   |nil=>cases t<;>cases h
   |cons q qs=>
    have go:∃K',Od ts ps qs K'=some r:=by
     cases t with
     |int k=>
      obtain⟨m,UT,h1⟩:=F5 (show Ae k p _=some r from h)
      obtain⟨n,RZ,h2⟩:=F5 h1;exact⟨_,h2⟩
     |bool=>
      obtain⟨m,UT,h1⟩:=Ek (show Bu p _=some r from h)
      obtain⟨n,RZ,h2⟩:=Ek h1;exact⟨_,h2⟩
     |str=>
      obtain⟨m,UT,h1⟩:=El (show Iz p _=some r from h)
      obtain⟨n,RZ,h2⟩:=El h1;exact⟨_,h2⟩
     |sl es=>cases h
     |any=>cases h
    obtain⟨K',h'⟩:=go;have:=Acc ts h';exact⟨by simp[this.1],by simp[this.2]⟩
theorem Acz {t:TypeId}{dsc:TypeDesc}(hu:P.underlying t=some dsc)(hd:Cr P t=true)(hi:(P.info? t).isSome=true) (xs:Array Value)(i:Nat):(part t xs i).run P w=.ok (.agg (xs.extract i (i+Bl P t))) w:=by
 simp only[part,Sem.run_bind,Qj hu,hd,Result.andThen_ok,if_true,Dj hi];rfl
theorem VB {xs:Array Value}{i n:Nat}{ps:List PV}(hn:n<=ps.length)(hp:∀(j:Nat) p,ps[j]?=some p->∃v,xs[i+j]?=some v∧Ci w A β p v):Bw (Ci w A β) (ps.take n) (xs.extract i (i+n)).toList:=by
 rcases Nat.eq_zero_or_pos n with h0|h0
 ·subst h0;simp[Bw]
 have hl:n-1<ps.length:=by omega
 obtain⟨v,hv,_⟩:=hp (n-1) _ (List.getElem?_eq_getElem hl);have Ku:=(Array.getElem?_eq_some_iff.1 hv).1;refine Bw.of_at (by simp;omega) fun j a b ha hb=>?_
 rw[List.getElem?_take] at ha;split at ha
 ·rename_i hj;obtain⟨v,hv,hc⟩:=hp j a ha;rw[Array.getElem?_toList,Array.getElem?_extract] at hb;split at hb
  ·rw[hv] at hb;cases hb;exact hc
  ·cases hb
 ·cases ha
theorem JT {f:Field}{gs:Array Field}(hu:P.underlying f.type=some (.struct gs)):Adn P f=gs.toList.map (fty P):=by unfold Adn;rw[hu]
theorem Ag4 {f:Field}(h:∀gs,P.underlying f.type≠some (.struct gs)):Adn P f=[fty P f]:=by
 unfold Adn;split
 ·rename_i gs hu;exact absurd hu (h gs)
 ·rfl
theorem Ahh (d : Nat) : ∀ (fs : List Field) (i : Nat) (xs ys : Array Value) (ps qs : List PV) (K : Bool -> Option R), Rj P fs i = true -> Od (Z8 P fs) ps qs K = some r ->
    (∀ (j : Nat) p, ps[j]? = some p -> ∃ v, xs[i + j]? = some v ∧ Ci w A β p v) -> (∀ (j : Nat) p, qs[j]? = some p -> ∃ v, ys[i + j]? = some v ∧ Ci w A β p v) ->
    ∃ b, K b = some r ∧ (forIn fs ((none, ()) : Option Bool × Unit) fun (f : Field) (_ : Option Bool × Unit) =>
            if f.name = "_" then pure (ForInStep.yield ((none, ()) : Option Bool × Unit))
            else do
              let x ← part f.type xs f.offset
              let y ← part f.type ys f.offset
              let e ← Op.equalIn (d + 2) f.type x y
              if e = false then pure (ForInStep.done ((some false, ()) : Option Bool × Unit)) else pure (ForInStep.yield ((none, ()) : Option Bool × Unit)) : Sem (Option Bool × Unit)).run P w = .ok (if b then (none, ()) else (some false, ())) w
  | [], i, xs, ys, ps, qs, K, _, hk, _, _ => by
    cases ps with
    | nil => cases qs with
      | nil => exact⟨true, hk, by simp⟩
      | cons q qs => cases hk
    | cons p ps => cases hk
  | f :: fs, i, xs, ys, ps, qs, K, VP, hk, hp, hq => by
    simp only[Rj, Bool.and_eq_true] at VP
    obtain⟨⟨Tk, Amk⟩, hty⟩ := VP
    have Tk := Nat.eq_of_beq_eq_true Tk
    have OP : f.name ≠ "_" := by simpa using Amk
    have main : ∃ b0 v u n, (part f.type xs f.offset).run P w = .ok v w ∧ (part f.type ys f.offset).run P w = .ok u w ∧ (Op.equalIn (d + 2) f.type v u).run P w = .ok b0 w ∧ Rj P fs (i + n) = true ∧ Od (Z8 P fs) (ps.drop n) (qs.drop n) (fun r' => K (b0 && r')) = some r := by
      have hk := GA (Adn P f) (show Od (Adn P f ++ Z8 P fs) ps qs K = some r from hk)
      have Gv := Acc _ hk
      rw[List.length_take, List.length_take] at Gv
      have plain : (∀ gs, P.underlying f.type ≠ some (.struct gs)) -> Rj P fs (i + 1) = true -> (match P.underlying f.type with | some (.int _) => true | some .bool => true | some .string => true | _ => false) = true ->
          ∃ b0 v u n, (part f.type xs f.offset).run P w = .ok v w ∧ (part f.type ys f.offset).run P w = .ok u w ∧ (Op.equalIn (d + 2) f.type v u).run P w = .ok b0 w ∧ Rj P fs (i + n) = true ∧ Od (Z8 P fs) (ps.drop n) (qs.drop n) (fun r' => K (b0 && r')) = some r := by
        intro hs Ayd LF
        rw[Ag4 hs] at hk Gv
        simp only[List.length_singleton] at hk Gv
        obtain⟨p, ps, rfl⟩ : ∃ p ps', ps = p :: ps' := by
          cases ps with
          | nil => simp at Gv
          | cons p ps => exact⟨p, ps, rfl⟩
        obtain⟨q, qs, rfl⟩ : ∃ q qs', qs = q :: qs' := by
          cases qs with
          | nil => simp at Gv
          | cons q qs => exact⟨q, qs, rfl⟩
        obtain⟨v, hv, CE⟩ := hp 0 p rfl
        obtain⟨u, hu, hqu⟩ := hq 0 q rfl
        rw[Nat.add_zero] at hv hu
        simp only[List.take_succ_cons, List.take_zero, List.drop_succ_cons, List.drop_zero] at hk ⊢
        have one : ∃ b0 dsc, P.underlying f.type = some dsc ∧ Cr P f.type = false ∧ (Op.equalIn (d + 2) f.type v u).run P w = .ok b0 w ∧ Od (Z8 P fs) ps qs (fun r' => K (b0 && r')) = some r := by
          unfold fty at hk
          split at hk
          · rename_i k M3
            obtain⟨m, UT, D4⟩ := F5 (show Ae k p _ = some r from hk)
            obtain⟨n, RZ, Gc⟩ := F5 D4
            subst UT RZ
            have Sh : v = .int k m := Aw.val (w := w) (A := A) CE
            have Lq : u = .int k n := Aw.val (w := w) (A := A) hqu
            subst Sh Lq
            have e : ∀ b : Bool, (b && true) = b := Bool.and_true
            simp only[Od, e] at Gc
            refine⟨m == n, _, M3, by simp[Cr, M3], Ll (d + 1) (.inl ⟨k, m, n, M3, rfl, rfl⟩) ?_ ?_ ?_, Gc⟩
            · intro k' m' n' h1 h2; injection h1 with _ h1; injection h2 with _ h2; rw[h1, h2]
            · intro m' n' h1; cases h1
            · intro m' n' h1; cases h1
          · rename_i M3
            obtain⟨m, UT, D4⟩ := Ek (show Bu p _ = some r from hk)
            obtain⟨n, RZ, Gc⟩ := Ek D4
            subst UT RZ
            have Sh : v = .bool m := Aw.val (w := w) (A := A) CE
            have Lq : u = .bool n := Aw.val (w := w) (A := A) hqu
            subst Sh Lq
            have e : ∀ b : Bool, (b && true) = b := Bool.and_true
            simp only[Od, e] at Gc
            refine⟨m == n, _, M3, by simp[Cr, M3], Ll (d + 1) (.inr (.inl ⟨m, n, M3, rfl, rfl⟩)) ?_ ?_ ?_, Gc⟩
            · intro k' m' n' h1; cases h1
            · intro m' n' h1 h2; injection h1 with h1; injection h2 with h2; rw[h1, h2]
            · intro m' n' h1; cases h1
          · rename_i M3
            obtain⟨m, UT, D4⟩ := El (show Iz p _ = some r from hk)
            obtain⟨n, RZ, Gc⟩ := El D4
            subst UT RZ
            have Sh : v = .string m := Aw.val (w := w) (A := A) CE
            have Lq : u = .string n := Aw.val (w := w) (A := A) hqu
            subst Sh Lq
            have e : ∀ b : Bool, (b && true) = b := Bool.and_true
            simp only[Od, e] at Gc
            refine⟨m == n, _, M3, by simp[Cr, M3], Ll (d + 1) (.inr (.inr ⟨m, n, M3, rfl, rfl⟩)) ?_ ?_ ?_, Gc⟩
            · intro k' m' n' h1; cases h1
            · intro m' n' h1; cases h1
            · intro m' n' h1 h2; injection h1 with h1; injection h2 with h2; rw[h1, h2]
          · cases hk
        obtain⟨b0, dsc, M3, H6, he, hk⟩ := one
        exact⟨b0, v, u, 1, Vh M3 H6 (by rw[Tk]; exact hv), Vh M3 H6 (by rw[Tk]; exact hu), he, Ayd, by simpa using hk⟩
      split at hty
      · rename_i k M3
        exact plain (fun gs e => by rw[M3] at e; cases e) hty (by rw[M3])
      · rename_i M3
        exact plain (fun gs e => by rw[M3] at e; cases e) hty (by rw[M3])
      · rename_i M3
        exact plain (fun gs e => by rw[M3] at e; cases e) hty (by rw[M3])
      · rename_i gs M3
        simp only[Bool.and_eq_true, Bool.not_eq_true'] at hty
        obtain⟨⟨⟨⟨hfp, Gk⟩, hi⟩, Ku⟩, AM⟩ := hty
        have Ku := Nat.eq_of_beq_eq_true Ku
        have W9 : (Adn P f).length = gs.size := by rw[JT M3, List.length_map, Array.length_toList]
        rw[W9] at hk Gv
        rw[JT M3] at hk
        have hx := VB (n := gs.size) (by omega) hp
        have hy := VB (n := gs.size) (by omega) hq
        obtain⟨b0, hkb, he⟩ := MU d M3 Gk hfp hx hy hk
        have ha : Cr P f.type = true := by simp[Cr, M3]
        exact⟨b0, _, _, gs.size, by rw[Acz M3 ha hi, Tk, Ku], by rw[Acz M3 ha hi, Tk, Ku], he, AM, hkb⟩
      · cases hty
    obtain⟨b0, v, u, n, hpx, hpy, he, Ayd, hk⟩ := main
    obtain⟨b, hkb, Di⟩ := Ahh d fs (i + n) xs ys (ps.drop n) (qs.drop n) _ Ayd hk (fun j p' hj => by rw[List.getElem?_drop] at hj; have := hp (n + j) p' hj; rwa [← Nat.add_assoc] at this) (fun j p' hj => by rw[List.getElem?_drop] at hj; have := hq (n + j) p' hj; rwa [← Nat.add_assoc] at this)
    refine⟨b0 && b, hkb, ?_⟩
    cases b0
    · simp[List.forIn_cons, OP, hpx, hpy, he]
    · simp only[Bool.true_and]
      rw[← Di]
      simp[List.forIn_cons, OP, hpx, hpy, he]
theorem OW (d:Nat){t:TypeId}{fs:Array Field}(hu:P.underlying t=some (.struct fs)) (Gk:P.stoodInHeld t=false)(VP:Rj P fs.toList 0=true){xs ys:List PV}{vx vy:List Value}
  (hvx:Bw (Ci w A β) xs vx) (hvy:Bw (Ci w A β) ys vy) {K:Bool->Option R}(hk:Od (Z8 P fs.toList) xs ys K=some r):
  ∃b,K b=some r∧(Op.equalIn (d+3) t (.agg ⟨vx⟩) (.agg ⟨vy⟩)).run P w=.ok b w:=by
 obtain⟨b,hkb,Di⟩:=Ahh (P:=P) (w:=w) (A:=A) (β:=β) d fs.toList 0 ⟨vx⟩ ⟨vy⟩ xs ys K VP hk (fun j p hj=>by
   obtain⟨v,hv,hc⟩:=hvx.get hj;exact⟨v,by simpa using hv,hc⟩) (fun j p hj=>by
   obtain⟨v,hv,hc⟩:=hvy.get hj;exact⟨v,by simpa using hv,hc⟩)
 refine⟨b,hkb,?_⟩;rw[Array.forIn_toList] at Di;rw[Op.equalIn];simp[run_underlying hu,Gk];rw[Di];cases b<;>simp
theorem UB (h:B4 N w0 X0 Y β s a w){t:TypeId}{fs:Array Field}{x y:Operand}{op:BinOp}(hop:op=.eql∨op=.neq)(hu:P.underlying t=some (.struct fs)) (VP:Aad P t fs=true){xs ys:List PV}
  (hx:Ct s.tm x=.agg xs)(hy:Ct s.tm y=.agg ys){K:Bool->Option R}(hk:Od (Z8 P fs.toList) xs ys K=some r):
  ∃b,K b=some r∧(do eqGuard op t x y (a.eval x) (a.eval y);binOp op t (a.eval x) (a.eval y)).run P w=.ok (.bool (if op=.eql then b else !b)) w:=by
 have hxv:=Dw h x;have hyv:=Dw h y;rw[hx] at hxv;rw[hy] at hyv;obtain⟨vx,D3,hvx⟩:=hxv;obtain⟨vy,hay,hvy⟩:=hyv;simp only[Aad,Bool.and_eq_true,Bool.not_eq_true'] at VP;obtain⟨⟨VP,Gk⟩,heg⟩:=VP;obtain⟨b,hkb,heq⟩:=OW 9997 hu Gk VP hvx hvy hk;have heq:(Op.equal t (.agg ⟨vx⟩) (.agg ⟨vy⟩)).run P w=.ok b w:=heq;refine⟨b,hkb,?_⟩;rw[D3,hay];rcases hop with rfl|rfl
 ·simp[eqGuard,binOp,heq,heg]
 ·simp[eqGuard,binOp,heq,heg]
theorem Acf (h:B4 N w0 X0 Y β s a w){op:BinOp}{t ty:TypeId}{x y:Operand}(ho:o.op=.binOp op t x y ty){K:PV->Option R}
  (hk:Zc P op t (Ct s.tm x) (Ct s.tm y) K=some r):∃v,K v=some r∧F3 P a w o Y β s v [] []:=by
 have Di:∀v,(do eqGuard op t x y (a.eval x) (a.eval y);binOp op t (a.eval x) (a.eval y)).run P w=.ok v w->(execOp a.eval o).run P w=.ok (.value v) w:=by
  intro v hv;unfold execOp;rw[ho];simp only[Sem.run_bind] at hv ⊢;rw[hv];rfl
 unfold Zc at hk;split at hk
 ·rename_i fs hu;split at hk
  ·obtain⟨VP,hk⟩:=As hk;obtain⟨xs,hx,hk⟩:=Jy hk;obtain⟨ys,hy,hk⟩:=Jy hk;obtain⟨b,hk,hr⟩:=UB h (.inl rfl) hu VP hx hy hk;exact⟨_,hk,Dk (Di _ (by rw[hr];rfl))⟩
  ·obtain⟨VP,hk⟩:=As hk;obtain⟨xs,hx,hk⟩:=Jy hk;obtain⟨ys,hy,hk⟩:=Jy hk;obtain⟨b,hk,hr⟩:=UB h (.inr rfl) hu VP hx hy hk;exact⟨_,hk,Dk (Di _ (by rw[hr];rfl))⟩
  ·cases hk
 ·unfold Aor at hk;split at hk
  ·rename_i k hu;split at hk
   ·obtain⟨m,hx,hk⟩:=F5 hk;obtain⟨k2,n,hy,hk⟩:=D5 hk;obtain⟨hb,hk⟩:=As hk;have hb:=of_decide_eq_true hb;refine⟨_,hk,Dk (Di _ ?_)⟩;have:¬n<0:=by omega
    simp[eqGuard,binOp,Op.shift,Dc h hx,Dc h hy,this]
   ·obtain⟨m,hx,hk⟩:=F5 hk;obtain⟨k2,n,hy,hk⟩:=D5 hk;obtain⟨hb,hk⟩:=As hk;have hb:=of_decide_eq_true hb;refine⟨_,hk,Dk (Di _ ?_)⟩;have:¬n<0:=by omega
    simp[eqGuard,binOp,Op.shift,Dc h hx,Dc h hy,this]
   ·rename_i JA PF;obtain⟨m,hx,hk⟩:=F5 hk;obtain⟨n,hy,hk⟩:=F5 hk;obtain⟨v,hk,hr⟩:=Akf (P:=P) (w:=w) (t:=t) (x:=x) (y:=y) JA PF hk;exact⟨_,hk,Dk (Di _ (by rw[Dc h hx,Dc h hy];exact hr))⟩
  ·rename_i hu;obtain⟨m,hx,hk⟩:=El hk;obtain⟨n,hy,hk⟩:=El hk;obtain⟨v,hk,hr⟩:=Ako (P:=P) (w:=w) (t:=t) (x:=x) (y:=y) hk;exact⟨_,hk,Dk (Di _ (by rw[Dc h hx,Dc h hy];exact hr))⟩
  ·rename_i hu;split at hk
   ·obtain⟨m,hx,hk⟩:=Ek hk;obtain⟨n,hy,hk⟩:=Ek hk;refine⟨_,hk,Dk (Di _ ?_)⟩;simp[eqGuard,binOp,Dc h hx,Dc h hy,PQ hu]
   ·obtain⟨m,hx,hk⟩:=Ek hk;obtain⟨n,hy,hk⟩:=Ek hk;refine⟨_,hk,Dk (Di _ ?_)⟩;simp[eqGuard,binOp,Dc h hx,Dc h hy,PQ hu]
   ·cases hk
  ·rename_i e hu;have hx:=Dw h x
   have nilQ:∀{e:Bool} {K':PV->Option R},RG e (Ct s.tm x) K'=some r->∃q ad n c,K' q=some r∧a.eval x=.slice ad n c∧(q=.sc (.bool (if ad.isNone then e else !e))∨q=.ub):=by
    intro e K' hq;unfold RG at hq;split at hq
    ·rename_i e';exact⟨_,none,0,0,hq,Dc h e',.inl rfl⟩
    ·rename_i z es n c e';rcases slice_form (.inl e') hx with⟨D3,rfl,_⟩|⟨ad,cap,D3,rfl,_⟩|⟨ad,cap,D3,rfl,rfl,_⟩
     ·rcases P9 hq with⟨_,hq⟩|⟨_,hq⟩
      ·exact⟨_,none,0,0,hq,D3,.inl rfl⟩
      ·rcases P9 hq with⟨hb,_⟩|⟨_,hq⟩
       ·exact absurd (of_decide_eq_true hb) (by omega)
       ·exact⟨_,none,0,0,hq,D3,.inr rfl⟩
     ·rcases P9 hq with⟨hz,_⟩|⟨_,hq⟩
      ·cases hz
      ·rcases P9 hq with⟨_,hq⟩|⟨_,hq⟩
       ·exact⟨_,some ad,n,cap,hq,D3,.inl rfl⟩
       ·exact⟨_,some ad,n,cap,hq,D3,.inr rfl⟩
     ·rcases P9 hq with⟨hz,_⟩|⟨_,hq⟩
      ·cases hz
      ·rcases P9 hq with⟨hb,_⟩|⟨_,hq⟩
       ·exact absurd (of_decide_eq_true hb) (by omega)
       ·exact⟨_,some ad,0,cap,hq,D3,.inr rfl⟩
    ·rename_i id es off n e';rw[e'] at hx;rcases hx with⟨_,_,rfl,ad,D3⟩|⟨b,ob,y',cap,_,D3,_⟩
     ·rcases P9 hq with⟨hb,_⟩|⟨_,hq⟩
      ·exact absurd (of_decide_eq_true hb) (by omega)
      ·exact⟨_,ad,0,0,hq,D3,.inr rfl⟩
     ·rcases P9 hq with⟨_,hq⟩|⟨_,hq⟩
      ·exact⟨_,_,n,cap,hq,D3,.inl rfl⟩
      ·exact⟨_,_,n,cap,hq,D3,.inr rfl⟩
    ·cases hq
   split at hk
   ·rename_i hy;obtain⟨q,ad,n,c,hk,D3,hb⟩:=nilQ hk;rcases hb with rfl|rfl
    ·refine⟨_,hk,Dk (Di _ ?_)⟩;cases ad<;>simp[eqGuard,binOp,D3,Dc h hy,Ze hu]
    ·refine⟨_,hk,Cw (val:=.bool ad.isNone) (Di _ ?_) (Aw.ub _) (by intro i hi;cases hi)⟩
     simp[eqGuard,binOp,D3,Dc h hy,Ze hu]
   ·rename_i hy;obtain⟨q,ad,n,c,hk,D3,hb⟩:=nilQ hk;rcases hb with rfl|rfl
    ·refine⟨_,hk,Dk (Di _ ?_)⟩;cases ad<;>simp[eqGuard,binOp,D3,Dc h hy,Ze hu]
    ·refine⟨_,hk,Cw (val:=.bool !ad.isNone) (Di _ ?_) (Aw.ub _) (by intro i hi;cases hi)⟩
     simp[eqGuard,binOp,D3,Dc h hy,Ze hu]
   ·cases hk
  ·cases hk
end
open Go.RowKit
section
variable {R:Type} {r:R} {P:Program} {N:Nat} {w0:World} {X0:Fp} {Y:Nat->Prop} {β β':Bt} {s:St} {a:Act} {w w':World} {o:Oper} {A:Nat->Prop}
theorem Yf:∀{c:List PV}{l:List UInt8},bytesOf c=some l->∃ns:List Int,c=ns.map (fun n=>.sc (.int .u8 n))∧l=ns.map fun n=>n.toNat.toUInt8
 |[],l,h=>⟨[],rfl,by simp[bytesOf] at h;subst h;rfl⟩
 |p::c,l,h=>by
  unfold bytesOf at h;split at h
  ·rename_i e;cases e
  ·rename_i n r e;cases e;cases hr:bytesOf c with
   |none=>rw[hr] at h;cases h
   |some l'=>
    rw[hr] at h;simp at h;obtain⟨ns,rfl,rfl⟩:=Yf hr;exact⟨n::ns,rfl,h.symm⟩
  ·cases h
theorem Ws:∀(ns:List Int)(b:ByteArray),ns.foldl (fun r n=>r.push (UInt8.ofNat n.toNat)) b=⟨b.data++(ns.map fun n=>n.toNat.toUInt8).toArray⟩
 |[],b=>by simp
 |n::ns,b=>by
  simp only[List.foldl_cons];rw[Ws ns];simp[ByteArray.push]
theorem Aay (h:B4 N w0 X0 Y β s a w){es:Nat}{x:Operand}{K:Nat->List PV->Option R}(hk:Afu (M4 s.hp) es (Ct s.tm x) K=some r):
  ∃n c,K n c=some r∧(((∃ad,a.eval x=.slice ad 0 0)∧n=0∧c=[])∨∃ad cap,a.eval x=.slice (some ad) n cap∧n<=cap∧(c=[]∨ad.block<w.heap.size)∧TN w (Db s.hp β Y) ad c):=by
 have hx:=Dw h x;have RU:=Gq h x;unfold Afu at hk;split at hk
 ·rename_i id es' off n e;rw[e] at hx RU;cases hb:Nat.beq es' es
  ·rw[hb] at hk;cases hk
  ·rw[hb] at hk;obtain⟨c,hc,hk⟩:=Dl (show F8 _ _=some r from hk)
   obtain⟨hl,hk⟩:=As hk;have hl:=of_decide_eq_true hl;obtain⟨f,Ak9⟩:=ZO hc;refine⟨_,_,hk,?_⟩;rcases hx with⟨_,rfl,rfl,ad,D3⟩|⟨b,ob,y,cap,hβ,D3,hy,hn,_,Cd⟩
   ·exact .inl ⟨⟨ad,D3⟩,rfl,by simp⟩
   ·refine .inr ⟨_,cap,D3,hn,.inr Cd,fun j p hj=>?_⟩
    have Avg:0<n*es:=by
     rcases Nat.eq_zero_or_pos (n*es) with h0|h0
     ·rw[h0] at hj;simp at hj
     ·exact h0
    have NC:n≠0:=by rintro rfl;simp at Avg
    have hy:y=ob+off:=by rcases hy with hy|⟨h0,_⟩<;>omega
    subst hy;rw[List.getElem?_take] at hj;split at hj
    ·rw[List.getElem?_drop] at hj;rcases h.box id _ Ak9 with⟨h1,_⟩|⟨b',o',h1,h2,_⟩
     ·rw[hβ] at h1;cases h1
     ·rw[hβ] at h1;simp at h1;obtain⟨rfl,rfl⟩:=h1
      obtain⟨v,hv,h3,ht⟩:=h2 (off+j) p hj;rw[Er] at hv;exact⟨v,by rw[Er,Nat.add_assoc];exact hv,h3,ht⟩
    ·cases hj
 ·obtain⟨z,n,c,hk,hp⟩:=Hg hk;refine⟨n,c,hk,?_⟩;rcases slice_form hp hx with h1|⟨ad,cap,D3,_,hn,h1,h2,_,h4⟩|⟨ad,cap,D3,_,rfl,rfl⟩
  ·exact .inl ⟨⟨none,h1.1⟩,h1.2⟩
  ·exact .inr ⟨ad,cap,D3,hn,.inr h2,h4⟩
  ·exact .inr ⟨ad,cap,D3,Nat.zero_le _,.inl rfl,fun j c hj=>by simp at hj⟩
theorem Akl (b:ByteArray)(j:Nat)(p:PV)(h:(Fo b)[j]?=some p):∃x,b.data[j]?=some x∧p=.sc (.int .u8 x.toNat):=by
 unfold Fo at h;rw[List.getElem?_map] at h;cases hx:b.data.toList[j]? with
 |none=>rw[hx] at h;cases h
 |some x=>
  rw[hx] at h;simp at h;exact⟨x,by simpa using hx,h.symm⟩
theorem Afl (h:B4 N w0 X0 Y β s a w){src dst:TypeId}{x:Operand}(ho:o.op=.convert src dst x){d:Nat}{K:PV->List (Nat × Bx)->Option R}
  (hk:QL P (M4 s.hp) d src dst (Ct s.tm x) K=some r):∃v nw,K v nw=some r∧F3 P a w o Y β s v [] nw:=by
 have Di:∀v w',(convert src dst (a.eval x)).run P w=.ok v w'->(execOp a.eval o).run P w=.ok (.value v) w':=by
  intro v w' hv;unfold execOp;rw[ho];simp[hv]
 unfold QL at hk;split at hk
 ·rename_i k hu;obtain⟨hs,hk⟩:=As hk;obtain⟨k',n,hx,hk⟩:=D5 hk;exact⟨_,_,hk,Dk (Di _ _ (by rw[Dc h hx];obtain⟨ds,hds⟩:=Option.isSome_iff_exists.1 hs;cases ds<;>simp[convert,run_underlying hds,run_underlying hu,Conv.intToInt]))⟩
 ·rename_i hu;split at hk
  ·rename_i hs;obtain⟨b,hx,hk⟩:=El hk;exact⟨_,_,hk,Dk (Di _ _ (by rw[Dc h hx];simp[convert,run_underlying hs,run_underlying hu]))⟩
  ·rename_i e hs;split at hk
   ·rename_i he;obtain⟨n,c,hk,hc⟩:=Aay h hk;obtain⟨hl,hk⟩:=As hk;have hl:=of_decide_eq_true hl;obtain⟨l,hb,hk⟩:=Dl hk;obtain⟨ns,rfl,rfl⟩:=Yf hb;refine⟨_,_,hk,Dk (Di _ _ ?_)⟩;rcases hc with⟨⟨ad,D3⟩,rfl,hn⟩|⟨ad,cap,D3,_,_,hrd⟩
    ·have:ns=[]:=by simpa using hn
     subst this;rw[D3,run_convert_bytes_string w src dst e ad 0 0 hs he hu];cases ad<;>rfl
    ·rw[D3,run_convert_bytes_string w src dst e _ _ _ hs he hu]
     have hld:(loadCells ad n).run P w=.ok (ns.map (Value.int .u8)).toArray w:=by
      have:=run_loadCells_list (P:=P) w ad (ns.map (Value.int .u8)) (fun j v hj=>by
       rw[List.getElem?_map] at hj;cases hn:ns[j]? with
       |none=>rw[hn] at hj;cases hj
       |some m=>
        rw[hn] at hj;simp at hj;subst hj;obtain⟨v,hv,_,ht⟩:=hrd j (.sc (.int .u8 m)) (by rw[List.getElem?_map,hn];rfl)
        rw[ht.val] at hv;exact hv)
      simp only[List.length_map] at this hl;rw[hl] at this;exact this
     rw[run_bytesToString w ad n cap ns hld,Ws];simp
   ·cases hk
  ·cases hk
 ·rename_i e hu;split at hk
  ·rename_i he hs;obtain⟨b,hx,hk⟩:=El hk;obtain⟨Ku,hk⟩:=As hk;have hr:=run_bytes_of_string (P:=P) w src dst e b hs hu he;rw[←Dc h hx] at hr
   have LO:b.size<=grownCap w b.size 0 e:=by
    unfold grownCap;simp[Question.cut]
   have Acd:(bytesRow b (grownCap w b.size 0 e)).size=grownCap w b.size 0 e:=by
    simp only[bytesRow,Array.size_append,Array.size_map,Array.size_replicate];have:b.data.size=b.size:=rfl;omega
   refine⟨_,_,hk,Tq (c:=bytesRow b (grownCap w b.size 0 e)) (e:=e) (by simp) (Di _ _ hr) ?_ (fun j p hj=>?_) (.inr ⟨1,b.size,grownCap w b.size 0 e,rfl,rfl,LO,by rw[Acd];omega⟩)⟩
   ·exact⟨rfl,rfl,rfl,fun i hi=>Below.heap_alloc w.drew _ i hi,by show (w.heap.push _).size=_;simp,_,by show (w.heap.push _)[w.heap.size]?=_;simp;rfl,.inr (Nat.le_refl _)⟩
   ·obtain⟨y,hy,rfl⟩:=Akl b j p hj;refine⟨.int .u8 y.toNat,?_,rfl,Aw.sc _⟩
    have Cd:j<b.data.size:=by
     rcases Nat.lt_or_ge j b.data.size with h|h
     ·exact h
     ·rw[Array.getElem?_eq_none h] at hy;cases hy
    simp only[bytesRow];rw[Array.getElem?_append_left (by simpa using Cd),Array.getElem?_map,hy]
    rfl
  ·cases hk
 ·cases hk
end
open Go.RowKit
section
variable {R:Type} {r:R} {P:Program} {N:Nat} {w0:World} {X0:Fp} {Y:Nat->Prop} {β β':Bt} {s:St} {a:Act} {w w':World} {o:Oper} {A:Nat->Prop}
theorem GM:∀{n:Nat}{l:List PV}{j:Nat}{c:PV},(Up n l)[j]?=some c->j<n*l.length∧l[j % l.length]?=some c
 |0,l,j,c,h=>by simp[Up] at h
 |n+1,l,j,c,h=>by
  have e:Up (n+1) l=l++Up n l:=by simp[Up,List.replicate_succ]
  rw[e] at h;by_cases hj:j<l.length
  ·rw[List.getElem?_append_left hj] at h;refine⟨by rw[Nat.add_mul];omega,?_⟩
   rw[Nat.mod_eq_of_lt hj];exact h
  ·rw[List.getElem?_append_right (by omega)] at h
   obtain⟨h1,h2⟩:=GM h;refine⟨by rw[Nat.add_mul];omega,?_⟩
   rw[Nat.mod_eq_sub_mod (by omega)];exact h2
theorem Adq (n:Nat)(l:List PV):(Up n l).length=n*l.length:=by
 induction n with
 |zero=>simp[Up]
 |succ n ih=>
  have e:Up (n+1) l=l++Up n l:=by simp[Up,List.replicate_succ]
  rw[e,List.length_append,ih,Nat.add_mul];omega
theorem Aco {z:Array Value}{n j:Nat}(hj:j<n){v:Value}(hv:z[j % z.size]?=some v):(madeCells z n)[j]?=some v:=by
 unfold madeCells;rw[Array.getElem?_map,Array.getElem?_range,if_pos hj];simp only[Option.map_some];rw[getElem!_def,hv]
theorem Ae3 (h:B4 N w0 X0 Y β s a w){t:TypeId}{x y:Operand}(ho:o.op=.makeSlice t x y){d:Nat}{K:PV->List Nat->List (Nat × Bx)->Option R}
  (hk:(match P.underlying t with
   |some (.slice e)=>Ef (Ct s.tm x) fun _ n=>Ef (Ct s.tm y) fun _ m=>
     Ar (decide (0<=n)&&decide (n<=m)&&decide (m*((P.info? e).map (·.bytes)).getD 0<=1099511627776)&&decide (m<=1099511627776))
      (I8 P e fun z=>K (.view d (Bl P e) 0 n.toNat) [] [(d,.ar false (Up n.toNat z))])
   |_=>none)=some r):∃v fz nw,K v fz nw=some r∧F3 P a w o Y β s v fz nw:=by
 split at hk
 ·rename_i e hu;obtain⟨k1,n,hx,hk⟩:=D5 hk;obtain⟨k2,m,hy,hk⟩:=D5 hk;obtain⟨hb,hk⟩:=As hk;simp only[Bool.and_eq_true,decide_eq_true_eq] at hb;obtain⟨⟨⟨h0,hnm⟩,Xu⟩,hm⟩:=hb;obtain⟨z,cs,hk,hz,hct,hl,Ku,hc⟩:=Sq hk
  have hzc:∃i,P.info? e=some i∧i.zero=some z:=by
   unfold DE at hz;cases hi:P.info? e with
   |none=>rw[hi] at hz;cases hz
   |some i=>rw[hi] at hz;exact⟨i,rfl,hz⟩
  obtain⟨i,hi,hzi⟩:=hzc;have A1l:Bl P e=i.size:=by simp[Bl,hi]
  simp only[hi,Option.map_some,Option.getD_some] at Xu;have hr:=run_make (P:=P) w t e i z hu hi hzi k1 k2 n m h0 hnm (by rw[Int.mul_comm];omega) (by omega)
  have Di:(execOp a.eval o).run P w=.ok (.value (.slice (some ⟨w.heap.size,0,none⟩) n.toNat m.toNat)) (w.alloc (.cells (madeCells z.cells (m.toNat*i.size)) e)):=by
   unfold execOp;rw[ho];simp[Dc h hx,Dc h hy,hr]
  have hzl:z.cells.size=Bl P e:=by
   have:z.cells.toList.length=z.cells.size:=by simp
   omega
  refine⟨_,_,_,hk,Tq (c:=madeCells z.cells (m.toNat*i.size)) (e:=e) (by simp) Di (Id.alloc w _ e) (fun j p hj=>?_) (.inr ⟨Bl P e,n.toNat,m.toNat,rfl,rfl,by omega,by rw[size_madeCells,A1l];exact Nat.le_refl _⟩)⟩
  obtain⟨h1,h2⟩:=GM hj;obtain⟨hT,u,Lq,VE,hv⟩:=hc _ p h2;refine⟨u,Aco ?_ ?_,VE,hv _ _⟩
  ·have:n.toNat*cs.length<=m.toNat*i.size:=by
    rw[Ku,A1l];exact Nat.mul_le_mul_right _ (by omega)
   omega
  ·rw[hzl,←Ku]
   simpa using Lq
 ·cases hk
theorem Alq {p:PV}{v:Value}(hp:okP p=true)(hv:Ed w A β p v):Bw (Ci w A β) (cellsOf p) v.cells.toList:=by
 have one:v.oneCell'=true->Ci w A β p v->(∀x,p ≠ .agg x)->Bw (Ci w A β) (cellsOf p) v.cells.toList:=by
  intro h1 h2 h3;have:cellsOf p=[p]:=by cases p<;>first|rfl|exact absurd rfl (h3 _)
  rw[this,Qk h1];exact⟨h2,trivial⟩
 unfold okP at hp;split at hp
 ·obtain⟨vs,rfl,h2⟩:=hv;exact h2
 ·refine one ?_ hv (by simp)
  have Sh:Aw w A _ v:=hv;cases Sh<;>rfl
 ·refine one ?_ hv (by simp)
  rcases hv with⟨_,_,_,_,rfl⟩|⟨_,_,_,_,_,rfl,_⟩<;>rfl
 ·have:=K8 hv;subst this;exact one rfl hv (by simp)
 ·have:=K8 hv;subst this;exact one rfl hv (by simp)
 ·have:=K8 hv;subst this;exact one rfl hv (by simp)
 ·have:=K8 hv;subst this;exact one rfl hv (by simp)
 ·cases hp
theorem Ai0:∀(vs:List Value)(k off:Nat)(cells:Array Value),off+k+vs.length<=cells.size ->
  ((vs.zipIdx k).foldl (fun cs (q:Value × Nat)=>cs.setIfInBounds (off+q.2) q.1) cells).toList=cells.toList.take (off+k)++vs++cells.toList.drop (off+k+vs.length)
 |[],k,off,cells,_=>by simp
 |v::vs,k,off,cells,h=>by
  simp only[List.zipIdx_cons,List.foldl_cons,List.length_cons] at h ⊢;rw[Ai0 vs (k+1) off _ (by simp;omega)]
  have Cd:off+k<cells.toList.length:=by simp;omega
  simp only[Array.toList_setIfInBounds];rw[show off+(k+1)=off+k+1 from by omega,List.take_succ_eq_append_getElem (by simpa using Cd)]
  rw[List.getElem_set_self,List.take_set_of_le (Nat.le_refl _),List.drop_set_of_lt (by omega)]
  simp only[List.append_assoc,List.cons_append,List.nil_append];rw[show off+k+1+vs.length=off+k+(vs.length+1) from by omega]
theorem NV (h:B4 N w0 X0 Y β s a w){Ji:Nat->Option (Nat × Nat)}:∀{parts:List (Nat × Operand)} {pc:List PV}{vc:Array Value}{K:List PV->Option R},
  Xl Ji (parts.map fun q=>(q.1,Ct s.tm q.2)) pc K=some r->Bw (Ci w (Db s.hp β Y) β) pc vc.toList->(∀c∈pc,∀id∈Av c,s.hp id≠none) ->
  ∃pc' vc',K pc'=some r∧Instr.fill Ji vc (parts.map fun q=>(q.1,a.eval q.2))=some vc'∧Bw (Ci w (Db s.hp β Y) β) pc' vc'.toList∧pc'.length=pc.length∧∀c∈pc',∀id∈Av c,s.hp id≠none
 |[],pc,vc,K,hk,hv,hr=>⟨pc,vc,hk,rfl,hv,rfl,hr⟩
 |(i,x)::parts,pc,vc,K,hk,hv,hr=>by
  simp only[List.map_cons] at hk;unfold Xl at hk;obtain⟨⟨off,size⟩,LF,hk⟩:=Dl hk;obtain⟨hb,hk⟩:=As hk;simp only[Bool.and_eq_true] at hb;obtain⟨⟨hok,Ku⟩,Xa⟩:=hb;have Ku:(cellsOf (Ct s.tm x)).length=size:=Nat.eq_of_beq_eq_true Ku;have Xa:off+size<=pc.length:=Nat.le_of_ble_eq_true Xa;have hxc:=Alq hok (Dw h x);have hxl:=hxc.len;have hvl:=hv.len;have Ti:vc.toList.length=vc.size:=by simp
  have WX:(a.eval x).cells.toList.length=(a.eval x).cells.size:=by simp
  have Zk:=Ai0 (a.eval x).cells.toList 0 off vc (by omega)
  simp only[Nat.add_zero] at Zk
  have A3k:((a.eval x).cells.zipIdx.foldl (fun cs (q:Value × Nat)=>cs.setIfInBounds (off+q.2) q.1) vc).toList=vc.toList.take off++(a.eval x).cells.toList++vc.toList.drop (off+(a.eval x).cells.toList.length):=by
   rw[←Zk,←Array.foldl_toList];simp
  obtain⟨pc',vc',hk,hf,h2,hl,hr'⟩:=NV h (pc:=Bn pc (cellsOf (Ct s.tm x)) off) (vc:=(a.eval x).cells.zipIdx.foldl (fun cs (q:Value × Nat)=>cs.setIfInBounds (off+q.2) q.1) vc) hk (by
    rw[A3k,←hxl];exact (((hv.take off).app hxc).app (hv.drop _))) (by
    intro c hc id Bo;unfold Bn at hc;rcases List.mem_append.1 hc with hc|hc
    ·rcases List.mem_append.1 hc with hc|hc
     ·exact hr c (List.mem_of_mem_take hc) id Bo
     ·refine Gq h x id ?_;cases hp:Ct s.tm x with
      |agg cs=>rw[hp] at hc;exact List.mem_flatMap.2 ⟨c,hc,Bo⟩
      |tup cs=>rw[hp] at hc;simp[cellsOf] at hc;subst hc;cases Bo
      |_=>rw[hp] at hc;simp[cellsOf] at hc;subst hc;exact Bo
    ·exact hr c (List.mem_of_mem_drop hc) id Bo)
  refine⟨pc',vc',hk,?_,h2,?_,hr'⟩
  ·simp only[List.map_cons,Instr.fill,LF];rw[if_neg (by simp;omega)]
   exact hf
  ·rw[hl];simp[Bn];omega
theorem Aax {t:TypeId}{z:Value}{cs:List PV}(hl:cs.length=z.cells.toList.length)(hc:∀(j:Nat) c,cs[j]?=some c->AC c∧∃u,z.cells.toList[j]?=some u∧u.oneCell'=true∧∀(w:World)(A:Nat->Prop),Aw w A c u) (_ht:DE P t=some z):
  Bw (Ci w A β) cs z.cells.toList∧∀c∈cs,Av c=[]:=by
 refine⟨Bw.of_at hl fun i c u hci hu=>?_,fun c hcm=>?_⟩
 ·obtain⟨hT,u',Lq,_,hv⟩:=hc i c hci;rw[hu] at Lq;cases Lq;exact (O4 hT).2 (hv _ _)
 ·obtain⟨j,hj⟩:=List.mem_iff_getElem?.1 hcm;exact J2 (hc j c hj).1
theorem OI:∀{fs:List Field},(fs.all fun f=>QR P f.type)=true->fs.mapM (fun f=>(P.info? f.type).map fun i=>(f.offset,i.size))=some (fs.map fun f=>(f.offset,Bl P f.type))
 |[],_=>rfl
 |f::fs,h=>by
  simp only[List.all_cons,Bool.and_eq_true] at h;obtain⟨i,hi⟩:=Option.isSome_iff_exists.1 h.1;simp[List.mapM_cons,hi,OI h.2,Bl]
theorem BQ {p q:Nat->Option (Nat × Nat)} (h:∀i,p i=q i)(cells:Array Value)(parts:List (Nat × Value)):Instr.fill p cells parts=Instr.fill q cells parts:=by
 have:p=q:=funext h;rw[this]
theorem Ad1 (h:B4 N w0 X0 Y β s a w){t:TypeId}{ps:Array (Nat × Operand)} (ho:o.op=.build t ps){K:PV->Option R}
  (hk:(Ar (Uc P t&&Cr P t)<|I8 P t fun z=>Xl (Wc P t) (ps.toList.map fun q=>(q.1,Ct s.tm q.2)) z fun cs=>Tf (Kh P t) cs 0 fun cs'=>K (.agg cs'))=some r):∃v,K v=some r∧F3 P a w o Y β s v [] []:=by
 obtain⟨LF,hk⟩:=As hk;simp only[Bool.and_eq_true] at LF;obtain⟨LF,H6⟩:=LF;obtain⟨z,cs,hk,hz,hct,hl,Ku,hc⟩:=Sq hk;obtain⟨hzr,OY⟩:=Aax (w:=w) (A:=Db s.hp β Y) (β:=β) hl hc hz;obtain⟨pc',vc',hk,hf,h2,Nj,hr'⟩:=NV h hk hzr (fun c hcm id Bo=>by rw[OY c hcm] at Bo;cases Bo)
 obtain⟨qs,hk,hql,HL,hq⟩:=Yi hk
 have Ax1:P.built t (ps.toList.map fun q=>(q.1,a.eval q.2))=some vc':=by
  have hzi:∃i,P.info? t=some i∧i.zero=some z:=by
   unfold DE at hz;cases hi:P.info? t with
   |none=>rw[hi] at hz;cases hz
   |some i=>rw[hi] at hz;exact⟨i,rfl,hz⟩
  obtain⟨i,hi,hzi⟩:=hzi;unfold Uc at LF;unfold Program.built;split at LF
  ·rename_i fs hu
   have XW:Instr.fill (((fs.toList.map fun f=>(f.offset,Bl P f.type)).toArray)[·]?) z.cells (ps.toList.map fun q=>(q.1,a.eval q.2))=some vc':=by
    rw[←hf];refine BQ (fun j=>?_) _ _
    simp[Wc,hu]
   simp only[hi,hu,hzi,OI LF];exact XW
  ·rename_i n e hu;obtain⟨ie,hie⟩:=Option.isSome_iff_exists.1 LF
   have XW:Instr.fill (fun j=>some (j*ie.size,ie.size)) z.cells (ps.toList.map fun q=>(q.1,a.eval q.2))=some vc':=by
    rw[←hf];refine BQ (fun j=>?_) _ _
    simp[Wc,hu,Bl,hie]
   simp only[hi,hu,hzi,hie];exact XW
  ·rename_i e hu;simp[Cr,hu] at H6
  ·cases LF
 refine⟨_,hk,Cw (val:=.agg vc') ?_ ⟨vc'.toList,rfl,?_⟩ ?_⟩
 ·unfold execOp;rw[ho];have:=run_build (P:=P) w t (ps.map fun q=>(q.1,a.eval q.2)) vc' (by simpa using Ax1)
  simp[this]
 ·refine Bw.of_at (by have:=h2.len;omega) fun j c u hcj hu=>?_
  obtain⟨p,hp,_,_,CE⟩:=hq j c hcj;rw[Nat.zero_add] at hp;exact (CE _ _ _ _ (h2.at_ hp hu)).1
 ·intro id Bo;obtain⟨c,hcm,Bo⟩:=List.mem_flatMap.1 (show id∈qs.flatMap Av from Bo)
  obtain⟨j,hj⟩:=List.mem_iff_getElem?.1 hcm;obtain⟨p,hp,_,hpr,_⟩:=hq j c hj;rw[Nat.zero_add] at hp;exact hr' p (List.mem_of_getElem? hp) id (hpr id Bo)
end
open Go.RowKit
section
variable {R:Type} {r:R} {P:Program} {N:Nat} {w0:World} {X0:Fp} {Y:Nat->Prop} {β β':Bt} {s:St} {a:Act} {w w':World} {o:Oper} {A:Nat->Prop}
theorem Ag8 (h:B4 N w0 X0 Y β s a w){fz:List Nat}(HO:∀id∈fz,∃f c,s.hp id=some (.ar f c)) {id:Nat}(hm:id∈fz){f:Bool}{c:List PV}(hb:s.hp id=some (.ar f c)) {b ob:Nat}(hβ:β id=some (b,ob)):
  ¬Db (Ag s.hp fz) β Y b∧TN w (Db (Ag s.hp fz) β Y) ⟨b,ob,none⟩ c∧b<w.heap.size:=by
 have hf:=h.freeze HO;have he:Ag s.hp fz id=some (.ar true c):=by rw[Cn,if_pos hm,hb];rfl
 rcases hf.box id _ he with⟨h1,_⟩|⟨b',o',h1,h2,_,h4⟩
 ·rw[hβ] at h1;cases h1
 ·rw[hβ] at h1;simp at h1;obtain⟨rfl,rfl⟩:=h1;exact⟨h4 rfl,h2,h.blt id b ob (by rw[hb];simp) hβ⟩
theorem Aki (h:B4 N w0 X0 Y β s a w){fz:List Nat}(HO:∀id∈fz,∃f c,s.hp id=some (.ar f c)) {id es off n:Nat}(hm:id∈fz){f:Bool}{c:List PV}(hb:s.hp id=some (.ar f c)) {v:Value}
  (hv:Ci w (Db s.hp β Y) β (.view id es off n) v):Aw w (Db (Ag s.hp fz) β Y) (.lst false es n ((c.drop off).take (n*es))) v:=by
 rcases hv with⟨_,rfl,rfl,ad,rfl⟩|⟨b,ob,y,cap,hβ,rfl,hy,hn,_,Cd⟩
 ·simp only[Nat.zero_mul,List.take_zero];cases ad with
  |none=>exact Aw.lnil false es
  |some p=>exact Aw.lemp es p 0
 ·obtain⟨h1,h2,_⟩:=Ag8 h HO hm hb hβ;by_cases NC:n*es=0
  ·rw[NC,List.take_zero];exact Aw.lst es n [] ⟨b,y,none⟩ cap (fun _=>undef) rfl Cd h1 hn (by simp) (by simp) (by simp)
  ·have hy:y=ob+off:=by
    rcases hy with hy|⟨h0,_⟩
    ·exact hy
    ·rw[h0] at NC;simp at NC
   subst hy
   have hcell:∀(j:Nat) q,((c.drop off).take (n*es))[j]?=some q->c[off+j]?=some q:=by
    intro j q hq;rw[List.getElem?_take] at hq;split at hq
    ·rw[List.getElem?_drop] at hq;exact hq
    ·cases hq
   refine Aw.lst es n _ ⟨b,ob+off,none⟩ cap (fun j=>(w.cell? ⟨b,ob+off+j,none⟩).getD undef) rfl Cd h1 hn (fun j q hq=>?_) (fun j q hq=>?_) (fun j q hq=>?_)
   ·obtain⟨v,hv,_⟩:=h2 _ q (hcell j q hq);rw[Er,←Nat.add_assoc] at hv;rw[Er,hv];rfl
   ·obtain⟨v,hv,h3,_⟩:=h2 _ q (hcell j q hq);rw[Er,←Nat.add_assoc] at hv;rw[hv];exact h3
   ·obtain⟨v,hv,_,ht⟩:=h2 _ q (hcell j q hq);rw[Er,←Nat.add_assoc] at hv;rw[hv];exact ht
theorem Aw.zf {A:Nat->Prop}{z:Bool}{es n:Nat}{c:List PV}{v:Value}(h:Aw w A (.lst z es n c) v):Aw w A (.lst false es n c) v:=by
 cases h with
 |lnil=>exact .lnil _ _
 |lemp=>exact .lemp _ _ _
 |lst _ _ _ a cap f hs hb hA hn hc h1 hr=>exact .lst _ _ _ a cap f hs hb hA hn hc h1 hr
theorem QG (h:B4 N w0 X0 Y β s a w){t:CT}{p:PV}{K:PV->List Nat->Option R}(hk:R2 (M4 s.hp) t p K=some r):
  ∃c m,K c m=some r∧AC c∧SM p∧(∀id∈m,∃f cc,s.hp id=some (.ar f cc))∧∀fz:List Nat,(∀id∈m,id∈fz)->(∀id∈fz,∃f cc,s.hp id=some (.ar f cc))->∀v,Ci w (Db s.hp β Y) β p v->Aw w (Db (Ag s.hp fz) β Y) c v∧v.oneCell'=true:=by
 have tree:∀t',(HJ t' p fun c=>K c [])=some r->∃c m,K c m=some r∧AC c∧SM p∧(∀id∈m,∃f cc,s.hp id=some (.ar f cc))∧∀fz:List Nat,(∀id∈m,id∈fz)->(∀id∈fz,∃f cc,s.hp id=some (.ar f cc))->∀v,Ci w (Db s.hp β Y) β p v->Aw w (Db (Ag s.hp fz) β Y) c v∧v.oneCell'=true:=by
  intro t' hk;obtain⟨c,hk,hT,PI,hv⟩:=P5 hk;refine⟨c,[],hk,hT,Vu PI,by simp,fun fz _ HO v CE=>?_⟩
  obtain⟨h1,h2⟩:=hv _ _ _ _ CE;exact⟨h1.step (Co.refl _ _) (fun b _ hb=>hb.imp Uh id),h2⟩
 cases t with
 |sl es=>
  unfold R2 at hk;dsimp only at hk;split at hk
  ·rename_i id es' off n;cases hb:Nat.beq es' es
   ·rw[hb] at hk;cases hk
   ·rw[hb] at hk;have:=Nat.eq_of_beq_eq_true hb;subst this;obtain⟨c,hc,hk⟩:=Dl (show F8 _ _=some r from hk)
    obtain⟨_,hk⟩:=As hk;obtain⟨f,Mx⟩:=ZO hc;refine⟨_,[id],hk,trivial,trivial,?_,fun fz hm HO v hv=>⟨Aki h HO (hm id (by simp)) Mx hv,?_⟩⟩
    ·intro i hi;simp at hi;subst hi;exact⟨f,c,Mx⟩
    ·rcases hv with⟨_,_,_,_,rfl⟩|⟨_,_,_,_,_,rfl,_⟩<;>rfl
  ·obtain⟨z,n,c,hk,hp⟩:=Hg hk;refine⟨_,[],hk,trivial,?_,by simp,fun fz _ HO v CE=>?_⟩
   ·rcases hp with rfl|⟨rfl,_⟩<;>trivial
   ·have ht:=BH hp CE;refine⟨Aw.zf (ht.step (Co.refl _ _) (fun b _ hb=>hb.imp Uh id)),?_⟩
    cases ht<;>rfl
 |int k=>exact tree (.int k) hk
 |bool=>exact tree .bool hk
 |str=>exact tree .str hk
 |any=>exact tree .any hk
theorem U0 (h:B4 N w0 X0 Y β s a w):∀{ts:List CT}{ps:List PV}{K:List PV->List Nat->Option R},Ro (M4 s.hp) ts ps K=some r ->
  ∃cs m,K cs m=some r∧cs.length=ts.length∧ps.length=ts.length∧(∀c∈cs,AC c)∧(∀p∈ps,SM p)∧(∀id∈m,∃f cc,s.hp id=some (.ar f cc)) ∧
   ∀fz:List Nat,(∀id∈m,id∈fz)->(∀id∈fz,∃f cc,s.hp id=some (.ar f cc))->∀vs,Bw (Ci w (Db s.hp β Y) β) ps vs->Bw (Aw w (Db (Ag s.hp fz) β Y)) cs vs∧∀v∈vs,v.oneCell'=true
 |[],[],K,hk=>⟨[],[],hk,rfl,rfl,by simp,by simp,by simp,fun fz _ _ vs hv=>by
   cases vs with
   |nil=>exact⟨trivial,by simp⟩
   |cons v vs=>exact hv.elim⟩
 |[],_::_,K,hk=>by cases hk
 |_::_,[],K,hk=>by cases hk
 |t::ts,p::ps,K,hk=>by
  unfold Ro at hk;obtain⟨c,m,hk,hT,hF,hm,hv⟩:=QG h hk;obtain⟨cs,ms,hk,hl,Nj,hTs,hFs,OK,Ti⟩:=U0 h hk;refine⟨c::cs,m++ms,hk,by simp[hl],by simp[Nj],?_,?_,?_,fun fz hfm HO vs h2=>?_⟩
  ·intro x hx;rcases List.mem_cons.1 hx with rfl|hx
   ·exact hT
   ·exact hTs x hx
  ·intro x hx;rcases List.mem_cons.1 hx with rfl|hx
   ·exact hF
   ·exact hFs x hx
  ·intro x hx;rcases List.mem_append.1 hx with hx|hx
   ·exact hm x hx
   ·exact OK x hx
  ·cases vs with
   |nil=>exact h2.elim
   |cons v vs=>
    obtain⟨h3,h4⟩:=hv fz (fun i hi=>hfm i (by simp[hi])) HO v h2.1
    obtain⟨h5,h6⟩:=Ti fz (fun i hi=>hfm i (by simp[hi])) HO vs h2.2
    refine⟨⟨h3,h5⟩,?_⟩;intro x hx;rcases List.mem_cons.1 hx with rfl|hx
    ·exact h4
    ·exact h6 x hx
theorem Alz {R':PV->Value->Prop}{cs:List PV}{z:Array Value}(h:Bw R' cs z.toList)(n:Nat):Bw R' (Up n cs) (madeCells z (n*cs.length)).toList:=by
 have hzl:z.size=cs.length:=by have:=h.len;simp at this;exact this.symm
 refine Bw.of_at ?_ fun j c v hc hv=>?_
 ·rw[Adq];simp[size_madeCells]
 ·obtain⟨h1,h2⟩:=GM hc
  have Cd:j % cs.length<cs.length:=by
   rcases Nat.lt_or_ge (j % cs.length) cs.length with h|h
   ·exact h
   ·rw[List.getElem?_eq_none h] at h2;cases h2
  obtain⟨u,hu,hcu⟩:=h.get h2;have:(madeCells z (n*cs.length))[j]?=some u:=Aco h1 (by rw[hzl];simpa using hu)
  have Sh:(madeCells z (n*cs.length))[j]?=some v:=by simpa using hv
  rw[this] at Sh;cases Sh;exact hcu
theorem HV (h:B4 N w0 X0 Y β s a w){t:TypeId}{n:Nat}{ps:Array (Nat × Operand)} (ho:o.op=.buildSlice t n ps){d:Nat}{K:PV->List Nat->List (Nat × Bx)->Option R}
  (hk:(match P.underlying t with
   |some (.slice e)=>Ar (Uc P t&&Nat.ble (n*Bl P e) 16777216) (I8 P e fun z=>Xl (Wc P t) (ps.toList.map fun q=>(q.1,Ct s.tm q.2)) (Up n z) fun cs=>
     Ro (M4 s.hp) (List.replicate n (Kh P e)).flatten cs fun cs' m=>K (.view d (Bl P e) 0 n) m [(d,.ar false cs')])
   |_=>none)=some r):∃v fz nw,K v fz nw=some r∧F3 P a w o Y β s v fz nw:=by
 split at hk
 ·rename_i e hu;obtain⟨hb,hk⟩:=As hk;simp only[Bool.and_eq_true] at hb;have Xa:n*Bl P e<=16777216:=Nat.le_of_ble_eq_true hb.2;have Tb:(P.info? e).isSome=true:=by have:=hb.1;unfold Uc at this;rw[hu] at this;exact this
  obtain⟨z,cs,hk,hz,hct,hl,Ku,hc⟩:=Sq hk;obtain⟨hzr,OY⟩:=Aax (w:=w) (A:=Db s.hp β Y) (β:=β) hl hc hz;have A9k:=Alz hzr n
  obtain⟨pc',vc',hk,hf,h2,Nj,hr'⟩:=NV h hk A9k (fun c hcm id Bo=>by
   obtain⟨j,hj⟩:=List.mem_iff_getElem?.1 hcm;obtain⟨_,hg⟩:=GM hj;rw[OY c (List.mem_of_getElem? hg)] at Bo;cases Bo)
  obtain⟨qs,m,hk,hql,LF,hqT,_,hm,hqv⟩:=U0 h hk;obtain⟨h3,h3'⟩:=hqv m (fun _ hi=>hi) hm _ h2
  have XW:Instr.fill (fun i=>some (i*Bl P e,Bl P e)) (madeCells z.cells (n*cs.length)) (ps.toList.map fun q=>(q.1,a.eval q.2))=some vc':=by
   rw[←hf];refine BQ (fun i=>?_) _ _
   simp[Wc,hu]
  have hvl:vc'.size=n*Bl P e:=by
   have h4:=h2.len;rw[Nj,Adq] at h4;simp at h4;rw[←h4,Ku]
  have Di:(execOp a.eval o).run P w=.ok (.value (.slice (some ⟨w.heap.size,0,none⟩) n n)) (w.alloc (.cells vc' e)):=by
   unfold execOp;rw[ho];have A4g:¬(n*Bl P e>2 ^ 24):=by omega
   rw[Ku] at XW;by_cases NC:n*Bl P e=0
   ·simp only[Instr.buildSlice,Sem.run_bind,run_underlying hu,Result.andThen_ok,Dj Tb,if_neg A4g,NC];rw[NC] at XW;have e0:madeCells z.cells 0=(Array.range 0).map (fun _=>default):=by simp[madeCells]
    rw[e0] at XW;simp[XW,newRow]
   ·simp only[Instr.buildSlice,Sem.run_bind,run_underlying hu,Result.andThen_ok,Dj Tb,if_neg A4g,if_neg NC,AO hz];unfold madeCells at XW;simp[XW,newRow]
  refine⟨_,_,_,hk,Tq (c:=vc') (e:=e) hm Di (Id.alloc w vc' e) (fun j p hj=>?_) (.inr ⟨Bl P e,n,n,rfl,rfl,Nat.le_refl _,by rw[hvl];exact Nat.le_refl _⟩)⟩
  obtain⟨u,Lq,hp⟩:=h3.get hj;exact⟨u,by simpa using Lq,h3' u (List.mem_of_getElem? Lq),hp⟩
 ·cases hk
end
end
end Go.Proofs.YtpogefhpiaaliaaDoor.Pv
