/-
  The proof of AccountNames, part 1.
-/
import Derived.Orders
import Derived.LoopN
import Derived.Below
import Derived.Lib.ValidU
import Derived.Lib.Bytealg
import Derived.IntWalk
import Derived.WalkKit
import Derived.WalkLawsBesides
import Derived.Laws.IdiomStrings
import Derived.Laws.MakeOwn
import Derived.Laws.Tables
set_option linter.unusedSimpArgs false
set_option linter.unusedVariables false
namespace Go.Proofs.Yteicjnihnacadaa.Pv
section
inductive PV where
 |sc (v:Value)
 |lst (z:Bool) (es n:Nat) (cells:List PV)
 |own (es n:Nat) (cells:List PV)
 |view (id es off n:Nat)
 |ptr (id off:Nat)
 |iptr (cells:List PV) (off:Nat)
 |pbox (cells:List PV)
 |agg (cells:List PV)
 |tup (vs:List PV)
 |top
 |ub
inductive A1 where
 |st (cells:List PV)
 |ar (fz:Bool) (cells:List PV)
 |mv
structure St where
 tm:Nat->PV
 hp:Nat->Option A1
structure Bc where
 vals:List PV
 outs:List (List PV)
structure E9 where
 shr:FuncId->Bool
 mvd:FuncId->Nat->Bool
 lnd:FuncId->Nat->Bool
 kz:FuncId->Bool
 ext:FuncId->Option (List PV->Option Bc)
 nz:Nat->Bool
def E9.core (C:E9):E9:={ C with ext:=fun _=>none }
def Bi {α:Type}(f:Nat->α)(i:Nat)(v:α):Nat->α:=fun j=>bif Nat.beq j i then v else f j
def rd (hp:Nat->Option A1)(id:Nat):Option (List PV):=
 match hp id with
 |some (.st c)=>some c
 |some (.ar _ c)=>some c
 |_=>none
def Hd (hp:Nat->Option A1)(id:Nat):Option (List PV):=
 match hp id with
 |some (.ar _ c)=>some c
 |_=>none
inductive CT where
 |int (k:IntKind)
 |bool
 |str
 |sl (es:Nat)
 |any
def As (P:Program)(t:TypeId):Nat:=((P.info? t).map (·.size)).getD 0
def A7 (P:Program)(t:TypeId):Bool:=
 match P.underlying t with
 |some (.struct _)=>true
 |some (.array _ _)=>true
 |_=>false
def Ab7 (P:Program):Nat->TypeId->List CT
 |0,_=>[]
 |d+1,t=>
  match P.underlying t with
  |some (.int k)=>[.int k]
  |some .bool=>[.bool]
  |some .string=>[.str]
  |some (.slice e)=>[.sl (As P e)]
  |some (.struct fs)=>fs.toList.flatMap fun f=>Ab7 P d f.type
  |some (.array n e)=>(List.replicate n (Ab7 P d e)).flatten
  |_=>[.any]
abbrev Fy (P:Program)(t:TypeId):List CT:=Ab7 P 9 t
def Gn (P:Program)(t:TypeId):Bool:=(P.underlying t).isSome&&Nat.beq (Fy P t).length (As P t)
abbrev Uc (k:IntKind)(a b:Int):Int:=k.wrap (BitVec.ofInt k.bits a &&& BitVec.ofInt k.bits b).toNat
abbrev V9 (k:IntKind)(a b:Int):Int:=k.wrap (BitVec.ofInt k.bits a ||| BitVec.ofInt k.bits b).toNat
abbrev Cq (k:IntKind)(a b:Int):Int:=k.wrap (BitVec.ofInt k.bits a ^^^ BitVec.ofInt k.bits b).toNat
abbrev ZG (k:IntKind)(a b:Int):Int:=k.wrap (BitVec.ofInt k.bits a &&& ~~~BitVec.ofInt k.bits b).toNat
abbrev Hh (k:IntKind)(a b:Int):Int:=k.wrap (a*2 ^ (min b.toNat k.bits))
abbrev Pp (k:IntKind)(a b:Int):Int:=a.fdiv (2 ^ (min b.toNat k.bits))
abbrev Ag3 (k:IntKind)(n:Int):Int:=k.wrap (BitVec.ofInt k.bits (if k.signed then -1 else k.max) ^^^ BitVec.ofInt k.bits n).toNat
section
variable {R:Type}
def Al (k:IntKind)(p:PV)(K:Int->Option R):Option R:=
 match p with
 |.sc (.int k' n)=>if k'=k then K n else none
 |_=>none
def Bb (p:PV)(K:Bool->Option R):Option R:=
 match p with
 |.sc (.bool b)=>K b
 |_=>none
def Et (p:PV)(K:ByteArray->Option R):Option R:=
 match p with
 |.sc (.string s)=>K s
 |_=>none
def Gs (es:Nat)(p:PV)(K:Bool->Nat->List PV->Option R):Option R:=
 match p with
 |.lst z es' n c=>bif Nat.beq es' es then K z n c else none
 |.sc (.slice none 0 0)=>K true 0 []
 |_=>none
def fsK (es:Nat)(p:PV)(K:PV->Option R):Option R:=
 match p with
 |.view id es' off n=>bif Nat.beq es' es then K (.view id es off n) else none
 |p=>Gs es p fun z n c=>K (.lst z es n c)
def Ml (es:Nat)(p:PV)(K:Nat->List PV->Option R):Option R:=
 match p with
 |.own es' n c=>bif Nat.beq es' es then K n c else none
 |_=>none
def Ao (b:Bool)(K:Option R):Option R:=bif b then K else none
abbrev Aa {α:Type}(x:α)(K:α->Option R):Option R:=K x
def FG (b:Bool)(x y:Option R):Option R:=bif b then x else y
abbrev Alu (x:Nat)(K:Nat->Option R):Option R:=K x
def Aao (x:List (List Nat)) (K:List (List Nat)->Option R):Option R:=K x
def Cc (b:Bool)(x y:Option R):Option R:=bif b then x else y
def Da {α:Type}(o:Option α)(K:α->Option R):Option R:=
 match o with
 |some a=>K a
 |none=>none
def Ab {α:Type}(l:List α)(K:α->List α->Option R):Option R:=
 match l with
 |a::r=>K a r
 |[]=>none
def Ai {α:Type}(l:List α)(K:Option R):Option R:=
 match l with
 |[]=>K
 |_::_=>none
def E7 (p:PV)(K:List PV->Option R):Option R:=
 match p with
 |.agg c=>K c
 |_=>none
def Sl (p:PV)(K:List PV->Option R):Option R:=
 match p with
 |.pbox c=>K c
 |_=>none
def Aq (r:Option Bc)(K:List PV->List (List PV)->Option R):Option R:=
 match r with
 |some ⟨v,o⟩=>K v o
 |none=>none
def RD (p:PV)(K:Value->Option R):Option R:=
 match p with
 |.sc (.func f a b)=>K (.func f a b)
 |_=>none
def fvK (p:PV)(K:FuncId->Option R):Option R:=
 match p with
 |.sc (.func (.func f) a b)=>bif a.isEmpty&&b.isEmpty then K f else none
 |_=>none
def T0 (t:CT)(p:PV)(K:PV->Option R):Option R:=
 match t with
 |.int k=>Al k p fun n=>K (.sc (.int k n))
 |.bool=>Bb p fun b=>K (.sc (.bool b))
 |.str=>Et p fun s=>K (.sc (.string s))
 |.sl es=>Gs es p fun z n c=>K (.lst z es n c)
 |.any=>RD p fun v=>K (.sc v)
def fcK (t:CT)(p:PV)(K:PV->Option R):Option R:=
 match t with
 |.sl es=>fsK es p K
 |t=>T0 t p K
def Nt:List CT->List PV->Nat->(List PV->Option R)->Option R
 |[],_,_,K=>K []
 |t::ts,cells,off,K=>T0 t (cells.getD off .top) fun c=>Nt ts cells (off+1) fun r=>K (c::r)
def Li:List CT->List PV->Nat->(List PV->Option R)->Option R
 |[],_,_,K=>K []
 |t::ts,cells,off,K=>fcK t (cells.getD off .top) fun c=>Li ts cells (off+1) fun r=>K (c::r)
def LL (agg:Bool)(cells:List PV)(K:PV->Option R):Option R:=
 bif agg then K (.agg cells) else Ab cells fun c r=>Ai r (K c)
def cellsOf:PV->List PV
 |.agg c=>c
 |p=>[p]
def cvK (P:Program)(t:TypeId)(v:Value)(K:PV->Option R):Option R:=
 match v with
 |.agg cs=>Ao (Nat.beq cs.toList.length (Fy P t).length) (Nt (Fy P t) (cs.toList.map .sc) 0 fun c=>K (.agg c))
 |.slice none 0 0=>
  match P.underlying t with
  |some (.slice e)=>K (.lst true (As P e) 0 [])
  |_=>none
 |v=>K (.sc v)
end
def A8 (tm:Nat->PV):Operand->PV
 |.tmp t=>tm t
 |.const (.agg cs)=>.agg (cs.toList.map .sc)
 |.const v=>.sc v
 |.func f=>.sc (.func (.func f) #[] #[])
 |.global g=>.sc (.pointer (some ⟨g,0,none⟩))
section
variable {R:Type}
def B8 (p:PV)(K:IntKind->Int->Option R):Option R:=
 match p with
 |.sc (.int k n)=>K k n
 |_=>none
def II (rdf:Nat->Option (List PV)) (es:Nat)(p:PV)(K:Nat->List PV->Option R):Option R:=
 match p with
 |.view id es' off n=>bif Nat.beq es' es then Da (rdf id) fun c=>Ao (decide (off+n*es<=c.length)) (K n ((c.drop off).take (n*es))) else none
 |p=>Gs es p fun _ n c=>K n c
def Km (rdf:Nat->Option (List PV)) (t:CT)(p:PV)(K:PV->List Nat->Option R):Option R:=
 match t with
 |.sl es=>
  match p with
  |.view id es' off n=>bif Nat.beq es' es then Da (rdf id) fun c=>Ao (decide (off+n*es<=c.length)) (K (.lst false es n ((c.drop off).take (n*es))) [id]) else none
  |p=>Gs es p fun _ n c=>K (.lst false es n c) []
 |t=>T0 t p fun c=>K c []
def Kf (rdf:Nat->Option (List PV)):List CT->List PV->(List PV->List Nat->Option R)->Option R
 |[],[],K=>K [] []
 |t::ts,p::ps,K=>Km rdf t p fun c m=>Kf rdf ts ps fun cs ms=>K (c::cs) (m++ms)
 |_,_,_=>none
def HJ (k:Bool):List PV->List PV->List PV
  |p::ps,c::cs=>
    (match k,p with
     |true,.lst true es 0 []=>.lst true es 0 []
     |_,_=>c)::HJ k ps cs
  |_,cs=>cs
def JH (P:Program)(rdf:Nat->Option (List PV)) (t:TypeId)(p:PV)(K:PV->List Nat->Option R):Option R:=
 bif A7 P t then E7 p fun ps=>Kf rdf (Fy P t) ps fun cs m=>K (.agg cs) m
 else Kf rdf (Fy P t) [p] fun cs m=>Ab cs fun c r=>Ai r (K c m)
def Xd (P:Program)(rdf:Nat->Option (List PV)):List TypeId->List PV->(List PV->List Nat->Option R)->Option R
 |[],[],K=>K [] []
 |t::ts,p::ps,K=>JH P rdf t p fun v m=>Xd P rdf ts ps fun vs ms=>K (v::vs) (m++ms)
 |_,_,_=>none
def UC (shr:Bool)(id:Nat)(t:CT)(p:PV)(K:PV->List (Nat × A1)->Option R):Option R:=
 match t with
 |.sl es=>bif shr then Gs es p fun _ n c=>K (.lst false es n c) [] else Ml es p fun n c=>K (.view id es 0 n) [(id,.ar false c)]
 |t=>T0 t p fun c=>K c []
def Mf (shr:Bool)(N:Nat):Nat->List CT->List PV->(List PV->List (Nat × A1)->Option R)->Option R
 |_,[],ps,K=>Ai ps (K [] [])
 |id,t::ts,ps,K=>Ab ps fun p ps=>UC shr id t p fun c b=>Mf shr N (id+N) ts ps fun cs bs=>K (c::cs) (b++bs)
def Rs (P:Program)(t:TypeId):Option TypeId:=
 match P.underlying t with
 |some (.pointer e)=>some e
 |_=>none
def EU (P:Program)(t:TypeId):Nat:=
 match Rs P t with
 |some e=>1+(Fy P e).length
 |none=>(Fy P t).length
def PK (P:Program)(shr:Bool)(N:Nat)(id:Nat)(t:TypeId)(p:PV)(K:PV->List (Nat × A1)->Option R):Option R:=
 match Rs P t with
 |some e=>Sl p fun ps=>Mf shr N (id+N) (Fy P e) ps fun cs bs=>K (.ptr id 0) ((id,.st cs)::bs)
 |none=>
 bif A7 P t then E7 p fun ps=>Mf shr N id (Fy P t) ps fun cs bs=>K (.agg cs) bs
 else Mf shr N id (Fy P t) [p] fun cs bs=>Ab cs fun c r=>Ai r (K c bs)
def U6 (P:Program)(shr:Bool)(N:Nat):Nat->List TypeId->List PV->(List PV->List (Nat × A1)->Option R)->Option R
 |_,[],ps,K=>Ai ps (K [] [])
 |id,t::ts,ps,K=>Ab ps fun p ps=>PK P shr N id t p fun v bs=>U6 P shr N (id+N*EU P t) ts ps fun vs bs'=>K (v::vs) (bs++bs')
def J9 (P:Program)(t:TypeId):List TypeId:=
 match P.underlying t with
 |some (.tuple ts)=>ts.toList
 |_=>[t]
def J6 (vs:List PV)(t:Bool):PV:=bif t then .tup vs else vs.headD .top
def Kw (P:Program)(t:TypeId):Bool:=
 match P.underlying t with
 |some (.tuple _)=>true
 |_=>false
def ZV (op:BinOp)(a b:Int)(K:Bool->Option R):Option R:=
 match op with
 |.eql=>K (a==b)
 |.neq=>K (a != b)
 |.lss=>K (decide (a<b))
 |.leq=>K (decide (a<=b))
 |.gtr=>K (decide (a>b))
 |.geq=>K (decide (a>=b))
 |_=>none
def X9 (op:BinOp)(k:IntKind)(a b:Int)(K:PV->Option R):Option R:=
 match op with
 |.add=>Aa ((k.wrap (a+b))) fun n=>K (.sc (.int k n))
 |.sub=>Aa ((k.wrap (a-b))) fun n=>K (.sc (.int k n))
 |.mul=>Aa ((k.wrap (a*b))) fun n=>K (.sc (.int k n))
 |.quo=>Ao (decide (b≠0)) (Aa ((k.wrap (a.tdiv b))) fun n=>K (.sc (.int k n)))
 |.rem=>Ao (decide (b≠0)) (Aa ((a.tmod b)) fun n=>K (.sc (.int k n)))
 |.and=>Aa (Uc k a b) fun n=>K (.sc (.int k n))
 |.or=>Aa (V9 k a b) fun n=>K (.sc (.int k n))
 |.xor=>Aa (Cq k a b) fun n=>K (.sc (.int k n))
 |.andNot=>Aa (ZG k a b) fun n=>K (.sc (.int k n))
 |op=>ZV op a b fun r=>K (.sc (.bool r))
def Xb (op:BinOp)(x y:ByteArray)(K:PV->Option R):Option R:=
 match op with
 |.add=>Ao (decide (x.size+y.size<=9223372036854775807)) (Aa (x++y) fun s=>K (.sc (.string s)))
 |.eql=>K (.sc (.bool (x.data.toList==y.data.toList)))
 |.neq=>K (.sc (.bool !(x.data.toList==y.data.toList)))
 |.lss=>K (.sc (.bool (Op.bytesLess x.data.toList y.data.toList)))
 |.leq=>K (.sc (.bool (Op.bytesLess x.data.toList y.data.toList||x.data.toList==y.data.toList)))
 |.gtr=>K (.sc (.bool !(Op.bytesLess x.data.toList y.data.toList||x.data.toList==y.data.toList)))
 |.geq=>K (.sc (.bool !(Op.bytesLess x.data.toList y.data.toList)))
 |_=>none
def Wb (e:Bool)(p:PV)(K:PV->Option R):Option R:=
 match p with
 |.sc (.slice none 0 0)=>K (.sc (.bool e))
 |.lst z _ n _=>Cc z (K (.sc (.bool e))) (Cc (decide (0<n)) (K (.sc (.bool !e))) (K .ub))
 |.view _ _ _ n=>Cc (decide (0<n)) (K (.sc (.bool !e))) (K .ub)
 |_=>none
def HQ (P:Program):List Field->Nat->Bool
 |[],_=>true
 |f::r,i=>Nat.beq f.offset i&&(f.name != "_")&&(match P.underlying f.type with|some (.int _)=>true|some .bool=>true|some .string=>true|_=>false)&&HQ P r (i+1)
def Kc (P:Program):List Field->Nat->Bool
  |[],_=>true
  |f::r,i=>Nat.beq f.offset i&&(f.name != "_") &&
    (match P.underlying f.type with
     |some (.int _)=>Kc P r (i+1)
     |some .bool=>Kc P r (i+1)
     |some .string=>Kc P r (i+1)
     |some (.struct gs)=>HQ P gs.toList 0 && !P.stoodInHeld f.type&&(P.info? f.type).isSome&&Nat.beq (As P f.type) gs.size&&Kc P r (i+gs.size)
     |_=>false)
def CF (P:Program)(t:TypeId)(fs:Array Field):Bool:=Kc P fs.toList 0 && !P.stoodInHeld t && !P.eqGuardType P.depth t
def SU (P:Program)(f:Field):CT:=
 match P.underlying f.type with
 |some (.int k)=>.int k
 |some .bool=>.bool
 |some .string=>.str
 |_=>.any
def EE (P:Program)(f:Field):List CT:=
 match P.underlying f.type with
 |some (.struct gs)=>gs.toList.map (SU P)
 |_=>[SU P f]
def P7 (P:Program):List Field->List CT
 |[]=>[]
 |f::r=>EE P f++P7 P r
def Iu:List CT->List PV->List PV->(Bool->Option R)->Option R
 |[],[],[],K=>K true
 |.int k::ts,p::ps,q::qs,K=>Al k p fun a=>Al k q fun b=>Iu ts ps qs fun r=>K ((a==b)&&r)
 |.bool::ts,p::ps,q::qs,K=>Bb p fun a=>Bb q fun b=>Iu ts ps qs fun r=>K ((a==b)&&r)
 |.str::ts,p::ps,q::qs,K=>Et p fun a=>Et q fun b=>Iu ts ps qs fun r=>K ((a==b)&&r)
 |_,_,_,_=>none
def UA (P:Program)(op:BinOp)(t:TypeId)(x y:PV)(K:PV->Option R):Option R:=
 match P.underlying t with
 |some (.int k)=>
  match op with
  |.shl=>Al k x fun a=>B8 y fun _ b=>Ao (decide (0<=b)) (Aa (Hh k a b) fun n=>K (.sc (.int k n)))
  |.shr=>Al k x fun a=>B8 y fun _ b=>Ao (decide (0<=b)) (Aa (Pp k a b) fun n=>K (.sc (.int k n)))
  |op=>Al k x fun a=>Al k y fun b=>X9 op k a b K
 |some .string=>Et x fun a=>Et y fun b=>Xb op a b K
 |some .bool=>
  match op with
  |.eql=>Bb x fun a=>Bb y fun b=>K (.sc (.bool (a==b)))
  |.neq=>Bb x fun a=>Bb y fun b=>K (.sc (.bool !(a==b)))
  |_=>none
 |some (.slice _)=>
  match op,y with
  |.eql,.sc (.slice none 0 0)=>Wb true x K
  |.neq,.sc (.slice none 0 0)=>Wb false x K
  |_,_=>none
 |_=>none
def Ot (P:Program)(op:BinOp)(t:TypeId)(x y:PV)(K:PV->Option R):Option R:=
 match P.underlying t with
 |some (.struct fs)=>
  match op with
  |.eql=>Ao (CF P t fs) (E7 x fun xs=>E7 y fun ys=>Iu (P7 P fs.toList) xs ys fun b=>K (.sc (.bool b)))
  |.neq=>Ao (CF P t fs) (E7 x fun xs=>E7 y fun ys=>Iu (P7 P fs.toList) xs ys fun b=>K (.sc (.bool !b)))
  |_=>none
 |_=>UA P op t x y K
def unK (op:UnOp)(x:PV)(K:PV->Option R):Option R:=
 match op with
 |.not=>Bb x fun b=>K (.sc (.bool !b))
 |.neg=>B8 x fun k n=>Aa (k.wrap (0-n)) fun n=>K (.sc (.int k n))
 |.xor=>B8 x fun k n=>Aa (Ag3 k n) fun n=>K (.sc (.int k n))
 |_=>none
def bytesOf:List PV->Option (List UInt8)
 |[]=>some []
 |.sc (.int .u8 n)::r=>(bytesOf r).map (n.toNat.toUInt8 :: ·)
 |_::_=>none
def B1 (s:ByteArray):List PV:=s.data.toList.map fun b=>.sc (.int .u8 b.toNat)
def W2 (P:Program)(rdf:Nat->Option (List PV)) (d:Nat)(src dst:TypeId)(x:PV)(K:PV->List (Nat × A1)->Option R):Option R:=
 match P.underlying dst with
 |some (.int k)=>Ao (P.underlying src).isSome (B8 x fun _ n=>Aa (k.wrap n) fun n=>K (.sc (.int k n)) [])
 |some .string=>
  match P.underlying src with
  |some .string=>Et x fun s=>K (.sc (.string s)) []
  |some (.slice e)=>
   match P.underlying e with
   |some (.int .u8)=>II rdf 1 x fun n c=>Ao (decide (c.length=n)) (Da (bytesOf c) fun b=>K (.sc (.string ⟨b.toArray⟩)) [])
   |_=>none
  |_=>none
 |some (.slice e)=>
  match P.underlying e,P.underlying src with
  |some (.int .u8),some .string=>Et x fun s=>Ao (decide (s.size<=1099511627776)) (K (.view d 1 0 s.size) [(d,.ar false (B1 s))])
  |_,_=>none
 |_=>none
def Ey (p:Option PV)(dflt:Nat)(K:Nat->Option R):Option R:=
 match p with
 |none=>K dflt
 |some p=>B8 p fun _ i=>Ao (decide (0<=i)) (K i.toNat)
def Te (P:Program)(rdf:Nat->Option (List PV)) (t:TypeId)(x:PV)(lo hi:Option PV)(K:PV->Option R):Option R:=
 match P.underlying t with
 |some .string=>Et x fun s=>Ey lo 0 fun l=>Ey hi s.size fun h=>Ao (decide (l<=h)&&decide (h<=s.size)) (Aa (s.extract l h) fun s=>K (.sc (.string s)))
 |some (.slice e)=>Ao (P.info? e).isSome (
  match x with
  |.view id es off n=>Ao (Nat.beq es (As P e)) (Ey lo 0 fun l=>Ey hi n fun h=>Ao (decide (l<=h)&&decide (h<=n)) (Aa (off+l*es) fun o=>Aa (h-l) fun n=>K (.view id es o n)))
  |x=>Gs (As P e) x fun z n c=>Ey lo 0 fun l=>Ey hi n fun h=>Ao (decide (l<=h)&&decide (h<=n)) (Aa (h-l) fun n=>Aa ((c.drop (l*As P e)).take (n*As P e)) fun c=>K (.lst z (As P e) n c)))
 |some (.array n e)=>Ao (P.info? e).isSome (
  match x with
  |.ptr id off=>Da (rdf id) fun c=>Ao (decide (1<=n*As P e)&&decide (off+n*As P e<=c.length)&&Nat.beq (As P e) 1)<|Ey lo 0 fun l=>Ey hi n fun h=>Ao (decide (l<=h)&&decide (h<=n)) (Aa (off+l*As P e) fun o=>Aa (h-l) fun n=>K (.view id (As P e) o n))
  |_=>none)
 |_=>none
def Ou (P:Program)(d:Nat)(t:TypeId)(x:PV)(lo hi mx:Option PV)(K:PV->List (Nat × A1)->Option R):Option R:=
 match P.underlying t with
 |some (.slice e)=>Ao ((P.info? e).isSome&&hi.isSome) (
  match x with
  |.view _ es _ n=>Ao (Nat.beq es (As P e)) (Ey lo 0 fun l=>Ey hi n fun h=>Ey mx n fun m=>Ao (Nat.beq l m&&Nat.beq h m&&decide (m<=n)) (K (.view d (As P e) 0 0) [(d,.ar false [])]))
  |x=>Gs (As P e) x fun _ n _=>Ey lo 0 fun l=>Ey hi n fun h=>Ey mx n fun m=>Ao (Nat.beq l m&&Nat.beq h m&&decide (m<=n)) (K (.view d (As P e) 0 0) [(d,.ar false [])]))
 |_=>none
def Oa (x:PV)(d:Nat)(K:PV->Option R):Option R:=
 match x with
 |.ptr id off=>K (.ptr id (off+d))
 |.iptr c off=>K (.iptr c (off+d))
 |_=>none
def Xi (P:Program)(e:TypeId):Bool:=(P.info? e).isSome
def L9 (P:Program)(t:TypeId)(f:Nat):Option (Nat × TypeId):=
 match P.underlying t with
 |some (.struct fs)=>(fs[f]?).map fun g=>(g.offset,g.type)
 |_=>none
def H3 (P:Program)(t:TypeId)(x:PV)(i:Int)(K:PV->Option R):Option R:=
 match P.underlying t with
 |some (.array n e)=>Ao (Xi P e) (Ao (decide (0<=i)&&decide (i<n)) (Oa x (i.toNat*As P e) K))
 |some (.slice e)=>Ao (Xi P e) (
  match x with
  |.view id es off n=>Ao (Nat.beq es (As P e)) (Ao (decide (0<=i)&&decide (i<n)) (K (.ptr id (off+i.toNat*es))))
  |x=>Gs (As P e) x fun _ n c=>Ao (decide (0<=i)&&decide (i<n)) (K (.iptr c (i.toNat*As P e))))
 |_=>none
def Q1 (P:Program)(rdf:Nat->Option (List PV)) (t:TypeId)(x:PV)(K:PV->Option R):Option R:=
 match x with
 |.ptr id off=>Ao (Gn P t) (Da (rdf id) fun c=>Li (Fy P t) c off fun cs=>LL (A7 P t) cs K)
 |.iptr c off=>Ao (Gn P t) (Nt (Fy P t) c off fun cs=>LL (A7 P t) cs K)
 |_=>none
def BG:PV->PV
 |.lst _ es n c=>.lst false es n c
 |p=>p
def JV:PV->PV
 |.agg cs=>.agg (cs.map BG)
 |p=>BG p
def Rz (nz:Bool)(P:Program)(rdf rdaf:Nat->Option (List PV)) (t:TypeId)(x:PV)(K:PV->Option R):Option R:=
 match x with
 |.ptr id off=>Ao (Gn P t) (
  match rdaf id with
  |some c=>Nt (Fy P t) c off fun cs=>LL (A7 P t) cs fun v=>K (bif nz then v else JV v)
  |none=>Da (rdf id) fun c=>Li (Fy P t) c off fun cs=>LL (A7 P t) cs K)
 |.iptr c off=>Ao (Gn P t) (Nt (Fy P t) c off fun cs=>LL (A7 P t) cs fun v=>K (bif nz then v else JV v))
 |_=>none
def A2 (cells new:List PV)(off:Nat):List PV:=cells.take off++new++cells.drop (off+new.length)
def okP:PV->Bool
 |.agg _=>true
 |.lst _ _ _ _=>true
 |.view _ _ _ _=>true
 |.sc (.int _ _)=>true
 |.sc (.bool _)=>true
 |.sc (.string _)=>true
 |.sc (.slice none 0 0)=>true
 |_=>false
def Ns (Ep:Nat->Option (Nat × Nat)):List (Nat × PV)->List PV->(List PV->Option R)->Option R
 |[],cells,K=>K cells
 |(i,p)::r,cells,K=>Da (Ep i) fun q=>Ao (okP p&&Nat.beq (cellsOf p).length q.2&&Nat.ble (q.1+q.2) cells.length) (Aa (A2 cells (cellsOf p) q.1) fun cells=>Ns Ep r cells K)
def Mp (P:Program)(t:TypeId)(i:Nat):Option (Nat × Nat):=
 match P.underlying t with
 |some (.struct fs)=>(fs[i]?).map fun f=>(f.offset,As P f.type)
 |some (.array _ e)=>some (i*As P e,As P e)
 |some (.slice e)=>some (i*As P e,As P e)
 |_=>none
def L5 (P:Program)(t:TypeId):Bool:=
 match P.underlying t with
 |some (.struct fs)=>fs.toList.all fun f=>Xi P f.type
 |some (.array _ e)=>Xi P e
 |some (.slice e)=>Xi P e
 |_=>false
def Qp (P:Program)(t:TypeId):Option Value:=(P.info? t).bind (·.zero)
def E1 (P:Program)(t:TypeId)(K:List PV->Option R):Option R:=
 Da (Qp P t) fun v=>Ao (Nat.beq v.cells.toList.length (Fy P t).length&&Gn P t) (Nt (Fy P t) (v.cells.toList.map .sc) 0 K)
def N9 (P:Program)(t:TypeId):Bool:=
 match P.underlying t with
 |some (.array _ _)=>true
 |_=>false
def WC (P:Program)(t:TypeId)(cells:List PV):A1:=bif N9 P t then .ar false cells else .st cells
def Ql (n:Nat)(l:List PV):List PV:=(List.replicate n l).flatten
def ZJ (a b:PV)(K:PV->Option R):Option R:=B8 a fun k x=>Al k b fun y=>Aa (if y<x then y else x) fun n=>K (.sc (.int k n))
def XK (a b:PV)(K:PV->Option R):Option R:=B8 a fun k x=>Al k b fun y=>Aa (if x<y then y else x) fun n=>K (.sc (.int k n))
def ON (P:Program)(t:TypeId)(x:PV)(K:Nat->Option R):Option R:=
 match P.underlying t with
 |some .string=>Et x fun s=>K s.size
 |some (.array n _)=>K n
 |some (.slice e)=>
  match x with
  |.view _ es _ n=>Ao (Nat.beq es (As P e)) (K n)
  |x=>Gs (As P e) x fun _ n _=>K n
 |_=>none
end
abbrev Ah:=FuncId->List PV->Option Bc
section
variable {R:Type}
def Gy (P:Program)(ts:List TypeId):Bool:=ts.any fun t=>(Rs P t).isSome||(Fy P t).any fun c=>match c with | .sl _=>true|_=>false
def Ub (P:Program)(t:TypeId)(tm:Nat->PV)(x:Operand)(K:PV->Option R):Option R:=
 match x with
 |.const v=>cvK P t v K
 |x=>K (A8 tm x)
def CD (P:Program)(e:TypeId):Bool:=
 match P.info? e with
 |some i=>(match i.zero with|some z=>Nat.beq z.cells.size i.size|none=>false)
 |none=>false
def KX (P:Program)(rdaf:Nat->Option (List PV)) (es:Nat)(t:TypeId)(x:PV)(K:Nat->List PV->Option R):Option R:=
 match P.underlying t with
 |some .string=>Ao (Nat.beq es 1) (Et x fun b=>K b.size (B1 b))
 |some (.slice _)=>II rdaf es x K
 |_=>none
abbrev KC (P:Program)(s:St)(es:Nat)(t:TypeId)(x:PV)(K:Nat->List PV->Option R):Option R:=KX P (Hd s.hp) es t x K
def Sr (c:Call):Bool:=
 match c.args.toList with
 |.const (.slice none 0 0)::_=>true
 |_=>false
def Ow (P:Program)(rdaf:Nat->Option (List PV)) (d:Nat)(t tx:TypeId)(x:PV)(K:PV->List (Nat × A1)->Option R):Option R:=
 match P.underlying t with
 |some (.slice e)=>Ao (CD P e) <|
  KX P rdaf (As P e) tx x fun m new=>
   Ao (decide (new.length=m*As P e)&&decide (m*((P.info? e).map (·.bytes)).getD 0<=1099511627776)&&decide (m<=1099511627776)) (K (.view d (As P e) 0 m) [(d,.ar false new)])
 |_=>none
def G3 (k:Bool):List Operand->List PV->List PV
  |x::xs,p::ps=>
    (match x,p with
     |.const (.slice none 0 0),.lst z es 0 []=>.lst (k||z) es 0 []
     |_,p=>p)::G3 k xs ps
  |_,ps=>ps
def PI (P:Program)(t:TypeId)(x:PV)(K:Nat->Option R):Option R:=
 match P.underlying t with
 |some (.slice e)=>Gs (As P e) x fun z _ _=>Ao z (K 0)
 |_=>none
def Wa (P:Program)(f:FuncId)(c:Call):List TypeId:=
 match P.funcs[f]? with
 |some fn=>fn.params.toList
 |none=>c.argTypes.toList
def Xm (C:E9)(P:Program)(N:Nat)(call:Ah)(tm:Nat->PV)(rdaf:Nat->Option (List PV)) (o:Oper)(c:Call)(f:FuncId)(K:PV->List Nat->List (Nat × A1)->Option R):Option R:=
 Xd P rdaf (Wa P f c) (c.args.toList.map (A8 tm)) fun vs m=>
  Aq (call f (G3 (C.kz f) c.args.toList vs)) fun rv ro=>Ai ro (Ao (Nat.blt 0 N)<|U6 P (C.shr f) N (o.dst.getD 0) (J9 P o.type) rv fun ws bs=>
   Ao (bif Kw P o.type then !Nat.beq ws.length 1 else Nat.beq ws.length 1)<|K (J6 ws (Kw P o.type)) (bif Gy P (J9 P o.type) then m else []) bs)
def Ws (C:E9)(P:Program)(N:Nat)(call:Ah)(tm:Nat->PV)(rdf rdaf:Nat->Option (List PV)) (o:Oper)(K:PV->List Nat->List (Nat × A1)->Option R):Option R:=
  match o.op with
  |.move x=>Ub P o.type tm x fun p=>K p [] []
  |.assign x=>Ub P o.type tm x fun p=>K p [] []
  |.pick c a b=>Bb (A8 tm c) fun t=>Cc t (K (A8 tm a) [] []) (K (A8 tm b) [] [])
  |.alloc t=>Da o.dst fun d=>E1 P t fun cs=>K (.ptr d 0) [] [(d,WC P t cs)]
  |.box t x=>Da o.dst fun d=>Ao (Gn P t&&Nat.beq (cellsOf (A8 tm x)).length (Fy P t).length)
      (bif N9 P t then Nt (Fy P t) (cellsOf (A8 tm x)) 0 fun cs=>K (.ptr d 0) [] [(d,.ar false cs)]
       else Li (Fy P t) (cellsOf (A8 tm x)) 0 fun cs=>K (.ptr d 0) [] [(d,.st cs)])
  |.build t ps=>Ao (L5 P t&&A7 P t)<|E1 P t fun z=>Ns (Mp P t) (ps.toList.map fun q=>(q.1,A8 tm q.2)) z fun cs=>Li (Fy P t) cs 0 fun cs'=>K (.agg cs') [] []
  |.buildSlice t n ps=>Da o.dst fun d=>
      match P.underlying t with
      |some (.slice e)=>Ao (L5 P t&&Nat.ble (n*As P e) 16777216) (E1 P e fun z=>Ns (Mp P t) (ps.toList.map fun q=>(q.1,A8 tm q.2)) (Ql n z) fun cs=>
          Kf rdaf (List.replicate n (Fy P e)).flatten cs fun cs' m=>K (.view d (As P e) 0 n) m [(d,.ar false (bif C.nz N then HJ true cs cs' else cs'))])
      |_=>none
  |.load t a=>Rz (C.nz N) P rdf rdaf t (A8 tm a) fun v=>K v [] []
  |.nilCheck x=>Oa (A8 tm x) 0 fun p=>K p [] []
  |.binOp op t x y _=>
      Ot P op t (A8 tm x) (A8 tm y) fun v=>K v [] []
  |.unOp op _ x=>unK op (A8 tm x) fun v=>K v [] []
  |.convert src dst x=>W2 P rdaf (o.dst.getD 0) src dst (A8 tm x) fun v b=>Da o.dst fun _=>K v [] b
  |.makeSlice t l c=>Da o.dst fun d=>
      match P.underlying t with
      |some (.slice e)=>B8 (A8 tm l) fun _ n=>B8 (A8 tm c) fun _ m=>
          Ao (decide (0<=n)&&decide (n<=m)&&decide (m*((P.info? e).map (·.bytes)).getD 0<=1099511627776)&&decide (m<=1099511627776))
            (E1 P e fun z=>K (.view d (As P e) 0 n.toNat) [] [(d,.ar false (Ql n.toNat z))])
      |_=>none
  |.slice t x lo hi mx=>
      match mx with
      |none=>Te P rdf t (A8 tm x) (lo.map (A8 tm)) (hi.map (A8 tm)) fun v=>K v [] []
      |some m=>Da o.dst fun d=>Ou P d t (A8 tm x) (lo.map (A8 tm)) (hi.map (A8 tm)) (some (A8 tm m)) fun v nw=>K v [] nw
  |.fieldAddr t x f=>Da (L9 P t f) fun q=>Ao (Nat.ble 1 (As P q.2)) (Oa (A8 tm x) q.1 fun p=>K p [] [])
  |.field t x f=>Da (L9 P t f) fun q=>Ao (Gn P q.2)<|E7 (A8 tm x) fun cs=>Li (Fy P q.2) cs q.1 fun c=>LL (A7 P q.2) c fun v=>K v [] []
  |.indexAddr t x i=>B8 (A8 tm i) fun _ n=>H3 P t (A8 tm x) n fun p=>K p [] []
  |.index t x i=>B8 (A8 tm i) fun _ n=>
      match P.underlying t with
      |some .string=>Et (A8 tm x) fun s=>Ao (decide (0<=n)) (Da (s.data.toList[n.toNat]?) fun b=>K (.sc (.int .u8 b.toNat)) [] [])
      |some (.array len e)=>E7 (A8 tm x) fun cs=>Ao (decide (0<=n)&&decide (n<len)&&Gn P e) (Li (Fy P e) cs (n.toNat*As P e) fun c=>LL (A7 P e) c fun v=>K v [] [])
      |_=>none
  |.extract x i=>
      match A8 tm x with
      |.tup vs=>Da vs[i]? fun p=>K p [] []
      |_=>none
  |.call c=>
      match c.callee with
      |.builtin .len=>Ab c.args.toList fun x _=>Ab c.argTypes.toList fun t _=>ON P t (A8 tm x) fun n=>K (.sc (.int .i64 n)) [] []
      |.builtin .cap=>Ab c.args.toList fun x _=>Ab c.argTypes.toList fun t _=>PI P t (A8 tm x) fun n=>K (.sc (.int .i64 n)) [] []
      |.builtin .min=>Ab c.args.toList fun x r=>Ab r fun y r'=>Ai r' (ZJ (A8 tm x) (A8 tm y) fun v=>K v [] [])
      |.builtin .max=>Ab c.args.toList fun x r=>Ab r fun y r'=>Ai r' (XK (A8 tm x) (A8 tm y) fun v=>K v [] [])
      |.builtin .append=>Ao (Sr c) (Da o.dst fun d=>Ab c.args.toList fun _ r=>Ab r fun x r'=>Ai r' (Ab c.argTypes.toList fun t u=>Ab u fun tx _=>Ow P rdaf d t tx (A8 tm x) fun v nw=>K v [] nw))
      |.value (.func f)=>Xm C P N call tm rdaf o c f K
      |.value (.tmp t)=>fvK (tm t) fun f=>Xm C P N call tm rdaf o c f K
      |_=>none
  |_=>none
def Nf (C:E9)(P:Program)(o:Op):Bool:=
 match o with
 |.store .. =>true
 |.call c=>
  match c.callee with
  |.builtin .append=> !Sr c
  |.builtin .copy=>true
  |.builtin _=>false
  |.value (.func f)=>((Wa P f c).any fun t=>(Rs P t).isSome)||((Wa P f c).zipIdx.any fun q=>C.mvd f q.2||C.lnd f q.2)
  |_=>false
 |_=>false
def Oc (b:A1):A1:=
 match b with
 |.ar _ c=>.ar true c
 |b=>b
def Ac (hp:Nat->Option A1)(ids:List Nat):Nat->Option A1:=fun i=>bif ids.any (Nat.beq i) then (hp i).map Oc else hp i
def Ak (hp:Nat->Option A1):List (Nat × A1)->Nat->Option A1
 |[]=>hp
 |(i,b)::r=>Ak (Bi hp i (some b)) r
def A3 (hp:Nat->Option A1):List (Nat × A1)->Bool
 |[]=>true
 |(i,_)::r=>(hp i).isNone && !(r.any fun q=>Nat.beq q.1 i)&&A3 hp r
def A0 (tm:Nat->PV)(d:Option Tmp)(v:PV):Nat->PV:=
 match d with
 |some i=>Bi tm i v
 |none=>tm
def Ej (N:Nat)(d:Option Tmp):Bool:=
 match d with
 |some i=>Nat.blt i N
 |none=>true
def T7 (N:Nat)(s:St)(d:Option Tmp)(v:PV)(fz:List Nat)(nw:List (Nat × A1)) (K:St->Option R):Option R:=
 Ao (Ej N d&&A3 s.hp nw) (K ⟨A0 s.tm d v,Ak (Ac s.hp fz) nw⟩)
def Tx (P:Program)(s:St)(t:TypeId)(a x:PV)(K:St->Option R):Option R:=
 match a with
 |.ptr id off=>
  match s.hp id with
  |some (.st c)=>Ao (Gn P t&&Nat.beq (cellsOf x).length (Fy P t).length&&decide (off+(Fy P t).length<=c.length)) (Li (Fy P t) (cellsOf x) 0 fun cs=>Aa (A2 c cs off) fun c=>K ⟨s.tm,Bi s.hp id (some (.st c))⟩)
  |some (.ar false c)=>Ao (Gn P t&&decide (off+(Fy P t).length<=c.length)) (Kf (Hd s.hp) (Fy P t) (cellsOf x) fun cs m=>Ao (!m.any (Nat.beq id)) (Aa (A2 c cs off) fun c=>K ⟨s.tm,Bi (Ac s.hp m) id (some (.ar false c))⟩))
  |_=>none
 |_=>none
def Rx (P:Program)(t:TypeId):Bool:=
 match P.underlying t with
 |some (.int _)=>true
 |_=>false
def N3 (P:Program)(N:Nat)(s:St)(d:Nat)(e:TypeId)(b x:PV)(K:St->Option R):Option R:=
 B8 x fun _ n=>Gs (As P e) b fun z _ _=>
  Ao (z&&Nat.blt d N&&(s.hp d).isNone&&decide (0<=n)&&decide (n.toNat*((P.info? e).map (·.bytes)).getD 0<=1099511627776)&&decide (n<=1099511627776))
   (K ⟨Bi s.tm d (.view d (As P e) 0 n.toNat),Bi s.hp d (some (.ar false []))⟩)
def Kz (P:Program)(N:Nat)(s:St)(d:Nat)(t tx:TypeId)(b x:PV)(K:St->Option R):Option R:=
 match P.underlying t with
 |some (.slice e)=>Ao (CD P e) <|
  bif Rx P tx then N3 P N s d e b x K else
  KC P s (As P e) tx x fun m new=>
  match b with
  |.view id es off n=>
   match s.hp id with
   |some (.ar false c)=>
    Ao (Nat.beq es (As P e)&&Nat.beq off 0&&Nat.blt d N&&(s.hp d).isNone&&decide (n*es<=c.length)&&decide (new.length=m*es)
     && decide ((n+m)*((P.info? e).map (·.bytes)).getD 0<=1099511627776)&&decide (n+m<=1099511627776))
     (Aa (n+m) fun n'=>Aa (c.take (n*es)++new) fun c=>K ⟨Bi s.tm d (.view d es 0 n'),Bi (Bi s.hp id (some .mv)) d (some (.ar false c))⟩)
   |_=>none
  |b=>Gs (As P e) b fun z _ _=>
    Ao (z&&Nat.blt d N&&(s.hp d).isNone&&decide (new.length=m*As P e)&&decide (m*((P.info? e).map (·.bytes)).getD 0<=1099511627776)&&decide (m<=1099511627776))
     (K ⟨Bi s.tm d (.view d (As P e) 0 m),Bi s.hp d (some (.ar false new))⟩)
 |_=>none
def Zp (P:Program)(N:Nat)(s:St)(d:Option Tmp)(t tx:TypeId)(b x:PV)(K:St->Option R):Option R:=
 match P.underlying t with
 |some (.slice e)=>Ao (Xi P e&&Ej N d) <|
  KC P s (As P e) tx x fun m new=>
  match b with
  |.view id es off n=>
   match s.hp id with
   |some (.ar false c)=>Ao (Nat.beq es (As P e)&&decide (off+n*es<=c.length)&&decide (new.length=m*es))
     (Aa (min m n) fun k=>Aa (A2 c (new.take (k*es)) off) fun c=>K ⟨A0 s.tm d (.sc (.int .i64 k)),Bi s.hp id (some (.ar false c))⟩)
   |_=>none
  |_=>none
 |_=>none
def PS (mv:Bool)(hp:Nat->Option A1)(t:CT)(p:PV)(K:PV->List Nat->List Nat->Option R):Option R:=
 match t with
 |.sl es=>
  bif mv then
   match p with
   |.view id es' off n=>
    match hp id with
    |some (.ar false c)=>
     bif Nat.beq es' es&&Nat.beq off 0 then Ao (decide (n*es<=c.length)) (K (.own es n (c.take (n*es))) [] [id])
     else Km (Hd hp) (.sl es) (.view id es' off n) fun c m=>K c m []
    |_=>Km (Hd hp) (.sl es) (.view id es' off n) fun c m=>K c m []
   |p=>Gs es p fun z n c=>bif z then K (.own es 0 []) [] [] else K (.lst false es n c) [] []
  else Km (Hd hp) (.sl es) p fun c m=>K c m []
 |t=>T0 t p fun c=>K c [] []
def Ux (mv:Bool)(hp:Nat->Option A1):List CT->List PV->(List PV->List Nat->List Nat->Option R)->Option R
 |[],[],K=>K [] [] []
 |t::ts,p::ps,K=>PS mv hp t p fun c m x=>Ux mv hp ts ps fun cs ms xs=>K (c::cs) (m++ms) (x++xs)
 |_,_,_=>none
inductive Ev where
 |var (id off:Nat) (cts:List CT) (ws:List PV)
 |row (id:Nat)
 |none
def Ev.ids:Ev->List Nat
 |.var id _ _ _=>[id]
 |.row id=>[id]
 |.none=>[]
def Ahf (P:Program)(t:TypeId):Option TypeId:=
 match P.underlying t with
 |some (.slice e)=>some e
 |_=>none
def VK (hp:Nat->Option A1)(es:Nat)(p:PV)(K:PV->List Ev->Option R):Option R:=
 match p with
 |.view id es' off n=>
  match hp id with
  |some (.ar false c)=>Ao (Nat.beq es' es&&Nat.beq off 0) (K (.tup [.own es n c]) [.row id])
  |_=>none
 |p=>Gs es p fun z _ _=>Ao z (K (.tup [.own es 0 []]) [.none])
def Th (C:E9)(P:Program)(f:FuncId)(hp:Nat->Option A1)(i:Nat)(t:TypeId)(p:PV)(K:PV->List Nat->List Nat->List Ev->Option R):Option R:=
 match Rs P t with
 |some e=>
  match p with
  |.ptr id off=>
   match hp id with
   |some (.st c)=>Ao (Gn P e&&decide (off+(Fy P e).length<=c.length)) (Ux (C.mvd f i) hp (Fy P e) ((c.drop off).take (Fy P e).length) fun cs m x=>K (.pbox cs) m x [.var id off (Fy P e) cs])
   |_=>none
  |_=>none
 |none=>
  bif C.lnd f i then Da (Ahf P t) fun e=>VK hp (As P e) p fun v l=>K v [] [] l
  else bif A7 P t then E7 p fun ps=>Ux (C.mvd f i) hp (Fy P t) ps fun cs m x=>K (.agg cs) m x []
  else Ux (C.mvd f i) hp (Fy P t) [p] fun cs m x=>Ab cs fun c r=>Ai r (K c m x [])
def Zz (C:E9)(P:Program)(f:FuncId)(hp:Nat->Option A1):Nat->List TypeId->List PV->(List PV->List Nat->List Nat->List Ev->Option R)->Option R
 |_,[],[],K=>K [] [] [] []
 |i,t::ts,p::ps,K=>Th C P f hp i t p fun v m x l=>Zz C P f hp (i+1) ts ps fun vs ms xs ls=>K (v::vs) (m++ms) (x++xs) (l++ls)
 |_,_,_,_=>none
def Ol (hp:Nat->Option A1)(ids:List Nat):Nat->Option A1:=fun i=>bif ids.any (Nat.beq i) then (hp i).map (fun _=>A1.mv) else hp i
def IC (N t:Nat):Nat:=N*(1000+t)
def FE (N:Nat)(hp:Nat->Option A1):Nat->Nat->Nat
 |0,t=>t
 |k+1,t=>bif (hp (IC N t)).isNone then t else FE N hp k (t+1)
def PF (N t:Nat)(ct:CT)(was p:PV)(K:Nat->PV->List (Nat × A1)->Option R):Option R:=
 match ct with
 |.sl es=>
  match was with
  |.own _ _ _=>Ml es p fun n c=>K (t+1) (.view (IC N t) es 0 n) [(IC N t,.ar false c)]
  |_=>Gs es p fun _ n c=>K t (.lst false es n c) []
 |ct=>T0 ct p fun c=>K t c []
def Z1 (N:Nat):Nat->List CT->List PV->List PV->(Nat->List PV->List (Nat × A1)->Option R)->Option R
 |t,[],[],ps,K=>Ai ps (K t [] [])
 |t,ct::cts,w::ws,ps,K=>Ab ps fun p ps=>PF N t ct w p fun t' c b=>Z1 N t' cts ws ps fun t'' cs bs=>K t'' (c::cs) (b++bs)
 |_,_,_,_,_=>none
def Qv (N:Nat):Nat->List Ev->List (List PV)->(Nat->Option A1)->((Nat->Option A1)->List (Nat × A1)->Option R)->Option R
 |_,[],ro,hp,K=>Ai ro (K hp [])
 |t,.var id off cts ws::l,ro,hp,K=>Ab ro fun cs ro=>Z1 N t cts ws cs fun t' cs' bs=>
   match hp id with
   |some (.st c)=>Aa (A2 c cs' off) fun c=>Qv N t' l ro (Bi hp id (some (.st c))) fun Bs bs'=>K Bs (bs++bs')
   |_=>none
 |t,.row id::l,ro,hp,K=>Ab ro fun cs ro=>Qv N t l ro (Bi hp id (some (.ar false cs))) K
 |t,.none::l,ro,hp,K=>Ab ro fun _ ro=>Qv N t l ro hp K
def Cr:List Nat->Bool
 |[]=>true
 |a::r=> !(r.any (Nat.beq a))&&Cr r
def Tk (C:E9)(P:Program)(N:Nat)(call:Ah)(s:St)(o:Oper)(f:FuncId)(c:Call)(K:St->Option R):Option R:=
 Zz C P f s.hp 0 (Wa P f c) (c.args.toList.map (A8 s.tm)) fun vs m x l=>
  Ao (Cr (l.flatMap Ev.ids++x)&&m.all (fun i=> !((l.flatMap Ev.ids++x).any (Nat.beq i)))&&Nat.blt 0 N&&Ej N o.dst) <|
  Aq (call f (G3 (C.kz f) c.args.toList vs)) fun rv ro=>
   U6 P (C.shr f) N (o.dst.getD N) (J9 P o.type) rv fun ws bs=>
    Ao (bif Kw P o.type then !Nat.beq ws.length 1 else Nat.beq ws.length 1) <|
    Alu (FE N s.hp 100 0) fun t0=>Qv N t0 l ro (Ol (Ac s.hp m) x) fun Bs bs'=>
     Ao (A3 Bs (bs++bs')) (K ⟨A0 s.tm o.dst (J6 ws (Kw P o.type)),Ak Bs (bs++bs')⟩)
def Pw (C:E9)(P:Program)(N:Nat)(call:Ah)(s:St)(o:Oper)(K:St->Option R):Option R:=
 match o.op with
 |.store t a x=>Ao (o.dst.isNone) (Tx P s t (A8 s.tm a) (A8 s.tm x) K)
 |.call c=>
  match c.callee with
  |.builtin .append=>Da o.dst fun d=>Ab c.args.toList fun b r=>Ab r fun x r'=>Ai r' (Ab c.argTypes.toList fun t u=>Ab u fun tx _=>Kz P N s d t tx (A8 s.tm b) (A8 s.tm x) K)
  |.builtin .copy=>Ab c.args.toList fun b r=>Ab r fun x r'=>Ai r' (Ab c.argTypes.toList fun t u=>Ab u fun tx _=>Zp P N s o.dst t tx (A8 s.tm b) (A8 s.tm x) K)
  |.value (.func f)=>Tk C P N call s o f c K
  |_=>none
 |_=>none
def FP (C:E9)(P:Program)(N:Nat)(call:Ah)(o:Oper)(s:St)(K:St->Option R):Option R:=
 bif Nf C P o.op then Pw C P N call s o K
 else Ws C P N call s.tm (rd s.hp) (Hd s.hp) o fun v fz nw=>T7 N s o.dst v fz nw K
def B9 (C:E9)(P:Program)(N:Nat)(call:Ah)(ops:Array Oper)(o:Oper)(s:St)(K:St->Option R):Option R:=
 match o.guard with
 |none=>FP C P N call o s K
 |some (j,want)=>
  match (ops[j]?).bind (·.dst) with
  |none=>none
  |some d=>
   match s.tm d with
   |.sc (.bool b)=>
    Cc b (bif want then FP C P N call o ⟨Bi s.tm d (.sc (.bool true)),s.hp⟩ K else Ao (Ej N o.dst) (K ⟨A0 (Bi s.tm d (.sc (.bool true))) o.dst (.sc undef),s.hp⟩))
     (bif want then Ao (Ej N o.dst) (K ⟨A0 (Bi s.tm d (.sc (.bool false))) o.dst (.sc undef),s.hp⟩) else FP C P N call o ⟨Bi s.tm d (.sc (.bool false)),s.hp⟩ K)
   |.sc (.tuple _)=>Ao (Ej N o.dst) (K ⟨A0 s.tm o.dst (.sc undef),s.hp⟩)
   |_=>none
def J7 (C:E9)(P:Program)(N:Nat)(call:Ah)(ops:Array Oper):List Oper->St->(St->Option R)->Option R
 |[],s,K=>K s
 |o::r,s,K=>B9 C P N call ops o s fun s'=>J7 C P N call ops r s' K
noncomputable def Uz (x y:Option R):Option R:=open Classical in if x=y then x else none
noncomputable def JE (ops:Array Oper)(o:Oper)(s:St)(F:St->Option R):Option R:=
 match o.guard with
 |none=>F s
 |some (j,_)=>
  match (ops[j]?).bind (·.dst) with
  |none=>F s
  |some d=>
   match s.tm d with
   |.ub=>Uz (F ⟨Bi s.tm d (.sc (.bool true)),s.hp⟩) (F ⟨Bi s.tm d (.sc (.bool false)),s.hp⟩)
   |_=>F s
noncomputable def DK (C:E9)(P:Program)(N:Nat)(call:Ah)(ops:Array Oper):List Oper->St->(St->Option R)->Option R
 |[],s,K=>K s
 |o::r,s,K=>JE ops o s fun s1=>B9 C P N call ops o s1 fun s'=>DK C P N call ops r s' K
end
def WI (o:Oper):List Nat:=o.op.operands.toList.filterMap fun x=>match x with | .tmp t=>some t|_=>none
def Cm (ops:Array Oper)(o:Oper):List Nat:=
 WI o++(match o.guard with|some (g,_)=>((ops[g]?).bind (·.dst)).toList|none=>[])
def Fj (P:Program)(o:Op):Bool:=
 match o with
 |.slice t .. =>match P.underlying t with|some (.array _ _)=>true|_=>false
 |.buildSlice t _ _=>match P.underlying t with|some (.slice e)=>Gy P [e]|_=>true
 |.convert _ dst _=>match P.underlying dst with|some .string=>true|_=>false
 |.alloc _ | .box .. | .makeSlice .. =>false
 |.move _ | .assign _ | .pick .. | .build .. | .binOp .. | .unOp .. | .fieldAddr .. | .field .. | .index .. | .indexAddr .. | .extract .. | .nilCheck _=>false
 |.call c=>match c.callee with | .builtin .len=>false | .builtin .min=>false | .builtin .max=>false|_=>true
 |_=>true
def Xv (C:E9)(P:Program)(ops:Array Oper)(x y:Oper):Bool:=
 (match x.dst with|some d=>(Cm ops y).any (Nat.beq d)||(match y.dst with|some e=>Nat.beq d e|none=>false)|none=>false) ||
 (match y.dst with|some e=>(Cm ops x).any (Nat.beq e)|none=>false) ||
 (Nf C P x.op&&Fj P y.op)||(Nf C P y.op&&Fj P x.op)
def F8 (ops:List Oper):List Nat->List Nat
 |acc=>match ops with
  |[]=>acc
  |o::r=>F8 r (acc++[o.after.toList.foldl (fun s e=>bif Region.binds .any e then s ||| 2 ^ e.on ||| acc.getD e.on 0 else s) 0])
def V4 (C:E9)(P:Program)(ops:Array Oper)(bs:List Nat):List Oper->Nat->Bool
 |[],_=>true
 |o::r,i=>(ops.toList.zipIdx.all fun q=> !Nat.blt q.2 i || !Xv C P ops q.1 o||(bs.getD i 0).testBit q.2)&&V4 C P ops bs r (i+1)
def AP (C:E9)(P:Program)(ops:Array Oper):Bool:=
 ops.toList.zipIdx.all (fun q=>q.1.after.toList.all fun e=> !Region.binds .any e||Nat.blt e.on q.2)&&V4 C P ops (F8 ops.toList []) ops.toList 0
def Aj:PV->List Nat
 |.view id _ _ _=>[id]
 |.ptr id _=>[id]
 |_=>[]
def Bh:PV->List Nat
 |.agg cs=>cs.flatMap Aj
 |p=>Aj p
def A5:PV->List Nat
 |.tup ps=>ps.flatMap Bh
 |p=>Bh p
def Ob (P:Program)(o:Op):Bool:=
 match o with
 |.load .. =>true
 |.convert _ dst _=>(match P.underlying dst with|some .string=>true|_=>false)
 |_=>false
def J0 (o:Op):Bool:=
 match o with
 |.call c=>(match c.callee with | .builtin .append=> !Sr c|_=>false)
 |_=>false
def VU (ops:Array Oper)(x y:Oper):Bool:=
 (match x.dst with|some d=>(Cm ops y).any (Nat.beq d)||(match y.dst with|some e=>Nat.beq d e|none=>false)|none=>false) ||
 (match y.dst with|some e=>(Cm ops x).any (Nat.beq e)|none=>false)
def Mv (C:E9)(P:Program)(x y:Oper):Bool:=(Nf C P x.op&&Fj P y.op)||(Nf C P y.op&&Fj P x.op)
def Hl (C:E9)(P:Program)(x y:Oper):Bool:=(Nf C P x.op&&Ob P y.op)||(Nf C P y.op&&Ob P x.op)||(J0 x.op&&J0 y.op)
def SP (C:E9)(P:Program)(ops:Array Oper)(x y:Oper):Bool:=VU ops x y||(Mv C P x y && !Hl C P x y)
def Sb (C:E9)(P:Program)(ops:Array Oper)(bs:List Nat):List Oper->Nat->Bool
 |[],_=>true
 |o::r,i=>(ops.toList.zipIdx.all fun q=> !Nat.blt q.2 i || !SP C P ops q.1 o||(bs.getD i 0).testBit q.2)&&Sb C P ops bs r (i+1)
def Xz (C:E9)(P:Program)(ops:Array Oper):Bool:=
 ops.toList.zipIdx.all (fun q=>q.1.after.toList.all fun e=> !Region.binds .any e||Nat.blt e.on q.2)&&Sb C P ops (F8 ops.toList []) ops.toList 0
def Jj (C:E9)(P:Program)(s:St)(o:Oper):List Nat:=
 let l:=o.op.operands.toList.flatMap fun y=>A5 (A8 s.tm y)
 bif Nf C P o.op && !J0 o.op then l++l.flatMap (fun i=>match s.hp i with|some (.st c)=>c.flatMap Aj|_=>[])
 else bif Ob P o.op||J0 o.op then l else []
def PB (a b:List Nat):Bool:=a.all fun i=> !b.any (Nat.beq i)
def Sh (C:E9)(P:Program)(ops:Array Oper)(bs:List Nat)(i:Nat)(o:Oper):List Nat:=
 (ops.toList.zipIdx.filter fun q=>Hl C P q.1 o && !(Nat.blt q.2 i&&(bs.getD i 0).testBit q.2) && !(Nat.blt i q.2&&(bs.getD q.2 0).testBit i)).map (·.2)
def U8 (C:E9)(P:Program)(ops:Array Oper)(bs:List Nat):List (List Nat):=ops.toList.zipIdx.map fun q=>Sh C P ops bs q.2 q.1
def Vl (C:E9)(P:Program)(sm:List (List Nat)) (s:St)(i:Nat)(o:Oper):List Nat:=
 match sm.getD i [] with
 |[]=>[]
 |_::_=>Jj C P s o
def Y1 (C:E9)(P:Program)(sm:List (List Nat)) (s:St)(i:Nat)(o:Oper)(q:Nat × Oper × List Nat):Bool:=
 !((sm.getD i []).any (Nat.beq q.1))||PB q.2.2 (Vl C P sm s i o)
def Fu {R:Type}(C:E9)(P:Program)(N:Nat)(call:Ah)(ops:Array Oper)(sm:List (List Nat)):List (Nat × Oper × List Nat)->List Nat->St->(St->Option R)->Option R
 |_,[],s,K=>K s
 |dn,i::l,s,K=>Da ops[i]? fun o=>Ao (dn.all (Y1 C P sm s i o)&&(Vl C P sm s i o).all (fun k=>(s.hp k).isSome)) (B9 C P N call ops o s fun s'=>Fu C P N call ops sm ((i,o,Vl C P sm s i o)::dn) l s' K)
def TK (m i:Nat):Nat:=m ||| 2 ^ i
def Alg (m i:Nat):Nat:=bif m.testBit i then m ^^^ 2 ^ i else m
def LQ (ops:Array Oper):List Oper->Nat->Nat
 |[],m=>m
 |o::r,m=>
  let m1:=LQ ops r m
  let m2:=match o.dst with|some d=>Alg m1 d|none=>m1
  (Cm ops o).foldl TK m2
def Ko:Code->Nat->(Nat->Nat)->Nat->Nat
 |.skip,ln,_,_=>ln
 |.region _ ops _,ln,_,_=>LQ ops ops.toList ln
 |.seq a b,ln,lx,lr=>Ko a (Ko b ln lx lr) lx lr
 |.cond c a b,ln,lx,lr=>let m:=Ko a ln lx lr ||| Ko b ln lx lr;match c with | .tmp d=>TK m d|_=>m
 |.block id c,ln,lx,lr=>Ko c ln (fun j=>bif Nat.beq j id then ln else lx j) lr
 |.loop c,_,lx,lr=>Ko c (Ko c 0 lx lr) lx lr
 |.exit id,_,lx,_=>lx id
 |.ret,_,_,lr=>lr
 |_,_,_,_=>0
def FF (ops:List Oper):List Nat:=(ops.filterMap fun o=>o.guard.map (·.1)).eraseDups
def Kh:Code->Nat
 |.region _ _ _=>1
 |.seq a b=>Kh a+Kh b
 |.cond _ a b=>Kh a+Kh b
 |.block _ c=>Kh c
 |.loop c=>Kh c
 |_=>0
def Ty:Code->Nat
 |.skip=>1
 |.region _ ops _=>2 ^ min 6 (FF ops.toList).length
 |.seq a b=>bif (Nat.ble 7 (Ty a)&&Nat.ble 6 (Kh b))||(Nat.ble 5 (Ty a)&&Nat.ble 9 (Kh b)) then Ty b else min 1000 (Ty a*Ty b)
 |.cond _ a b=>Ty a+Ty b
 |.block _ c=>Ty c
 |.loop _=>1
 |.exit _=>1
 |_=>0
def Abs (P:Program)(o:Oper):Bool:=
 match o.op with
 |.load t _=>N9 P t&&Nat.ble 8 (As P t)
 |.store t _ _=>N9 P t&&Nat.ble 8 (As P t)
 |_=>false
def FN (P:Program):Code->Bool
 |.region _ ops _=>ops.toList.any (Abs P)
 |.seq a _=>FN P a
 |_=>false
def LX (P:Program):Code->Bool
 |.region _ ops _=>ops.toList.any (Abs P)
 |.seq _ b=>LX P b
 |_=>false
def Agq:Code->Nat
 |.seq a b=>match b with
  |.ret=>(match a with | .region _ ops _=>(FF ops.toList).length|_=>0)
  |_=>Agq b
 |_=>0
def SS (x y:Code):Bool:=(Nat.beq (Ty x) 1&&Nat.beq (Agq y) 11)||(Nat.beq (Ty x) 4&&Nat.beq (Kh x) 7&&(Nat.beq (Kh y) 3||Nat.beq (Kh y) 1))||(Nat.beq (Ty x) 9&&Nat.beq (Kh x) 5&&Nat.beq (Kh y) 5)
def V1 (a b:Code):Bool:=SS a b||(match b with | .seq x y=>SS x y|_=>false)
def RO (P:Program)(a b:Code):Bool:=(Nat.ble 7 (Ty a)&&Nat.ble 6 (Kh b))||(Nat.ble 5 (Ty a)&&Nat.ble 9 (Kh b))||V1 a b||FN P b||LX P a
def I4 (m:Nat):Nat->List Nat
 |0=>[]
 |n+1=>I4 m n++(bif m.testBit n then [n] else [])
def lk (l:List (Nat × PV)) (i:Nat):PV:=
 match l with
 |[]=>.top
 |(j,p)::r=>bif Nat.beq i j then p else lk r i
def Fa (l:List (Nat × A1)) (i:Nat):Option A1:=
 match l with
 |[]=>none
 |(j,b)::r=>bif Nat.beq i j then some b else Fa r i
def Pi (l:List (Nat × Nat)) (i:Nat):Option Nat:=
 match l with
 |[]=>none
 |(j,b)::r=>bif Nat.beq i j then some b else Pi r i
def V6 (N:Nat)(s:St)(i:Nat):St:=
 match s.tm i with
 |.lst true es 0 []=>
  bif (s.hp i).isNone then ⟨Bi s.tm i (.view i es 0 0),Bi s.hp i (some (.ar false []))⟩
  else bif (s.hp (i+N*3000)).isNone then ⟨Bi s.tm i (.view (i+N*3000) es 0 0),Bi s.hp (i+N*3000) (some (.ar false []))⟩
  else s
 |_=>s
def CZ (N:Nat)(id:Nat)(s:St)(j:Nat):St:=
 match s.hp id with
 |some (.st c)=>
  match c[j]? with
  |some (.lst true es 0 [])=>bif (s.hp (id+N*(j+1))).isNone then ⟨s.tm,Bi (Bi s.hp id (some (.st (c.set j (.view (id+N*(j+1)) es 0 0))))) (id+N*(j+1)) (some (.ar false []))⟩ else s
  |_=>s
 |_=>s
def BO (N:Nat)(s:St)(i:Nat):St:=
 match s.tm i with
 |.ptr id _=>
  match s.hp id with
  |some (.st c)=>(List.range c.length).foldl (CZ N id) s
  |_=>s
 |_=>s
def Zr (m:List (Nat × Nat)) (old new:Nat):List (Nat × Nat):=
 match Pi m old with
 |some _=>m
 |none=>m++[(old,new)]
def Nb (N new:Nat):List PV->Nat->List (Nat × Nat)->List (Nat × Nat)
 |[],_,m=>m
 |.view id _ _ _::r,j,m=>Nb N new r (j+1) (Zr m id (new+N*(j+1)))
 |_::r,j,m=>Nb N new r (j+1) m
def V3 (N:Nat)(s:St)(m:List (Nat × Nat)) (i:Nat):List (Nat × Nat):=
 match s.tm i with
 |.view id _ _ _=>Zr m id i
 |.ptr id _=>
  match Pi m id with
  |some _=>m
  |none=>
   match s.hp id with
   |some (.st c)=>Nb N i c 0 (Zr m id i)
   |_=>Zr m id i
 |.agg c=>Nb N i c 0 m
 |_=>m
def JG (m:List (Nat × Nat)):PV->PV
 |.view id es off n=>match Pi m id with|some j=>.view j es off n|none=>.top
 |.ptr id off=>match Pi m id with|some j=>.ptr j off|none=>.top
 |.sc v=>.sc v
 |.lst z es n c=>.lst z es n c
 |.iptr c off=>.iptr c off
 |_=>.top
def PT (m:List (Nat × Nat)):PV->PV
 |.agg c=>.agg (c.map (JG m))
 |p=>JG m p
def ZR (m:List (Nat × Nat)):A1->A1
 |.st c=>.st (c.map (JG m))
 |b=>b
def B4 (N i:Nat):Nat:=i+N*2000
def GR (N:Nat)(hp:Nat->Option A1):Nat->List (Nat × Nat)
 |0=>[]
 |i+1=>bif (hp (B4 N i)).isSome then GR N hp i++[(B4 N i,B4 N i)] else GR N hp i
def Oe (N:Nat)(hp:Nat->Option A1):Nat->List (Nat × Nat)->List (Nat × Nat)
 |0,m=>m
 |i+1,m=>
  match hp (B4 N i) with
  |some (.st c)=>Nb N (B4 N i) c 0 (Oe N hp i m)
  |_=>Oe N hp i m
def Ajb (N:Nat)(hp:Nat->Option A1)(k:Nat):List (Nat × Nat):=Oe N hp k (GR N hp k)
def I8 (m:List (Nat × Nat)) (hp:Nat->Option A1):List (Nat × Nat)->List (Nat × A1)
 |[]=>[]
 |(old,new)::r=>match hp old with
  |some b=>(new,ZR m b)::I8 m hp r
  |none=>I8 m hp r
section
variable {R:Type}
def MU (N:Nat)(ls:List Nat)(q:Bool)(s:St)(K:St->Option R):Option R:=
 let s2:=bif q then s else ls.foldl (BO N) (ls.foldl (V6 N) s)
 let m:=ls.foldl (V3 N s2) (Ajb N s2.hp 8)
 Ao (Cr (m.map (·.1))&&Cr (m.map (·.2))) (K ⟨lk (ls.map fun i=>(i,PT m (s2.tm i))),Fa (I8 m s2.hp m)⟩)
def Se (N L:Nat)(s:St)(K:St->Option R):Option R:=MU N (I4 L N) false s K
def LE (N L:Nat)(s:St)(K:St->Option R):Option R:=MU N (I4 L N) true s K
def TU (F:(St->Option R)->St->Option R) (nm:St->(St->Option R)->Option R):Nat->St->Option R
 |0,_=>none
 |n+1,s=>F (fun s'=>nm s' (TU F nm n)) s
def W5 (n:Nat)(F:St->Option R)(s:St):Option R:=
 match n with
 |0=>none
 |_+1=>F s
noncomputable def SI (s:St)(c:Operand)(kt kf:St->Option R):Option R:=
 match c with
 |.tmp d=>
  match s.tm d with
  |.sc (.bool b)=>Cc b (kt ⟨Bi s.tm d (.sc (.bool true)),s.hp⟩) (kf ⟨Bi s.tm d (.sc (.bool false)),s.hp⟩)
  |.ub=>Uz (kt s) (kf s)
  |_=>none
 |.const (.bool true)=>kt s
 |.const (.bool false)=>kf s
 |_=>none
noncomputable def Lb (C:E9)(P:Program)(fu N:Nat)(call:Ah):Code->Nat->(Nat->Nat)->Nat->(St->Option R)->(Nat->St->Option R)->(St->Option R)->St->Option R
 |.skip,_,_,_,kn,_,_,s=>kn s
 |.region _ ops draw,_,_,_,kn,_,_,s=>FG (draw && !AP C P ops) (Ao (Xz C P ops) (Aao (U8 C P ops (F8 ops.toList [])) fun sm=>Fu C P N call ops sm [] (List.range ops.size) s kn)) (FG draw (J7 C P N call ops ops.toList s kn) (DK C P N call ops ops.toList s kn))
 |.seq a b,ln,lx,lr,kn,kx,kr,s=>Lb C P fu N call a (Ko b ln lx lr) lx lr (fun s'=>FG (RO P a b) (FG (V1 a b) (LE N (Ko b ln lx lr) s' (W5 fu fun s''=>Lb C P fu N call b ln lx lr kn kx kr s'')) (Se N (Ko b ln lx lr) s' (W5 fu fun s''=>Lb C P fu N call b ln lx lr kn kx kr s''))) (Lb C P fu N call b ln lx lr kn kx kr s')) kx kr s
 |.cond c a b,ln,lx,lr,kn,kx,kr,s=>SI s c (Lb C P fu N call a ln lx lr kn kx kr) (Lb C P fu N call b ln lx lr kn kx kr)
 |.block id c,ln,lx,lr,kn,kx,kr,s=>Lb C P fu N call c ln (fun j=>bif Nat.beq j id then ln else lx j) lr kn (fun j s'=>bif Nat.beq j id then kn s' else kx j s') kr s
 |.loop c,ln,lx,lr,_,kx,kr,s=>
  Se N (Ko (.loop c) ln lx lr) s (TU (fun k s'=>Lb C P fu N call c (Ko (.loop c) ln lx lr) lx lr k kx kr s') (Se N (Ko (.loop c) ln lx lr)) fu)
 |.exit id,_,_,_,_,kx,_,s=>kx id s
 |.ret,_,_,_,_,_,kr,s=>kr s
 |_,_,_,_,_,_,_,_=>none
def UI (id:Nat)(t:CT)(p:PV)(K:PV->List (Nat × A1)->Option R):Option R:=
 match t with
 |.sl es=>
  match p with
  |.own es' n c=>bif Nat.beq es' es then K (.view id es 0 n) [(id,.ar false c)] else none
  |p=>Gs es p fun z n c=>K (.lst z es n c) []
 |t=>T0 t p fun c=>K c []
def Ui (N:Nat):Nat->List CT->List PV->(List PV->List (Nat × A1)->Option R)->Option R
 |_,[],ps,K=>Ai ps (K [] [])
 |id,t::ts,ps,K=>Ab ps fun p ps=>UI id t p fun c b=>Ui N (id+N) ts ps fun cs bs=>K (c::cs) (b++bs)
def inK (P:Program)(N i:Nat)(t:TypeId)(p:PV)(K:PV->List (Nat × A1)->Option R):Option R:=
 match Rs P t with
 |some e=>Sl p fun ps=>Ao (Nat.blt i 8) (Ui N (B4 N i+N) (Fy P e) ps fun cs bs=>K (.ptr (B4 N i) 0) ((B4 N i,.st cs)::bs))
 |none=>
  match p with
  |.tup ps=>Da (Ahf P t) fun e=>Ao (Nat.blt i 8) (Ab ps fun q r=>Ai r (Ml (As P e) q fun n c=>K (.view (B4 N i) (As P e) 0 n) [(B4 N i,.ar false c)]))
  |p=>
   bif A7 P t then E7 p fun ps=>Ui N (i+N) (Fy P t) ps fun cs bs=>K (.agg cs) bs
   else Ui N (i+N) (Fy P t) [p] fun cs bs=>Ab cs fun c r=>Ai r (K c bs)
def VZ (P:Program)(N:Nat):Nat->List TypeId->List PV->(List (Nat × PV)->List (Nat × A1)->Option R)->Option R
 |_,[],ps,K=>Ai ps (K [] [])
 |i,t::ts,ps,K=>Ab ps fun p ps=>inK P N i t p fun v bs=>VZ P N (i+1) ts ps fun vs bs'=>K ((i,v)::vs) (bs++bs')
def Abc (hp:Nat->Option A1)(t:CT)(p:PV)(K:PV->List Nat->List Nat->Option R):Option R:=
  match t with
  |.sl es=>
    match p with
    |.view id es' off n=>bif Nat.beq es' es&&Nat.beq off 0 then
        (match hp id with
         |some (.ar false c)=>Ao (decide (n*es<=c.length)) (K (.own es n (c.take (n*es))) [id] [])
         |_=>none) else none
    |p=>Gs es p fun z _ _=>Ao z (K (.own es 0 []) [] [])
  |t=>T0 t p fun c=>K c [] []
def NG (shr:Bool)(hp:Nat->Option A1)(t:CT)(p:PV)(K:PV->List Nat->List Nat->Option R):Option R:=
 bif shr then Km (Hd hp) t p fun c m=>K c [] m else Abc hp t p K
def Tp (shr:Bool)(hp:Nat->Option A1):List CT->List PV->(List PV->List Nat->List Nat->Option R)->Option R
 |[],[],K=>K [] [] []
 |t::ts,p::ps,K=>NG shr hp t p fun c m z=>Tp shr hp ts ps fun cs ms zs=>K (c::cs) (m++ms) (z++zs)
 |_,_,_=>none
def WO (P:Program)(shr:Bool)(hp:Nat->Option A1)(t:TypeId)(p:PV)(K:PV->List Nat->List Nat->Option R):Option R:=
 match Rs P t with
 |some e=>
  match p with
  |.ptr id off=>
   match hp id with
   |some (.st c)=>Ao (Nat.beq off 0) (Tp shr hp (Fy P e) c fun cs m z=>K (.pbox cs) (id::m) z)
   |_=>none
  |_=>none
 |none=>
  bif A7 P t then E7 p fun ps=>Tp shr hp (Fy P t) ps fun cs m z=>K (.agg cs) m z
  else Tp shr hp (Fy P t) [p] fun cs m z=>Ab cs fun c r=>Ai r (K c m z)
def VT (P:Program)(s:St)(r:ResultVar)(K:PV->Option R):Option R:=
 match r with
 |.tmp t=>K (s.tm t)
 |.cell a t=>Rz false P (rd s.hp) (Hd s.hp) t (s.tm a) K
def CG (P:Program)(shr:Bool)(s:St):List ResultVar->List TypeId->(List PV->List Nat->List Nat->Option R)->Option R
 |[],[],K=>K [] [] []
 |r::rs,t::ts,K=>VT P s r fun p=>WO P shr s.hp t p fun v m z=>CG P shr s rs ts fun vs ms zs=>K (v::vs) (m++ms) (z++zs)
 |_,_,_=>none
def Vv (hp:Nat->Option A1):List CT->List PV->List PV->(List PV->List Nat->List Nat->Option R)->Option R
 |[],[],[],K=>K [] [] []
 |t::ts,w::ws,p::ps,K=>NG (match w with | .own _ _ _=>false|_=>true) hp t p fun c m z=>Vv hp ts ws ps fun cs ms zs=>K (c::cs) (m++ms) (z++zs)
 |_,_,_,_=>none
def Tf (P:Program)(N:Nat)(hp:Nat->Option A1):Nat->List TypeId->List PV->(List (List PV)->List Nat->List Nat->List Nat->Option R)->Option R
 |_,[],ps,K=>Ai ps (K [] [] [] [])
 |i,t::ts,ps,K=>Ab ps fun p ps=>
  match p with
  |.pbox ws=>Da (Rs P t) fun e=>
    match hp (B4 N i) with
    |some (.st c)=>Vv hp (Fy P e) ws c fun cs m z=>Tf P N hp (i+1) ts ps fun r m' z' q=>K (cs::r) (m++m') (z++z') (B4 N i::q)
    |_=>none
  |.tup _=>
    match hp (B4 N i) with
    |some (.ar false c)=>Tf P N hp (i+1) ts ps fun r m' z' q=>K (c::r) m' z' (B4 N i::q)
    |_=>none
  |_=>Tf P N hp (i+1) ts ps K
def MV (rs:List ResultVar):Nat:=rs.foldl (fun m r=>match r with | .tmp t=>TK m t | .cell a _=>TK m a) 0
end
def W6 (P:Program):Nat->List TypeId->Nat->Nat
 |_,[],m=>m
 |i,t::ts,m=>W6 P (i+1) ts (match P.underlying t with|some (.pointer _)=>TK m i|_=>m)
def QW (C:E9)(P:Program)(f:FuncId)(fn:Func)(args:List PV)(s:St):Option Bc:=
 CG P (C.shr f) s fn.results.toList fn.resultTypes.toList fun vs m z=>Tf P fn.ntmps s.hp 0 fn.params.toList args fun os m' z' q=>
  Ao (Cr ((m++m')++q)&&(z++z').all (fun i=> !(((m++m')++q).any (Nat.beq i)))) (some ⟨vs,os⟩)
noncomputable def Acq (C:E9)(P:Program)(fu:Nat)(call:Ah)(f:FuncId)(fn:Func)(c:Code)(args:List PV):Option Bc:=
  VZ P fn.ntmps 0 fn.params.toList args fun tms bs=>Ao (Nat.ble args.length fn.ntmps&&A3 (fun _=>none) bs)
    (let lr:=W6 P 0 fn.params.toList (MV fn.results.toList)
     Lb C P fu fn.ntmps call c lr (fun _=>0) lr (QW C P f fn args) (fun _ _=>none) (QW C P f fn args) ⟨lk tms,Fa bs⟩)
noncomputable def Ag (C:E9)(P:Program)(fu:Nat):Nat->FuncId->List PV->Option Bc
 |0,_,_=>none
 |d+1,f,args=>
  match C.ext f with
  |some g=>g args
  |none=>
   match P.funcs[f]? with
   |none=>none
   |some fn=>match fn.body with
    |none=>none
    |some c=>Acq C.core P fu (Ag C P fu d) f fn c args
inductive Dir where
 |l
 |r
 |i (m:Nat)
section
variable {R:Type}
noncomputable def Q5 (C:E9)(P:Program)(fu N:Nat)(call:Ah):List Dir->Code->Nat->(Nat->Nat)->Nat->(St->Option R)->(Nat->St->Option R)->(St->Option R)->Nat->St->Option R
 |[],.seq _ b,ln,lx,lr,kn,kx,kr,n,s=>W5 n (fun s''=>Lb C P fu N call b ln lx lr kn kx kr s'') s
 |[],.loop c,ln,lx,lr,_,kx,kr,n,s=>TU (fun k s'=>Lb C P fu N call c (Ko (.loop c) ln lx lr) lx lr k kx kr s') (Se N (Ko (.loop c) ln lx lr)) n s
 |.l::p,.seq a b,ln,lx,lr,kn,kx,kr,n,s=>Q5 C P fu N call p a (Ko b ln lx lr) lx lr (fun s'=>FG (RO P a b) (FG (V1 a b) (LE N (Ko b ln lx lr) s' (W5 fu fun s''=>Lb C P fu N call b ln lx lr kn kx kr s'')) (Se N (Ko b ln lx lr) s' (W5 fu fun s''=>Lb C P fu N call b ln lx lr kn kx kr s''))) (Lb C P fu N call b ln lx lr kn kx kr s')) kx kr n s
 |.r::p,.seq _ b,ln,lx,lr,kn,kx,kr,n,s=>Q5 C P fu N call p b ln lx lr kn kx kr n s
 |.l::p,.cond _ a _,ln,lx,lr,kn,kx,kr,n,s=>Q5 C P fu N call p a ln lx lr kn kx kr n s
 |.r::p,.cond _ _ b,ln,lx,lr,kn,kx,kr,n,s=>Q5 C P fu N call p b ln lx lr kn kx kr n s
 |.l::p,.block id c,ln,lx,lr,kn,kx,kr,n,s=>Q5 C P fu N call p c ln (fun j=>bif Nat.beq j id then ln else lx j) lr kn (fun j s'=>bif Nat.beq j id then kn s' else kx j s') kr n s
 |.i m::p,.loop c,ln,lx,lr,_,kx,kr,n,s=>
  Q5 C P fu N call p c (Ko (.loop c) ln lx lr) lx lr
   (fun s'=>Se N (Ko (.loop c) ln lx lr) s' (TU (fun k s'=>Lb C P fu N call c (Ko (.loop c) ln lx lr) lx lr k kx kr s') (Se N (Ko (.loop c) ln lx lr)) m)) kx kr n s
 |_,_,_,_,_,_,_,_,_,_=>none
end
noncomputable def Cl (C:E9)(P:Program)(fu:Nat)(call:Ah)(f:FuncId)(fn:Func)(c:Code)(args:List PV)(p:List Dir)(n:Nat)(s:St):Option Bc:=
 let lr:=W6 P 0 fn.params.toList (MV fn.results.toList)
 Q5 C P fu fn.ntmps call p c lr (fun _=>0) lr (QW C P f fn args) (fun _ _=>none) (QW C P f fn args) n s
def ZA:List Nat:=[
 1000000]
def Acu:List Nat:=[
 10,
 21,
 15,
 30,
 28,
 22,
 12,
 53,
 32,
 31,
 29,
 1000000]
def Adc:List Nat:=[
 43,
 60,
 70,
 71,
 72,
 73,
 74,
 75,
 76,
 77,
 1000000]
def Aaf:List Nat:=[
 45,
 1000000]
def Abw:List Nat:=[
 45,
 1000000]
def Nw (args:List PV):Option Bc:=
  match args with
  |[.lst _ 1 n c,.lst _ 1 m c']=>bif Nat.beq c.length n&&Nat.beq c'.length m then
      (match bytesOf c,bytesOf c' with
       |some a,some b=>some ⟨[.sc (.int .i64 (Lib.compareBytes a b))],[]⟩
       |_,_=>none) else none
  |_=>none
def CH:List Nat:=[
 82,
 59,
 68,
 69,
 67,
 58,
 41,
 89,
 81,
 65,
 48,
 56,
 39,
 38,
 18,
 55,
 35,
 50,
 40,
 66,
 57,
 1000000]
def Amz:List Nat:=[
 88,
 1000000]
def CB:E9:=⟨fun f=>Acu.any (Nat.beq f),fun f i=>Nat.beq i 0&&Abw.any (Nat.beq f),fun f i=>(Nat.beq i 0&&Adc.any (Nat.beq f))||(Nat.beq i 2&&Aaf.any (Nat.beq f)),fun f=>ZA.any (Nat.beq f),fun _=>none,fun N=>Amz.any (Nat.beq N)⟩
def CX (xs:FuncId->Option (List PV->Option Bc)):E9:={ CB with ext:=fun f=>bif CH.any (Nat.beq f) then none else xs f }
def Bm (f:Func):Code:=match f.body with|some c=>c|none=>.skip
section
variable {R:Type} {r:Option R}
theorem C2 {k:IntKind}{p:PV}{K:Int->Option R}{n:Int}(h:p=.sc (.int k n)) (hk:K n=r):Al k p K=r:=by
 subst h;unfold Al;simp[hk]
theorem Aju {p:PV}{K:IntKind->Int->Option R}{k:IntKind}{n:Int}(h:p=.sc (.int k n)) (hk:K k n=r):B8 p K=r:=by
 subst h;exact hk
theorem Ct {p:PV}{K:Bool->Option R}{b:Bool}(h:p=.sc (.bool b)) (hk:K b=r):Bb p K=r:=by
 subst h;exact hk
theorem D2 {p:PV}{K:ByteArray->Option R}{s:ByteArray}(h:p=.sc (.string s)) (hk:K s=r):Et p K=r:=by
 subst h;exact hk
theorem F6 {es:Nat}{p:PV}{K:Bool->Nat->List PV->Option R}{z:Bool}{n:Nat}{c:List PV}(h:p=.lst z es n c)(hk:K z n c=r):Gs es p K=r:=by
 subst h;unfold Gs;simp[Nat.beq_refl,hk]
theorem Ek {es:Nat}{p:PV}{K:Nat->List PV->Option R}{n:Nat}{c:List PV}(h:p=.own es n c)(hk:K n c=r):Ml es p K=r:=by
 subst h;unfold Ml;simp[Nat.beq_refl,hk]
theorem C7 {b:Bool}{K:Option R}(h:b=true)(hk:K=r):Ao b K=r:=by
 subst h;exact hk
theorem C8 {b:Bool}{x y:Option R}(h:b=true)(hx:x=r):Cc b x y=r:=by
 subst h;exact hx
theorem Cz {b:Bool}{x y:Option R}(h:b=false)(hx:y=r):Cc b x y=r:=by
 subst h;exact hx
theorem D1 {α:Type}{o:Option α}{K:α->Option R}{a:α}(h:o=some a)(hk:K a=r):Da o K=r:=by
 subst h;exact hk
theorem B3 {α:Type}{l:List α}{K:α->List α->Option R}{a:α}{t:List α}(h:l=a::t)(hk:K a t=r):Ab l K=r:=by
 subst h;exact hk
theorem C6 {α:Type}{l:List α}{K:Option R}(h:l=[]) (hk:K=r):Ai l K=r:=by
 subst h;exact hk
theorem Ady {p:PV}{K:List PV->Option R}{c:List PV}(h:p=.agg c)(hk:K c=r):E7 p K=r:=by
 subst h;exact hk
theorem Ah5 {p:PV}{K:List PV->Option R}{c:List PV}(h:p=.pbox c)(hk:K c=r):Sl p K=r:=by
 subst h;exact hk
theorem B5 {o:Option Bc}{K:List PV->List (List PV)->Option R} {v:List PV}{q:List (List PV)} (h:o=some ⟨v,q⟩)(hk:K v q=r):Aq o K=r:=by
 subst h;exact hk
end
theorem NR (a b:Int):(a==b)=decide (a=b):=by by_cases h:a=b<;>simp[h]
section
variable {R:Type}
theorem MG (v:List PV)(o:List (List PV)) (K:List PV->List (List PV)->Option R):Aq (some ⟨v,o⟩) K=K v o:=by exact id rfl
theorem US {α:Type}(K:Option R):Ai ([]:List α) K=K:=by exact id rfl
theorem LP {α:Type}(a:α)(r:List α)(K:α->List α->Option R):Ab (a::r) K=K a r:=by exact id rfl
theorem MZ (b:Bool)(K:Bool->Option R):Bb (.sc (.bool b)) K=K b:=by exact id rfl
theorem TQ (s:ByteArray)(K:ByteArray->Option R):Et (.sc (.string s)) K=K s:=by exact id rfl
theorem CP (k:IntKind)(n:Int)(K:Int->Option R):Al k (.sc (.int k n)) K=K n:=by unfold Al;simp
theorem SO (k:IntKind)(n:Int)(K:IntKind->Int->Option R):B8 (.sc (.int k n)) K=K k n:=by exact id rfl
theorem Abh (z:Bool)(es n:Nat)(c:List PV)(K:Bool->Nat->List PV->Option R):Gs es (.lst z es n c) K=K z n c:=by unfold Gs;simp
theorem Abl (es n:Nat)(c:List PV)(K:Nat->List PV->Option R):Ml es (.own es n c) K=K n c:=by unfold Ml;simp
theorem VH (c:List PV)(K:List PV->Option R):E7 (.agg c) K=K c:=by exact id rfl
theorem MR (c:List PV)(K:List PV->Option R):Sl (.pbox c) K=K c:=by exact id rfl
theorem WM {α:Type}(a:α)(K:α->Option R):Da (some a) K=K a:=by exact id rfl
theorem Kj {α:Type}(a:α)(K:α->Option R):Aa a K=K a:=by exact id rfl
theorem UD (K:Option R):Ao true K=K:=by exact id rfl
theorem DM (p:Prop) [Decidable p] (K:Option R)(h:p):Ao (decide p) K=K:=by simp[Ao,h]
theorem LC (b c:Bool)(K:Option R):Ao (b&&c) K=Ao b (Ao c K):=by cases b<;>rfl
theorem UY (x y:Option R):Cc true x y=x:=by exact id rfl
theorem TT (x y:Option R):Cc false x y=y:=by exact id rfl
theorem Ya (p:Prop) [Decidable p] (x y:Option R)(h:p):Cc (decide p) x y=x:=by simp[Cc,h]
theorem Qs (p:Prop) [Decidable p] (x y:Option R)(h:¬p):Cc (decide p) x y=y:=by simp[Cc,h]
theorem Ac4 (p:Prop) [Decidable p] (x y:Option R):Cc (decide p) x y=if p then x else y:=by by_cases h:p<;>simp[Cc,h]
theorem MY (a b:Int)(x y:Option R):Cc (a==b) x y=if a=b then x else y:=by
 rw[NR,Ac4]
theorem MF (x:Option R):Uz x x=x:=by unfold Uz;simp
end
theorem wrap_i64 {x:Int}(h1: -9223372036854775808<=x)(h2:x<=9223372036854775807):IntKind.wrap .i64 x=x:=by
 have:=IntWalk.i64_in x (by omega)
 exact this
theorem Cj {x:Int}(h1:0<=x)(h2:x<=18446744073709551615):IntKind.wrap .u64 x=x:=by
 simp only[IntKind.wrap,IntKind.signed,IntKind.bits];simp;omega
theorem D8 {α:Type}{l r:List α}{x:α}{i:Nat}(h:l.drop i=x::r):i<l.length∧l[i]?=some x∧l.drop (i+1)=r:=by
 have h1:i<l.length:=by
  rcases Nat.lt_or_ge i l.length with h1|h1
  ·exact h1
  ·rw[List.drop_of_length_le h1] at h;cases h
 rw[List.drop_eq_getElem_cons h1] at h;injection h with h2 h3;exact⟨h1,by rw[List.getElem?_eq_getElem h1,h2],h3⟩
theorem drop_nil {α:Type}{l:List α}{i:Nat}(h:l.drop i=[]):l.length<=i:=by
 have:=congrArg List.length h;simp at this;omega
section
variable {α:Type} {f:α->List PV} {k:Nat}
theorem CQ (hf:∀x,(f x).length=k):∀(l:List α),(l.flatMap f).length=l.length*k
 |[]=>by simp
 |x::l=>by simp[hf x,CQ hf l,Nat.succ_mul];omega
theorem R0 (hf:∀x,(f x).length=k):∀(l:List α)(i:Nat),(l.flatMap f).drop (i*k)=(l.drop i).flatMap f
 |l,0=>by simp
 |[],i+1=>by simp
 |x::l,i+1=>by
  rw[List.flatMap_cons,Nat.succ_mul,Nat.add_comm,←List.drop_drop,List.drop_append_of_le_length (by rw[hf x];omega)]
  rw[show (f x).drop k=[] from List.drop_of_length_le (by rw[hf x];omega),List.nil_append]
  exact R0 hf l i
theorem V2 (hf:∀x,(f x).length=k):∀(l:List α)(i:Nat),(l.flatMap f).take (i*k)=(l.take i).flatMap f
 |l,0=>by simp
 |[],i+1=>by simp
 |x::l,i+1=>by
  rw[List.flatMap_cons,Nat.succ_mul,Nat.add_comm,List.take_succ_cons,List.flatMap_cons,←V2 hf l i];rw[show k+i*k=(f x).length+i*k by rw[hf x],List.take_length_add_append]
theorem Wh (hf:∀x,(f x).length=k) {l:List α}{i:Nat}{x:α}(h:l[i]?=some x) {j:Nat}(hj:j<k):(l.flatMap f).getD (i*k+j) .top=(f x).getD j .top:=by
 have h1:((l.flatMap f).drop (i*k))[j]?=(l.flatMap f)[i*k+j]?:=List.getElem?_drop;rw[R0 hf] at h1
 have h2:i<l.length:=by
  rcases Nat.lt_or_ge i l.length with h1|h1
  ·exact h1
  ·rw[List.getElem?_eq_none h1] at h;cases h
 rw[List.drop_eq_getElem_cons h2,List.flatMap_cons] at h1;have h3:l[i]=x:=by rw[List.getElem?_eq_getElem h2] at h;injection h
 rw[h3,List.getElem?_append_left (by rw[hf x];exact hj)] at h1
 simp only[List.getD_eq_getElem?_getD,←h1]
theorem IM (hf:∀x,(f x).length=k) {p:PV}{j:Nat}(hj:j<k):∀{l:List α}{i:Nat}{x y:α},l[i]?=some x->f y=(f x).set j p->(l.flatMap f).set (i*k+j) p=(l.set i y).flatMap f
 |[],i,x,y,h,_=>by simp at h
 |a::l,0,x,y,h,hy=>by
  simp at h;subst h;rw[Nat.zero_mul,Nat.zero_add,List.flatMap_cons,List.set_cons_zero,List.flatMap_cons,hy,List.set_append_left _ _ (by rw[hf];exact hj)]
 |a::l,i+1,x,y,h,hy=>by
  simp at h;rw[List.flatMap_cons,List.set_cons_succ,List.flatMap_cons,List.set_append_right _ _ (by rw[hf,Nat.succ_mul];omega),hf]
  congr 1
  rw[show (i+1)*k+j-k=i*k+j by rw[Nat.succ_mul];omega]
  exact IM hf hj h hy
theorem Q0 {c:List PV}{p:PV}{i:Nat}(h:i<c.length):A2 c [p] i=c.set i p:=by
 unfold A2;rw[List.set_eq_take_append_cons_drop,if_pos h];simp
end
theorem Ke {α:Type}{l:List α}{i:Nat}{x:α}(h:l[i]?=some x):i<l.length:=by
 rcases Nat.lt_or_ge i l.length with h1|h1
 ·exact h1
 ·rw[List.getElem?_eq_none h1] at h;cases h
abbrev Af2 (k:IntKind)(n:Int):List PV:=[.sc (.int k n)]
abbrev At (k:IntKind)(l:List Int):List PV:=l.flatMap (Af2 k)
theorem Sg (k:IntKind)(n:Int):(Af2 k n).length=1:=rfl
theorem ati {k:IntKind}{l:List Int}{i:Nat}{n:Int}(h:l[i]?=some n):(At k l).getD i .top=.sc (.int k n):=by
 have:=Wh (Sg k) h (j:=0) (by omega)
 simpa using this
theorem Aw (k:IntKind)(l:List Int):(At k l).length=l.length:=by rw[CQ (Sg k)];omega
theorem FV (k:IntKind)(l:List Int)(n:Int):At k l++[.sc (.int k n)]=At k (l++[n]):=by simp
theorem XE (k:IntKind)(l:List Int):List.take l.length (At k l)=At k l:=List.take_of_length_le (by rw[Aw];omega)
theorem En:type_of% @MG∧type_of% @US∧type_of% @LP∧type_of% @MZ∧type_of% @TQ∧type_of% @CP∧type_of% @SO∧type_of% @Abh∧type_of% @Abl∧type_of% @VH∧type_of% @MR∧type_of% @WM∧type_of% @Kj∧type_of% @UD∧type_of% @DM∧type_of% @LC∧type_of% @UY∧type_of% @TT∧type_of% @Ya∧type_of% @Qs∧type_of% @MF∧type_of% @Bool.not_true∧type_of% @Bool.not_false∧type_of% @Bool.false_eq_true∧type_of% @if_true.{1}∧type_of% @if_false.{1}∧type_of% @Bool.true_and∧type_of% @Bool.and_true∧type_of% @Bool.false_and∧type_of% @Bool.and_false∧type_of% @decide_true∧type_of% @decide_false:=
 ⟨@MG,@US,@LP,@MZ,@TQ,@CP,@SO,@Abh,@Abl,@VH,@MR,@WM,@Kj,@UD,@DM,@LC,@UY,@TT,@Ya,@Qs,@MF,@Bool.not_true,@Bool.not_false,@Bool.false_eq_true,@if_true.{1},@if_false.{1},@Bool.true_and,@Bool.and_true,@Bool.false_and,@Bool.and_false,@decide_true,@decide_false⟩
theorem gT:type_of% @Bool.and_eq_true∧type_of% @decide_eq_true_eq∧type_of% @beq_iff_eq.{0}∧type_of% @bne_iff_ne.{0}∧type_of% @ne_eq.{1}∧type_of% @Bool.not_eq_true'∧type_of% @true_and∧type_of% @and_true:=
 ⟨@Bool.and_eq_true,@decide_eq_true_eq,@beq_iff_eq.{0},@bne_iff_ne.{0},@ne_eq.{1},@Bool.not_eq_true',@true_and,@and_true⟩
theorem gF:type_of% @decide_eq_false_iff_not∧type_of% @beq_eq_false_iff_ne.{0}∧type_of% @bne_eq_false_iff_eq.{0}∧type_of% @ne_eq.{1}∧type_of% @Bool.not_eq_false':=
 ⟨@decide_eq_false_iff_not,@beq_eq_false_iff_ne.{0},@bne_eq_false_iff_eq.{0},@ne_eq.{1},@Bool.not_eq_false'⟩
end
section
open Go.RowKit
def Au {α β:Type}(R:α->β->Prop):List α->List β->Prop
 |[],[]=>True
 |a::zs,b::bs=>R a b∧Au R zs bs
 |_,_=>False
section
variable {α β γ:Type} {R S:α->β->Prop}
theorem Au.len:∀{zs:List α}{bs:List β},Au R zs bs->zs.length=bs.length
 |[],[],_=>rfl
 |_::_,_::_,h=>by simp[Au.len h.2]
 |[],_::_,h=>h.elim
 |_::_,[],h=>h.elim
theorem Au.at_:∀{zs:List α}{bs:List β},Au R zs bs->∀{i:Nat} {a b},zs[i]?=some a->bs[i]?=some b->R a b
 |[],[],_,i,a,b,h,_=>by simp at h
 |_::_,_::_,h,0,a,b,ha,hb=>by simp at ha hb;subst ha;subst hb;exact h.1
 |_::_,_::_,h,i+1,a,b,ha,hb=>by simp at ha hb;exact Au.at_ h.2 ha hb
 |[],_::_,h,_,_,_,_,_=>h.elim
 |_::_,[],h,_,_,_,_,_=>h.elim
theorem Au.of_at:∀{zs:List α}{bs:List β},zs.length=bs.length->(∀(i:Nat) a b,zs[i]?=some a->bs[i]?=some b->R a b)->Au R zs bs
 |[],[],_,_=>trivial
 |a::zs,b::bs,hl,h=>⟨h 0 a b rfl rfl,Au.of_at (by simpa using hl) fun i x y hx hy=>h (i+1) x y hx hy⟩
 |[],_::_,hl,_=>by simp at hl
 |_::_,[],hl,_=>by simp at hl
theorem Au.mono (hRS:∀a b,R a b->S a b):∀{zs:List α}{bs:List β},Au R zs bs->Au S zs bs
 |[],[],_=>trivial
 |_::_,_::_,h=>⟨hRS _ _ h.1,Au.mono hRS h.2⟩
 |[],_::_,h=>h.elim
 |_::_,[],h=>h.elim
theorem Au.mono_mem:∀{zs:List α}{bs:List β},(∀a∈zs,∀b,R a b->S a b)->Au R zs bs->Au S zs bs
 |[],[],_,_=>trivial
 |a::_,_::_,hRS,h=>⟨hRS a (by simp) _ h.1,Au.mono_mem (fun x hx=>hRS x (by simp[hx])) h.2⟩
 |[],_::_,_,h=>h.elim
 |_::_,[],_,h=>h.elim
theorem Au.app:∀{zs:List α}{bs:List β}{as':List α}{bs':List β},Au R zs bs->Au R as' bs'->Au R (zs++as') (bs++bs')
 |[],[],_,_,_,h'=>h'
 |_::_,_::_,_,_,h,h'=>⟨h.1,Au.app h.2 h'⟩
 |[],_::_,_,_,h,_=>h.elim
 |_::_,[],_,_,h,_=>h.elim
theorem Au.take:∀(n:Nat){zs:List α}{bs:List β},Au R zs bs->Au R (zs.take n) (bs.take n)
 |0,_,_,_=>by simp[Au]
 |_+1,[],[],_=>trivial
 |n+1,_::_,_::_,h=>⟨h.1,Au.take n h.2⟩
 |_+1,[],_::_,h=>h.elim
 |_+1,_::_,[],h=>h.elim
theorem Au.drop:∀(n:Nat){zs:List α}{bs:List β},Au R zs bs->Au R (zs.drop n) (bs.drop n)
 |0,_,_,h=>h
 |_+1,[],[],_=>trivial
 |n+1,_::_,_::_,h=>Au.drop n h.2
 |_+1,[],_::_,h=>h.elim
 |_+1,_::_,[],h=>h.elim
end
inductive Ap (w:World) (A:Nat->Prop):PV->Value->Prop where
 |sc (v:Value):Ap w A (.sc v) v
 |top (v:Value):Ap w A .top v
 |ub (b:Bool):Ap w A .ub (.bool b)
 |lnil (z:Bool) (es:Nat):Ap w A (.lst z es 0 []) (.slice none 0 0)
 |lemp (es:Nat) (a:Addr) (cap:Nat):Ap w A (.lst false es 0 []) (.slice (some a) 0 cap)
 |lst (es n:Nat) (cells:List PV) (a:Addr) (cap:Nat) (f:Nat->Value) (hs:a.spot=none) (hb:a.block<w.heap.size) (hA:¬A a.block) (hn:n<=cap)
   (hc:∀j c,cells[j]?=some c->w.cell? (a.add j)=some (f j)) (h1:∀j c,cells[j]?=some c->(f j).oneCell'=true) (hr:∀j c,cells[j]?=some c->Ap w A c (f j)):Ap w A (.lst false es n cells) (.slice (some a) n cap)
def bsz (w:World)(b:Nat):Nat:=
 match w.heap[b]? with
 |some (.cells c _ _)=>c.size
 |_=>0
def FW (w:World)(b:Nat):Bool:=w.frozen? ⟨b,bsz w b,none⟩
def Fit (w:World)(es b e:Nat):Prop:=e<=bsz w b∧(es=1∨FW w b=false)
def Gu (w w':World)(b:Nat):Prop:=bsz w b<=bsz w' b∧(FW w b=false->FW w' b=false)
theorem Gu.refl (w:World)(b:Nat):Gu w w b:=⟨Nat.le_refl _,id⟩
theorem Gu.same {w w':World}{b:Nat}(h:w'.heap[b]?=w.heap[b]?):Gu w w' b:=by
 have e:bsz w' b=bsz w b:=by unfold bsz;rw[h]
 refine⟨by rw[e];exact Nat.le_refl _,fun q=>?_⟩
 unfold FW at q ⊢;rw[e];unfold World.frozen? at q ⊢;simp only[h];exact q
theorem Gu.trans {w w' w'':World}{b:Nat}(h:Gu w w' b)(h':Gu w' w'' b):Gu w w'' b:=⟨Nat.le_trans h.1 h'.1,fun q=>h'.2 (h.2 q)⟩
theorem Fit.step {w w':World}{es b e:Nat}(h:Fit w es b e)(hb:Gu w w' b):Fit w' es b e:=⟨Nat.le_trans h.1 hb.1,h.2.imp id hb.2⟩
def EC (w:World)(A:Nat->Prop)(a:Addr)(cells:List PV):Prop:=∀j c,cells[j]?=some c->∃v,w.cell? (a.add j)=some v∧v.oneCell'=true∧Ap w A c v
def A6 (w:World)(A:Nat->Prop)(β:Nat->Option (Nat × Nat)) (p:PV)(v:Value):Prop:=
 match p with
 |.view id es off n=>(β id=none∧off=0∧n=0∧∃ad,v=.slice ad 0 0) ∨
   ∃b o x cap,β id=some (b,o)∧v=.slice (some ⟨b,x,none⟩) n cap∧(x=o+off∨(n=0∧off≠0))∧n<=cap∧Fit w es b (x+cap*es)∧b<w.heap.size
 |.ptr id off=>∃b o,β id=some (b,o)∧v=.pointer (some ⟨b,o+off,none⟩)
 |.iptr c off=>∃a:Addr,v=.pointer (some (a.add off))∧a.spot=none∧a.block<w.heap.size∧¬A a.block∧EC w A a c
 |p=>Ap w A p v
def Fq (w:World)(A:Nat->Prop)(β:Nat->Option (Nat × Nat)) (p:PV)(v:Value):Prop:=
 match p with
 |.agg cs=>∃vs,v=.agg ⟨vs⟩∧Au (A6 w A β) cs vs
 |p=>A6 w A β p v
def C1 (w:World)(A:Nat->Prop)(β:Nat->Option (Nat × Nat)) (p:PV)(v:Value):Prop:=
 match p with
 |.tup ps=>∃vs,v=.tuple ⟨vs⟩∧Au (Fq w A β) ps vs
 |p=>Fq w A β p v
structure Ba (A:Nat->Prop) (w w':World):Prop where
 size:w.heap.size<=w'.heap.size
 keep:∀b,b<w.heap.size->¬A b->w'.heap[b]?=w.heap[b]?
 bs:∀b,b<w.heap.size->Gu w w' b
theorem Eb (a:Addr)(j:Nat):(a.add j).block=a.block:=by unfold Addr.add;split<;>rfl
theorem add_add (a:Addr)(i j:Nat):(a.add i).add j=a.add (i+j):=by
 unfold Addr.add;by_cases hi:i=0<;>by_cases hj:j=0<;>simp[hi,hj,Nat.add_assoc]
theorem Cb (b o j:Nat):(⟨b,o,none⟩:Addr).add j=⟨b,o+j,none⟩:=by
 unfold Addr.add;by_cases hj:j=0<;>simp[hj]
theorem UJ {a:Addr}(h:a.spot=none)(j:Nat):(a.add j).spot=none:=by unfold Addr.add;split<;>simp[h]
section
variable {w w':World} {A A':Nat->Prop} {β β':Nat->Option (Nat × Nat)}
theorem Ba.cell (h:Ba A w w'){a:Addr}(hb:a.block<w.heap.size)(hA:¬A a.block):w'.cell? a=w.cell? a:=
 World.cell?_of_block (h.keep a.block hb hA)
theorem Ap.step (h:Ba A w w')(hA:∀b,b<w.heap.size->A' b->A b){p:PV}{v:Value}(t:Ap w A p v):Ap w' A' p v:=by
 induction t with
 |sc v=>exact .sc v
 |top v=>exact .top v
 |ub b=>exact .ub b
 |lnil z es=>exact .lnil z es
 |lemp es a cap=>exact .lemp es a cap
 |lst es n cells a cap f hs hb hA1 hn hc h1 hr ih=>
  refine .lst es n cells a cap f hs (Nat.lt_of_lt_of_le hb h.size) (fun x=>hA1 (hA _ hb x)) hn (fun j c hj=>?_) h1 (fun j c hj=>ih j c hj)
  rw[h.cell (by rw[Eb];exact hb) (by rw[Eb];exact hA1)]
  exact hc j c hj
theorem EC.step (h:Ba A w w')(hA:∀b,b<w.heap.size->A' b->A b){a:Addr}(hb:a.block<w.heap.size)(hn:¬A a.block){cells:List PV}(t:EC w A a cells):EC w' A' a cells:=by
 intro j c hj;obtain⟨v,hv,h1,ht⟩:=t j c hj;exact⟨v,by rw[h.cell (by rw[Eb];exact hb) (by rw[Eb];exact hn)];exact hv,h1,ht.step h hA⟩
theorem A6.step (h:Ba A w w')(hA:∀b,b<w.heap.size->A' b->A b){p:PV}{v:Value}(hβ:∀id∈Aj p,β' id=β id)(t:A6 w A β p v):A6 w' A' β' p v:=by
 cases p with
 |view id es off n=>
  have e:=hβ id (by simp[Aj])
  rcases t with⟨h1,h2,h3,h4⟩|⟨b,o,x,cap,h1,h2,hx,h3,h4,h5⟩
  ·exact .inl ⟨by rw[e];exact h1,h2,h3,h4⟩
  ·exact .inr ⟨b,o,x,cap,by rw[e];exact h1,h2,hx,h3,h4.step (h.bs b h5),Nat.lt_of_lt_of_le h5 h.size⟩
 |ptr id off=>
  have e:=hβ id (by simp[Aj])
  obtain⟨b,o,h1,h2⟩:=t;exact⟨b,o,by rw[e];exact h1,h2⟩
 |iptr c off=>
  obtain⟨a,h1,h2,h3,h4,h5⟩:=t;exact⟨a,h1,h2,Nat.lt_of_lt_of_le h3 h.size,fun x=>h4 (hA _ h3 x),h5.step h hA h3 h4⟩
 |sc v=>exact Ap.step h hA t
 |lst z es n c=>exact Ap.step h hA t
 |own es n c=>exact Ap.step h hA t
 |pbox c=>exact Ap.step h hA t
 |agg c=>exact Ap.step h hA t
 |tup c=>exact Ap.step h hA t
 |top=>exact Ap.step h hA t
 |ub=>exact Ap.step h hA t
theorem Fq.step (h:Ba A w w')(hA:∀b,b<w.heap.size->A' b->A b){p:PV}{v:Value}(hβ:∀id∈Bh p,β' id=β id)(t:Fq w A β p v):Fq w' A' β' p v:=by
 cases p with
 |agg cs=>
  obtain⟨vs,rfl,h2⟩:=t;exact⟨vs,rfl,h2.mono_mem fun c hc v hv=>hv.step h hA fun id Ay=>hβ id (by simp only[Bh,List.mem_flatMap];exact⟨c,hc,Ay⟩)⟩
 |sc x=>exact A6.step (p:=.sc x) h hA hβ t
 |lst x y z u=>exact A6.step (p:=.lst x y z u) h hA hβ t
 |own x y z=>exact A6.step (p:=.own x y z) h hA hβ t
 |view x y z u=>exact A6.step (p:=.view x y z u) h hA hβ t
 |ptr x y=>exact A6.step (p:=.ptr x y) h hA hβ t
 |iptr x y=>exact A6.step (p:=.iptr x y) h hA hβ t
 |pbox x=>exact A6.step (p:=.pbox x) h hA hβ t
 |tup x=>exact A6.step (p:=.tup x) h hA hβ t
 |top=>exact A6.step (p:=.top) h hA hβ t
 |ub=>exact A6.step (p:=.ub) h hA hβ t
theorem C1.step (h:Ba A w w')(hA:∀b,b<w.heap.size->A' b->A b){p:PV}{v:Value}(hβ:∀id∈A5 p,β' id=β id)(t:C1 w A β p v):C1 w' A' β' p v:=by
 cases p with
 |tup cs=>
  obtain⟨vs,rfl,h2⟩:=t;exact⟨vs,rfl,h2.mono_mem fun c hc v hv=>hv.step h hA fun id Ay=>hβ id (by simp only[A5,List.mem_flatMap];exact⟨c,hc,Ay⟩)⟩
 |sc x=>exact Fq.step (p:=.sc x) h hA hβ t
 |lst x y z u=>exact Fq.step (p:=.lst x y z u) h hA hβ t
 |own x y z=>exact Fq.step (p:=.own x y z) h hA hβ t
 |view x y z u=>exact Fq.step (p:=.view x y z u) h hA hβ t
 |ptr x y=>exact Fq.step (p:=.ptr x y) h hA hβ t
 |iptr x y=>exact Fq.step (p:=.iptr x y) h hA hβ t
 |pbox x=>exact Fq.step (p:=.pbox x) h hA hβ t
 |top=>exact Fq.step (p:=.top) h hA hβ t
 |ub=>exact Fq.step (p:=.ub) h hA hβ t
 |agg x=>exact Fq.step (p:=.agg x) h hA hβ t
theorem Ba.refl (A:Nat->Prop)(w:World):Ba A w w:=⟨Nat.le_refl _,fun _ _ _=>rfl,fun _ _=>Gu.refl _ _⟩
theorem EC.weak (hA:∀b,b<w.heap.size->A' b->A b){a:Addr}{cells:List PV}(t:EC w A a cells):EC w A' a cells:=by
 intro j c hj;obtain⟨v,hv,h1,ht⟩:=t j c hj;exact⟨v,hv,h1,ht.step (Ba.refl A w) hA⟩
theorem Ba.trans {w'':World}(h:Ba A w w')(h':Ba A' w' w'')(hA:∀b,b<w.heap.size->A' b->A b):Ba A w w'':=
  ⟨Nat.le_trans h.size h'.size,fun b hb hn=>(h'.keep b (Nat.lt_of_lt_of_le hb h.size) (fun x=>hn (hA b hb x))).trans (h.keep b hb hn),
   fun b hb=>(h.bs b hb).trans (h'.bs b (Nat.lt_of_lt_of_le hb h.size))⟩
theorem Ba.weaken (h:Ba A w w')(hA:∀b,b<w.heap.size->A b->A' b):Ba A' w w':=⟨h.size,fun b hb hn=>h.keep b hb (fun x=>hn (hA b hb x)),h.bs⟩
end
section
variable {R:Type} {r:R}
theorem C9 {k:IntKind}{p:PV}{K:Int->Option R}(h:Al k p K=some r):∃n,p=.sc (.int k n)∧K n=some r:=by
 unfold Al at h;split at h
 ·split at h
  ·rename_i hk;subst hk;exact⟨_,rfl,h⟩
  ·cases h
 ·cases h
theorem Cg {p:PV}{K:Bool->Option R}(h:Bb p K=some r):∃b,p=.sc (.bool b)∧K b=some r:=by
 unfold Bb at h;split at h
 ·exact⟨_,rfl,h⟩
 ·cases h
theorem Cf {p:PV}{K:ByteArray->Option R}(h:Et p K=some r):∃b,p=.sc (.string b)∧K b=some r:=by
 unfold Et at h;split at h
 ·exact⟨_,rfl,h⟩
 ·cases h
theorem B2 {p:PV}{K:IntKind->Int->Option R}(h:B8 p K=some r):∃k n,p=.sc (.int k n)∧K k n=some r:=by
 unfold B8 at h;split at h
 ·exact⟨_,_,rfl,h⟩
 ·cases h
theorem Ae {b:Bool}{K:Option R}(h:Ao b K=some r):b=true∧K=some r:=by
 unfold Ao at h;cases b
 ·cases h
 ·exact⟨rfl,h⟩
theorem Bq {α:Type}{o:Option α}{K:α->Option R}(h:Da o K=some r):∃a,o=some a∧K a=some r:=by
 unfold Da at h;split at h
 ·exact⟨_,rfl,h⟩
 ·cases h
theorem Ar {α:Type}{l:List α}{K:α->List α->Option R}(h:Ab l K=some r):∃a t,l=a::t∧K a t=some r:=by
 unfold Ab at h;split at h
 ·exact⟨_,_,rfl,h⟩
 ·cases h
theorem B7 {α:Type}{l:List α}{K:Option R}(h:Ai l K=some r):l=[]∧K=some r:=by
 unfold Ai at h;split at h
 ·exact⟨rfl,h⟩
 ·cases h
theorem Fg {p:PV}{K:List PV->Option R}(h:E7 p K=some r):∃c,p=.agg c∧K c=some r:=by
 unfold E7 at h;split at h
 ·exact⟨_,rfl,h⟩
 ·cases h
theorem Zw {p:PV}{K:List PV->Option R}(h:Sl p K=some r):∃c,p=.pbox c∧K c=some r:=by
 unfold Sl at h;split at h
 ·exact⟨_,rfl,h⟩
 ·cases h
theorem CJ {p:PV}{K:Value->Option R}(h:RD p K=some r):∃f a b,p=.sc (.func f a b)∧K (.func f a b)=some r:=by
 unfold RD at h;split at h
 ·exact⟨_,_,_,rfl,h⟩
 ·cases h
theorem ZY {p:PV}{K:FuncId->Option R}(h:fvK p K=some r):∃f,p=.sc (.func (.func f) #[] #[])∧K f=some r:=by
 unfold fvK at h;split at h
 ·rename_i f a b;cases hb:(a.isEmpty&&b.isEmpty)<;>rw[hb] at h
  ·cases h
  ·simp only[Bool.and_eq_true,Array.isEmpty_iff] at hb;rw[hb.1,hb.2];exact⟨f,rfl,h⟩
 ·cases h
theorem Zt {o:Option Bc}{K:List PV->List (List PV)->Option R} (h:Aq o K=some r):∃v x,o=some ⟨v,x⟩∧K v x=some r:=by
 unfold Aq at h;split at h
 ·exact⟨_,_,rfl,h⟩
 ·cases h
theorem Jr {b:Bool}{x y:Option R}(h:Cc b x y=some r):(b=true∧x=some r)∨(b=false∧y=some r):=by
 unfold Cc at h;cases b
 ·exact .inr ⟨rfl,h⟩
 ·exact .inl ⟨rfl,h⟩
theorem Dy {es:Nat}{p:PV}{K:Bool->Nat->List PV->Option R}(h:Gs es p K=some r):
  ∃z n c,K z n c=some r∧(p=.lst z es n c∨(p=.sc (.slice none 0 0)∧z=true∧n=0∧c=[])):=by
 unfold Gs at h;split at h
 ·rename_i z es' n c;cases hb:Nat.beq es' es
  ·rw[hb] at h;cases h
  ·rw[hb] at h;have:=Nat.eq_of_beq_eq_true hb;subst this;exact⟨z,n,c,h,.inl rfl⟩
 ·exact⟨true,0,[],h,.inr ⟨rfl,rfl,rfl,rfl⟩⟩
 ·cases h
def P4:PV->Prop
 |.sc _=>True
 |.lst _ _ _ _=>True
 |_=>False
def Yt:PV->Prop
 |.sc _=>True
 |.lst _ _ _ _=>True
 |.view _ _ _ _=>True
 |_=>False
theorem Ms {c:PV}(h:P4 c):Yt c:=by
 cases c<;>first|trivial|exact h.elim
theorem Fk {c:PV}(h:P4 c):Aj c=[]:=by
 cases c<;>first|rfl|exact h.elim
variable {w:World} {A:Nat->Prop} {β:Nat->Option (Nat × Nat)}
theorem Iv {c:PV}{v:Value}(h:P4 c):A6 w A β c v↔Ap w A c v:=by
 cases c<;>first|exact Iff.rfl|exact h.elim
theorem So {c:PV}{v:Value}(h:∀cs,c ≠ .agg cs):Fq w A β c v↔A6 w A β c v:=by
 cases c<;>first|exact Iff.rfl|exact absurd rfl (h _)
theorem M5 {c:PV}{v:Value}(h:∀cs,c ≠ .tup cs):C1 w A β c v↔Fq w A β c v:=by
 cases c<;>first|exact Iff.rfl|exact absurd rfl (h _)
theorem Rj {c:PV}(h:P4 c)(cs:List PV):c ≠ .agg cs:=by rintro rfl;exact h
theorem NC {c:PV}(h:P4 c)(cs:List PV):c ≠ .tup cs:=by rintro rfl;exact h
theorem Ap.val {v u:Value}(h:Ap w A (.sc v) u):u=v:=by cases h;rfl
theorem Qn {es n:Nat}{z:Bool}{c:List PV}{p:PV}{v:Value}(h:p=.lst z es n c∨(p=.sc (.slice none 0 0)∧z=true∧n=0∧c=[])) (hv:A6 w A β p v):Ap w A (.lst z es n c) v:=by
 rcases h with rfl|⟨rfl,rfl,rfl,rfl⟩
 ·exact hv
 ·have:=Ap.val (w:=w) (A:=A) hv;subst this;exact .lnil true es
theorem Jo {t:CT}{p:PV}{K:PV->Option R}(h:T0 t p K=some r):
  ∃c,K c=some r∧P4 c∧P4 p∧∀(w:World) (A:Nat->Prop) (β:Nat->Option (Nat × Nat)) (v:Value),A6 w A β p v->Ap w A c v∧v.oneCell'=true:=by
 cases t with
 |int k=>obtain⟨n,rfl,h2⟩:=C9 h;exact⟨_,h2,trivial,trivial,fun w A β v hv=>⟨hv,by have:=Ap.val (w:=w) (A:=A) hv;subst this;rfl⟩⟩
 |bool=>obtain⟨n,rfl,h⟩:=Cg h;exact⟨_,h,trivial,trivial,fun w A β v hv=>⟨hv,by have:=Ap.val (w:=w) (A:=A) hv;subst this;rfl⟩⟩
 |str=>obtain⟨n,rfl,h⟩:=Cf h;exact⟨_,h,trivial,trivial,fun w A β v hv=>⟨hv,by have:=Ap.val (w:=w) (A:=A) hv;subst this;rfl⟩⟩
 |sl es=>
  obtain⟨z,n,c,h,hp⟩:=Dy h;refine⟨_,h,trivial,?_,fun w A β v hv=>⟨Qn hp hv,?_⟩⟩
  ·rcases hp with rfl|⟨rfl,_⟩<;>trivial
  ·have ht:=Qn hp hv;cases ht<;>rfl
 |any=>
  obtain⟨f,a,b,rfl,h2⟩:=CJ (show RD p (fun v=>K (.sc v))=some r from h)
  exact⟨_,h2,trivial,trivial,fun w A β v hv=>⟨hv,by have:=Ap.val (w:=w) (A:=A) hv;subst this;rfl⟩⟩
theorem YH {t:CT}{p:PV}{K:PV->Option R}(h:fcK t p K=some r):
  ∃c,K c=some r∧(P4 c∨c=p)∧Yt p∧p ≠ .top∧(∀cs,c ≠ .agg cs)∧(∀cs,c ≠ .tup cs)∧(∀id,id∈Aj c->id∈Aj p)∧∀(w:World) (A:Nat->Prop) (β:Nat->Option (Nat × Nat)) (v:Value),A6 w A β p v->A6 w A β c v∧v.oneCell'=true:=by
 have tree:∀t',T0 t' p K=some r->∃c,K c=some r∧(P4 c∨c=p)∧Yt p∧p ≠ .top∧(∀cs,c ≠ .agg cs)∧(∀cs,c ≠ .tup cs)∧(∀id,id∈Aj c->id∈Aj p)∧∀(w:World) (A:Nat->Prop) (β:Nat->Option (Nat × Nat)) (v:Value),A6 w A β p v->A6 w A β c v∧v.oneCell'=true:=by
  intro t' h;obtain⟨c,h,hc,hp,hv⟩:=Jo h;exact⟨c,h,.inl hc,Ms hp,by rintro rfl;exact hp,Rj hc,NC hc,by rw[Fk hc];simp,fun w A β v h=>⟨(Iv hc).2 (hv w A β v h).1,(hv w A β v h).2⟩⟩
 cases t with
 |sl es=>
  unfold fcK fsK at h;dsimp only at h;split at h
  ·rename_i id es' off n;cases hb:Nat.beq es' es
   ·rw[hb] at h;cases h
   ·rw[hb] at h;have:=Nat.eq_of_beq_eq_true hb;subst this;exact⟨_,h,.inr rfl,trivial,by simp,by simp,by simp,fun _ h=>h,fun _ _ _ _ h=>⟨h,by rcases h with⟨_,_,_,_,rfl⟩|⟨_,_,_,_,_,rfl,_⟩<;>rfl⟩⟩
  ·exact tree (.sl es) h
 |int k=>exact tree (.int k) h
 |bool=>exact tree (.bool) h
 |str=>exact tree (.str) h
 |any=>exact tree (.any) h
theorem U5 {cells:List PV}{i:Nat}{p:PV}(h:cells.getD i .top=p)(hp:p ≠ .top):cells[i]?=some p:=by
 rw[List.getD_eq_getElem?_getD] at h;cases hc:cells[i]? with
 |none=>rw[hc] at h;exact absurd h.symm hp
 |some q=>rw[hc] at h;simp at h;rw[h]
theorem Oo:∀{ts:List CT}{cells:List PV}{off:Nat}{K:List PV->Option R},Nt ts cells off K=some r ->
  ∃cs,K cs=some r∧cs.length=ts.length∧∀j c,cs[j]?=some c->P4 c∧∃p,cells[off+j]?=some p∧P4 p ∧
   ∀(w:World) (A:Nat->Prop) (β:Nat->Option (Nat × Nat)) (v:Value),A6 w A β p v->Ap w A c v∧v.oneCell'=true
 |[],_,_,_,h=>⟨[],h,rfl,fun j c hj=>by simp at hj⟩
 |t::ts,cells,off,K,h=>by
  unfold Nt at h;obtain⟨c,h,hc,hp,hv⟩:=Jo h;obtain⟨cs,h,hl,P6⟩:=Oo h;refine⟨c::cs,h,by simp[hl],fun j c' hj=>?_⟩
  cases j with
  |zero=>
   simp at hj;subst hj;refine⟨hc,cells.getD off .top,U5 rfl ?_,hp,hv⟩;intro e;rw[e] at hp;exact hp
  |succ j=>
   simp at hj;have:=P6 j c' hj
   rwa [Nat.add_right_comm,Nat.add_assoc] at this
theorem N5:∀{ts:List CT}{cells:List PV}{off:Nat}{K:List PV->Option R},Li ts cells off K=some r ->
  ∃cs,K cs=some r∧cs.length=ts.length∧(∀c∈cs,(∀x,c ≠ .agg x)∧(∀x,c ≠ .tup x))∧∀j c,cs[j]?=some c->∃p,cells[off+j]?=some p∧Yt p∧(∀id,id∈Aj c->id∈Aj p) ∧
   ∀(w:World) (A:Nat->Prop) (β:Nat->Option (Nat × Nat)) (v:Value),A6 w A β p v->A6 w A β c v∧v.oneCell'=true
 |[],_,_,_,h=>⟨[],h,rfl,by simp,fun j c hj=>by simp at hj⟩
 |t::ts,cells,off,K,h=>by
  unfold Li at h;obtain⟨c,h,hc,hf,hp,ha,ht,hr,hv⟩:=YH h;obtain⟨cs,h,hl,Tr,P6⟩:=N5 h;refine⟨c::cs,h,by simp[hl],?_,fun j c' hj=>?_⟩
  ·intro x hx;rcases List.mem_cons.1 hx with rfl|hx
   ·exact⟨ha,ht⟩
   ·exact Tr x hx
  ·cases j with
   |zero=>
    simp at hj;subst hj;exact⟨cells.getD off .top,U5 rfl hp,hf,hr,hv⟩
   |succ j=>
    simp at hj;have:=P6 j c' hj
    rwa [Nat.add_right_comm,Nat.add_assoc] at this
theorem BP {agg:Bool}{cells:List PV}{K:PV->Option R}(h:LL agg cells K=some r):
  (agg=true∧K (.agg cells)=some r)∨(agg=false∧∃c,cells=[c]∧K c=some r):=by
 unfold LL at h;cases agg
 ·obtain⟨c,t,rfl,h⟩:=Ar h;obtain⟨rfl,h⟩:=B7 h;exact .inr ⟨rfl,c,rfl,h⟩
 ·exact .inl ⟨rfl,h⟩
end
open Go.RowKit
def Bx (b:Option A1):Prop:=
 match b with
 |some (.st _)=>True
 |some (.ar false _)=>True
 |_=>False
abbrev Bt:=Nat->Option (Nat × Nat)
def BK (hp:Nat->Option A1)(β:Bt)(b:Nat):Prop:=∃id o,Bx (hp id)∧β id=some (b,o)
def Bz (hp:Nat->Option A1)(β:Bt)(Y:Nat->Prop)(b:Nat):Prop:=BK hp β b∨Y b
def Nd (w:World)(A:Nat->Prop)(β:Bt)(id:Nat)(bx:A1):Prop:=
 match bx with
 |.st cells=>∃b o,β id=some (b,o)∧(∀j c,cells[j]?=some c->∃v,w.cell? ⟨b,o+j,none⟩=some v∧A6 w A β c v)∧∀j,j<cells.length->w.frozen? ⟨b,o+j,none⟩=false
 |.ar fz cells=>(β id=none∧cells=[])∨∃b o,β id=some (b,o)∧EC w A ⟨b,o,none⟩ cells∧(fz=false->∀j,o<=j->j<bsz w b->w.frozen? ⟨b,j,none⟩=false)∧(fz=true->¬A b)
 |.mv=>True
structure Ft where
 X:Nat->Prop
 L:Nat->Nat->Prop
 pn:Nat->Prop
 pt:Nat->Option (Nat × Nat)
 p8:∀i,pn i->i<8
def BR (bx:A1)(o j:Nat):Prop:=
 match bx with
 |.st c=>o<=j∧j<o+c.length
 |.ar _ _=>o<=j
 |.mv=>False
structure Fr (X0:Ft) (w0 w:World):Prop where
 os:w.os=w0.os
 tape:w.tape=w0.tape
 output:w.output=w0.output
 step:Ba X0.X w0 w
 rng:∀b j,b<w0.heap.size->¬X0.L b j->w.cell? ⟨b,j,none⟩=w0.cell? ⟨b,j,none⟩∧w.frozen? ⟨b,j,none⟩=w0.frozen? ⟨b,j,none⟩
structure Br (N:Nat) (w0:World) (X0:Ft) (Y:Nat->Prop) (β:Bt) (s:St) (a:Act) (w:World):Prop where
 dfr:a.defers=[]
 tsz:a.tmps.size=N
 tmo:∀i,N<=i->s.tm i=.top
 tms:∀i,i<N->C1 w (Bz s.hp β Y) β (s.tm i) (a.tmps.getD i undef)
 box:∀id b,s.hp id=some b->Nd w (Bz s.hp β Y) β id b
 inj:∀id id' b o o',Bx (s.hp id)->Bx (s.hp id')->β id=some (b,o)->β id'=some (b,o')->id=id'
 blt:∀id b o,s.hp id≠none->β id=some (b,o)->b<w.heap.size
 wfT:∀i,i<N->∀id∈A5 (s.tm i),s.hp id≠none
 wfB:∀id cells,s.hp id=some (.st cells)->∀c∈cells,∀id'∈Aj c,s.hp id'≠none
 ownd:∀b,BK s.hp β b->X0.X b∨w0.heap.size<=b
 rngB:∀id bx b o,s.hp id=some bx->Bx (some bx)->β id=some (b,o)->b<w0.heap.size->∀j,BR bx o j->X0.L b j
 pin:∀i,X0.pn i->s.hp (B4 N i)≠none∧β (B4 N i)=X0.pt i
 stp:∀id c b o,s.hp id=some (.st c)->β id=some (b,o)->b<w0.heap.size->∃i,id=B4 N i∧X0.pn i
 Yx:∀b,Y b->¬BK s.hp β b
 Ylt:∀b,Y b->b<w0.heap.size
 fr:Fr X0 w0 w
theorem Bu {b:Option A1}(h:Bx b):b≠none:=by rintro rfl;exact h
theorem Af {α:Type}(f:Nat->α)(i:Nat)(v:α):Bi f i v i=v:=by simp[Bi,Nat.beq_refl]
theorem Ad {α:Type}(f:Nat->α){i j:Nat}(v:α)(h:j≠i):Bi f i v j=f j:=by
 have:Nat.beq j i=false:=by
  cases hb:Nat.beq j i
  ·rfl
  ·exact absurd (Nat.eq_of_beq_eq_true hb) h
 simp[Bi,this]
theorem Rt {α:Type}(f:Nat->α){i:Nat}{v:α}(h:f i=v):Bi f i v=f:=by
 funext j
 by_cases e:j=i
 ·subst e;rw[Af];exact h.symm
 ·exact Ad f v e
theorem HF {α:Type}(f:Nat->α){i j:Nat}(u v:α)(h:i≠j):Bi (Bi f i u) j v=Bi (Bi f j v) i u:=by
 funext k
 by_cases e:k=j
 ·subst e;rw[Af,Ad _ _ (Ne.symm h),Af]
 ·rw[Ad _ _ e];by_cases e':k=i
  ·subst e';rw[Af,Af]
  ·rw[Ad _ _ e',Ad _ _ e',Ad _ _ e]
theorem Yy {a:Act}{d:Nat}{v:Value}(h:d<a.tmps.size):(a.put (some d) v).tmps.getD d undef=v:=by
 simp[Act.put,h]
theorem Wd {a:Act}{d i:Nat}{v:Value}(h:i≠d):(a.put (some d) v).tmps.getD i undef=a.tmps.getD i undef:=by
 have h':d≠i:=fun e=>h e.symm
 simp[Act.put,Array.getElem?_setIfInBounds_ne h']
section
variable {N:Nat} {w0:World} {X0:Ft} {Y:Nat->Prop} {β β':Bt} {s:St} {a:Act} {w w':World}
theorem Ru (d:Option Tmp)(v:Value):(a.put d v).tmps.size=a.tmps.size:=by cases d<;>simp[Act.put]
theorem Mu (d:Option Tmp)(v:Value):(a.put d v).defers=a.defers:=by cases d<;>rfl
theorem Mc {d:Option Tmp}(h:Ej N d=true){i:Nat}(e:d=some i):i<N:=by
 subst e;exact Nat.lt_of_succ_le (Nat.le_of_ble_eq_true h)
theorem Kx {Q:Nat->PV->Value->Prop}{tm:Nat->PV}{d:Option Tmp}{v:PV}{val:Value}(hN:a.tmps.size=N)(hd:Ej N d=true)
  (h:∀i,i<N->Q i (tm i) (a.tmps.getD i undef)) (hv:∀i,Q i v val):∀i,i<N->Q i (A0 tm d v i) ((a.put d val).tmps.getD i undef):=by
 intro i hi;cases d with
 |none=>exact h i hi
 |some d=>
  have Bk:=Mc hd rfl;by_cases e:i=d
  ·subst e;show Q i (Bi tm i v i) _;rw[Af,Yy (by omega)]
   exact hv i
  ·show Q i (Bi tm d v i) _;rw[Ad _ _ e,Wd e];exact h i hi
theorem CW {tm:Nat->PV}{d:Option Tmp}{v:PV}(hd:Ej N d=true)(h:∀i,N<=i->tm i=.top):∀i,N<=i->A0 tm d v i=.top:=by
 intro i hi;cases d with
 |none=>exact h i hi
 |some d=>
  have:=Mc hd rfl;show Bi tm d v i=_;rw[Ad _ _ (by omega)]
  exact h i hi
theorem Br.put (h:Br N w0 X0 Y β s a w){d:Option Tmp}{v:PV}{val:Value}(hd:Ej N d=true)(hv:C1 w (Bz s.hp β Y) β v val) (hr:∀id∈A5 v,s.hp id≠none):
  Br N w0 X0 Y β ⟨A0 s.tm d v,s.hp⟩ (a.put d val) w where
 dfr:=by rw[Mu];exact h.dfr
 tsz:=by rw[Ru];exact h.tsz
 tmo:=CW hd h.tmo
 tms:=Kx (Q:=fun _ p u=>C1 w (Bz s.hp β Y) β p u) h.tsz hd h.tms (fun _=>hv)
 box:=h.box
 inj:=h.inj
 blt:=h.blt
 wfT:=by
  have:=Kx (Q:=fun _ p _=>∀id∈A5 p,s.hp id≠none) (val:=val) h.tsz hd h.wfT (fun _=>hr)
  exact this
 wfB:=h.wfB
 ownd:=h.ownd
 rngB:=h.rngB
 pin:=h.pin
 stp:=h.stp
 Yx:=h.Yx
 Ylt:=h.Ylt
 fr:=h.fr
theorem A4 (hp:Nat->Option A1)(ids:List Nat)(i:Nat):Ac hp ids i=if i∈ids then (hp i).map Oc else hp i:=by
 unfold Ac;by_cases hi:i∈ids
 ·have:ids.any (Nat.beq i)=true:=List.any_eq_true.2 ⟨i,hi,Nat.beq_refl i⟩;rw[this,if_pos hi];rfl
 ·have:ids.any (Nat.beq i)=false:=by
   cases hb:ids.any (Nat.beq i)
   ·rfl
   ·obtain⟨j,hj,e⟩:=List.any_eq_true.1 hb;exact absurd (Nat.eq_of_beq_eq_true e ▸ hj) hi
  rw[this,if_neg hi];rfl
theorem Cp {hp:Nat->Option A1}{ids:List Nat}{i:Nat}:Ac hp ids i=none↔hp i=none:=by
 rw[A4];split<;>simp
theorem Ky {hp:Nat->Option A1}{ids:List Nat}{i:Nat}(h:Bx (Ac hp ids i)):Bx (hp i):=by
 rw[A4] at h;split at h
 ·cases hb:hp i with
  |none=>rw[hb] at h;exact h
  |some b=>cases b with
   |st c=>trivial
   |ar fz c=>rw[hb] at h;exact h.elim
   |mv=>rw[hb] at h;exact h
 ·exact h
theorem Gj {hp:Nat->Option A1}{ids:List Nat}{i:Nat}{bx:A1}(h:Ac hp ids i=some bx)(hl:Bx (some bx)):hp i=some bx:=by
 rw[A4] at h;split at h
 ·cases hb:hp i with
  |none=>rw[hb] at h;cases h
  |some b=>
   rw[hb] at h;cases b with
   |st c=>exact h
   |ar fz c=>simp only[Option.map_some,Oc,Option.some.injEq] at h;subst h;exact hl.elim
   |mv=>simp only[Option.map_some,Oc,Option.some.injEq] at h;subst h;exact hl.elim
 ·exact h
theorem L3 {hp:Nat->Option A1}{ids:List Nat}{b:Nat}(h:BK (Ac hp ids) β b):BK hp β b:=by
 obtain⟨id,o,hl,hb⟩:=h;exact⟨id,o,Ky hl,hb⟩
theorem Nd.step' {A A':Nat->Prop}{id:Nat}{bx:A1}(hA:∀b,A' b->A b)(h:Nd w A β id bx):Nd w A' β id bx:=by
 have hs:=Ba.refl A w;cases bx with
 |st c=>
  obtain⟨b,o,h1,h2,h3⟩:=h;exact⟨b,o,h1,fun j c hj=>let ⟨v,hv,hc⟩:=h2 j c hj;⟨v,hv,hc.step hs (fun b _=>hA b) (fun _ _=>rfl)⟩,h3⟩
 |ar fz c=>
  rcases h with h|⟨b,o,h1,h2,h3,h4⟩
  ·exact .inl h
  ·exact .inr ⟨b,o,h1,h2.weak (fun b _=>hA b),h3,fun e x=>h4 e (hA b x)⟩
 |mv=>trivial
theorem Br.freeze (h:Br N w0 X0 Y β s a w){fz:List Nat}(Ng:∀id∈fz,∃f c,s.hp id=some (.ar f c)):Br N w0 X0 Y β ⟨s.tm,Ac s.hp fz⟩ a w:=by
 have hA:∀b,Bz (Ac s.hp fz) β Y b->Bz s.hp β Y b:=fun b hb=>hb.imp L3 id
 refine⟨h.dfr,h.tsz,h.tmo,fun i hi=>(h.tms i hi).step (Ba.refl _ _) (fun b _=>hA b) (fun _ _=>rfl),fun id b hb=>?_,fun id id' b o o' h1 h2=>h.inj id id' b o o' (Ky h1) (Ky h2),
  fun id b o hn=>h.blt id b o (fun e=>hn (Cp.2 e)),fun i hi id Ay e=>h.wfT i hi id Ay (Cp.1 e),fun id cells hc c FC id' Ay e=>?_,fun b hb=>h.ownd b (L3 hb),
  fun id bx b o hb hl=>h.rngB id bx b o (Gj hb hl) hl,fun i hi=>⟨fun e=>(h.pin i hi).1 (Cp.1 e),(h.pin i hi).2⟩,fun id c b o hc=>h.stp id c b o (Gj hc trivial),fun b hb x=>h.Yx b hb (L3 x),h.Ylt,h.fr⟩
 ·simp only at hb;rw[A4] at hb;split at hb
  ·rename_i hm;obtain⟨f,c,hc⟩:=Ng id hm;rw[hc] at hb;simp only[Option.map_some,Oc,Option.some.injEq] at hb;subst hb;have I2:=h.box id _ hc;rcases I2 with I2|⟨b,o,h1,h2,h3,h4⟩
   ·exact .inl I2
   ·refine .inr ⟨b,o,h1,h2.weak (fun b _=>hA b),(fun e=>by cases e),fun _ hb=>?_⟩
    rcases hb with⟨id',o',hl,hb⟩|hY
    ·have VD:=Ky hl;cases f with
     |true=>exact h4 rfl (.inl ⟨id',o',VD,hb⟩)
     |false=>
      have e:=h.inj id' id b o' o VD (by rw[hc];trivial) hb h1
      subst e;simp only at hl;rw[A4,if_pos hm,hc] at hl;exact hl
    ·cases f with
     |true=>exact h4 rfl (.inr hY)
     |false=>exact h.Yx b hY ⟨id,o,by rw[hc];trivial,h1⟩
  ·exact (h.box id b hb).step' hA
 ·simp only at hc;rw[A4] at hc;refine h.wfB id cells ?_ c FC id' Ay (Cp.1 e);split at hc
  ·rename_i hm;obtain⟨f,c,M4⟩:=Ng id hm;rw[M4] at hc;cases hc
  ·exact hc
theorem Ax:∀{nw:List (Nat × A1)} {hp:Nat->Option A1},A3 hp nw=true ->
  (∀id bx,(id,bx)∈nw->hp id=none)∧(∀id bx bx',(id,bx)∈nw->(id,bx')∈nw->bx=bx')
 |[],_,_=>⟨by simp,by simp⟩
 |(i,b)::r,hp,h=>by
  simp only[A3,Bool.and_eq_true,Option.isNone_iff_eq_none,Bool.not_eq_true'] at h;obtain⟨⟨h1,h2⟩,h3⟩:=h;obtain⟨h4,h5⟩:=Ax h3
  have Ie:∀bx,(i,bx) ∉ r:=by
   intro bx hm;have:r.any (fun q=>Nat.beq q.1 i)=true:=List.any_eq_true.2 ⟨_,hm,Nat.beq_refl i⟩
   rw[this] at h2;cases h2
  refine⟨fun id bx hm=>?_,fun id bx bx' hm Jk=>?_⟩
  ·rcases List.mem_cons.1 hm with e|hm
   ·cases e;exact h1
   ·exact h4 id bx hm
  ·rcases List.mem_cons.1 hm with e|hm
   ·cases e;rcases List.mem_cons.1 Jk with e|Jk
    ·cases e;rfl
    ·exact absurd Jk (Ie _)
   ·rcases List.mem_cons.1 Jk with e|Jk
    ·cases e;exact absurd hm (Ie _)
    ·exact h5 id bx bx' hm Jk
theorem Cy:∀{nw:List (Nat × A1)} {hp:Nat->Option A1},(∀id bx bx',(id,bx)∈nw->(id,bx')∈nw->bx=bx') ->
  (∀id bx,(id,bx)∈nw->Ak hp nw id=some bx)∧(∀id,(∀bx,(id,bx) ∉ nw)->Ak hp nw id=hp id)
 |[],_,_=>⟨by simp,fun _ _=>rfl⟩
 |(i,b)::r,hp,h=>by
  obtain⟨h1,h2⟩:=Cy (nw:=r) (hp:=Bi hp i (some b)) (fun id bx bx' hm Jk=>h id bx bx' (by simp[hm]) (by simp[Jk]))
  refine⟨fun id bx hm=>?_,fun id hn=>?_⟩
  ·by_cases hr:∃bx',(id,bx')∈r
   ·obtain⟨bx',hr⟩:=hr;have:=h id bx bx' hm (by simp[hr])
    subst this;exact h1 id bx hr
   ·rcases List.mem_cons.1 hm with e|hm
    ·cases e;show Ak (Bi hp i (some b)) r i=_;rw[h2 i (fun bx' hb=>hr ⟨bx',hb⟩),Af]
    ·exact absurd ⟨bx,hm⟩ hr
  ·show Ak (Bi hp i (some b)) r id=_;rw[h2 id (fun bx hb=>hn bx (by simp[hb])),Ad]
   rintro rfl
   exact hn b (by simp)
structure AS (Y:Nat->Prop) (β:Bt) (s:St) (w:World) (v:PV) (nw:List (Nat × A1)) (val:Value) (w':World) (β':Bt):Prop where
 os:w'.os=w.os
 tape:w'.tape=w.tape
 output:w'.output=w.output
 ext:Ba (fun _=>False) w w'
 old:∀id,s.hp id≠none->β' id=β id
 nlive:∀id bx,(id,bx)∈nw->Bx (some bx)
 nbox:∀id bx,(id,bx)∈nw->Nd w' (Bz (Ak s.hp nw) β' Y) β' id bx
 nblk:∀id bx b o,(id,bx)∈nw->β' id=some (b,o)->w.heap.size<=b∧b<w'.heap.size
 ninj:∀id bx id' bx' b o o',(id,bx)∈nw->(id',bx')∈nw->β' id=some (b,o)->β' id'=some (b,o')->id=id'
 nwf:∀id cells,(id,.st cells)∈nw->∀c∈cells,∀id'∈Aj c,s.hp id'≠none∨∃bx,(id',bx)∈nw
 val:C1 w' (Bz (Ak s.hp nw) β' Y) β' v val
 vwf:∀id∈A5 v,s.hp id≠none∨∃bx,(id,bx)∈nw
theorem Br.stepR (h:Br N w0 X0 Y β s a w){d:Option Tmp}{v:PV}{nw:List (Nat × A1)} {val:Value}(hd:Ej N d=true)(Lk:A3 s.hp nw=true)
  (st:AS Y β s w v nw val w' β'):Br N w0 X0 Y β' ⟨A0 s.tm d v,Ak s.hp nw⟩ (a.put d val) w':=by
 obtain⟨ha1,ha2⟩:=Ax Lk;obtain⟨XC,hg2⟩:=Cy (hp:=s.hp) ha2
 have Fh:∀id,(∃bx,(id,bx)∈nw)∨Ak s.hp nw id=s.hp id:=fun id=>by
  by_cases hx:∃bx,(id,bx)∈nw
  ·exact .inl hx
  ·exact .inr (hg2 id fun bx hb=>hx ⟨bx,hb⟩)
 have Age:∀id,s.hp id≠none->Ak s.hp nw id=s.hp id:=fun id hn=>by
  rcases Fh id with⟨bx,hx⟩|e
  ·exact absurd (ha1 id bx hx) hn
  ·exact e
 have Eg:∀id,(s.hp id≠none∨∃bx,(id,bx)∈nw)->Ak s.hp nw id≠none:=by
  rintro id (hn|⟨bx,hx⟩)
  ·rw[Age id hn];exact hn
  ·rw[XC id bx hx];simp
 have Abb:∀b,b<w.heap.size->BK (Ak s.hp nw) β' b->BK s.hp β b:=by
  rintro b hb ⟨id,o,hl,hβ⟩
  rcases Fh id with⟨bx,hx⟩|e
  ·have:=(st.nblk id bx b o hx hβ).1;omega
  ·rw[e] at hl;exact⟨id,o,hl,by rw[←st.old id (Bu hl)];exact hβ⟩
 have LH:∀b,b<w.heap.size->Bz (Ak s.hp nw) β' Y b->Bz s.hp β Y b:=fun b hb hA=>hA.imp (Abb b hb) id
 have WF:Ba (Bz s.hp β Y) w w':=st.ext.weaken (fun _ _ x=>x.elim)
 refine⟨by rw[Mu];exact h.dfr,by rw[Ru];exact h.tsz,CW hd h.tmo,?_,?_,?_,?_,?_,?_,?_,?_,?_,?_,?_,h.Ylt,?_⟩
 ·refine Kx (Q:=fun _ p u=>C1 w' (Bz (Ak s.hp nw) β' Y) β' p u) h.tsz hd (fun i hi=>?_) (fun _=>st.val)
  exact (h.tms i hi).step WF LH fun id Ay=>st.old id (h.wfT i hi id Ay)
 ·intro id b hb;simp only at hb;rcases Fh id with⟨bx,hx⟩|e
  ·rw[XC id bx hx] at hb;cases hb;exact st.nbox id _ hx
  ·rw[e] at hb;have hβ:=st.old id (by rw[hb];simp)
   have I2:=h.box id b hb;have Bk:=h.blt id;have Ie:s.hp id≠none:=by rw[hb];simp
   cases b with
   |st c=>
    obtain⟨b,o,h1,h2,h3⟩:=I2;have Fp:=Bk b o Ie h1;have R1:=st.ext.keep b Fp (fun x=>x)
    refine⟨b,o,by rw[hβ];exact h1,fun j c hj=>?_,fun j hj=>?_⟩
    ·obtain⟨v,hv,hc⟩:=h2 j c hj;refine⟨v,by rw[World.cell?_of_block (w:=w) R1];exact hv,hc.step WF LH fun id' Ay=>st.old id' ?_⟩
     exact h.wfB id _ hb c (List.mem_of_getElem? hj) id' Ay
    ·rw[World.frozen?_of_block (w:=w) R1];exact h3 j hj
   |ar fz c=>
    rcases I2 with⟨h1,h2⟩|⟨b,o,h1,h2,h3,h4⟩
    ·exact .inl ⟨by rw[hβ];exact h1,h2⟩
    ·have Fp:=Bk b o Ie h1;have R1:=st.ext.keep b Fp (fun x=>x)
     have Yn:bsz w' b=bsz w b:=by unfold bsz;rw[R1]
     refine .inr ⟨b,o,by rw[hβ];exact h1,fun j c hj=>?_,fun e j hj Kp=>?_,fun e x=>h4 e (LH b Fp x)⟩
     ·obtain⟨v,hv,h5,hc⟩:=h2 j c hj;exact⟨v,by rw[World.cell?_of_block (w:=w) (by rw[Eb];exact R1)];exact hv,h5,hc.step WF LH⟩
     ·rw[World.frozen?_of_block (w:=w) R1];exact h3 e j hj (by rw[←Yn];exact Kp)
   |mv=>trivial
 ·intro id id' b o o' hl He hb Fp;simp only at hl He;rcases Fh id with⟨bx,hx⟩|e
  ·rcases Fh id' with⟨bx',W3⟩|e'
   ·exact st.ninj id bx id' bx' b o o' hx W3 hb Fp
   ·rw[e'] at He;have h1:=(st.nblk id bx b o hx hb).1;have h2:=h.blt id' b o' (Bu He) (by rw[←st.old id' (Bu He)];exact Fp)
    omega
  ·rw[e] at hl;rcases Fh id' with⟨bx',W3⟩|e'
   ·have h1:=(st.nblk id' bx' b o' W3 Fp).1;have h2:=h.blt id b o (Bu hl) (by rw[←st.old id (Bu hl)];exact hb)
    omega
   ·rw[e'] at He;exact h.inj id id' b o o' hl He (by rw[←st.old id (Bu hl)];exact hb) (by rw[←st.old id' (Bu He)];exact Fp)
 ·intro id b o hn hb;simp only at hn;rcases Fh id with⟨bx,hx⟩|e
  ·exact (st.nblk id bx b o hx hb).2
  ·rw[e] at hn;exact Nat.lt_of_lt_of_le (h.blt id b o hn (by rw[←st.old id hn];exact hb)) st.ext.size
 ·have:=Kx (Q:=fun _ p _=>∀id∈A5 p,Ak s.hp nw id≠none) (val:=val) (d:=d) (v:=v) h.tsz hd (fun i hi id Ay=>Eg id (.inl (h.wfT i hi id Ay))) (fun _ id Ay=>Eg id (st.vwf id Ay))
  exact this
 ·intro id cells hc c FC id' Ay;simp only at hc;rcases Fh id with⟨bx,hx⟩|e
  ·rw[XC id bx hx] at hc;cases hc;exact Eg id' (st.nwf id _ hx c FC id' Ay)
  ·rw[e] at hc;exact Eg id' (.inl (h.wfB id cells hc c FC id' Ay))
 ·rintro b ⟨id,o,hl,hb⟩
  simp only at hl;rcases Fh id with⟨bx,hx⟩|e
  ·exact .inr (Nat.le_trans h.fr.step.size (st.nblk id bx b o hx hb).1)
  ·rw[e] at hl;exact h.ownd b ⟨id,o,hl,by rw[←st.old id (Bu hl)];exact hb⟩
 ·intro id bx b o hb hl hβ Bk;simp only at hb;rcases Fh id with⟨bx',hx⟩|e
  ·have:=(st.nblk id bx' b o hx hβ).1;have:=h.fr.step.size;omega
  ·rw[e] at hb;exact h.rngB id bx b o hb hl (by rw[←st.old id (by rw[hb];simp)];exact hβ) Bk
 ·intro i hi;obtain⟨h1,h2⟩:=h.pin i hi;exact⟨Eg _ (.inl h1),by rw[st.old _ h1];exact h2⟩
 ·intro id c b o hb hβ Bk;simp only at hb;rcases Fh id with⟨bx',hx⟩|e
  ·have:=(st.nblk id bx' b o hx hβ).1;have:=h.fr.step.size;omega
  ·rw[e] at hb;exact h.stp id c b o hb (by rw[←st.old id (by rw[hb];simp)];exact hβ) Bk
 ·rintro b hY hX
  have hb:b<w.heap.size:=Nat.lt_of_lt_of_le (h.Ylt b hY) h.fr.step.size;exact h.Yx b hY (Abb b hb hX)
 ·refine⟨st.os.trans h.fr.os,st.tape.trans h.fr.tape,st.output.trans h.fr.output,h.fr.step.trans st.ext (fun _ _ x=>x.elim),fun b j hb hL=>?_⟩
  have R1:=st.ext.keep b (Nat.lt_of_lt_of_le hb h.fr.step.size) (fun x=>x)
  have hc:w'.cell? ⟨b,j,none⟩=w.cell? ⟨b,j,none⟩:=World.cell?_of_block (w:=w) R1;have hf:w'.frozen? ⟨b,j,none⟩=w.frozen? ⟨b,j,none⟩:=World.frozen?_of_block (w:=w) R1;rw[hc,hf];exact h.fr.rng b j hb hL
end
open Go.RowKit
section
variable {P:Program} {N:Nat} {w0:World} {X0:Ft} {Y:Nat->Prop} {β β':Bt} {s:St} {a:Act} {w w':World} {o:Oper}
theorem EH (cs:List Value)(A:Nat->Prop):Au (A6 w A β) (cs.map PV.sc) cs:=by
 induction cs with
 |nil=>trivial
 |cons v r ih=>exact⟨Ap.sc v,ih⟩
theorem IZ (cs:List Value):(cs.map PV.sc).flatMap Aj=[]:=by
 induction cs with
 |nil=>rfl
 |cons v r ih=>exact ih
theorem Bv (h:Br N w0 X0 Y β s a w)(x:Operand):C1 w (Bz s.hp β Y) β (A8 s.tm x) (a.eval x):=by
 cases x with
 |tmp t=>
  show C1 _ _ _ (s.tm t) (a.tmps.getD t undef);by_cases ht:t<N
  ·exact h.tms t ht
  ·rw[h.tmo t (Nat.le_of_not_lt ht)];exact Ap.top _
 |const v=>
  cases v with
  |agg cs=>exact⟨cs.toList,by simp[Act.eval],EH cs.toList _⟩
  |_=>exact Ap.sc _
 |func f=>exact Ap.sc _
 |global g=>exact Ap.sc _
theorem Di (h:Br N w0 X0 Y β s a w)(x:Operand):∀id∈A5 (A8 s.tm x),s.hp id≠none:=by
 cases x with
 |tmp t=>
  show ∀id∈A5 (s.tm t),_;by_cases ht:t<N
  ·exact h.wfT t ht
  ·rw[h.tmo t (Nat.le_of_not_lt ht)];intro id Ay;cases Ay
 |const v=>
  cases v with
  |agg cs=>
   intro id Ay;have:A5 (.agg (cs.toList.map .sc))=[]:=IZ cs.toList;simp only[A8] at Ay;rw[this] at Ay;cases Ay
  |_=>intro id Ay;cases Ay
 |func f=>intro id Ay;cases Ay
 |global g=>intro id Ay;cases Ay
theorem Td {A:Nat->Prop}{v u:Value}(h:C1 w A β (.sc v) u):u=v:=Ap.val h
theorem Bl (h:Br N w0 X0 Y β s a w){x:Operand}{v:Value}(e:A8 s.tm x=.sc v):a.eval x=v:=by
 have:=Bv h x;rw[e] at this;exact Td this
def C5 (P:Program)(a:Act)(w:World)(o:Oper)(Y:Nat->Prop)(β:Bt)(s:St)(v:PV)(fz:List Nat)(nw:List (Nat × A1)):Prop:=
 (∀id∈fz,∃f c,s.hp id=some (.ar f c))∧∃val w',(execOp a.eval o).run P w=.ok (.value val) w'∧(A3 s.hp nw=true->∃β',AS Y β ⟨s.tm,Ac s.hp fz⟩ w v nw val w' β')
theorem JR {v:PV}{val:Value}(hv:C1 w (Bz s.hp β Y) β v val) (hr:∀id∈A5 v,s.hp id≠none):AS Y β s w v [] val w β:=
 ⟨rfl,rfl,rfl,Ba.refl _ _,fun _ _=>rfl,by simp,by simp,by simp,by simp,by simp,hv,fun id Ay=>.inl (hr id Ay)⟩
theorem A9 {v:PV}{val:Value}(Bn:(execOp a.eval o).run P w=.ok (.value val) w) (hv:C1 w (Bz s.hp β Y) β v val) (hr:∀id∈A5 v,s.hp id≠none):C5 P a w o Y β s v [] []:=
 ⟨by simp,val,w,Bn,fun _=>⟨β,JR (s:=⟨s.tm,Ac s.hp []⟩) hv hr⟩⟩
theorem Bo {v:Value}(Bn:(execOp a.eval o).run P w=.ok (.value v) w):C5 P a w o Y β s (.sc v) [] []:=A9 Bn (Ap.sc v) (by intro id Ay;cases Ay)
structure D0 (w w':World) (c:Array Value) (e:TypeId):Prop where
 os:w'.os=w.os
 tape:w'.tape=w.tape
 output:w'.output=w.output
 old:∀b,b<w.heap.size->w'.heap[b]?=w.heap[b]?
 size:w'.heap.size=w.heap.size+1
 new:∃fz:Nat × Nat,w'.heap[w.heap.size]?=some (.cells c e fz)∧(fz.1=fz.2∨c.size<=fz.1)
theorem D0.alloc (w:World)(c:Array Value)(e:TypeId):D0 w (w.alloc (.cells c e)) c e:=
 ⟨rfl,rfl,rfl,fun b hb=>Below.heap_alloc w _ b hb,by show (w.heap.push _).size=_;simp,(0,0),by show (w.heap.push _)[w.heap.size]?=_;simp,.inl rfl⟩
theorem D0.drew {c:Array Value}{e:TypeId}(h:D0 w w' c e):D0 w w'.drew c e:=⟨h.os,h.tape,h.output,h.old,h.size,h.new⟩
section
variable {c:Array Value} {e:TypeId}
theorem D0.step (h:D0 w w' c e):Ba (fun _=>False) w w':=
 ⟨by rw[h.size];omega,fun b hb _=>h.old b hb,fun b hb=>Gu.same (h.old b hb)⟩
theorem D0.cell (h:D0 w w' c e)(j:Nat):w'.cell? ⟨w.heap.size,j,none⟩=c[j]?:=by
 obtain⟨fz,hn,_⟩:=h.new;simp[World.cell?,hn]
theorem D0.frozen (h:D0 w w' c e){j:Nat}(hj:j<c.size):w'.frozen? ⟨w.heap.size,j,none⟩=false:=by
 obtain⟨fz,hn,hf⟩:=h.new;simp only[World.frozen?,hn];rcases hf with hf|hf<;>simp<;>omega
theorem H0 (w:World)(c:Array Value)(e:TypeId):FW (w.alloc (.cells c e)) w.heap.size=false:=by
 unfold FW World.frozen?;have:(w.alloc (.cells c e)).heap[w.heap.size]?=some (.cells c e (0,0)):=by show (w.heap.push _)[w.heap.size]?=_;simp
 simp only[this];simp
theorem D0.bsz (h:D0 w w' c e):bsz w' w.heap.size=c.size:=by
 obtain⟨fz,hn,_⟩:=h.new;simp[Pv.bsz,hn]
end
theorem L4 {c:Array Value}{e:TypeId}{d:Nat}{bx:A1}{v:PV}{val:Value}(hg:D0 w w' c e)(hd:s.hp d=none)(hl:Bx (some bx))
  (I2:Nd w' (Bz (Bi s.hp d (some bx)) (Bi β d (some (w.heap.size,0))) Y) (Bi β d (some (w.heap.size,0))) d bx)
  (hcw:∀cells,bx=.st cells->∀x∈cells,∀id'∈Aj x,s.hp id'≠none)
  (hv:C1 w' (Bz (Bi s.hp d (some bx)) (Bi β d (some (w.heap.size,0))) Y) (Bi β d (some (w.heap.size,0))) v val)
  (hvr:∀id∈A5 v,s.hp id≠none∨id=d):AS Y β s w v [(d,bx)] val w' (Bi β d (some (w.heap.size,0))) where
 os:=hg.os
 tape:=hg.tape
 output:=hg.output
 ext:=hg.step
 old:=fun id hn=>Ad _ _ (by rintro rfl;exact hn hd)
 nlive:=by intro id b hm;simp at hm;obtain⟨rfl,rfl⟩:=hm;exact hl
 nbox:=by intro id b hm;simp at hm;obtain⟨rfl,rfl⟩:=hm;exact I2
 nblk:=by
  intro id b x y hm hb;simp at hm;obtain⟨rfl,rfl⟩:=hm;rw[Af] at hb;simp at hb;have:=hg.size;omega
 ninj:=by intro id b id' b' x y z hm Jk _ _;simp at hm Jk;rw[hm.1,Jk.1]
 nwf:=by intro id cells hm x hx id' Ay;simp at hm;exact .inl (hcw cells hm.2.symm x hx id' Ay)
 val:=hv
 vwf:=by
  intro id Ay;rcases hvr id Ay with h|rfl
  ·exact .inl h
  ·exact .inr ⟨bx,by simp⟩
theorem NA {c:Array Value}{e:TypeId}(hg:D0 w w' c e){A A':Nat->Prop}(hA:∀b,b<w.heap.size->A' b->A b){cells:List PV}
  (h:∀(j:Nat) p,cells[j]?=some p->∃v,c[j]?=some v∧v.oneCell'=true∧Ap w A p v):EC w' A' ⟨w.heap.size,0,none⟩ cells:=by
 intro j p hj;obtain⟨v,hv,h1,ht⟩:=h j p hj;exact⟨v,by rw[Cb,Nat.zero_add,hg.cell];exact hv,h1,ht.step (hg.step.weaken (fun _ _ x=>x.elim)) hA⟩
theorem MN {d:Nat}{bx:A1}(hwf:s.hp d=none):∀b,b<w.heap.size->Bz (Bi s.hp d (some bx)) (Bi β d (some (w.heap.size,0))) Y b->Bz s.hp β Y b:=by
 intro b hb hA;rcases hA with⟨id,o,hl,hβ⟩|hY
 ·by_cases e:id=d
  ·subst e;rw[Af] at hβ;simp at hβ;omega
  ·rw[Ad _ _ e] at hl hβ;exact .inl ⟨id,o,hl,hβ⟩
 ·exact .inr hY
theorem Ls {c:Array Value}{e:TypeId}{d:Nat}{cells:List PV}{fz:List Nat}{v:PV}{val:Value}
  (Ng:∀id∈fz,∃f c,s.hp id=some (.ar f c))
  (Bn:(execOp a.eval o).run P w=.ok (.value val) w') (hg:D0 w w' c e)
  (hc:∀(j:Nat) p,cells[j]?=some p->∃u,c[j]?=some u∧u.oneCell'=true∧Ap w (Bz (Ac s.hp fz) β Y) p u)
  (hv:(v=.ptr d 0∧val=.pointer (some ⟨w.heap.size,0,none⟩))∨∃es n cap,v=.view d es 0 n∧val=.slice (some ⟨w.heap.size,0,none⟩) n cap∧n<=cap∧cap*es<=c.size∧(es=1∨FW w' w.heap.size=false)):
  C5 P a w o Y β s v fz [(d,.ar false cells)]:=by
 refine⟨Ng,val,w',Bn,fun Lk=>⟨Bi β d (some (w.heap.size,0)),?_⟩⟩
 have hd:s.hp d=none:=(Ax Lk).1 d (.ar false cells) (by simp)
 have hd':Ac s.hp fz d=none:=Cp.2 hd;refine L4 (s:=⟨s.tm,Ac s.hp fz⟩) hg hd' trivial ?_ (fun cells hx=>by cases hx) ?_ ?_
 ·refine .inr ⟨w.heap.size,0,Af _ _ _,?_,fun _ j _ hj=>?_,(fun x=>by cases x)⟩
  ·exact NA hg (MN (s:=⟨s.tm,Ac s.hp fz⟩) hd') hc
  ·rw[hg.bsz] at hj;exact hg.frozen hj
 ·rcases hv with⟨rfl,rfl⟩|⟨es,n,cap,rfl,rfl,hn,Pg,Ajo⟩
  ·exact⟨w.heap.size,0,Af _ _ _,rfl⟩
  ·exact .inr ⟨w.heap.size,0,0,cap,Af _ _ _,rfl,.inl rfl,hn,⟨by rw[hg.bsz];omega,Ajo⟩,by rw[hg.size];omega⟩
 ·intro id Ay;rcases hv with⟨rfl,_⟩|⟨es,n,cap,rfl,_⟩<;>(simp[A5,Bh,Aj] at Ay;exact .inr Ay)
theorem Zi {c:Array Value}{e:TypeId}{d:Nat}{cells:List PV}
  (Bn:(execOp a.eval o).run P w=.ok (.value (.pointer (some ⟨w.heap.size,0,none⟩))) w') (hg:D0 w w' c e)
  (hc:∀(j:Nat) p,cells[j]?=some p->∃u,c[j]?=some u∧A6 w (Bz s.hp β Y) β p u) (hr:∀x∈cells,∀id∈Aj x,s.hp id≠none):
  C5 P a w o Y β s (.ptr d 0) [] [(d,.st cells)]:=by
 refine⟨by simp,_,w',Bn,fun Lk=>⟨Bi β d (some (w.heap.size,0)),?_⟩⟩
 have hd:s.hp d=none:=(Ax Lk).1 d (.st cells) (by simp)
 refine L4 (s:=⟨s.tm,Ac s.hp []⟩) hg hd trivial ?_ (fun cs hx x QN id Ay=>?_) ?_ ?_
 ·refine⟨w.heap.size,0,Af _ _ _,fun j p hj=>?_,fun j hj=>?_⟩
  ·obtain⟨u,hu,hp⟩:=hc j p hj;refine⟨u,by rw[Nat.zero_add,hg.cell];exact hu,hp.step (hg.step.weaken (fun _ _ x=>x.elim)) (MN (s:=⟨s.tm,Ac s.hp []⟩) hd) fun id Ay=>Ad _ _ ?_⟩
   rintro rfl
   exact hr p (List.mem_of_getElem? hj) id Ay hd
  ·rw[Nat.zero_add];obtain⟨u,hu,_⟩:=hc j _ (List.getElem?_eq_getElem hj)
   exact hg.frozen (by
    rcases Nat.lt_or_ge j c.size with h|h
    ·exact h
    ·rw[Array.getElem?_eq_none h] at hu;cases hu)
 ·injection hx with hx;subst hx;exact hr x QN id Ay
 ·exact⟨w.heap.size,0,Af _ _ _,rfl⟩
 ·intro id Ay;simp[A5,Bh,Aj] at Ay;exact .inr Ay
end
open Go.RowKit
section
variable {R:Type} {r:R} {P:Program} {N:Nat} {w0:World} {X0:Ft} {Y:Nat->Prop} {β β':Bt} {s:St} {a:Act} {w w':World} {o:Oper}
theorem H5 {t:TypeId}{n:Nat}(h:(P.info? t).map (·.size)=some n) (w:World):(sizeOf t).run P w=.ok n w:=by
 cases hi:P.info? t with
 |none=>rw[hi] at h;cases h
 |some i=>rw[hi] at h;simp at h;simp[sizeOf,typeInfo,hi,h]
theorem UM {t:TypeId}{n:Nat}(h:As P t=n)(hn:0<n):(P.info? t).map (·.size)=some n:=by
 unfold As at h;cases hi:(P.info? t).map (·.size) with
 |none=>rw[hi] at h;simp at h;omega
 |some i=>rw[hi] at h;simp at h;rw[h]
theorem Jw {t:TypeId}{d:TypeDesc}(h:P.underlying t=some d)(w:World):(isAgg t).run P w=.ok (A7 P t) w:=by
 unfold isAgg A7;rw[h];simp only[Sem.run_bind,run_underlying h,Result.andThen_ok];cases d<;>rfl
theorem Aai {t:TypeId}{v:Value}{K:PV->Option R}(h:cvK P t v K=some r):∃p,K p=some r∧A5 p=[]∧∀(w:World)(A:Nat->Prop)(β:Bt),C1 w A β p v:=by
 have sc:∀v:Value,K (.sc v)=some r->∃p,K p=some r∧A5 p=[]∧∀(w:World) (A:Nat->Prop) (β:Bt),C1 w A β p v:=fun v h=>⟨_,h,rfl,fun w A β=>Ap.sc v⟩
 unfold cvK at h;split at h
 ·rename_i cs;obtain⟨hl,h⟩:=Ae h;obtain⟨xs,h,hxl,hx⟩:=Oo h;have hl:=Nat.eq_of_beq_eq_true hl;refine⟨_,h,?_,fun w A β=>⟨cs.toList,by simp,?_⟩⟩
  ·show xs.flatMap Aj=[];rw[List.flatMap_eq_nil_iff];intro c hc;obtain⟨j,hj⟩:=List.mem_iff_getElem?.1 hc;exact Fk (hx j c hj).1
  ·refine Au.of_at (by rw[hxl,hl]) fun i c u hc hu=>?_
   obtain⟨hT,p,hp,_,S9⟩:=hx i c hc;refine (Iv hT).2 (S9 w A β u ?_).1;rw[Nat.zero_add,List.getElem?_map,hu] at hp;simp at hp;subst hp;exact Ap.sc u
 ·split at h
  ·exact⟨_,h,rfl,fun w A β=>Ap.lnil true _⟩
  ·cases h
 ·exact sc _ h
theorem Si (h:Br N w0 X0 Y β s a w){x:Operand}(Bn:(execOp a.eval o).run P w=.ok (.value (a.eval x)) w) {K:PV->Option R}(hk:Ub P o.type s.tm x K=some r):
  ∃v,K v=some r∧C5 P a w o Y β s v [] []:=by
 have dflt:K (A8 s.tm x)=some r->∃v,K v=some r∧C5 P a w o Y β s v [] []:=fun hk=>⟨_,hk,A9 Bn (Bv h x) (Di h x)⟩
 cases x with
 |const v=>
  obtain⟨p,hk,hr,hv⟩:=Aai hk;exact⟨p,hk,A9 Bn (hv _ _ _) (by rw[hr];simp)⟩
 |tmp t=>exact dflt hk
 |func f=>exact dflt hk
 |global g=>exact dflt hk
theorem QS {x:Operand}(ho:o.op=.move x):(execOp a.eval o).run P w=.ok (.value (a.eval x)) w:=by unfold execOp;rw[ho];rfl
theorem EO {x:Operand}(ho:o.op=.assign x):(execOp a.eval o).run P w=.ok (.value (a.eval x)) w:=by unfold execOp;rw[ho];rfl
theorem KO (h:Br N w0 X0 Y β s a w){c x y:Operand}(ho:o.op=.pick c x y){K:PV->Option R}(hk:(Bb (A8 s.tm c) fun t=>Cc t (K (A8 s.tm x)) (K (A8 s.tm y)))=some r):
  ∃v,K v=some r∧C5 P a w o Y β s v [] []:=by
 obtain⟨b,hb,hk⟩:=Cg hk;have hc:=Bl h hb;rcases Jr hk with⟨rfl,hk⟩|⟨rfl,hk⟩
 ·exact⟨_,hk,A9 (by unfold execOp;rw[ho];simp[asBool,hc]) (Bv h x) (Di h x)⟩
 ·exact⟨_,hk,A9 (by unfold execOp;rw[ho];simp[asBool,hc]) (Bv h y) (Di h y)⟩
theorem K6 {t:TypeId}{K:List PV->Option R}(h:E1 P t K=some r):∃(v:Value)(cs:List PV),K cs=some r∧Qp P t=some v∧cs.length=(Fy P t).length∧cs.length=v.cells.toList.length∧cs.length=As P t ∧
  ∀(j:Nat) c,cs[j]?=some c->P4 c∧∃u,v.cells.toList[j]?=some u∧u.oneCell'=true∧∀(w:World) (A:Nat->Prop),Ap w A c u:=by
 unfold E1 at h;obtain⟨v,hz,h⟩:=Bq h;obtain⟨hl,h⟩:=Ae h;obtain⟨cs,h,Le,hc⟩:=Oo h;simp only[Bool.and_eq_true] at hl;have We:=Nat.eq_of_beq_eq_true hl.1
 have DT:(Fy P t).length=As P t:=by
  have:=hl.2;simp only[Gn,Bool.and_eq_true] at this;exact Nat.eq_of_beq_eq_true this.2
 refine⟨v,cs,h,hz,Le,by rw[Le,We],by rw[Le,DT],fun j c hj=>?_⟩
 obtain⟨hT,p,hp,_,S9⟩:=hc j c hj;rw[Nat.zero_add,List.getElem?_map] at hp;cases hu:v.cells.toList[j]? with
 |none=>rw[hu] at hp;cases hp
 |some u=>
  rw[hu] at hp;simp at hp;subst hp;exact⟨hT,u,rfl,(S9 default (fun _=>False) (fun _=>none) u (Ap.sc u)).2,fun w A=>(S9 w A (fun _=>none) u (Ap.sc u)).1⟩
theorem P5 {t:TypeId}{v:Value}(h:Qp P t=some v)(w:World):(zeroValue t).run P w=.ok v w:=by
 unfold Qp at h;cases hi:P.info? t with
 |none=>rw[hi] at h;cases h
 |some i=>rw[hi] at h;simp at h;simp[zeroValue,typeInfo,hi,h]
theorem GE {t:TypeId}(ho:o.op=.alloc t){d:Nat}{K:PV->List Nat->List (Nat × A1)->Option R}
  (hk:(E1 P t fun cs=>K (.ptr d 0) [] [(d,WC P t cs)])=some r):∃v fz nw,K v fz nw=some r∧C5 P a w o Y β s v fz nw:=by
 obtain⟨z,cs,hk,hz,_,hl,_,hc⟩:=K6 hk
 have Bn:(execOp a.eval o).run P w=.ok (.value (.pointer (some ⟨w.heap.size,0,none⟩))) (w.alloc (.cells z.cells t)):=by
  unfold execOp;rw[ho];simp[Instr.alloc,P5 hz,newVar,newRow]
 have hg:=D0.alloc w z.cells t;refine⟨_,_,_,hk,?_⟩;unfold WC;cases N9 P t
 ·refine Zi Bn hg (fun j p hj=>?_) fun x hx id Ay=>?_
  ·obtain⟨hT,u,hu,_,hv⟩:=hc j p hj;exact⟨u,by simpa using hu,(Iv hT).2 (hv _ _)⟩
  ·obtain⟨j,hj⟩:=List.mem_iff_getElem?.1 hx;rw[Fk (hc j x hj).1] at Ay;cases Ay
 ·refine Ls (by simp) Bn hg (fun j p hj=>?_) (.inl ⟨rfl,rfl⟩)
  obtain⟨hT,u,hu,h1,hv⟩:=hc j p hj;exact⟨u,by simpa using hu,h1,hv _ _⟩
end
open Go.RowKit
section
variable {R:Type} {r:R} {P:Program} {N:Nat} {w0:World} {X0:Ft} {Y:Nat->Prop} {β β':Bt} {s:St} {a:Act} {w w':World} {o:Oper} {A:Nat->Prop}
theorem Mi {t:TypeId}(h:Gn P t=true):(∃d,P.underlying t=some d)∧(Fy P t).length=As P t∧(P.info? t).map (·.size)=some (As P t):=by
 simp only[Gn,Bool.and_eq_true] at h;refine⟨Option.isSome_iff_exists.1 h.1,Nat.eq_of_beq_eq_true h.2,?_⟩;unfold As;cases hi:P.info? t with
 |none=>unfold Program.underlying at h;rw[hi] at h;cases h.1
 |some i=>simp
theorem Jv {v:Value}(h:v.oneCell'=true):v.cells = #[v]:=by cases v<;>first|rfl|cases h
theorem MH {p:PV}{v:Value}{ts:List CT}{K:List PV->Option R}(hv:C1 w A β p v)(hl:(cellsOf p).length=ts.length) (h:Li ts (cellsOf p) 0 K=some r):
  ∃cs,K cs=some r∧cs.length=ts.length∧Au (A6 w A β) cs v.cells.toList∧(∀u∈v.cells.toList,u.oneCell'=true)∧(∀c∈cs,∀id∈Aj c,id∈A5 p)∧∀c∈cs,(∀x,c ≠ .agg x)∧(∀x,c ≠ .tup x):=by
 obtain⟨cs,h,Le,Tr,hc⟩:=N5 h;refine⟨cs,h,Le,?_⟩
 have single:(∀x,p ≠ .agg x)->cellsOf p=[p]:=by
  intro hp;cases p<;>first|rfl|exact absurd rfl (hp _)
 by_cases Ed:∃x,p=.agg x
 ·obtain⟨x,rfl⟩:=Ed;obtain⟨vs,rfl,h2⟩:=hv;have Dh:cs.length=vs.length:=by rw[Le,←hl];exact h2.len
  have key:∀(i:Nat) c u,cs[i]?=some c->vs[i]?=some u->A6 w A β c u∧u.oneCell'=true:=by
   intro i c u M4 hu;obtain⟨q,hq,_,_,ZT⟩:=hc i c M4;rw[Nat.zero_add] at hq;exact ZT w A β u (h2.at_ hq hu)
  refine⟨Au.of_at Dh fun i c u M4 hu=>(key i c u M4 hu).1,?_,?_,Tr⟩
  ·intro u hu;obtain⟨i,hi⟩:=List.mem_iff_getElem?.1 (show u∈vs from hu)
   have Bk:i<vs.length:=by
    rcases Nat.lt_or_ge i vs.length with h|h
    ·exact h
    ·rw[List.getElem?_eq_none h] at hi;cases hi
   exact (key i _ u (List.getElem?_eq_getElem (by omega)) hi).2
  ·intro c FC id Ay;obtain⟨i,hi⟩:=List.mem_iff_getElem?.1 FC;obtain⟨q,hq,_,hr,_⟩:=hc i c hi;rw[Nat.zero_add] at hq;show id∈x.flatMap Aj;exact List.mem_flatMap.2 ⟨q,List.mem_of_getElem? hq,hr id Ay⟩
 ·have hp:∀x,p ≠ .agg x:=fun x e=>Ed ⟨x,e⟩
  rw[single hp] at hl hc;have We:cs.length=1:=by rw[Le,←hl];rfl
  match cs,We with
  |[c],_=>
   obtain⟨q,hq,hf,hr,ZT⟩:=hc 0 c rfl;simp at hq;subst hq;have Lo:∀x,p ≠ .tup x:=by rintro x rfl;exact hf
   have K2:A6 w A β p v:=(So hp).1 ((M5 Lo).1 hv);obtain⟨h5,h6⟩:=ZT w A β v K2;rw[Jv h6];refine⟨⟨h5,trivial⟩,?_,?_,Tr⟩
   ·intro u hu;simp at hu;subst hu;exact h6
   ·intro c' M4 id Ay;simp at M4;subst M4;have:=hr id Ay;cases p<;>first|exact this|exact absurd rfl (hp _)|exact absurd rfl (Lo _)
end
open Go.RowKit
section
variable {R:Type} {r:R} {P:Program} {N:Nat} {w0:World} {X0:Ft} {Y:Nat->Prop} {β β':Bt} {s:St} {a:Act} {w w':World} {o:Oper} {A:Nat->Prop}
theorem Au.get {α β':Type}{R':α->β'->Prop}{zs:List α}{bs:List β'}(h:Au R' zs bs){i:Nat}{x:α}(hx:zs[i]?=some x):∃y,bs[i]?=some y∧R' x y:=by
 have Bk:i<zs.length:=by
  rcases Nat.lt_or_ge i zs.length with h|h
  ·exact h
  ·rw[List.getElem?_eq_none h] at hx;cases hx
 have hb:bs[i]?=some (bs[i]'(by rw[←h.len];exact Bk)):=List.getElem?_eq_getElem _
 exact⟨_,hb,h.at_ hx hb⟩
theorem XZ {p:PV}{v:Value}{ts:List CT}{K:List PV->Option R}(hv:C1 w A β p v)(hl:(cellsOf p).length=ts.length) (h:Nt ts (cellsOf p) 0 K=some r):
  ∃cs,K cs=some r∧cs.length=ts.length∧Au (Ap w A) cs v.cells.toList∧∀u∈v.cells.toList,u.oneCell'=true:=by
 obtain⟨cs,h,Le,hc⟩:=Oo h;refine⟨cs,h,Le,?_⟩;by_cases Ed:∃x,p=.agg x
 ·obtain⟨x,rfl⟩:=Ed;obtain⟨vs,rfl,h2⟩:=hv;have Dh:cs.length=vs.length:=by rw[Le,←hl];exact h2.len
  have key:∀(i:Nat) c u,cs[i]?=some c->vs[i]?=some u->Ap w A c u∧u.oneCell'=true:=by
   intro i c u M4 hu;obtain⟨_,q,hq,_,ZT⟩:=hc i c M4;rw[Nat.zero_add] at hq;exact ZT w A β u (h2.at_ hq hu)
  refine⟨Au.of_at Dh fun i c u M4 hu=>(key i c u M4 hu).1,?_⟩
  intro u hu;obtain⟨i,hi⟩:=List.mem_iff_getElem?.1 (show u∈vs from hu)
  have Bk:i<vs.length:=by
   rcases Nat.lt_or_ge i vs.length with h|h
   ·exact h
   ·rw[List.getElem?_eq_none h] at hi;cases hi
  exact (key i _ u (List.getElem?_eq_getElem (by omega)) hi).2
 ·have hp:∀x,p ≠ .agg x:=fun x e=>Ed ⟨x,e⟩
  have single:cellsOf p=[p]:=by cases p<;>first|rfl|exact absurd rfl (hp _)
  rw[single] at hl hc;have We:cs.length=1:=by rw[Le,←hl];rfl
  match cs,We with
  |[c],_=>
   obtain⟨_,q,hq,hf,ZT⟩:=hc 0 c rfl;simp at hq;subst hq;have Lo:∀x,p ≠ .tup x:=by rintro x rfl;exact hf
   have K2:A6 w A β p v:=(So hp).1 ((M5 Lo).1 hv);obtain⟨h5,h6⟩:=ZT w A β v K2;rw[Jv h6];exact⟨⟨h5,trivial⟩,fun u hu=>by simp at hu;subst hu;exact h6⟩
theorem QG (h:Br N w0 X0 Y β s a w){t:TypeId}{x:Operand}(ho:o.op=.box t x){d:Nat}{K:PV->List Nat->List (Nat × A1)->Option R}
    (hk:(Ao (Gn P t&&Nat.beq (cellsOf (A8 s.tm x)).length (Fy P t).length)
      (bif N9 P t then Nt (Fy P t) (cellsOf (A8 s.tm x)) 0 fun cs=>K (.ptr d 0) [] [(d,.ar false cs)]
       else Li (Fy P t) (cellsOf (A8 s.tm x)) 0 fun cs=>K (.ptr d 0) [] [(d,.st cs)]))=some r):∃v fz nw,K v fz nw=some r∧C5 P a w o Y β s v fz nw:=by
  obtain⟨hl,hk⟩:=Ae hk
  simp only[Bool.and_eq_true] at hl
  have hl:=Nat.eq_of_beq_eq_true hl.2
  have Bn:(execOp a.eval o).run P w=.ok (.value (.pointer (some ⟨w.heap.size,0,none⟩))) (w.alloc (.cells (a.eval x).cells t)):=by
    unfold execOp
    rw[ho]
    simp[Instr.box,newVar,newRow]
  have hg:=D0.alloc w (a.eval x).cells t
  cases ha:N9 P t
  · rw[ha] at hk
    obtain⟨cs,hk,_,h2,_,hr,_⟩:=MH (Bv h x) hl hk
    refine⟨_,_,_,hk,Zi Bn hg (fun j p hj=>?_) fun c hc id Ay=>Di h x id (hr c hc id Ay)⟩
    obtain⟨u,hu,hp⟩:=h2.get hj
    exact⟨u,by simpa using hu,hp⟩
  · rw[ha] at hk
    obtain⟨cs,hk,_,h2,h1⟩:=XZ (Bv h x) hl hk
    refine⟨_,_,_,hk,Ls (by simp) Bn hg (fun j p hj=>?_) (.inl ⟨rfl,rfl⟩)⟩
    obtain⟨u,hu,hp⟩:=h2.get hj
    exact⟨u,by simpa using hu,h1 u (List.mem_of_getElem? hu),hp⟩
theorem KH {c:PV}(h1:∀x,c ≠ .agg x)(h2:∀x,c ≠ .tup x):A5 c=Aj c:=by
 cases c<;>first|rfl|exact absurd rfl (h1 _)|exact absurd rfl (h2 _)
theorem Rk {t:TypeId}{ad:Addr}{cs:List PV}{p:PV}(Js:Gn P t=true)(Dh:cs.length=(Fy P t).length)
  (Tr:∀c∈cs,(∀x,c ≠ .agg x)∧(∀x,c ≠ .tup x))
  (hc:∀(j:Nat) c,cs[j]?=some c->∃v,w.cell? (ad.add j)=some v∧A6 w A β c v)
  (hp:(A7 P t=true∧p=.agg cs)∨(A7 P t=false∧cs=[p])):∃val,(loadVar t ad).run P w=.ok val w∧C1 w A β p val:=by
 obtain⟨⟨d,hd⟩,hl,hi⟩:=Mi Js;rcases hp with⟨Ed,rfl⟩|⟨Ed,rfl⟩
 ·have hf:∀j,j<As P t->w.cell? (ad.add j)=some ((w.cell? (ad.add j)).getD undef):=by
   intro j hj;obtain⟨v,hv,_⟩:=hc j _ (List.getElem?_eq_getElem (by omega))
   rw[hv];rfl
  refine⟨_,?_,(List.range (As P t)).map (fun j=>(w.cell? (ad.add j)).getD undef),rfl,?_⟩
  ·simp only[loadVar,Sem.run_bind,Jw hd,Ed,Result.andThen_ok,if_true,H5 hi,run_loadCells w ad (As P t) _ hf];simp
  ·refine Au.of_at (by simp;omega) fun i c u M4 hu=>?_
   obtain⟨v,hv,Va⟩:=hc i c M4
   have Bk:i<As P t:=by
    rcases Nat.lt_or_ge i cs.length with h|h
    ·omega
    ·rw[List.getElem?_eq_none h] at M4;cases M4
   rw[List.getElem?_map,List.getElem?_range Bk] at hu;simp[hv] at hu;subst hu;exact Va
 ·obtain⟨v,hv,Va⟩:=hc 0 p rfl;have hn:=Tr p (by simp)
  have h0:ad.add 0=ad:=by simp[Addr.add]
  rw[h0] at hv;refine⟨v,?_,(M5 hn.2).2 ((So hn.1).2 Va)⟩;simp only[loadVar,Sem.run_bind,Jw hd,Ed,Result.andThen_ok];simp[hv]
theorem VJ {hp:Nat->Option A1}{id:Nat}{c:List PV}(h:rd hp id=some c):hp id=some (.st c)∨∃f,hp id=some (.ar f c):=by
 unfold rd at h;split at h
 ·rename_i e;simp at h;subst h;exact .inl e
 ·rename_i f _ e;simp at h;subst h;exact .inr ⟨_,e⟩
 ·cases h
theorem DG {hp:Nat->Option A1}{id:Nat}{c:List PV}(h:Hd hp id=some c):∃f,hp id=some (.ar f c):=by
 unfold Hd at h;split at h
 ·rename_i e;simp at h;subst h;exact⟨_,e⟩
 ·cases h
theorem Xs (h:Br N w0 X0 Y β s a w){id:Nat}{c:List PV}(hr:rd s.hp id=some c){b ob:Nat}(hβ:β id=some (b,ob)) {j:Nat}{p:PV}(hj:c[j]?=some p):
  ∃v,w.cell? ⟨b,ob+j,none⟩=some v∧A6 w (Bz s.hp β Y) β p v:=by
 rcases VJ hr with hb|⟨f,hb⟩
 ·obtain⟨b',o',h1,h2,_⟩:=h.box id _ hb;rw[hβ] at h1;simp at h1;obtain⟨rfl,rfl⟩:=h1;exact h2 j p hj
 ·rcases h.box id _ hb with⟨h1,_⟩|⟨b',o',h1,h2,_⟩
  ·rw[hβ] at h1;cases h1
  ·rw[hβ] at h1;simp at h1;obtain⟨rfl,rfl⟩:=h1
   obtain⟨v,hv,_,ht⟩:=h2 j p hj;rw[Cb] at hv;refine⟨v,hv,?_⟩;cases ht with
   |sc=>exact Ap.sc _
   |top=>exact Ap.top _
   |ub=>exact Ap.ub _
   |lnil=>exact Ap.lnil _ _
   |lemp=>exact Ap.lemp _ _ _
   |lst es n cells a cap f hs hb hA hn hc h1 hr=>exact Ap.lst es n cells a cap f hs hb hA hn hc h1 hr
theorem H8:∀{ts:List CT}{cells:List PV}{off:Nat}{K:List PV->Option R},Nt ts cells off K=some r->Li ts cells off K=some r
 |[],_,_,_,h=>h
 |.int k::ts,cells,off,K,h=>by
  obtain⟨n,hp,h⟩:=C9 (show Al k (cells.getD off .top) _=some r from h)
  show Al k _ _=_;rw[hp];simp only[Al,if_true];exact H8 h
 |.bool::ts,cells,off,K,h=>by
  obtain⟨n,hp,h⟩:=Cg (show Bb (cells.getD off .top) _=some r from h)
  show Bb _ _=_;rw[hp];exact H8 h
 |.str::ts,cells,off,K,h=>by
  obtain⟨n,hp,h⟩:=Cf (show Et (cells.getD off .top) _=some r from h)
  show Et _ _=_;rw[hp];exact H8 h
 |.sl es::ts,cells,off,K,h=>by
  obtain⟨z,n,c,h,hp⟩:=Dy (show Gs es (cells.getD off .top) _=some r from h)
  change fcK (.sl es) (cells.getD off .top) (fun c=>Li ts cells (off+1) fun r=>K (c::r))=some r
  unfold fcK;dsimp only;unfold fsK;rcases hp with hp|⟨hp,rfl,rfl,rfl⟩
  ·rw[hp];simp only[Gs,Nat.beq_refl,cond_true];exact H8 h
  ·rw[hp];exact H8 h
 |.any::ts,cells,off,K,h=>by
  obtain⟨f,a,b,hp,h⟩:=CJ (show RD (cells.getD off .top) (fun v=>Nt ts cells (off+1) fun r=>K (.sc v::r))=some r from h)
  show RD (cells.getD off .top) (fun v=>Li ts cells (off+1) fun r=>K (.sc v::r))=some r
  rw[hp];exact H8 h
theorem Ap.unz {w:World}{A:Nat->Prop}{z:Bool}{es n:Nat}{c:List PV}{u:Value}(h:Ap w A (.lst z es n c) u):Ap w A (.lst false es n c) u:=by
 cases h with
 |lnil z es=>exact .lnil false es
 |lemp es a cap=>exact .lemp es a cap
 |lst es n c a cap f h1 h2 h3 h4 h5 h6 h7=>exact .lst es n c a cap f h1 h2 h3 h4 h5 h6 h7
theorem OL {w:World}{A:Nat->Prop}{β:Bt}{p:PV}{u:Value}(h:A6 w A β p u):A6 w A β (BG p) u:=by
 cases p with
 |lst z es n c=>exact Ap.unz h
 |_=>exact h
theorem JW (p:PV):Aj (BG p)=Aj p:=by cases p<;>rfl
theorem AX {w:World}{A:Nat->Prop}{β:Bt}:∀{cs:List PV}{vs:List Value},Au (A6 w A β) cs vs->Au (A6 w A β) (cs.map BG) vs
 |[],[],_=>trivial
 |_::_,_::_,h=>⟨OL h.1,AX h.2⟩
 |[],_::_,h=>h.elim
 |_::_,[],h=>h.elim
theorem OS {w:World}{A:Nat->Prop}{β:Bt}{p:PV}{u:Value}(h:C1 w A β p u):C1 w A β (JV p) u:=by
 cases p with
 |agg cs=>
  obtain⟨vs,h1,h2⟩:=(show Fq w A β (.agg cs) u from h)
  exact⟨vs,h1,AX h2⟩
 |lst z es n c=>exact Ap.unz (show Ap w A (.lst z es n c) u from h)
 |_=>exact h
theorem NN (p:PV):A5 (JV p)=A5 p:=by
 cases p with
 |agg cs=>
  show (cs.map BG).flatMap Aj=cs.flatMap Aj
  induction cs with
  |nil=>rfl
  |cons a l ih=>rw[List.map_cons,List.flatMap_cons,List.flatMap_cons,ih,JW]
 |_=>rfl
theorem YO {nz:Bool}{hp:Nat->Option A1}{t:TypeId}{x:PV}{K:PV->Option R}(h:Rz nz P (rd hp) (Hd hp) t x K=some r):
  Q1 P (rd hp) t x K=some r∨Q1 P (rd hp) t x (fun v=>K (JV v))=some r:=by
 have h':Q1 P (rd hp) t x K=some r∨Q1 P (rd hp) t x (fun v=>K (bif nz then v else JV v))=some r:=by
  unfold Rz at h;unfold Q1;split at h
  ·rename_i id off;obtain⟨hb,h⟩:=Ae h;rw[hb];show Da _ _=_∨Da _ _=_;split at h
   ·rename_i c hc;obtain⟨f,I2⟩:=DG hc;have:rd hp id=some c:=by unfold rd;rw[I2]
    rw[this];exact .inr (H8 h)
   ·exact .inl h
  ·exact .inr h
  ·cases h
 cases nz
 ·exact h'
 ·exact .inl (h'.elim id id)
theorem Zq (h:Br N w0 X0 Y β s a w){t:TypeId}{x:PV}{u:Value}(hx:C1 w (Bz s.hp β Y) β x u) {K:PV->Option R}(hk:Q1 P (rd s.hp) t x K=some r):
  ∃v ad val,K v=some r∧u=.pointer (some ad)∧(loadVar t ad).run P w=.ok val w∧C1 w (Bz s.hp β Y) β v val∧∀i∈A5 v,s.hp i≠none:=by
 unfold Q1 at hk;split at hk
 ·rename_i id off;obtain⟨Js,hk⟩:=Ae hk;obtain⟨c,hr,hk⟩:=Bq hk;obtain⟨cs,hk,hl,Tr,hc⟩:=N5 hk;obtain⟨b,ob,hβ,B0⟩:=hx
  have hcell:∀(j:Nat) q,cs[j]?=some q->∃v,w.cell? ((⟨b,ob+off,none⟩:Addr).add j)=some v∧A6 w (Bz s.hp β Y) β q v:=by
   intro j q hq;obtain⟨p,hp,_,_,S9⟩:=hc j q hq;obtain⟨v,hv,Va⟩:=Xs h hr hβ hp;exact⟨v,by rw[Cb,Nat.add_assoc];exact hv,(S9 _ _ _ _ Va).1⟩
  have P9:∀q∈cs,∀i∈Aj q,s.hp i≠none:=by
   intro q hq i hi;obtain⟨j,hj⟩:=List.mem_iff_getElem?.1 hq;obtain⟨p,hp,_,hpr,_⟩:=hc j q hj;rcases VJ hr with hb|⟨f,hb⟩
   ·exact h.wfB id c hb p (List.mem_of_getElem? hp) i (hpr i hi)
   ·obtain⟨v,hv,Va⟩:=Xs h hr hβ hp;exfalso;have Bs:=hpr i hi;rcases h.box id _ hb with⟨_,rfl⟩|⟨b',o',h1,h2,_⟩
    ·simp at hp
    ·obtain⟨v',_,_,ht⟩:=h2 _ p hp;cases ht<;>cases Bs
  rcases BP hk with⟨Ed,Dq⟩|⟨Ed,q,rfl,Dq⟩
  ·obtain⟨val,Ry,hv⟩:=Rk Js hl Tr hcell (.inl ⟨Ed,rfl⟩);refine⟨_,_,val,Dq,B0,Ry,hv,fun i hi=>?_⟩
   obtain⟨q,hq,hi⟩:=List.mem_flatMap.1 (show i∈cs.flatMap Aj from hi)
   exact P9 q hq i hi
  ·obtain⟨val,Ry,hv⟩:=Rk Js hl Tr hcell (.inr ⟨Ed,rfl⟩);refine⟨_,_,val,Dq,B0,Ry,hv,fun i hi=>P9 q (by simp) i ?_⟩
   have hn:=Tr q (by simp)
   rw[KH hn.1 hn.2] at hi;exact hi
 ·rename_i c off;obtain⟨Js,hk⟩:=Ae hk;obtain⟨cs,hk,hl,hc⟩:=Oo hk;obtain⟨ad,B0,hs,hb,hA,hrd⟩:=hx
  have Tr:∀q∈cs,(∀x,q ≠ .agg x)∧(∀x,q ≠ .tup x):=by
   intro q hq;obtain⟨j,hj⟩:=List.mem_iff_getElem?.1 hq;exact⟨Rj (hc j q hj).1,NC (hc j q hj).1⟩
  have hcell:∀(j:Nat) q,cs[j]?=some q->∃v,w.cell? ((ad.add off).add j)=some v∧A6 w (Bz s.hp β Y) β q v:=by
   intro j q hq;obtain⟨hT,p,hp,Yf,S9⟩:=hc j q hq;obtain⟨v,hv,_,ht⟩:=hrd (off+j) p hp;exact⟨v,by rw[add_add];exact hv,(Iv hT).2 (S9 w (Bz s.hp β Y) β v ((Iv Yf).2 ht)).1⟩
  have P9:∀q∈cs,Aj q=[]:=by
   intro q hq;obtain⟨j,hj⟩:=List.mem_iff_getElem?.1 hq;exact Fk (hc j q hj).1
  rcases BP hk with⟨Ed,Dq⟩|⟨Ed,q,rfl,Dq⟩
  ·obtain⟨val,Ry,hv⟩:=Rk Js hl Tr hcell (.inl ⟨Ed,rfl⟩);refine⟨_,_,val,Dq,B0,Ry,hv,fun i hi=>?_⟩
   obtain⟨q,hq,hi⟩:=List.mem_flatMap.1 (show i∈cs.flatMap Aj from hi)
   rw[P9 q hq] at hi;cases hi
  ·obtain⟨val,Ry,hv⟩:=Rk Js hl Tr hcell (.inr ⟨Ed,rfl⟩);refine⟨_,_,val,Dq,B0,Ry,hv,fun i hi=>?_⟩
   have hn:=Tr q (by simp)
   rw[KH hn.1 hn.2,P9 q (by simp)] at hi
   cases hi
 ·cases hk
theorem FA (h:Br N w0 X0 Y β s a w){t:TypeId}{x:PV}{u:Value}(hx:C1 w (Bz s.hp β Y) β x u) {nz:Bool}{K:PV->Option R}(hk:Rz nz P (rd s.hp) (Hd s.hp) t x K=some r):
  ∃v ad val,K v=some r∧u=.pointer (some ad)∧(loadVar t ad).run P w=.ok val w∧C1 w (Bz s.hp β Y) β v val∧∀i∈A5 v,s.hp i≠none:=by
 rcases YO hk with hk|hk
 ·exact Zq h hx hk
 ·obtain⟨v,ad,val,h1,h2,h3,h4,h5⟩:=Zq h hx hk;exact⟨JV v,ad,val,h1,h2,h3,OS h4,by rw[NN];exact h5⟩
theorem LB (h:Br N w0 X0 Y β s a w){t:TypeId}{x:Operand}(ho:o.op=.load t x){nz:Bool}{K:PV->Option R}(hk:Rz nz P (rd s.hp) (Hd s.hp) t (A8 s.tm x) K=some r):
  ∃v,K v=some r∧C5 P a w o Y β s v [] []:=by
 obtain⟨v,ad,val,Cs,B0,hl,hv,hr⟩:=FA h (Bv h x) hk;refine⟨v,Cs,A9 ?_ hv hr⟩;unfold execOp;rw[ho];simp[Instr.loadAt,Instr.sureAddr,B0,hl]
theorem OP {x:PV}{d:Nat}{K:PV->Option R}(h:Oa x d K=some r):(∃id off,x=.ptr id off∧K (.ptr id (off+d))=some r)∨∃c off,x=.iptr c off∧K (.iptr c (off+d))=some r:=by
 unfold Oa at h;split at h
 ·exact .inl ⟨_,_,rfl,h⟩
 ·exact .inr ⟨_,_,rfl,h⟩
 ·cases h
theorem Qw (h:Br N w0 X0 Y β s a w){x:Operand}{d:Nat}{K:PV->Option R}(hk:Oa (A8 s.tm x) d K=some r)
  (Bn:∀ad:Addr,a.eval x=.pointer (some ad)->(execOp a.eval o).run P w=.ok (.value (.pointer (some (ad.add d)))) w):∃v,K v=some r∧C5 P a w o Y β s v [] []:=by
 have hx:=Bv h x;have Yl:=Di h x;rcases OP hk with⟨id,off,e,hk⟩|⟨c,off,e,hk⟩
 ·rw[e] at hx Yl;obtain⟨b,ob,hβ,B0⟩:=hx;refine⟨_,hk,A9 (Bn _ B0) ⟨b,ob,hβ,by rw[Cb,Nat.add_assoc]⟩ Yl⟩
 ·rw[e] at hx;obtain⟨ad,B0,h1,h2,h3,h4⟩:=hx;exact⟨_,hk,A9 (Bn _ B0) ⟨ad,by rw[add_add],h1,h2,h3,h4⟩ (by intro i hi;cases hi)⟩
theorem X6 (h:Br N w0 X0 Y β s a w){x:Operand}(ho:o.op=.nilCheck x){K:PV->Option R}(hk:Oa (A8 s.tm x) 0 K=some r):∃v,K v=some r∧C5 P a w o Y β s v [] []:=by
 refine Qw h hk fun ad B0=>?_
 unfold execOp;rw[ho];simp[B0,Addr.add]
theorem R4 {t:TypeId}{f:Nat}{q:Nat × TypeId}(h:L9 P t f=some q):∃fs g,P.underlying t=some (.struct fs)∧fs[f]?=some g∧q=(g.offset,g.type):=by
 unfold L9 at h;split at h
 ·rename_i fs e;cases hg:fs[f]? with
  |none=>rw[hg] at h;cases h
  |some g=>rw[hg] at h;simp at h;exact⟨fs,g,e,hg,h.symm⟩
 ·cases h
theorem Vr (h:Br N w0 X0 Y β s a w){t:TypeId}{x:Operand}{f:Nat}(ho:o.op=.fieldAddr t x f){K:PV->Option R}
  (hk:(Da (L9 P t f) fun q=>Ao (Nat.ble 1 (As P q.2)) (Oa (A8 s.tm x) q.1 K))=some r):∃v,K v=some r∧C5 P a w o Y β s v [] []:=by
 obtain⟨q,hq,hk⟩:=Bq hk;obtain⟨hs,hk⟩:=Ae hk;obtain⟨fs,g,hu,hg,rfl⟩:=R4 hq;have hs:1<=As P g.type:=Nat.le_of_ble_eq_true hs;have Jx:=UM (P:=P) (t:=g.type) rfl (by omega)
 refine Qw h hk fun ad B0=>?_
 unfold execOp;rw[ho];have Ie:¬As P g.type=0:=by omega
 simp[Instr.fieldAt,run_underlying hu,hg,Instr.sureAddr,B0,fieldPlace,H5 Jx,Ie]
end
open Go.RowKit
section
variable {R:Type} {r:R} {P:Program} {N:Nat} {w0:World} {X0:Ft} {Y:Nat->Prop} {β β':Bt} {s:St} {a:Act} {w w':World} {o:Oper} {A:Nat->Prop}
theorem Xa (h:Br N w0 X0 Y β s a w){t:TypeId}{cs:List PV}{vs:List Value}{off:Nat}{K:PV->Option R}{x:Operand}(hx:A8 s.tm x=.agg cs)(hv:Au (A6 w (Bz s.hp β Y) β) cs vs)
  (hk:Ao (Gn P t) (Li (Fy P t) cs off fun c=>LL (A7 P t) c K)=some r)
  (Bn:∀val,(part t ⟨vs⟩ off).run P w=.ok val w->(execOp a.eval o).run P w=.ok (.value val) w):∃v,K v=some r∧C5 P a w o Y β s v [] []:=by
 obtain⟨Js,hk⟩:=Ae hk;obtain⟨⟨d,hd⟩,hl,hi⟩:=Mi Js;obtain⟨qs,hk,hql,Tr,hq⟩:=N5 hk;have Yl:=Di h x;rw[hx] at Yl
 have hcell:∀(j:Nat) q,qs[j]?=some q->∃v,vs[off+j]?=some v∧A6 w (Bz s.hp β Y) β q v:=by
  intro j q hj;obtain⟨p,hp,_,_,S9⟩:=hq j q hj;obtain⟨v,K2,hc⟩:=hv.get hp;exact⟨v,K2,(S9 _ _ _ _ hc).1⟩
 have P9:∀q∈qs,∀i∈Aj q,s.hp i≠none:=by
  intro q hqm i hi;obtain⟨j,hj⟩:=List.mem_iff_getElem?.1 hqm;obtain⟨p,hp,_,hpr,_⟩:=hq j q hj;exact Yl i (List.mem_flatMap.2 ⟨p,List.mem_of_getElem? hp,hpr i hi⟩)
 rcases BP hk with⟨Ed,Dq⟩|⟨Ed,q,rfl,Dq⟩
 ·have Tn:As P t=0∨off+As P t<=vs.length:=by
   rcases Nat.eq_zero_or_pos (As P t) with h0|h0
   ·exact .inl h0
   ·obtain⟨v,K2,_⟩:=hcell (As P t-1) _ (List.getElem?_eq_getElem (by omega))
    have:off+(As P t-1)<vs.length:=by
     rcases Nat.lt_or_ge (off+(As P t-1)) vs.length with h|h
     ·exact h
     ·rw[List.getElem?_eq_none h] at K2;cases K2
    exact .inr (by omega)
  refine⟨_,Dq,A9 (Bn (.agg ⟨(vs.drop off).take (As P t)⟩) ?_) ⟨(vs.drop off).take (As P t),rfl,?_⟩ fun i hi=>?_⟩
  ·simp only[part,Sem.run_bind,Jw hd,Ed,Result.andThen_ok,if_true,H5 hi];simp[List.extract_eq_take_drop]
  ·refine Au.of_at ?_ fun i c u hc hu=>?_
   ·simp only[List.length_take,List.length_drop];omega
   ·obtain⟨v,K2,Va⟩:=hcell i c hc
    have Bk:i<As P t:=by
     rcases Nat.lt_or_ge i qs.length with h|h
     ·omega
     ·rw[List.getElem?_eq_none h] at hc;cases hc
    rw[List.getElem?_take_of_lt Bk,List.getElem?_drop,K2] at hu;cases hu;exact Va
  ·obtain⟨q,hqm,hi⟩:=List.mem_flatMap.1 (show i∈qs.flatMap Aj from hi)
   exact P9 q hqm i hi
 ·obtain⟨v,K2,Va⟩:=hcell 0 q rfl;have hn:=Tr q (by simp)
  refine⟨_,Dq,A9 (Bn v ?_) ((M5 hn.2).2 ((So hn.1).2 Va)) fun i hi=>?_⟩
  ·simp only[part,Sem.run_bind,Jw hd,Ed,Result.andThen_ok];rw[Nat.add_zero] at K2;simp[K2]
  ·rw[KH hn.1 hn.2] at hi;exact P9 q (by simp) i hi
theorem HG (h:Br N w0 X0 Y β s a w){t:TypeId}{x:Operand}{f:Nat}(ho:o.op=.field t x f){K:PV->Option R}
  (hk:(Da (L9 P t f) fun q=>Ao (Gn P q.2)<|E7 (A8 s.tm x) fun cs=>Li (Fy P q.2) cs q.1 fun c=>LL (A7 P q.2) c K)=some r):∃v,K v=some r∧C5 P a w o Y β s v [] []:=by
 obtain⟨q,hq,hk⟩:=Bq hk;obtain⟨Js,hk⟩:=Ae hk;obtain⟨cs,hx,hk⟩:=Fg hk;obtain⟨fs,g,hu,hg,rfl⟩:=R4 hq;have hxv:=Bv h x;rw[hx] at hxv;obtain⟨vs,B0,hv⟩:=hxv;refine Xa (t:=g.type) (off:=g.offset) h hx hv (by rw[show Gn P g.type=true from Js];exact hk) fun val hp=>?_
 unfold execOp;rw[ho];simp[Instr.field,run_underlying hu,hg,asAgg,B0,hp]
theorem Y8 (h:Br N w0 X0 Y β s a w){x:Operand}{i:Nat}(ho:o.op=.extract x i){K:PV->Option R}
  (hk:(match A8 s.tm x with | .tup vs=>Da vs[i]? K|_=>none)=some r):∃v,K v=some r∧C5 P a w o Y β s v [] []:=by
 have hx:=Bv h x;have Yl:=Di h x;split at hk
 ·rename_i ps e;rw[e] at hx Yl;obtain⟨p,hp,hk⟩:=Bq hk;obtain⟨vs,B0,hv⟩:=hx;obtain⟨v,K2,S9⟩:=hv.get hp
  have Aav:∀y,p ≠ .tup y:=by
   rintro y rfl
   have Amn:Ap _ _ (.tup y) v:=S9;cases Amn
  refine⟨p,hk,A9 (val:=v) ?_ ((M5 Aav).2 S9) fun id Ay=>Yl id ?_⟩
  ·unfold execOp;rw[ho];simp[Instr.extract,B0,K2]
  ·refine List.mem_flatMap.2 ⟨p,List.mem_of_getElem? hp,?_⟩;cases p<;>first|exact Ay|exact absurd rfl (Aav _)
 ·cases hk
theorem El {es:Nat}{p:PV}{z:Bool}{n:Nat}{c:List PV}{v:Value}(hp:p=.lst z es n c∨(p=.sc (.slice none 0 0)∧z=true∧n=0∧c=[])) (hv:C1 w A β p v):
  (v=.slice none 0 0∧n=0∧c=[])∨(∃ad cap,v=.slice (some ad) n cap∧z=false∧n<=cap∧ad.spot=none∧ad.block<w.heap.size∧¬A ad.block∧EC w A ad c)∨∃ad cap,v=.slice (some ad) 0 cap∧z=false∧n=0∧c=[]:=by
 have K2:A6 w A β p v:=by rcases hp with rfl|⟨rfl,_⟩<;>exact hv
 have ht:=Qn hp K2;cases ht with
 |lnil=>exact .inl ⟨rfl,rfl,rfl⟩
 |lst _ _ _ ad cap f hs hb hA hn hc h1 hr=>exact .inr (.inl ⟨ad,cap,rfl,rfl,hn,hs,hb,hA,fun j q hj=>⟨f j,hc j q hj,h1 j q hj,hr j q hj⟩⟩)
 |lemp _ ad cap=>exact .inr (.inr ⟨ad,cap,rfl,rfl,rfl,rfl⟩)
theorem Vc (h:Br N w0 X0 Y β s a w){t:TypeId}{x i:Operand}(ho:o.op=.indexAddr t x i){K:PV->Option R}
  (hk:(B8 (A8 s.tm i) fun _ n=>H3 P t (A8 s.tm x) n K)=some r):∃v,K v=some r∧C5 P a w o Y β s v [] []:=by
 obtain⟨ik,n,hi,hk⟩:=B2 hk;have hai:=Bl h hi;have hx:=Bv h x;have Yl:=Di h x;unfold H3 at hk;split at hk
 ·rename_i len e hu;obtain⟨hz,hk⟩:=Ae hk;obtain⟨hb,hk⟩:=Ae hk;simp only[Bool.and_eq_true,decide_eq_true_eq] at hb;obtain⟨inf,Lc⟩:=Option.isSome_iff_exists.1 hz;refine Qw h hk fun ad B0=>?_
  unfold execOp;rw[ho];simp[Instr.indexAt,asIntOf,hai,B0,run_underlying hu,Instr.sureAddr,hb.1,hb.2,sizeOf,typeInfo,Lc,As]
 ·rename_i e hu;obtain⟨hz,hk⟩:=Ae hk;obtain⟨inf,Lc⟩:=Option.isSome_iff_exists.1 hz;have Jx:As P e=inf.size:=by simp[As,Lc]
  split at hk
  ·rename_i id es off n' e';rw[e'] at hx Yl;obtain⟨Sj,hk⟩:=Ae hk;have Sj:=Nat.eq_of_beq_eq_true Sj;subst Sj;obtain⟨hb,hk⟩:=Ae hk;simp only[Bool.and_eq_true,decide_eq_true_eq] at hb;rcases hx with⟨_,_,rfl,_⟩|⟨b,ob,y,cap,hβ,B0,hy,_⟩
   ·omega
   ·have hy:y=ob+off:=by rcases hy with hy|⟨rfl,_⟩<;>omega
    subst hy;refine⟨_,hk,A9 (val:=.pointer (some ⟨b,ob+(off+n.toNat*As P e),none⟩)) ?_ ⟨b,ob,hβ,rfl⟩ Yl⟩;unfold execOp;rw[ho];simp[Instr.indexAt,asIntOf,hai,B0,run_underlying hu,hb.1,hb.2,sizeOf,typeInfo,Lc,Jx,Cb,Nat.add_assoc]
  ·obtain⟨z,n',c,hk,hp⟩:=Dy hk;obtain⟨hb,hk⟩:=Ae hk;simp only[Bool.and_eq_true,decide_eq_true_eq] at hb;rcases El hp hx with⟨_,rfl,_⟩|⟨ad,cap,B0,_,_,h1,h2,h3,h4⟩|⟨_,_,_,_,rfl,_⟩
   ·omega
   rotate_left
   ·omega
   ·refine⟨_,hk,A9 (val:=.pointer (some (ad.add (n.toNat*As P e)))) ?_ ⟨ad,rfl,h1,h2,h3,h4⟩ (by intro i hi;cases hi)⟩
    unfold execOp;rw[ho];simp[Instr.indexAt,asIntOf,hai,B0,run_underlying hu,hb.1,hb.2,sizeOf,typeInfo,Lc,Jx]
 ·cases hk
theorem EI (h:Br N w0 X0 Y β s a w){t:TypeId}{x i:Operand}(ho:o.op=.index t x i){K:PV->Option R}
  (hk:(B8 (A8 s.tm i) fun _ n=>
   match P.underlying t with
   |some .string=>Et (A8 s.tm x) fun s=>Ao (decide (0<=n)) (Da (s.data.toList[n.toNat]?) fun b=>K (.sc (.int .u8 b.toNat)))
   |some (.array len e)=>E7 (A8 s.tm x) fun cs=>Ao (decide (0<=n)&&decide (n<len)&&Gn P e) (Li (Fy P e) cs (n.toNat*As P e) fun c=>LL (A7 P e) c K)
   |_=>none)=some r):∃v,K v=some r∧C5 P a w o Y β s v [] []:=by
 obtain⟨ik,n,hi,hk⟩:=B2 hk;have hai:=Bl h hi;split at hk
 ·rename_i hu;obtain⟨sb,hx,hk⟩:=Cf hk;have B0:=Bl h hx;obtain⟨h0,hk⟩:=Ae hk;obtain⟨b,hb,hk⟩:=Bq hk;have h0:=of_decide_eq_true h0;refine⟨_,hk,Bo ?_⟩
  have Bk:n.toNat<sb.size:=by
   rcases Nat.lt_or_ge n.toNat sb.data.toList.length with h|h
   ·simpa using h
   ·rw[List.getElem?_eq_none h] at hb;cases hb
  have Fp:sb[n.toNat]=b:=by
   have:sb.data.toList[n.toNat]?=some sb[n.toNat]:=by
    rw[List.getElem?_eq_getElem (by simpa using Bk)]
    rfl
   rw[hb] at this;injection this with this;exact this.symm
  unfold execOp;rw[ho];simp[Instr.index,asIntOf,hai,B0,run_underlying hu,h0,Bk,Fp]
 ·rename_i len e hu;obtain⟨cs,hx,hk⟩:=Fg hk;obtain⟨hb,hk⟩:=Ae hk;simp only[Bool.and_eq_true,decide_eq_true_eq] at hb;have hxv:=Bv h x;rw[hx] at hxv;obtain⟨vs,B0,hv⟩:=hxv;obtain⟨_,_,Jx⟩:=Mi hb.2;refine Xa (t:=e) (off:=n.toNat*As P e) h hx hv (by rw[hb.2];exact hk) fun val hp=>?_
  unfold execOp;rw[ho];simp[Instr.index,asIntOf,hai,B0,run_underlying hu,hb.1.1,hb.1.2,H5 Jx,hp]
 ·cases hk
end
open Go.RowKit
section
variable {R:Type} {r:R} {P:Program} {N:Nat} {w0:World} {X0:Ft} {Y:Nat->Prop} {β β':Bt} {s:St} {a:Act} {w w':World} {o:Oper} {A:Nat->Prop}
theorem Ci (h:Br N w0 X0 Y β s a w){x:Option Operand}{dflt:Nat}{K:Nat->Option R}(hk:Ey (x.map (A8 s.tm)) dflt K=some r):
  ∃l,K l=some r∧((x=none∧l=dflt)∨∃y k,x=some y∧a.eval y=.int k (l:Int)):=by
 cases x with
 |none=>exact⟨dflt,hk,.inl ⟨rfl,rfl⟩⟩
 |some y=>
  obtain⟨k,i,hi,hk⟩:=B2 (show B8 (A8 s.tm y) _=some r from hk)
  obtain⟨h0,hk⟩:=Ae hk;have h0:=of_decide_eq_true h0;exact⟨i.toNat,hk,.inr ⟨y,k,rfl,by rw[Bl h hi,Int.toNat_of_nonneg h0]⟩⟩
theorem Gc {lo hi:Option Operand}{isS:Bool}{len cap l u:Nat}(hl:(lo=none∧l=0)∨∃y k,lo=some y∧a.eval y=.int k (l:Int))
  (hu:(hi=none∧u=len)∨∃y k,hi=some y∧a.eval y=.int k (u:Int)) (h1:l<=u)(h2:u<=cap):
  (Instr.sliceBounds isS len cap (lo.map a.eval) (hi.map a.eval) none).run P w=.ok (l,u,cap) w:=by
 rcases hl with⟨rfl,rfl⟩|⟨y,k,rfl,hy⟩<;>rcases hu with⟨rfl,rfl⟩|⟨y',k',rfl,hy'⟩
 ·simp[Instr.sliceBounds]
 ·simp[Instr.sliceBounds,Instr.sliceBound,asIntOf,hy',h2]
 ·simp[Instr.sliceBounds,Instr.sliceBound,asIntOf,hy,h1]
 ·simp[Instr.sliceBounds,Instr.sliceBound,asIntOf,hy,hy',h1,h2]
theorem Bp {e:TypeId}(h:(P.info? e).isSome=true) (w:World):(sizeOf e).run P w=.ok (As P e) w:=by
 obtain⟨i,hi⟩:=Option.isSome_iff_exists.1 h;exact H5 (by simp[As,hi]) w
theorem Re {b j:Nat}{v:Value}(h:w.cell? ⟨b,j,none⟩=some v):j<bsz w b:=by
 unfold World.cell? at h;unfold bsz;split at h
 ·rename_i c e fz hb;simp only at hb;rw[hb];simp only[Option.isSome_none,Bool.false_eq_true,if_false] at h;rcases Nat.lt_or_ge j c.size with Bk|QY
  ·exact Bk
  ·rw[Array.getElem?_eq_none QY] at h;cases h
 ·cases h
theorem FS (h:Br N w0 X0 Y β s a w){t:TypeId}{x:Operand}{lo hi:Option Operand}(ho:o.op=.slice t x lo hi none){K:PV->Option R}
  (hk:Te P (rd s.hp) t (A8 s.tm x) (lo.map (A8 s.tm)) (hi.map (A8 s.tm)) K=some r):∃v,K v=some r∧C5 P a w o Y β s v [] []:=by
 have hx:=Bv h x;have Yl:=Di h x;unfold Te at hk;split at hk
 ·rename_i hu;obtain⟨sb,Yo,hk⟩:=Cf hk;have B0:=Bl h Yo;obtain⟨l,hk,hl⟩:=Ci h hk;obtain⟨u,hk,F5⟩:=Ci h hk;obtain⟨hb,hk⟩:=Ae hk;simp only[Bool.and_eq_true,decide_eq_true_eq] at hb;refine⟨_,hk,Bo ?_⟩;unfold execOp;rw[ho];simp[Instr.sliceAt,Instr.slice,run_underlying hu,B0,Gc hl F5 hb.1 hb.2]
 ·rename_i e hu;obtain⟨Lc,hk⟩:=Ae hk;split at hk
  ·rename_i id es off n e';rw[e'] at hx Yl;obtain⟨Sj,hk⟩:=Ae hk;have Sj:=Nat.eq_of_beq_eq_true Sj;subst Sj;obtain⟨l,hk,hl⟩:=Ci h hk;obtain⟨u,hk,F5⟩:=Ci h hk;obtain⟨hb,hk⟩:=Ae hk;simp only[Bool.and_eq_true,decide_eq_true_eq] at hb;rcases hx with⟨hβ,rfl,rfl,ad,B0⟩|⟨b,ob,y,cap,hβ,B0,hy,hn,Pg,Bk⟩
   ·have hu0:u=0:=by omega
    have VD:l=0:=by omega
    subst hu0 VD;refine⟨_,hk,A9 (val:=.slice ad 0 0) ?_ (.inl ⟨hβ,by simp,rfl,ad,rfl⟩) Yl⟩
    unfold execOp;rw[ho];cases ad<;>simp[Instr.sliceAt,Instr.slice,run_underlying hu,B0,Gc hl F5 (Nat.le_refl 0) (Nat.le_refl 0),Bp Lc]
   ·have Bn:(execOp a.eval o).run P w=.ok (.value (.slice (some (if cap=l then ⟨b,y,none⟩ else ⟨b,y+l*As P e,none⟩)) (u-l) (cap-l))) w:=by
     unfold execOp;rw[ho];have EA:=Gc (P:=P) (w:=w) (isS:=true) hl F5 hb.1 (Nat.le_trans hb.2 hn);simp[Instr.sliceAt,Instr.slice,run_underlying hu,B0,EA,Bp Lc,Cb];split<;>rfl
    refine⟨_,hk,A9 Bn (.inr ?_) Yl⟩;by_cases hc:cap=l
    ·rw[if_pos hc];refine⟨b,ob,y,cap-l,hβ,rfl,?_,by omega,⟨by rw[hc,Nat.sub_self];have:=Pg.1;omega,Pg.2⟩,Bk⟩
     by_cases h0:l*As P e=0
     ·rw[h0,Nat.add_zero];rcases hy with hy|⟨HY,Lf⟩
      ·exact .inl hy
      ·exact .inr ⟨by omega,Lf⟩
     ·exact .inr ⟨by omega,by omega⟩
    ·rw[if_neg hc];refine⟨b,ob,y+l*As P e,cap-l,hβ,rfl,?_,by omega,?_,Bk⟩
     ·rcases hy with hy|⟨HY,Lf⟩
      ·exact .inl (by omega)
      ·exact .inr ⟨by omega,by omega⟩
     ·have:l*As P e+(cap-l)*As P e=cap*As P e:=by
       rw[←Nat.add_mul]
       congr 1
       omega
      have:=Pg.1;exact⟨by omega,Pg.2⟩
  ·obtain⟨z,n,c,hk,hp⟩:=Dy hk;obtain⟨l,hk,hl⟩:=Ci h hk;obtain⟨u,hk,F5⟩:=Ci h hk;obtain⟨hb,hk⟩:=Ae hk;simp only[Bool.and_eq_true,decide_eq_true_eq] at hb;rcases El hp hx with⟨B0,rfl,rfl⟩|⟨ad,cap,B0,rfl,hn,h1,h2,h3,h4⟩|⟨ad,cap,B0,rfl,rfl,rfl⟩
   rotate_right
   ·have hu0:u=0:=by omega
    have VD:l=0:=by omega
    subst hu0 VD;refine⟨_,hk,A9 (val:=.slice (some (if cap=0 then ad else ad.add (0*As P e))) (0-0) (cap-0)) ?_ ?_ (by intro i hi;cases hi)⟩
    ·unfold execOp;rw[ho];have EA:=Gc (P:=P) (w:=w) (isS:=true) hl F5 (Nat.le_refl 0) (Nat.zero_le cap);simp[Instr.sliceAt,Instr.slice,run_underlying hu,B0,EA,Bp Lc];split<;>rfl
    ·have:((([]:List PV).drop (0*As P e)).take ((0-0)*As P e))=[]:=by simp
     rw[this];exact Ap.lemp _ _ _
   ·have hu0:u=0:=by omega
    have VD:l=0:=by omega
    subst hu0 VD;refine⟨_,hk,A9 (val:=.slice none 0 0) ?_ ?_ (by intro i hi;cases hi)⟩
    ·unfold execOp;rw[ho];simp[Instr.sliceAt,Instr.slice,run_underlying hu,B0,Gc hl F5 (Nat.le_refl 0) (Nat.le_refl 0),Bp Lc]
    ·have:((([]:List PV).drop (0*As P e)).take ((0-0)*As P e))=[]:=by simp
     rw[this];exact Ap.lnil z _
   ·have Bn:(execOp a.eval o).run P w=.ok (.value (.slice (some (if cap=l then ad else ad.add (l*As P e))) (u-l) (cap-l))) w:=by
     unfold execOp;rw[ho];have EA:=Gc (P:=P) (w:=w) (isS:=true) hl F5 hb.1 (Nat.le_trans hb.2 hn);simp[Instr.sliceAt,Instr.slice,run_underlying hu,B0,EA,Bp Lc];split<;>rfl
    refine⟨_,hk,A9 Bn ?_ (by intro i hi;cases hi)⟩
    by_cases hc:cap=l
    ·rw[if_pos hc];have:u-l=0:=by omega
     rw[this];simp only[Nat.zero_mul,List.take_zero];exact Ap.lst _ _ [] ad _ (fun _=>undef) h1 h2 h3 (by omega) (by simp) (by simp) (by simp)
    ·rw[if_neg hc]
     have hcell:∀(j:Nat) q,((c.drop (l*As P e)).take ((u-l)*As P e))[j]?=some q->c[l*As P e+j]?=some q:=by
      intro j q hq;rw[List.getElem?_take] at hq;split at hq
      ·rw[List.getElem?_drop] at hq;exact hq
      ·cases hq
     refine Ap.lst _ _ _ (ad.add (l*As P e)) _ (fun j=>(w.cell? (ad.add (l*As P e+j))).getD undef) (UJ h1 _) (by rw[Eb];exact h2) (by rw[Eb];exact h3) (by omega) (fun j q hq=>?_) (fun j q hq=>?_) (fun j q hq=>?_)
     ·obtain⟨v,hv,_⟩:=h4 _ q (hcell j q hq);rw[add_add,hv];rfl
     ·obtain⟨v,hv,h5,_⟩:=h4 _ q (hcell j q hq);rw[hv];exact h5
     ·obtain⟨v,hv,_,ht⟩:=h4 _ q (hcell j q hq);rw[hv];exact ht
 ·rename_i n e hu;obtain⟨Lc,hk⟩:=Ae hk;split at hk
  ·rename_i id off e';rw[e'] at hx Yl;obtain⟨c,hrc,hk⟩:=Bq hk;obtain⟨Dh,hk⟩:=Ae hk;simp only[Bool.and_eq_true,decide_eq_true_eq] at Dh;have Sj:=Nat.eq_of_beq_eq_true Dh.2
   replace Dh:=Dh.1
   obtain⟨l,hk,hl⟩:=Ci h hk;obtain⟨u,hk,F5⟩:=Ci h hk;obtain⟨hb,hk⟩:=Ae hk;simp only[Bool.and_eq_true,decide_eq_true_eq] at hb;obtain⟨b,ob,hβ,B0⟩:=hx
   have Yn:ob+off+n*As P e<=bsz w b:=by
    obtain⟨v,hv,_⟩:=Xs h hrc hβ (j:=off+n*As P e-1) (List.getElem?_eq_getElem (by omega))
    have:=Re hv;omega
   have Bk:b<w.heap.size:=h.blt id b ob (Yl id (by simp[A5,Bh,Aj])) hβ
   have Bn:(execOp a.eval o).run P w=.ok (.value (.slice (some (if n=l then ⟨b,ob+off,none⟩ else ⟨b,ob+off+l*As P e,none⟩)) (u-l) (n-l))) w:=by
    unfold execOp;rw[ho];have EA:=Gc (P:=P) (w:=w) (isS:=false) hl F5 hb.1 hb.2;simp[Instr.sliceAt,Instr.sureAddr,run_underlying hu,B0,EA,Bp Lc,Cb]
   refine⟨_,hk,A9 Bn (.inr ?_) Yl⟩;by_cases hc:n=l
   ·rw[if_pos hc];refine⟨b,ob,ob+off,n-l,hβ,rfl,?_,by omega,⟨by rw[hc,Nat.sub_self];omega,.inl Sj⟩,Bk⟩
    by_cases h0:l*As P e=0
    ·rw[h0,Nat.add_zero];exact .inl rfl
    ·exact .inr ⟨by omega,by omega⟩
   ·rw[if_neg hc];refine⟨b,ob,ob+off+l*As P e,n-l,hβ,rfl,.inl (by omega),by omega,?_,Bk⟩
    have:l*As P e+(n-l)*As P e=n*As P e:=by
     rw[←Nat.add_mul]
     congr 1
     omega
    exact⟨by omega,.inl Sj⟩
  ·cases hk
 ·cases hk
end
open Go.RowKit
section
variable {R:Type} {r:R} {P:Program} {N:Nat} {w0:World} {X0:Ft} {Y:Nat->Prop} {β β':Bt} {s:St} {a:Act} {w w':World} {o:Oper} {A:Nat->Prop}
theorem PJ (h:Br N w0 X0 Y β s a w){c:Call}(ho:o.op=.call c)(hc:c.callee=.builtin .len){K:PV->Option R}
  (hk:(Ab c.args.toList fun x _=>Ab c.argTypes.toList fun t _=>ON P t (A8 s.tm x) fun n=>K (.sc (.int .i64 n)))=some r):∃v,K v=some r∧C5 P a w o Y β s v [] []:=by
 obtain⟨x,xs,Yo,hk⟩:=Ar hk;obtain⟨t,ts,XJ,hk⟩:=Ar hk;have hx:=Bv h x;have Dl:c.args=(x::xs).toArray:=by rw[←Yo]
 have Vk:c.argTypes=(t::ts).toArray:=by rw[←XJ]
 have Bn:∀n:Nat,(Builtin.len_ c.argTypes o.type (c.args.map a.eval)).run P w=.ok (.int .i64 n) w->(execOp a.eval o).run P w=.ok (.value (.int .i64 n)) w:=by
  intro n hl;unfold execOp;rw[ho];simp only[resolve,hc,invoke,builtin,Sem.run_bind,Sem.run_pure,Result.andThen_ok,hl]
 unfold ON at hk;split at hk
 ·rename_i hu;obtain⟨sb,Ak6,hk⟩:=Cf hk;have B0:=Bl h Ak6;refine⟨_,hk,Bo (Bn _ ?_)⟩;simp[Builtin.len_,Dl,Vk,run_underlying hu,B0,goInt]
 ·rename_i n e hu;refine⟨_,hk,Bo (Bn _ ?_)⟩;simp[Builtin.len_,Dl,Vk,run_underlying hu,goInt]
 ·rename_i e hu;split at hk
  ·rename_i id es off n e';rw[e'] at hx;obtain⟨_,hk⟩:=Ae hk;refine⟨_,hk,Bo (Bn _ ?_)⟩;rcases hx with⟨_,_,rfl,ad,B0⟩|⟨b,ob,y,cap,_,B0,_⟩<;>simp[Builtin.len_,Dl,Vk,run_underlying hu,B0,goInt]
  ·obtain⟨z,n,cc,hk,hp⟩:=Dy hk;refine⟨_,hk,Bo (Bn _ ?_)⟩;rcases El hp hx with⟨B0,rfl,_⟩|⟨ad,cap,B0,_⟩|⟨ad,cap,B0,_,rfl,_⟩<;>simp[Builtin.len_,Dl,Vk,run_underlying hu,B0,goInt]
 ·cases hk
theorem PR (h:Br N w0 X0 Y β s a w){c:Call}(ho:o.op=.call c)(hc:c.callee=.builtin .cap){K:PV->Option R}
  (hk:(Ab c.args.toList fun x _=>Ab c.argTypes.toList fun t _=>PI P t (A8 s.tm x) fun n=>K (.sc (.int .i64 n)))=some r):∃v,K v=some r∧C5 P a w o Y β s v [] []:=by
 obtain⟨x,xs,Yo,hk⟩:=Ar hk;obtain⟨t,ts,XJ,hk⟩:=Ar hk;have hx:=Bv h x;have Dl:c.args=(x::xs).toArray:=by rw[←Yo]
 have Vk:c.argTypes=(t::ts).toArray:=by rw[←XJ]
 have Bn:∀n:Nat,(Builtin.cap_ c.argTypes o.type (c.args.map a.eval)).run P w=.ok (.int .i64 n) w->(execOp a.eval o).run P w=.ok (.value (.int .i64 n)) w:=by
  intro n hl;unfold execOp;rw[ho];simp only[resolve,hc,invoke,builtin,Sem.run_bind,Sem.run_pure,Result.andThen_ok,hl]
 unfold PI at hk;split at hk
 ·rename_i e hu;obtain⟨z,n,cc,hk,hp⟩:=Dy hk;obtain⟨hz,hk⟩:=Ae hk;refine⟨_,hk,Bo (Bn _ ?_)⟩;rcases El hp hx with⟨B0,rfl,_⟩|⟨ad,cap,B0,Wv,_⟩|⟨ad,cap,B0,Wv,_,_⟩
  ·simp[Builtin.cap_,Dl,Vk,run_underlying hu,B0,goInt]
  ·rw[hz] at Wv;cases Wv
  ·rw[hz] at Wv;cases Wv
 ·cases hk
theorem NI (h:Br N w0 X0 Y β s a w){c:Call}(ho:o.op=.call c)(hc:c.callee=.builtin .min){K:PV->Option R}
  (hk:(Ab c.args.toList fun x r=>Ab r fun y r'=>Ai r' (ZJ (A8 s.tm x) (A8 s.tm y) K))=some r):∃v,K v=some r∧C5 P a w o Y β s v [] []:=by
 obtain⟨x,xs,Yo,hk⟩:=Ar hk;obtain⟨y,ys,rfl,hk⟩:=Ar hk;obtain⟨rfl,hk⟩:=B7 hk;obtain⟨k,n,hx,hk⟩:=B2 hk;obtain⟨m,hy,hk⟩:=C9 hk
 have Dl:c.args = #[x,y]:=by
  have:c.args=([x,y]:List Operand).toArray:=by rw[←Yo]
  exact this
 refine⟨_,hk,Bo ?_⟩;unfold execOp;rw[ho];simp[resolve,hc,invoke,builtin,Dl,Builtin.min_,Builtin.min2,Bl h hx,Bl h hy]
theorem QL (h:Br N w0 X0 Y β s a w){c:Call}(ho:o.op=.call c)(hc:c.callee=.builtin .max){K:PV->Option R}
  (hk:(Ab c.args.toList fun x r=>Ab r fun y r'=>Ai r' (XK (A8 s.tm x) (A8 s.tm y) K))=some r):∃v,K v=some r∧C5 P a w o Y β s v [] []:=by
 obtain⟨x,xs,Yo,hk⟩:=Ar hk;obtain⟨y,ys,rfl,hk⟩:=Ar hk;obtain⟨rfl,hk⟩:=B7 hk;obtain⟨k,n,hx,hk⟩:=B2 hk;obtain⟨m,hy,hk⟩:=C9 hk
 have Dl:c.args = #[x,y]:=by
  have:c.args=([x,y]:List Operand).toArray:=by rw[←Yo]
  exact this
 refine⟨_,hk,Bo ?_⟩;unfold execOp;rw[ho];simp[resolve,hc,invoke,builtin,Dl,Builtin.max_,Builtin.max2,Bl h hx,Bl h hy]
theorem KM (h:Br N w0 X0 Y β s a w){op:UnOp}{t:TypeId}{x:Operand}(ho:o.op=.unOp op t x){K:PV->Option R}(hk:unK op (A8 s.tm x) K=some r):
  ∃v,K v=some r∧C5 P a w o Y β s v [] []:=by
 unfold unK at hk;split at hk
 ·obtain⟨b,hb,hk⟩:=Cg hk;refine⟨_,hk,Bo ?_⟩;unfold execOp;rw[ho];simp[Op.unary,Bl h hb]
 ·obtain⟨k,n,hb,hk⟩:=B2 hk;refine⟨_,hk,Bo ?_⟩;unfold execOp;rw[ho];simp[Op.unary,Op.intArith,Bl h hb]
 ·obtain⟨k,n,hb,hk⟩:=B2 hk;refine⟨_,hk,Bo ?_⟩;unfold execOp;rw[ho];simp[Op.unary,Op.intBits,Bl h hb,Ag3]
 ·cases hk
theorem OW {op:BinOp}{k:IntKind}{m n:Int}{t:TypeId}{x y:Operand}{K:PV->Option R}(WV:op ≠ .shl)(hs2:op ≠ .shr)(hk:X9 op k m n K=some r):
  ∃v,K (.sc v)=some r∧(do eqGuard op t x y (.int k m) (.int k n);binOp op t (.int k m) (.int k n)).run P w=.ok v w:=by
 cases op<;>first
  |exact absurd rfl WV
  |exact absurd rfl hs2
  |(obtain⟨hb,hk⟩:=Ae hk;have hb:=of_decide_eq_true hb;exact⟨_,hk,by simp[eqGuard,binOp,Op.intDiv,hb]⟩)
  |exact⟨_,hk,by simp[eqGuard,binOp,-BitVec.toNat_and,-BitVec.toNat_or,-BitVec.toNat_xor,-gt_iff_lt,-ge_iff_le]<;>rfl⟩
theorem OO {op:BinOp}{m n:ByteArray}{t:TypeId}{x y:Operand}{K:PV->Option R}(hk:Xb op m n K=some r):
  ∃v,K (.sc v)=some r∧(do eqGuard op t x y (.string m) (.string n);binOp op t (.string m) (.string n)).run P w=.ok v w:=by
 cases op<;>first
  |cases hk
  |(obtain⟨hb,hk⟩:=Ae hk;have hb:=of_decide_eq_true hb;exact⟨_,hk,by
    have Fp:¬(((m.size+n.size:Nat):Int)>IntKind.i64.max):=by
     have:IntKind.i64.max=9223372036854775807:=rfl;rw[this];omega
    simp only[eqGuard,binOp,Op.stringOp,if_neg Fp];rfl⟩)
  |exact⟨_,hk,by simp only[eqGuard,binOp,Op.stringOp,ByteArray.toList_eq];rfl⟩
end
open Go.RowKit
section
variable {R:Type} {r:R} {P:Program} {N:Nat} {w0:World} {X0:Ft} {Y:Nat->Prop} {β β':Bt} {s:St} {a:Act} {w w':World} {o:Oper} {A:Nat->Prop}
theorem Xf {t:TypeId}(hu:P.underlying t=some .bool)(x y:Bool):(Op.equal t (.bool x) (.bool y)).run P w=.ok (x==y) w:=by
 have h:∀d,(Op.equalIn (d+1) t (.bool x) (.bool y)).run P w=.ok (x==y) w:=fun d=>by simp[Op.equalIn,run_underlying hu]
 exact h 9999
theorem Oy {t e:TypeId}(hu:P.underlying t=some (.slice e)) (x:Option Addr)(n c:Nat):(Op.equal t (.slice x n c) (.slice none 0 0)).run P w=.ok x.isNone w:=by
 have h:∀d,(Op.equalIn (d+1) t (.slice x n c) (.slice none 0 0)).run P w=.ok x.isNone w:=fun d=>by
  cases x<;>simp[Op.equalIn,run_underlying hu]
 exact h 9999
theorem Gl {t:TypeId}(d:Nat){v u:Value}(hv:(∃k m n,P.underlying t=some (.int k)∧v=.int k m∧u=.int k n)∨(∃m n,P.underlying t=some .bool∧v=.bool m∧u=.bool n)∨∃m n,P.underlying t=some .string∧v=.string m∧u=.string n) {b:Bool}
  (hb:∀k m n,v=.int k m->u=.int k n->b=(m==n)) (Fp:∀m n,v=.bool m->u=.bool n->b=(m==n)) (Amq:∀m n,v=.string m->u=.string n->b=(m==n)):(Op.equalIn (d+1) t v u).run P w=.ok b w:=by
 rcases hv with⟨k,m,n,hu,rfl,rfl⟩|⟨m,n,hu,rfl,rfl⟩|⟨m,n,hu,rfl,rfl⟩
 ·rw[hb k m n rfl rfl];simp[Op.equalIn,run_underlying hu]
 ·rw[Fp m n rfl rfl];simp[Op.equalIn,run_underlying hu]
 ·rw[Amq m n rfl rfl];simp[Op.equalIn,run_underlying hu]
theorem Mz {t:TypeId}{dsc:TypeDesc}(hu:P.underlying t=some dsc)(hd:A7 P t=false){xs:Array Value}{i:Nat}{v:Value}(hv:xs[i]?=some v):(part t xs i).run P w=.ok v w:=by
 simp only[part,Sem.run_bind,Jw hu,hd,Result.andThen_ok];simp[hv]
theorem AU (k:IntKind)(n:Int)(K:Int->Option R):Al k (.sc (.int k n)) K=K n:=by simp[Al]
theorem HP (d : Nat) : ∀ (fs : List Field) (i : Nat) (xs ys : Array Value) (ps qs : List PV) (K : Bool -> Option R), HQ P fs i = true -> Iu (fs.map (SU P)) ps qs K = some r ->
    (∀ (j : Nat) p, ps[j]? = some p -> ∃ v, xs[i + j]? = some v ∧ A6 w A β p v) -> (∀ (j : Nat) p, qs[j]? = some p -> ∃ v, ys[i + j]? = some v ∧ A6 w A β p v) ->
    ∃ b, K b = some r ∧ (forIn fs ((none, ()) : Option Bool × Unit) fun (f : Field) (_ : Option Bool × Unit) =>
            if f.name = "_" then pure (ForInStep.yield ((none, ()) : Option Bool × Unit))
            else do
              let x ← part f.type xs f.offset
              let y ← part f.type ys f.offset
              let e ← Op.equalIn (d + 1) f.type x y
              if e = false then pure (ForInStep.done ((some false, ()) : Option Bool × Unit)) else pure (ForInStep.yield ((none, ()) : Option Bool × Unit)) : Sem (Option Bool × Unit)).run P w = .ok (if b then (none, ()) else (some false, ())) w
  | [], i, xs, ys, ps, qs, K, _, hk, _, _ => by
    cases ps with
    | nil => cases qs with
      | nil => exact⟨true, hk, by simp⟩
      | cons q qs => cases hk
    | cons p ps => cases hk
  | f :: fs, i, xs, ys, ps, qs, K, BA, hk, hp, hq => by
    simp only[HQ, Bool.and_eq_true] at BA
    obtain⟨⟨⟨Lf, SX⟩, hty⟩, Qc⟩ := BA
    have Lf := Nat.eq_of_beq_eq_true Lf
    have Xr : f.name ≠ "_" := by simpa using SX
    cases ps with
    | nil =>
      simp only[List.map_cons] at hk
      cases Ab4 : SU P f <;> rw[Ab4] at hk <;> cases hk
    | cons p ps =>
      cases qs with
      | nil =>
        simp only[List.map_cons] at hk
        cases Ab4 : SU P f <;> rw[Ab4] at hk <;> cases hk
      | cons q qs =>
        obtain⟨v, hv, S9⟩ := hp 0 p rfl
        obtain⟨u, hu, hqu⟩ := hq 0 q rfl
        rw[Nat.add_zero] at hv hu
        have main : ∃ b0 dsc, P.underlying f.type = some dsc ∧ A7 P f.type = false ∧ (Op.equalIn (d + 1) f.type v u).run P w = .ok b0 w ∧ Iu (fs.map (SU P)) ps qs (fun r => K (b0 && r)) = some r := by
          simp only[List.map_cons] at hk
          unfold SU at hk
          split at hk
          · rename_i k Hf
            obtain⟨m, Z3, Cs⟩ := C9 (show Al k p _ = some r from hk)
            obtain⟨n, Yr, Dq⟩ := C9 Cs
            subst Z3 Yr
            have K2 : v = .int k m := Ap.val (w := w) (A := A) S9
            have F5 : u = .int k n := Ap.val (w := w) (A := A) hqu
            subst K2 F5
            refine⟨m == n, _, Hf, by simp[A7, Hf], Gl d (.inl ⟨k, m, n, Hf, rfl, rfl⟩) ?_ ?_ ?_, Dq⟩
            · intro k' m' n' h1 h2; injection h1 with _ h1; injection h2 with _ h2; rw[h1, h2]
            · intro m' n' h1; cases h1
            · intro m' n' h1; cases h1
          · rename_i Hf
            obtain⟨m, Z3, Cs⟩ := Cg (show Bb p _ = some r from hk)
            obtain⟨n, Yr, Dq⟩ := Cg Cs
            subst Z3 Yr
            have K2 : v = .bool m := Ap.val (w := w) (A := A) S9
            have F5 : u = .bool n := Ap.val (w := w) (A := A) hqu
            subst K2 F5
            refine⟨m == n, _, Hf, by simp[A7, Hf], Gl d (.inr (.inl ⟨m, n, Hf, rfl, rfl⟩)) ?_ ?_ ?_, Dq⟩
            · intro k' m' n' h1; cases h1
            · intro m' n' h1 h2; injection h1 with h1; injection h2 with h2; rw[h1, h2]
            · intro m' n' h1; cases h1
          · rename_i Hf
            obtain⟨m, Z3, Cs⟩ := Cf (show Et p _ = some r from hk)
            obtain⟨n, Yr, Dq⟩ := Cf Cs
            subst Z3 Yr
            have K2 : v = .string m := Ap.val (w := w) (A := A) S9
            have F5 : u = .string n := Ap.val (w := w) (A := A) hqu
            subst K2 F5
            refine⟨m == n, _, Hf, by simp[A7, Hf], Gl d (.inr (.inr ⟨m, n, Hf, rfl, rfl⟩)) ?_ ?_ ?_, Dq⟩
            · intro k' m' n' h1; cases h1
            · intro m' n' h1; cases h1
            · intro m' n' h1 h2; injection h1 with h1; injection h2 with h2; rw[h1, h2]
          · cases hk
        obtain⟨b0, dsc, Hf, Ed, he, hk⟩ := main
        obtain⟨b, UQ, Bn⟩ := HP d fs (i + 1) xs ys ps qs _ Qc hk (fun j p' hj => by have := hp (j + 1) p' hj; rwa [Nat.add_assoc, Nat.add_comm 1 j]) (fun j p' hj => by have := hq (j + 1) p' hj; rwa [Nat.add_assoc, Nat.add_comm 1 j])
        refine⟨b0 && b, UQ, ?_⟩
        have hpx : (part f.type xs f.offset).run P w = .ok v w := Mz Hf Ed (by rw[Lf]; exact hv)
        have hpy : (part f.type ys f.offset).run P w = .ok u w := Mz Hf Ed (by rw[Lf]; exact hu)
        cases b0
        · simp[List.forIn_cons, Xr, hpx, hpy, he]
        · simp only[Bool.true_and]
          rw[← Bn]
          simp[List.forIn_cons, Xr, hpx, hpy, he]
theorem Vh (d:Nat){t:TypeId}{fs:Array Field}(hu:P.underlying t=some (.struct fs)) (Kk:P.stoodInHeld t=false)(BA:HQ P fs.toList 0=true){xs ys:List PV}{vx vy:List Value}
  (YS:Au (A6 w A β) xs vx) (hvy:Au (A6 w A β) ys vy) {K:Bool->Option R}(hk:Iu (fs.toList.map (SU P)) xs ys K=some r):
  ∃b,K b=some r∧(Op.equalIn (d+2) t (.agg ⟨vx⟩) (.agg ⟨vy⟩)).run P w=.ok b w:=by
 obtain⟨b,UQ,Bn⟩:=HP (P:=P) (w:=w) (A:=A) (β:=β) d fs.toList 0 ⟨vx⟩ ⟨vy⟩ xs ys K BA hk (fun j p hj=>by
   obtain⟨v,hv,hc⟩:=YS.get hj;exact⟨v,by simpa using hv,hc⟩) (fun j p hj=>by
   obtain⟨v,hv,hc⟩:=hvy.get hj;exact⟨v,by simpa using hv,hc⟩)
 refine⟨b,UQ,?_⟩;rw[Array.forIn_toList] at Bn;rw[Op.equalIn];simp[run_underlying hu,Kk];rw[Bn];cases b<;>simp
theorem Sk:∀(ts1:List CT){ts2:List CT}{ps qs:List PV}{K:Bool->Option R},Iu (ts1++ts2) ps qs K=some r ->
  Iu ts1 (ps.take ts1.length) (qs.take ts1.length) (fun b=>Iu ts2 (ps.drop ts1.length) (qs.drop ts1.length) fun r'=>K (b&&r'))=some r
 |[],ts2,ps,qs,K,h=>by
  simp only[List.length_nil,List.take_zero,List.drop_zero,Iu,Bool.true_and];exact h
 |t::ts1,ts2,ps,qs,K,h=>by
  rw[List.cons_append] at h;cases ps with
  |nil=>cases t<;>cases h
  |cons p ps=>
   cases qs with
   |nil=>cases t<;>cases h
   |cons q qs=>
    simp only[List.length_cons,List.take_succ_cons,List.drop_succ_cons];cases t with
    |int k=>
     obtain⟨m,Z3,h1⟩:=C9 (show Al k p _=some r from h)
     obtain⟨n,Yr,h2⟩:=C9 h1;subst Z3 Yr;have:=Sk ts1 h2;simp only[←Bool.and_assoc] at this;exact (AU _ _ _).trans ((AU _ _ _).trans this)
    |bool=>
     obtain⟨m,Z3,h1⟩:=Cg (show Bb p _=some r from h)
     obtain⟨n,Yr,h2⟩:=Cg h1;subst Z3 Yr;have:=Sk ts1 h2;simp only[←Bool.and_assoc] at this;exact this
    |str=>
     obtain⟨m,Z3,h1⟩:=Cf (show Et p _=some r from h)
     obtain⟨n,Yr,h2⟩:=Cf h1;subst Z3 Yr;have:=Sk ts1 h2;simp only[←Bool.and_assoc] at this;exact this
    |sl es=>cases h
    |any=>cases h
theorem EF:∀(ts:List CT){ps qs:List PV}{K:Bool->Option R},Iu ts ps qs K=some r->ps.length=ts.length∧qs.length=ts.length
 |[],ps,qs,K,h=>by
  cases ps with
  |nil=>cases qs with
   |nil=>exact⟨rfl,rfl⟩
   |cons q qs=>cases h
  |cons p ps=>cases h
 |t::ts,ps,qs,K,h=>by
  cases ps with
  |nil=>cases t<;>cases h
  |cons p ps=>
   cases qs with
   |nil=>cases t<;>cases h
   |cons q qs=>
    have go:∃K',Iu ts ps qs K'=some r:=by
     cases t with
     |int k=>
      obtain⟨m,Z3,h1⟩:=C9 (show Al k p _=some r from h)
      obtain⟨n,Yr,h2⟩:=C9 h1;exact⟨_,h2⟩
     |bool=>
      obtain⟨m,Z3,h1⟩:=Cg (show Bb p _=some r from h)
      obtain⟨n,Yr,h2⟩:=Cg h1;exact⟨_,h2⟩
     |str=>
      obtain⟨m,Z3,h1⟩:=Cf (show Et p _=some r from h)
      obtain⟨n,Yr,h2⟩:=Cf h1;exact⟨_,h2⟩
     |sl es=>cases h
     |any=>cases h
    obtain⟨K',h'⟩:=go;have:=EF ts h';exact⟨by simp[this.1],by simp[this.2]⟩
theorem GP {t:TypeId}{dsc:TypeDesc}(hu:P.underlying t=some dsc)(hd:A7 P t=true)(hi:(P.info? t).isSome=true) (xs:Array Value)(i:Nat):(part t xs i).run P w=.ok (.agg (xs.extract i (i+As P t))) w:=by
 simp only[part,Sem.run_bind,Jw hu,hd,Result.andThen_ok,if_true,Bp hi];rfl
theorem Z7 {xs:Array Value}{i n:Nat}{ps:List PV}(hn:n<=ps.length)(hp:∀(j:Nat) p,ps[j]?=some p->∃v,xs[i+j]?=some v∧A6 w A β p v):Au (A6 w A β) (ps.take n) (xs.extract i (i+n)).toList:=by
 rcases Nat.eq_zero_or_pos n with h0|h0
 ·subst h0;simp[Au]
 have hl:n-1<ps.length:=by omega
 obtain⟨v,hv,_⟩:=hp (n-1) _ (List.getElem?_eq_getElem hl);have Jx:=(Array.getElem?_eq_some_iff.1 hv).1;refine Au.of_at (by simp;omega) fun j a b ha hb=>?_
 rw[List.getElem?_take] at ha;split at ha
 ·rename_i hj;obtain⟨v,hv,hc⟩:=hp j a ha;rw[Array.getElem?_toList,Array.getElem?_extract] at hb;split at hb
  ·rw[hv] at hb;cases hb;exact hc
  ·cases hb
 ·cases ha
theorem Uk {f:Field}{gs:Array Field}(hu:P.underlying f.type=some (.struct gs)):EE P f=gs.toList.map (SU P):=by unfold EE;rw[hu]
theorem IQ {f:Field}(h:∀gs,P.underlying f.type≠some (.struct gs)):EE P f=[SU P f]:=by
 unfold EE;split
 ·rename_i gs hu;exact absurd hu (h gs)
 ·rfl
theorem LY (d : Nat) : ∀ (fs : List Field) (i : Nat) (xs ys : Array Value) (ps qs : List PV) (K : Bool -> Option R), Kc P fs i = true -> Iu (P7 P fs) ps qs K = some r ->
    (∀ (j : Nat) p, ps[j]? = some p -> ∃ v, xs[i + j]? = some v ∧ A6 w A β p v) -> (∀ (j : Nat) p, qs[j]? = some p -> ∃ v, ys[i + j]? = some v ∧ A6 w A β p v) ->
    ∃ b, K b = some r ∧ (forIn fs ((none, ()) : Option Bool × Unit) fun (f : Field) (_ : Option Bool × Unit) =>
            if f.name = "_" then pure (ForInStep.yield ((none, ()) : Option Bool × Unit))
            else do
              let x ← part f.type xs f.offset
              let y ← part f.type ys f.offset
              let e ← Op.equalIn (d + 2) f.type x y
              if e = false then pure (ForInStep.done ((some false, ()) : Option Bool × Unit)) else pure (ForInStep.yield ((none, ()) : Option Bool × Unit)) : Sem (Option Bool × Unit)).run P w = .ok (if b then (none, ()) else (some false, ())) w
  | [], i, xs, ys, ps, qs, K, _, hk, _, _ => by
    cases ps with
    | nil => cases qs with
      | nil => exact⟨true, hk, by simp⟩
      | cons q qs => cases hk
    | cons p ps => cases hk
  | f :: fs, i, xs, ys, ps, qs, K, BA, hk, hp, hq => by
    simp only[Kc, Bool.and_eq_true] at BA
    obtain⟨⟨Lf, SX⟩, hty⟩ := BA
    have Lf := Nat.eq_of_beq_eq_true Lf
    have Xr : f.name ≠ "_" := by simpa using SX
    have main : ∃ b0 v u n, (part f.type xs f.offset).run P w = .ok v w ∧ (part f.type ys f.offset).run P w = .ok u w ∧ (Op.equalIn (d + 2) f.type v u).run P w = .ok b0 w ∧ Kc P fs (i + n) = true ∧ Iu (P7 P fs) (ps.drop n) (qs.drop n) (fun r' => K (b0 && r')) = some r := by
      have hk := Sk (EE P f) (show Iu (EE P f ++ P7 P fs) ps qs K = some r from hk)
      have Dh := EF _ hk
      rw[List.length_take, List.length_take] at Dh
      have plain : (∀ gs, P.underlying f.type ≠ some (.struct gs)) -> Kc P fs (i + 1) = true -> (match P.underlying f.type with | some (.int _) => true | some .bool => true | some .string => true | _ => false) = true ->
          ∃ b0 v u n, (part f.type xs f.offset).run P w = .ok v w ∧ (part f.type ys f.offset).run P w = .ok u w ∧ (Op.equalIn (d + 2) f.type v u).run P w = .ok b0 w ∧ Kc P fs (i + n) = true ∧ Iu (P7 P fs) (ps.drop n) (qs.drop n) (fun r' => K (b0 && r')) = some r := by
        intro hs Ab5 Vx
        rw[IQ hs] at hk Dh
        simp only[List.length_singleton] at hk Dh
        obtain⟨p, ps, rfl⟩ : ∃ p ps', ps = p :: ps' := by
          cases ps with
          | nil => simp at Dh
          | cons p ps => exact⟨p, ps, rfl⟩
        obtain⟨q, qs, rfl⟩ : ∃ q qs', qs = q :: qs' := by
          cases qs with
          | nil => simp at Dh
          | cons q qs => exact⟨q, qs, rfl⟩
        obtain⟨v, hv, S9⟩ := hp 0 p rfl
        obtain⟨u, hu, hqu⟩ := hq 0 q rfl
        rw[Nat.add_zero] at hv hu
        simp only[List.take_succ_cons, List.take_zero, List.drop_succ_cons, List.drop_zero] at hk ⊢
        have one : ∃ b0 dsc, P.underlying f.type = some dsc ∧ A7 P f.type = false ∧ (Op.equalIn (d + 2) f.type v u).run P w = .ok b0 w ∧ Iu (P7 P fs) ps qs (fun r' => K (b0 && r')) = some r := by
          unfold SU at hk
          split at hk
          · rename_i k Hf
            obtain⟨m, Z3, Cs⟩ := C9 (show Al k p _ = some r from hk)
            obtain⟨n, Yr, Dq⟩ := C9 Cs
            subst Z3 Yr
            have K2 : v = .int k m := Ap.val (w := w) (A := A) S9
            have F5 : u = .int k n := Ap.val (w := w) (A := A) hqu
            subst K2 F5
            have e : ∀ b : Bool, (b && true) = b := Bool.and_true
            simp only[Iu, e] at Dq
            refine⟨m == n, _, Hf, by simp[A7, Hf], Gl (d + 1) (.inl ⟨k, m, n, Hf, rfl, rfl⟩) ?_ ?_ ?_, Dq⟩
            · intro k' m' n' h1 h2; injection h1 with _ h1; injection h2 with _ h2; rw[h1, h2]
            · intro m' n' h1; cases h1
            · intro m' n' h1; cases h1
          · rename_i Hf
            obtain⟨m, Z3, Cs⟩ := Cg (show Bb p _ = some r from hk)
            obtain⟨n, Yr, Dq⟩ := Cg Cs
            subst Z3 Yr
            have K2 : v = .bool m := Ap.val (w := w) (A := A) S9
            have F5 : u = .bool n := Ap.val (w := w) (A := A) hqu
            subst K2 F5
            have e : ∀ b : Bool, (b && true) = b := Bool.and_true
            simp only[Iu, e] at Dq
            refine⟨m == n, _, Hf, by simp[A7, Hf], Gl (d + 1) (.inr (.inl ⟨m, n, Hf, rfl, rfl⟩)) ?_ ?_ ?_, Dq⟩
            · intro k' m' n' h1; cases h1
            · intro m' n' h1 h2; injection h1 with h1; injection h2 with h2; rw[h1, h2]
            · intro m' n' h1; cases h1
          · rename_i Hf
            obtain⟨m, Z3, Cs⟩ := Cf (show Et p _ = some r from hk)
            obtain⟨n, Yr, Dq⟩ := Cf Cs
            subst Z3 Yr
            have K2 : v = .string m := Ap.val (w := w) (A := A) S9
            have F5 : u = .string n := Ap.val (w := w) (A := A) hqu
            subst K2 F5
            have e : ∀ b : Bool, (b && true) = b := Bool.and_true
            simp only[Iu, e] at Dq
            refine⟨m == n, _, Hf, by simp[A7, Hf], Gl (d + 1) (.inr (.inr ⟨m, n, Hf, rfl, rfl⟩)) ?_ ?_ ?_, Dq⟩
            · intro k' m' n' h1; cases h1
            · intro m' n' h1; cases h1
            · intro m' n' h1 h2; injection h1 with h1; injection h2 with h2; rw[h1, h2]
          · cases hk
        obtain⟨b0, dsc, Hf, Ed, he, hk⟩ := one
        exact⟨b0, v, u, 1, Mz Hf Ed (by rw[Lf]; exact hv), Mz Hf Ed (by rw[Lf]; exact hu), he, Ab5, by simpa using hk⟩
      split at hty
      · rename_i k Hf
        exact plain (fun gs e => by rw[Hf] at e; cases e) hty (by rw[Hf])
      · rename_i Hf
        exact plain (fun gs e => by rw[Hf] at e; cases e) hty (by rw[Hf])
      · rename_i Hf
        exact plain (fun gs e => by rw[Hf] at e; cases e) hty (by rw[Hf])
      · rename_i gs Hf
        simp only[Bool.and_eq_true, Bool.not_eq_true'] at hty
        obtain⟨⟨⟨⟨hfp, Kk⟩, hi⟩, Jx⟩, Qc⟩ := hty
        have Jx := Nat.eq_of_beq_eq_true Jx
        have Le : (EE P f).length = gs.size := by rw[Uk Hf, List.length_map, Array.length_toList]
        rw[Le] at hk Dh
        rw[Uk Hf] at hk
        have hx := Z7 (n := gs.size) (by omega) hp
        have hy := Z7 (n := gs.size) (by omega) hq
        obtain⟨b0, UQ, he⟩ := Vh d Hf Kk hfp hx hy hk
        have ha : A7 P f.type = true := by simp[A7, Hf]
        exact⟨b0, _, _, gs.size, by rw[GP Hf ha hi, Lf, Jx], by rw[GP Hf ha hi, Lf, Jx], he, Qc, UQ⟩
      · cases hty
    obtain⟨b0, v, u, n, hpx, hpy, he, Ab5, hk⟩ := main
    obtain⟨b, UQ, Bn⟩ := LY d fs (i + n) xs ys (ps.drop n) (qs.drop n) _ Ab5 hk (fun j p' hj => by rw[List.getElem?_drop] at hj; have := hp (n + j) p' hj; rwa [← Nat.add_assoc] at this) (fun j p' hj => by rw[List.getElem?_drop] at hj; have := hq (n + j) p' hj; rwa [← Nat.add_assoc] at this)
    refine⟨b0 && b, UQ, ?_⟩
    cases b0
    · simp[List.forIn_cons, Xr, hpx, hpy, he]
    · simp only[Bool.true_and]
      rw[← Bn]
      simp[List.forIn_cons, Xr, hpx, hpy, he]
theorem Xj (d:Nat){t:TypeId}{fs:Array Field}(hu:P.underlying t=some (.struct fs)) (Kk:P.stoodInHeld t=false)(BA:Kc P fs.toList 0=true){xs ys:List PV}{vx vy:List Value}
  (YS:Au (A6 w A β) xs vx) (hvy:Au (A6 w A β) ys vy) {K:Bool->Option R}(hk:Iu (P7 P fs.toList) xs ys K=some r):
  ∃b,K b=some r∧(Op.equalIn (d+3) t (.agg ⟨vx⟩) (.agg ⟨vy⟩)).run P w=.ok b w:=by
 obtain⟨b,UQ,Bn⟩:=LY (P:=P) (w:=w) (A:=A) (β:=β) d fs.toList 0 ⟨vx⟩ ⟨vy⟩ xs ys K BA hk (fun j p hj=>by
   obtain⟨v,hv,hc⟩:=YS.get hj;exact⟨v,by simpa using hv,hc⟩) (fun j p hj=>by
   obtain⟨v,hv,hc⟩:=hvy.get hj;exact⟨v,by simpa using hv,hc⟩)
 refine⟨b,UQ,?_⟩;rw[Array.forIn_toList] at Bn;rw[Op.equalIn];simp[run_underlying hu,Kk];rw[Bn];cases b<;>simp
theorem AZ (h:Br N w0 X0 Y β s a w){t:TypeId}{fs:Array Field}{x y:Operand}{op:BinOp}(RK:op=.eql∨op=.neq)(hu:P.underlying t=some (.struct fs)) (BA:CF P t fs=true){xs ys:List PV}
  (hx:A8 s.tm x=.agg xs)(hy:A8 s.tm y=.agg ys){K:Bool->Option R}(hk:Iu (P7 P fs.toList) xs ys K=some r):
  ∃b,K b=some r∧(do eqGuard op t x y (a.eval x) (a.eval y);binOp op t (a.eval x) (a.eval y)).run P w=.ok (.bool (if op=.eql then b else !b)) w:=by
 have hxv:=Bv h x;have LM:=Bv h y;rw[hx] at hxv;rw[hy] at LM;obtain⟨vx,B0,YS⟩:=hxv;obtain⟨vy,hay,hvy⟩:=LM;simp only[CF,Bool.and_eq_true,Bool.not_eq_true'] at BA;obtain⟨⟨BA,Kk⟩,heg⟩:=BA;obtain⟨b,UQ,heq⟩:=Xj 9997 hu Kk BA YS hvy hk;have heq:(Op.equal t (.agg ⟨vx⟩) (.agg ⟨vy⟩)).run P w=.ok b w:=heq;refine⟨b,UQ,?_⟩;rw[B0,hay];rcases RK with rfl|rfl
 ·simp[eqGuard,binOp,heq,heg]
 ·simp[eqGuard,binOp,heq,heg]
theorem GC (h:Br N w0 X0 Y β s a w){op:BinOp}{t ty:TypeId}{x y:Operand}(ho:o.op=.binOp op t x y ty){K:PV->Option R}
  (hk:Ot P op t (A8 s.tm x) (A8 s.tm y) K=some r):∃v,K v=some r∧C5 P a w o Y β s v [] []:=by
 have Bn:∀v,(do eqGuard op t x y (a.eval x) (a.eval y);binOp op t (a.eval x) (a.eval y)).run P w=.ok v w->(execOp a.eval o).run P w=.ok (.value v) w:=by
  intro v hv;unfold execOp;rw[ho];simp only[Sem.run_bind] at hv ⊢;rw[hv];rfl
 unfold Ot at hk;split at hk
 ·rename_i fs hu;split at hk
  ·obtain⟨BA,hk⟩:=Ae hk;obtain⟨xs,hx,hk⟩:=Fg hk;obtain⟨ys,hy,hk⟩:=Fg hk;obtain⟨b,hk,hr⟩:=AZ h (.inl rfl) hu BA hx hy hk;exact⟨_,hk,Bo (Bn _ (by rw[hr];rfl))⟩
  ·obtain⟨BA,hk⟩:=Ae hk;obtain⟨xs,hx,hk⟩:=Fg hk;obtain⟨ys,hy,hk⟩:=Fg hk;obtain⟨b,hk,hr⟩:=AZ h (.inr rfl) hu BA hx hy hk;exact⟨_,hk,Bo (Bn _ (by rw[hr];rfl))⟩
  ·cases hk
 ·unfold UA at hk;split at hk
  ·rename_i k hu;split at hk
   ·obtain⟨m,hx,hk⟩:=C9 hk;obtain⟨k2,n,hy,hk⟩:=B2 hk;obtain⟨hb,hk⟩:=Ae hk;have hb:=of_decide_eq_true hb;refine⟨_,hk,Bo (Bn _ ?_)⟩;have:¬n<0:=by omega
    simp[eqGuard,binOp,Op.shift,Bl h hx,Bl h hy,this]
   ·obtain⟨m,hx,hk⟩:=C9 hk;obtain⟨k2,n,hy,hk⟩:=B2 hk;obtain⟨hb,hk⟩:=Ae hk;have hb:=of_decide_eq_true hb;refine⟨_,hk,Bo (Bn _ ?_)⟩;have:¬n<0:=by omega
    simp[eqGuard,binOp,Op.shift,Bl h hx,Bl h hy,this]
   ·rename_i WV hs2;obtain⟨m,hx,hk⟩:=C9 hk;obtain⟨n,hy,hk⟩:=C9 hk;obtain⟨v,hk,hr⟩:=OW (P:=P) (w:=w) (t:=t) (x:=x) (y:=y) WV hs2 hk;exact⟨_,hk,Bo (Bn _ (by rw[Bl h hx,Bl h hy];exact hr))⟩
  ·rename_i hu;obtain⟨m,hx,hk⟩:=Cf hk;obtain⟨n,hy,hk⟩:=Cf hk;obtain⟨v,hk,hr⟩:=OO (P:=P) (w:=w) (t:=t) (x:=x) (y:=y) hk;exact⟨_,hk,Bo (Bn _ (by rw[Bl h hx,Bl h hy];exact hr))⟩
  ·rename_i hu;split at hk
   ·obtain⟨m,hx,hk⟩:=Cg hk;obtain⟨n,hy,hk⟩:=Cg hk;refine⟨_,hk,Bo (Bn _ ?_)⟩;simp[eqGuard,binOp,Bl h hx,Bl h hy,Xf hu]
   ·obtain⟨m,hx,hk⟩:=Cg hk;obtain⟨n,hy,hk⟩:=Cg hk;refine⟨_,hk,Bo (Bn _ ?_)⟩;simp[eqGuard,binOp,Bl h hx,Bl h hy,Xf hu]
   ·cases hk
  ·rename_i e hu;have hx:=Bv h x
   have nilQ:∀{e:Bool} {K':PV->Option R},Wb e (A8 s.tm x) K'=some r->∃q ad n c,K' q=some r∧a.eval x=.slice ad n c∧(q=.sc (.bool (if ad.isNone then e else !e))∨q=.ub):=by
    intro e K' hq;unfold Wb at hq;split at hq
    ·rename_i e';exact⟨_,none,0,0,hq,Bl h e',.inl rfl⟩
    ·rename_i z es n c e';rcases El (.inl e') hx with⟨B0,rfl,_⟩|⟨ad,cap,B0,rfl,_⟩|⟨ad,cap,B0,rfl,rfl,_⟩
     ·rcases Jr hq with⟨_,hq⟩|⟨_,hq⟩
      ·exact⟨_,none,0,0,hq,B0,.inl rfl⟩
      ·rcases Jr hq with⟨hb,_⟩|⟨_,hq⟩
       ·exact absurd (of_decide_eq_true hb) (by omega)
       ·exact⟨_,none,0,0,hq,B0,.inr rfl⟩
     ·rcases Jr hq with⟨hz,_⟩|⟨_,hq⟩
      ·cases hz
      ·rcases Jr hq with⟨_,hq⟩|⟨_,hq⟩
       ·exact⟨_,some ad,n,cap,hq,B0,.inl rfl⟩
       ·exact⟨_,some ad,n,cap,hq,B0,.inr rfl⟩
     ·rcases Jr hq with⟨hz,_⟩|⟨_,hq⟩
      ·cases hz
      ·rcases Jr hq with⟨hb,_⟩|⟨_,hq⟩
       ·exact absurd (of_decide_eq_true hb) (by omega)
       ·exact⟨_,some ad,0,cap,hq,B0,.inr rfl⟩
    ·rename_i id es off n e';rw[e'] at hx;rcases hx with⟨_,_,rfl,ad,B0⟩|⟨b,ob,y',cap,_,B0,_⟩
     ·rcases Jr hq with⟨hb,_⟩|⟨_,hq⟩
      ·exact absurd (of_decide_eq_true hb) (by omega)
      ·exact⟨_,ad,0,0,hq,B0,.inr rfl⟩
     ·rcases Jr hq with⟨_,hq⟩|⟨_,hq⟩
      ·exact⟨_,_,n,cap,hq,B0,.inl rfl⟩
      ·exact⟨_,_,n,cap,hq,B0,.inr rfl⟩
    ·cases hq
   split at hk
   ·rename_i hy;obtain⟨q,ad,n,c,hk,B0,hb⟩:=nilQ hk;rcases hb with rfl|rfl
    ·refine⟨_,hk,Bo (Bn _ ?_)⟩;cases ad<;>simp[eqGuard,binOp,B0,Bl h hy,Oy hu]
    ·refine⟨_,hk,A9 (val:=.bool ad.isNone) (Bn _ ?_) (Ap.ub _) (by intro i hi;cases hi)⟩
     simp[eqGuard,binOp,B0,Bl h hy,Oy hu]
   ·rename_i hy;obtain⟨q,ad,n,c,hk,B0,hb⟩:=nilQ hk;rcases hb with rfl|rfl
    ·refine⟨_,hk,Bo (Bn _ ?_)⟩;cases ad<;>simp[eqGuard,binOp,B0,Bl h hy,Oy hu]
    ·refine⟨_,hk,A9 (val:=.bool !ad.isNone) (Bn _ ?_) (Ap.ub _) (by intro i hi;cases hi)⟩
     simp[eqGuard,binOp,B0,Bl h hy,Oy hu]
   ·cases hk
  ·cases hk
end
open Go.RowKit
section
variable {R:Type} {r:R} {P:Program} {N:Nat} {w0:World} {X0:Ft} {Y:Nat->Prop} {β β':Bt} {s:St} {a:Act} {w w':World} {o:Oper} {A:Nat->Prop}
theorem Nv:∀{c:List PV}{l:List UInt8},bytesOf c=some l->∃ns:List Int,c=ns.map (fun n=>.sc (.int .u8 n))∧l=ns.map fun n=>n.toNat.toUInt8
 |[],l,h=>⟨[],rfl,by simp[bytesOf] at h;subst h;rfl⟩
 |p::c,l,h=>by
  unfold bytesOf at h;split at h
  ·rename_i e;cases e
  ·rename_i n r e;cases e;cases hr:bytesOf c with
   |none=>rw[hr] at h;cases h
   |some l'=>
    rw[hr] at h;simp at h;obtain⟨ns,rfl,rfl⟩:=Nv hr;exact⟨n::ns,rfl,h.symm⟩
  ·cases h
theorem Nj:∀(ns:List Int)(b:ByteArray),ns.foldl (fun r n=>r.push (UInt8.ofNat n.toNat)) b=⟨b.data++(ns.map fun n=>n.toNat.toUInt8).toArray⟩
 |[],b=>by simp
 |n::ns,b=>by
  simp only[List.foldl_cons];rw[Nj ns];simp[ByteArray.push]
theorem GK (h:Br N w0 X0 Y β s a w){es:Nat}{x:Operand}{K:Nat->List PV->Option R}(hk:II (Hd s.hp) es (A8 s.tm x) K=some r):
  ∃n c,K n c=some r∧(((∃ad,a.eval x=.slice ad 0 0)∧n=0∧c=[])∨∃ad cap,a.eval x=.slice (some ad) n cap∧n<=cap∧(c=[]∨ad.block<w.heap.size)∧EC w (Bz s.hp β Y) ad c):=by
 have hx:=Bv h x;have Yl:=Di h x;unfold II at hk;split at hk
 ·rename_i id es' off n e;rw[e] at hx Yl;cases hb:Nat.beq es' es
  ·rw[hb] at hk;cases hk
  ·rw[hb] at hk;obtain⟨c,hc,hk⟩:=Bq (show Da _ _=some r from hk)
   obtain⟨hl,hk⟩:=Ae hk;have hl:=of_decide_eq_true hl;obtain⟨f,NL⟩:=DG hc;refine⟨_,_,hk,?_⟩;rcases hx with⟨_,rfl,rfl,ad,B0⟩|⟨b,ob,y,cap,hβ,B0,hy,hn,_,Bk⟩
   ·exact .inl ⟨⟨ad,B0⟩,rfl,by simp⟩
   ·refine .inr ⟨_,cap,B0,hn,.inr Bk,fun j p hj=>?_⟩
    have Ahg:0<n*es:=by
     rcases Nat.eq_zero_or_pos (n*es) with h0|h0
     ·rw[h0] at hj;simp at hj
     ·exact h0
    have HY:n≠0:=by rintro rfl;simp at Ahg
    have hy:y=ob+off:=by rcases hy with hy|⟨h0,_⟩<;>omega
    subst hy;rw[List.getElem?_take] at hj;split at hj
    ·rw[List.getElem?_drop] at hj;rcases h.box id _ NL with⟨h1,_⟩|⟨b',o',h1,h2,_⟩
     ·rw[hβ] at h1;cases h1
     ·rw[hβ] at h1;simp at h1;obtain⟨rfl,rfl⟩:=h1
      obtain⟨v,hv,h3,ht⟩:=h2 (off+j) p hj;rw[Cb] at hv;exact⟨v,by rw[Cb,Nat.add_assoc];exact hv,h3,ht⟩
    ·cases hj
 ·obtain⟨z,n,c,hk,hp⟩:=Dy hk;refine⟨n,c,hk,?_⟩;rcases El hp hx with h1|⟨ad,cap,B0,_,hn,h1,h2,_,h4⟩|⟨ad,cap,B0,_,rfl,rfl⟩
  ·exact .inl ⟨⟨none,h1.1⟩,h1.2⟩
  ·exact .inr ⟨ad,cap,B0,hn,.inr h2,h4⟩
  ·exact .inr ⟨ad,cap,B0,Nat.zero_le _,.inl rfl,fun j c hj=>by simp at hj⟩
theorem NJ (b:ByteArray)(j:Nat)(p:PV)(h:(B1 b)[j]?=some p):∃x,b.data[j]?=some x∧p=.sc (.int .u8 x.toNat):=by
 unfold B1 at h;rw[List.getElem?_map] at h;cases hx:b.data.toList[j]? with
 |none=>rw[hx] at h;cases h
 |some x=>
  rw[hx] at h;simp at h;exact⟨x,by simpa using hx,h.symm⟩
theorem JC (h:Br N w0 X0 Y β s a w){src dst:TypeId}{x:Operand}(ho:o.op=.convert src dst x){d:Nat}{K:PV->List (Nat × A1)->Option R}
  (hk:W2 P (Hd s.hp) d src dst (A8 s.tm x) K=some r):∃v nw,K v nw=some r∧C5 P a w o Y β s v [] nw:=by
 have Bn:∀v w',(convert src dst (a.eval x)).run P w=.ok v w'->(execOp a.eval o).run P w=.ok (.value v) w':=by
  intro v w' hv;unfold execOp;rw[ho];simp[hv]
 unfold W2 at hk;split at hk
 ·rename_i k hu;obtain⟨hs,hk⟩:=Ae hk;obtain⟨k',n,hx,hk⟩:=B2 hk;exact⟨_,_,hk,Bo (Bn _ _ (by rw[Bl h hx];obtain⟨ds,hds⟩:=Option.isSome_iff_exists.1 hs;cases ds<;>simp[convert,run_underlying hds,run_underlying hu,Conv.intToInt]))⟩
 ·rename_i hu;split at hk
  ·rename_i hs;obtain⟨b,hx,hk⟩:=Cf hk;exact⟨_,_,hk,Bo (Bn _ _ (by rw[Bl h hx];simp[convert,run_underlying hs,run_underlying hu]))⟩
  ·rename_i e hs;split at hk
   ·rename_i he;obtain⟨n,c,hk,hc⟩:=GK h hk;obtain⟨hl,hk⟩:=Ae hk;have hl:=of_decide_eq_true hl;obtain⟨l,hb,hk⟩:=Bq hk;obtain⟨ns,rfl,rfl⟩:=Nv hb;refine⟨_,_,hk,Bo (Bn _ _ ?_)⟩;rcases hc with⟨⟨ad,B0⟩,rfl,hn⟩|⟨ad,cap,B0,_,_,hrd⟩
    ·have:ns=[]:=by simpa using hn
     subst this;rw[B0,run_convert_bytes_string w src dst e ad 0 0 hs he hu];cases ad<;>rfl
    ·rw[B0,run_convert_bytes_string w src dst e _ _ _ hs he hu]
     have hld:(loadCells ad n).run P w=.ok (ns.map (Value.int .u8)).toArray w:=by
      have:=run_loadCells_list (P:=P) w ad (ns.map (Value.int .u8)) (fun j v hj=>by
       rw[List.getElem?_map] at hj;cases hn:ns[j]? with
       |none=>rw[hn] at hj;cases hj
       |some m=>
        rw[hn] at hj;simp at hj;subst hj;obtain⟨v,hv,_,ht⟩:=hrd j (.sc (.int .u8 m)) (by rw[List.getElem?_map,hn];rfl)
        rw[ht.val] at hv;exact hv)
      simp only[List.length_map] at this hl;rw[hl] at this;exact this
     rw[run_bytesToString w ad n cap ns hld,Nj];simp
   ·cases hk
  ·cases hk
 ·rename_i e hu;split at hk
  ·rename_i he hs;obtain⟨b,hx,hk⟩:=Cf hk;obtain⟨Jx,hk⟩:=Ae hk;have hr:=run_bytes_of_string (P:=P) w src dst e b hs hu he;rw[←Bl h hx] at hr
   have Pg:b.size<=grownCap w b.size 0 e:=by
    unfold grownCap;simp[Question.cut]
   have HS:(bytesRow b (grownCap w b.size 0 e)).size=grownCap w b.size 0 e:=by
    simp only[bytesRow,Array.size_append,Array.size_map,Array.size_replicate];have:b.data.size=b.size:=rfl;omega
   refine⟨_,_,hk,Ls (c:=bytesRow b (grownCap w b.size 0 e)) (e:=e) (by simp) (Bn _ _ hr) ?_ (fun j p hj=>?_) (.inr ⟨1,b.size,grownCap w b.size 0 e,rfl,rfl,Pg,by rw[HS];omega,.inl rfl⟩)⟩
   ·exact⟨rfl,rfl,rfl,fun i hi=>Below.heap_alloc w.drew _ i hi,by show (w.heap.push _).size=_;simp,_,by show (w.heap.push _)[w.heap.size]?=_;simp;rfl,.inr (Nat.le_refl _)⟩
   ·obtain⟨y,hy,rfl⟩:=NJ b j p hj;refine⟨.int .u8 y.toNat,?_,rfl,Ap.sc _⟩
    have Bk:j<b.data.size:=by
     rcases Nat.lt_or_ge j b.data.size with h|h
     ·exact h
     ·rw[Array.getElem?_eq_none h] at hy;cases hy
    simp only[bytesRow];rw[Array.getElem?_append_left (by simpa using Bk),Array.getElem?_map,hy]
    rfl
  ·cases hk
 ·cases hk
end
open Go.RowKit
section
variable {R:Type} {r:R} {P:Program} {N:Nat} {w0:World} {X0:Ft} {Y:Nat->Prop} {β β':Bt} {s:St} {a:Act} {w w':World} {o:Oper} {A:Nat->Prop}
theorem Ra:∀{n:Nat}{l:List PV}{j:Nat}{c:PV},(Ql n l)[j]?=some c->j<n*l.length∧l[j % l.length]?=some c
 |0,l,j,c,h=>by simp[Ql] at h
 |n+1,l,j,c,h=>by
  have e:Ql (n+1) l=l++Ql n l:=by simp[Ql,List.replicate_succ]
  rw[e] at h;by_cases hj:j<l.length
  ·rw[List.getElem?_append_left hj] at h;refine⟨by rw[Nat.add_mul];omega,?_⟩
   rw[Nat.mod_eq_of_lt hj];exact h
  ·rw[List.getElem?_append_right (by omega)] at h
   obtain⟨h1,h2⟩:=Ra h;refine⟨by rw[Nat.add_mul];omega,?_⟩
   rw[Nat.mod_eq_sub_mod (by omega)];exact h2
theorem GQ (n:Nat)(l:List PV):(Ql n l).length=n*l.length:=by
 induction n with
 |zero=>simp[Ql]
 |succ n ih=>
  have e:Ql (n+1) l=l++Ql n l:=by simp[Ql,List.replicate_succ]
  rw[e,List.length_append,ih,Nat.add_mul];omega
theorem FB {z:Array Value}{n j:Nat}(hj:j<n){v:Value}(hv:z[j % z.size]?=some v):(madeCells z n)[j]?=some v:=by
 unfold madeCells;rw[Array.getElem?_map,Array.getElem?_range,if_pos hj];simp only[Option.map_some];rw[getElem!_def,hv]
theorem KL (h:Br N w0 X0 Y β s a w){t:TypeId}{x y:Operand}(ho:o.op=.makeSlice t x y){d:Nat}{K:PV->List Nat->List (Nat × A1)->Option R}
  (hk:(match P.underlying t with
   |some (.slice e)=>B8 (A8 s.tm x) fun _ n=>B8 (A8 s.tm y) fun _ m=>
     Ao (decide (0<=n)&&decide (n<=m)&&decide (m*((P.info? e).map (·.bytes)).getD 0<=1099511627776)&&decide (m<=1099511627776))
      (E1 P e fun z=>K (.view d (As P e) 0 n.toNat) [] [(d,.ar false (Ql n.toNat z))])
   |_=>none)=some r):∃v fz nw,K v fz nw=some r∧C5 P a w o Y β s v fz nw:=by
 split at hk
 ·rename_i e hu;obtain⟨k1,n,hx,hk⟩:=B2 hk;obtain⟨k2,m,hy,hk⟩:=B2 hk;obtain⟨hb,hk⟩:=Ae hk;simp only[Bool.and_eq_true,decide_eq_true_eq] at hb;obtain⟨⟨⟨h0,Xp⟩,Nz⟩,hm⟩:=hb;obtain⟨z,cs,hk,hz,hct,hl,Jx,hc⟩:=K6 hk
  have hzc:∃i,P.info? e=some i∧i.zero=some z:=by
   unfold Qp at hz;cases hi:P.info? e with
   |none=>rw[hi] at hz;cases hz
   |some i=>rw[hi] at hz;exact⟨i,rfl,hz⟩
  obtain⟨i,hi,PN⟩:=hzc;have Af5:As P e=i.size:=by simp[As,hi]
  simp only[hi,Option.map_some,Option.getD_some] at Nz;have hr:=run_make (P:=P) w t e i z hu hi PN k1 k2 n m h0 Xp (by rw[Int.mul_comm];omega) (by omega)
  have Bn:(execOp a.eval o).run P w=.ok (.value (.slice (some ⟨w.heap.size,0,none⟩) n.toNat m.toNat)) (w.alloc (.cells (madeCells z.cells (m.toNat*i.size)) e)):=by
   unfold execOp;rw[ho];simp[Bl h hx,Bl h hy,hr]
  have hzl:z.cells.size=As P e:=by
   have:z.cells.toList.length=z.cells.size:=by simp
   omega
  refine⟨_,_,_,hk,Ls (c:=madeCells z.cells (m.toNat*i.size)) (e:=e) (by simp) Bn (D0.alloc w _ e) (fun j p hj=>?_) (.inr ⟨As P e,n.toNat,m.toNat,rfl,rfl,by omega,by rw[size_madeCells,Af5];exact Nat.le_refl _,.inr (H0 w _ e)⟩)⟩
  obtain⟨h1,h2⟩:=Ra hj;obtain⟨hT,u,F5,Xn,hv⟩:=hc _ p h2;refine⟨u,FB ?_ ?_,Xn,hv _ _⟩
  ·have:n.toNat*cs.length<=m.toNat*i.size:=by
    rw[Jx,Af5];exact Nat.mul_le_mul_right _ (by omega)
   omega
  ·rw[hzl,←Jx]
   simpa using F5
 ·cases hk
theorem NV {p:PV}{v:Value}(hp:okP p=true)(hv:C1 w A β p v):Au (A6 w A β) (cellsOf p) v.cells.toList:=by
 have one:v.oneCell'=true->A6 w A β p v->(∀x,p ≠ .agg x)->Au (A6 w A β) (cellsOf p) v.cells.toList:=by
  intro h1 h2 h3;have:cellsOf p=[p]:=by cases p<;>first|rfl|exact absurd rfl (h3 _)
  rw[this,Jv h1];exact⟨h2,trivial⟩
 unfold okP at hp;split at hp
 ·obtain⟨vs,rfl,h2⟩:=hv;exact h2
 ·refine one ?_ hv (by simp)
  have K2:Ap w A _ v:=hv;cases K2<;>rfl
 ·refine one ?_ hv (by simp)
  rcases hv with⟨_,_,_,_,rfl⟩|⟨_,_,_,_,_,rfl,_⟩<;>rfl
 ·have:=Td hv;subst this;exact one rfl hv (by simp)
 ·have:=Td hv;subst this;exact one rfl hv (by simp)
 ·have:=Td hv;subst this;exact one rfl hv (by simp)
 ·have:=Td hv;subst this;exact one rfl hv (by simp)
 ·cases hp
theorem NF:∀(vs:List Value)(k off:Nat)(cells:Array Value),off+k+vs.length<=cells.size ->
  ((vs.zipIdx k).foldl (fun cs (q:Value × Nat)=>cs.setIfInBounds (off+q.2) q.1) cells).toList=cells.toList.take (off+k)++vs++cells.toList.drop (off+k+vs.length)
 |[],k,off,cells,_=>by simp
 |v::vs,k,off,cells,h=>by
  simp only[List.zipIdx_cons,List.foldl_cons,List.length_cons] at h ⊢;rw[NF vs (k+1) off _ (by simp;omega)]
  have Bk:off+k<cells.toList.length:=by simp;omega
  simp only[Array.toList_setIfInBounds];rw[show off+(k+1)=off+k+1 from by omega,List.take_succ_eq_append_getElem (by simpa using Bk)]
  rw[List.getElem_set_self,List.take_set_of_le (Nat.le_refl _),List.drop_set_of_lt (by omega)]
  simp only[List.append_assoc,List.cons_append,List.nil_append];rw[show off+k+1+vs.length=off+k+(vs.length+1) from by omega]
theorem Wq (h:Br N w0 X0 Y β s a w){Ep:Nat->Option (Nat × Nat)}:∀{parts:List (Nat × Operand)} {pc:List PV}{vc:Array Value}{K:List PV->Option R},
  Ns Ep (parts.map fun q=>(q.1,A8 s.tm q.2)) pc K=some r->Au (A6 w (Bz s.hp β Y) β) pc vc.toList->(∀c∈pc,∀id∈Aj c,s.hp id≠none) ->
  ∃pc' vc',K pc'=some r∧Instr.fill Ep vc (parts.map fun q=>(q.1,a.eval q.2))=some vc'∧Au (A6 w (Bz s.hp β Y) β) pc' vc'.toList∧pc'.length=pc.length∧∀c∈pc',∀id∈Aj c,s.hp id≠none
 |[],pc,vc,K,hk,hv,hr=>⟨pc,vc,hk,rfl,hv,rfl,hr⟩
 |(i,x)::parts,pc,vc,K,hk,hv,hr=>by
  simp only[List.map_cons] at hk;unfold Ns at hk;obtain⟨⟨off,size⟩,Vx,hk⟩:=Bq hk;obtain⟨hb,hk⟩:=Ae hk;simp only[Bool.and_eq_true] at hb;obtain⟨⟨Js,Jx⟩,Tn⟩:=hb;have Jx:(cellsOf (A8 s.tm x)).length=size:=Nat.eq_of_beq_eq_true Jx;have Tn:off+size<=pc.length:=Nat.le_of_ble_eq_true Tn;have hxc:=NV Js (Bv h x);have hxl:=hxc.len;have Rl:=hv.len;have G8:vc.toList.length=vc.size:=by simp
  have P6:(a.eval x).cells.toList.length=(a.eval x).cells.size:=by simp
  have Agj:=NF (a.eval x).cells.toList 0 off vc (by omega)
  simp only[Nat.add_zero] at Agj
  have Agn:((a.eval x).cells.zipIdx.foldl (fun cs (q:Value × Nat)=>cs.setIfInBounds (off+q.2) q.1) vc).toList=vc.toList.take off++(a.eval x).cells.toList++vc.toList.drop (off+(a.eval x).cells.toList.length):=by
   rw[←Agj,←Array.foldl_toList];simp
  obtain⟨pc',vc',hk,hf,h2,hl,hr'⟩:=Wq h (pc:=A2 pc (cellsOf (A8 s.tm x)) off) (vc:=(a.eval x).cells.zipIdx.foldl (fun cs (q:Value × Nat)=>cs.setIfInBounds (off+q.2) q.1) vc) hk (by
    rw[Agn,←hxl];exact (((hv.take off).app hxc).app (hv.drop _))) (by
    intro c hc id Ay;unfold A2 at hc;rcases List.mem_append.1 hc with hc|hc
    ·rcases List.mem_append.1 hc with hc|hc
     ·exact hr c (List.mem_of_mem_take hc) id Ay
     ·refine Di h x id ?_;cases hp:A8 s.tm x with
      |agg cs=>rw[hp] at hc;exact List.mem_flatMap.2 ⟨c,hc,Ay⟩
      |tup cs=>rw[hp] at hc;simp[cellsOf] at hc;subst hc;cases Ay
      |_=>rw[hp] at hc;simp[cellsOf] at hc;subst hc;exact Ay
    ·exact hr c (List.mem_of_mem_drop hc) id Ay)
  refine⟨pc',vc',hk,?_,h2,?_,hr'⟩
  ·simp only[List.map_cons,Instr.fill,Vx];rw[if_neg (by simp;omega)]
   exact hf
  ·rw[hl];simp[A2];omega
theorem EY {t:TypeId}{z:Value}{cs:List PV}(hl:cs.length=z.cells.toList.length)(hc:∀(j:Nat) c,cs[j]?=some c->P4 c∧∃u,z.cells.toList[j]?=some u∧u.oneCell'=true∧∀(w:World)(A:Nat->Prop),Ap w A c u) (_ht:Qp P t=some z):
  Au (A6 w A β) cs z.cells.toList∧∀c∈cs,Aj c=[]:=by
 refine⟨Au.of_at hl fun i c u hci hu=>?_,fun c FC=>?_⟩
 ·obtain⟨hT,u',F5,_,hv⟩:=hc i c hci;rw[hu] at F5;cases F5;exact (Iv hT).2 (hv _ _)
 ·obtain⟨j,hj⟩:=List.mem_iff_getElem?.1 FC;exact Fk (hc j c hj).1
theorem Xl:∀{fs:List Field},(fs.all fun f=>Xi P f.type)=true->fs.mapM (fun f=>(P.info? f.type).map fun i=>(f.offset,i.size))=some (fs.map fun f=>(f.offset,As P f.type))
 |[],_=>rfl
 |f::fs,h=>by
  simp only[List.all_cons,Bool.and_eq_true] at h;obtain⟨i,hi⟩:=Option.isSome_iff_exists.1 h.1;simp[List.mapM_cons,hi,Xl h.2,As]
theorem Qh {p q:Nat->Option (Nat × Nat)} (h:∀i,p i=q i)(cells:Array Value)(parts:List (Nat × Value)):Instr.fill p cells parts=Instr.fill q cells parts:=by
 have:p=q:=funext h;rw[this]
theorem FL (h:Br N w0 X0 Y β s a w){t:TypeId}{ps:Array (Nat × Operand)} (ho:o.op=.build t ps){K:PV->Option R}
  (hk:(Ao (L5 P t&&A7 P t)<|E1 P t fun z=>Ns (Mp P t) (ps.toList.map fun q=>(q.1,A8 s.tm q.2)) z fun cs=>Li (Fy P t) cs 0 fun cs'=>K (.agg cs'))=some r):∃v,K v=some r∧C5 P a w o Y β s v [] []:=by
 obtain⟨Vx,hk⟩:=Ae hk;simp only[Bool.and_eq_true] at Vx;obtain⟨Vx,Ed⟩:=Vx;obtain⟨z,cs,hk,hz,hct,hl,Jx,hc⟩:=K6 hk;obtain⟨hzr,Wv⟩:=EY (w:=w) (A:=Bz s.hp β Y) (β:=β) hl hc hz;obtain⟨pc',vc',hk,hf,h2,He,hr'⟩:=Wq h hk hzr (fun c FC id Ay=>by rw[Wv c FC] at Ay;cases Ay)
 obtain⟨qs,hk,hql,Tr,hq⟩:=N5 hk
 have Aee:P.built t (ps.toList.map fun q=>(q.1,a.eval q.2))=some vc':=by
  have PN:∃i,P.info? t=some i∧i.zero=some z:=by
   unfold Qp at hz;cases hi:P.info? t with
   |none=>rw[hi] at hz;cases hz
   |some i=>rw[hi] at hz;exact⟨i,rfl,hz⟩
  obtain⟨i,hi,PN⟩:=PN;unfold L5 at Vx;unfold Program.built;split at Vx
  ·rename_i fs hu
   have QT:Instr.fill (((fs.toList.map fun f=>(f.offset,As P f.type)).toArray)[·]?) z.cells (ps.toList.map fun q=>(q.1,a.eval q.2))=some vc':=by
    rw[←hf];refine Qh (fun j=>?_) _ _
    simp[Mp,hu]
   simp only[hi,hu,PN,Xl Vx];exact QT
  ·rename_i n e hu;obtain⟨ie,hie⟩:=Option.isSome_iff_exists.1 Vx
   have QT:Instr.fill (fun j=>some (j*ie.size,ie.size)) z.cells (ps.toList.map fun q=>(q.1,a.eval q.2))=some vc':=by
    rw[←hf];refine Qh (fun j=>?_) _ _
    simp[Mp,hu,As,hie]
   simp only[hi,hu,PN,hie];exact QT
  ·rename_i e hu;simp[A7,hu] at Ed
  ·cases Vx
 refine⟨_,hk,A9 (val:=.agg vc') ?_ ⟨vc'.toList,rfl,?_⟩ ?_⟩
 ·unfold execOp;rw[ho];have:=run_build (P:=P) w t (ps.map fun q=>(q.1,a.eval q.2)) vc' (by simpa using Aee)
  simp[this]
 ·refine Au.of_at (by have:=h2.len;omega) fun j c u hcj hu=>?_
  obtain⟨p,hp,_,_,S9⟩:=hq j c hcj;rw[Nat.zero_add] at hp;exact (S9 _ _ _ _ (h2.at_ hp hu)).1
 ·intro id Ay;obtain⟨c,FC,Ay⟩:=List.mem_flatMap.1 (show id∈qs.flatMap Aj from Ay)
  obtain⟨j,hj⟩:=List.mem_iff_getElem?.1 FC;obtain⟨p,hp,_,hpr,_⟩:=hq j c hj;rw[Nat.zero_add] at hp;exact hr' p (List.mem_of_getElem? hp) id (hpr id Ay)
end
open Go.RowKit
section
variable {R:Type} {r:R} {P:Program} {N:Nat} {w0:World} {X0:Ft} {Y:Nat->Prop} {β β':Bt} {s:St} {a:Act} {w w':World} {o:Oper} {A:Nat->Prop}
theorem JZ (h:Br N w0 X0 Y β s a w){fz:List Nat}(Ng:∀id∈fz,∃f c,s.hp id=some (.ar f c)) {id:Nat}(hm:id∈fz){f:Bool}{c:List PV}(hb:s.hp id=some (.ar f c)) {b ob:Nat}(hβ:β id=some (b,ob)):
  ¬Bz (Ac s.hp fz) β Y b∧EC w (Bz (Ac s.hp fz) β Y) ⟨b,ob,none⟩ c∧b<w.heap.size:=by
 have hf:=h.freeze Ng;have he:Ac s.hp fz id=some (.ar true c):=by rw[A4,if_pos hm,hb];rfl
 rcases hf.box id _ he with⟨h1,_⟩|⟨b',o',h1,h2,_,h4⟩
 ·rw[hβ] at h1;cases h1
 ·rw[hβ] at h1;simp at h1;obtain⟨rfl,rfl⟩:=h1;exact⟨h4 rfl,h2,h.blt id b ob (by rw[hb];simp) hβ⟩
theorem OQ (h:Br N w0 X0 Y β s a w){fz:List Nat}(Ng:∀id∈fz,∃f c,s.hp id=some (.ar f c)) {id es off n:Nat}(hm:id∈fz){f:Bool}{c:List PV}(hb:s.hp id=some (.ar f c)) {v:Value}
  (hv:A6 w (Bz s.hp β Y) β (.view id es off n) v):Ap w (Bz (Ac s.hp fz) β Y) (.lst false es n ((c.drop off).take (n*es))) v:=by
 rcases hv with⟨_,rfl,rfl,ad,rfl⟩|⟨b,ob,y,cap,hβ,rfl,hy,hn,_,Bk⟩
 ·simp only[Nat.zero_mul,List.take_zero];cases ad with
  |none=>exact Ap.lnil false es
  |some p=>exact Ap.lemp es p 0
 ·obtain⟨h1,h2,_⟩:=JZ h Ng hm hb hβ;by_cases HY:n*es=0
  ·rw[HY,List.take_zero];exact Ap.lst es n [] ⟨b,y,none⟩ cap (fun _=>undef) rfl Bk h1 hn (by simp) (by simp) (by simp)
  ·have hy:y=ob+off:=by
    rcases hy with hy|⟨h0,_⟩
    ·exact hy
    ·rw[h0] at HY;simp at HY
   subst hy
   have hcell:∀(j:Nat) q,((c.drop off).take (n*es))[j]?=some q->c[off+j]?=some q:=by
    intro j q hq;rw[List.getElem?_take] at hq;split at hq
    ·rw[List.getElem?_drop] at hq;exact hq
    ·cases hq
   refine Ap.lst es n _ ⟨b,ob+off,none⟩ cap (fun j=>(w.cell? ⟨b,ob+off+j,none⟩).getD undef) rfl Bk h1 hn (fun j q hq=>?_) (fun j q hq=>?_) (fun j q hq=>?_)
   ·obtain⟨v,hv,_⟩:=h2 _ q (hcell j q hq);rw[Cb,←Nat.add_assoc] at hv;rw[Cb,hv];rfl
   ·obtain⟨v,hv,h3,_⟩:=h2 _ q (hcell j q hq);rw[Cb,←Nat.add_assoc] at hv;rw[hv];exact h3
   ·obtain⟨v,hv,_,ht⟩:=h2 _ q (hcell j q hq);rw[Cb,←Nat.add_assoc] at hv;rw[hv];exact ht
theorem Ap.zf {A:Nat->Prop}{z:Bool}{es n:Nat}{c:List PV}{v:Value}(h:Ap w A (.lst z es n c) v):Ap w A (.lst false es n c) v:=by
 cases h with
 |lnil=>exact .lnil _ _
 |lemp=>exact .lemp _ _ _
 |lst _ _ _ a cap f hs hb hA hn hc h1 hr=>exact .lst _ _ _ a cap f hs hb hA hn hc h1 hr
theorem Wy (h:Br N w0 X0 Y β s a w){t:CT}{p:PV}{K:PV->List Nat->Option R}(hk:Km (Hd s.hp) t p K=some r):
  ∃c m,K c m=some r∧P4 c∧Yt p∧(∀id∈m,∃f cc,s.hp id=some (.ar f cc))∧∀fz:List Nat,(∀id∈m,id∈fz)->(∀id∈fz,∃f cc,s.hp id=some (.ar f cc))->∀v,A6 w (Bz s.hp β Y) β p v->Ap w (Bz (Ac s.hp fz) β Y) c v∧v.oneCell'=true:=by
 have tree:∀t',(T0 t' p fun c=>K c [])=some r->∃c m,K c m=some r∧P4 c∧Yt p∧(∀id∈m,∃f cc,s.hp id=some (.ar f cc))∧∀fz:List Nat,(∀id∈m,id∈fz)->(∀id∈fz,∃f cc,s.hp id=some (.ar f cc))->∀v,A6 w (Bz s.hp β Y) β p v->Ap w (Bz (Ac s.hp fz) β Y) c v∧v.oneCell'=true:=by
  intro t' hk;obtain⟨c,hk,hT,Yf,hv⟩:=Jo hk;refine⟨c,[],hk,hT,Ms Yf,by simp,fun fz _ Ng v S9=>?_⟩
  obtain⟨h1,h2⟩:=hv _ _ _ _ S9;exact⟨h1.step (Ba.refl _ _) (fun b _ hb=>hb.imp L3 id),h2⟩
 cases t with
 |sl es=>
  unfold Km at hk;dsimp only at hk;split at hk
  ·rename_i id es' off n;cases hb:Nat.beq es' es
   ·rw[hb] at hk;cases hk
   ·rw[hb] at hk;have:=Nat.eq_of_beq_eq_true hb;subst this;obtain⟨c,hc,hk⟩:=Bq (show Da _ _=some r from hk)
    obtain⟨_,hk⟩:=Ae hk;obtain⟨f,I2⟩:=DG hc;refine⟨_,[id],hk,trivial,trivial,?_,fun fz hm Ng v hv=>⟨OQ h Ng (hm id (by simp)) I2 hv,?_⟩⟩
    ·intro i hi;simp at hi;subst hi;exact⟨f,c,I2⟩
    ·rcases hv with⟨_,_,_,_,rfl⟩|⟨_,_,_,_,_,rfl,_⟩<;>rfl
  ·obtain⟨z,n,c,hk,hp⟩:=Dy hk;refine⟨_,[],hk,trivial,?_,by simp,fun fz _ Ng v S9=>?_⟩
   ·rcases hp with rfl|⟨rfl,_⟩<;>trivial
   ·have ht:=Qn hp S9;refine⟨Ap.zf (ht.step (Ba.refl _ _) (fun b _ hb=>hb.imp L3 id)),?_⟩
    cases ht<;>rfl
 |int k=>exact tree (.int k) hk
 |bool=>exact tree .bool hk
 |str=>exact tree .str hk
 |any=>exact tree .any hk
theorem Mj (h:Br N w0 X0 Y β s a w):∀{ts:List CT}{ps:List PV}{K:List PV->List Nat->Option R},Kf (Hd s.hp) ts ps K=some r ->
  ∃cs m,K cs m=some r∧cs.length=ts.length∧ps.length=ts.length∧(∀c∈cs,P4 c)∧(∀p∈ps,Yt p)∧(∀id∈m,∃f cc,s.hp id=some (.ar f cc)) ∧
   ∀fz:List Nat,(∀id∈m,id∈fz)->(∀id∈fz,∃f cc,s.hp id=some (.ar f cc))->∀vs,Au (A6 w (Bz s.hp β Y) β) ps vs->Au (Ap w (Bz (Ac s.hp fz) β Y)) cs vs∧∀v∈vs,v.oneCell'=true
 |[],[],K,hk=>⟨[],[],hk,rfl,rfl,by simp,by simp,by simp,fun fz _ _ vs hv=>by
   cases vs with
   |nil=>exact⟨trivial,by simp⟩
   |cons v vs=>exact hv.elim⟩
 |[],_::_,K,hk=>by cases hk
 |_::_,[],K,hk=>by cases hk
 |t::ts,p::ps,K,hk=>by
  unfold Kf at hk;obtain⟨c,m,hk,hT,hF,hm,hv⟩:=Wy h hk;obtain⟨cs,ms,hk,hl,He,hTs,hFs,W7,G8⟩:=Mj h hk;refine⟨c::cs,m++ms,hk,by simp[hl],by simp[He],?_,?_,?_,fun fz hfm Ng vs h2=>?_⟩
  ·intro x hx;rcases List.mem_cons.1 hx with rfl|hx
   ·exact hT
   ·exact hTs x hx
  ·intro x hx;rcases List.mem_cons.1 hx with rfl|hx
   ·exact hF
   ·exact hFs x hx
  ·intro x hx;rcases List.mem_append.1 hx with hx|hx
   ·exact hm x hx
   ·exact W7 x hx
  ·cases vs with
   |nil=>exact h2.elim
   |cons v vs=>
    obtain⟨h3,h4⟩:=hv fz (fun i hi=>hfm i (by simp[hi])) Ng v h2.1
    obtain⟨h5,h6⟩:=G8 fz (fun i hi=>hfm i (by simp[hi])) Ng vs h2.2
    refine⟨⟨h3,h5⟩,?_⟩;intro x hx;rcases List.mem_cons.1 hx with rfl|hx
    ·exact h4
    ·exact h6 x hx
theorem PU {R':PV->Value->Prop}{cs:List PV}{z:Array Value}(h:Au R' cs z.toList)(n:Nat):Au R' (Ql n cs) (madeCells z (n*cs.length)).toList:=by
 have hzl:z.size=cs.length:=by have:=h.len;simp at this;exact this.symm
 refine Au.of_at ?_ fun j c v hc hv=>?_
 ·rw[GQ];simp[size_madeCells]
 ·obtain⟨h1,h2⟩:=Ra hc
  have Bk:j % cs.length<cs.length:=by
   rcases Nat.lt_or_ge (j % cs.length) cs.length with h|h
   ·exact h
   ·rw[List.getElem?_eq_none h] at h2;cases h2
  obtain⟨u,hu,hcu⟩:=h.get h2;have:(madeCells z (n*cs.length))[j]?=some u:=FB h1 (by rw[hzl];simpa using hu)
  have K2:(madeCells z (n*cs.length))[j]?=some v:=by simpa using hv
  rw[this] at K2;cases K2;exact hcu
theorem AD {A':Nat->Prop}:∀{ps cs:List PV}{vs:List Value},Au (A6 w (Bz s.hp β Y) β) ps vs->Au (Ap w A') cs vs->Au (Ap w A') (HJ true ps cs) vs
 |[],_,_,_,h=>h
 |_::_,[],_,_,h=>h
 |p::ps,c::cs,[],_,h=>h.elim
 |p::ps,c::cs,v::vs,hp,h=>by
  refine⟨?_,AD hp.2 h.2⟩;split
  ·have h1:Ap w (Bz s.hp β Y) (.lst true _ 0 []) v:=hp.1;cases h1;exact .lnil true _
  ·exact h.1
theorem Tm (h:Br N w0 X0 Y β s a w){nz:Bool}{t:TypeId}{n:Nat}{ps:Array (Nat × Operand)} (ho:o.op=.buildSlice t n ps){d:Nat}{K:PV->List Nat->List (Nat × A1)->Option R}
  (hk:(match P.underlying t with
   |some (.slice e)=>Ao (L5 P t&&Nat.ble (n*As P e) 16777216) (E1 P e fun z=>Ns (Mp P t) (ps.toList.map fun q=>(q.1,A8 s.tm q.2)) (Ql n z) fun cs=>
     Kf (Hd s.hp) (List.replicate n (Fy P e)).flatten cs fun cs' m=>K (.view d (As P e) 0 n) m [(d,.ar false (bif nz then HJ true cs cs' else cs'))])
   |_=>none)=some r):∃v fz nw,K v fz nw=some r∧C5 P a w o Y β s v fz nw:=by
 split at hk
 ·rename_i e hu;obtain⟨hb,hk⟩:=Ae hk;simp only[Bool.and_eq_true] at hb;have Tn:n*As P e<=16777216:=Nat.le_of_ble_eq_true hb.2;have Lc:(P.info? e).isSome=true:=by have:=hb.1;unfold L5 at this;rw[hu] at this;exact this
  obtain⟨z,cs,hk,hz,hct,hl,Jx,hc⟩:=K6 hk;obtain⟨hzr,Wv⟩:=EY (w:=w) (A:=Bz s.hp β Y) (β:=β) hl hc hz;have Amc:=PU hzr n
  obtain⟨pc',vc',hk,hf,h2,He,hr'⟩:=Wq h hk Amc (fun c FC id Ay=>by
   obtain⟨j,hj⟩:=List.mem_iff_getElem?.1 FC;obtain⟨_,hg⟩:=Ra hj;rw[Wv c (List.mem_of_getElem? hg)] at Ay;cases Ay)
  obtain⟨qs,m,hk,hql,Vx,hqT,_,hm,ZT⟩:=Mj h hk;obtain⟨h3,h3'⟩:=ZT m (fun _ hi=>hi) hm _ h2
  have h3:Au (Ap w (Bz (Ac s.hp m) β Y)) (bif nz then HJ true pc' qs else qs) vc'.toList:=by
   cases nz
   ·exact h3
   ·exact AD h2 h3
  have QT:Instr.fill (fun i=>some (i*As P e,As P e)) (madeCells z.cells (n*cs.length)) (ps.toList.map fun q=>(q.1,a.eval q.2))=some vc':=by
   rw[←hf];refine Qh (fun i=>?_) _ _
   simp[Mp,hu]
  have Rl:vc'.size=n*As P e:=by
   have h4:=h2.len;rw[He,GQ] at h4;simp at h4;rw[←h4,Jx]
  have Bn:(execOp a.eval o).run P w=.ok (.value (.slice (some ⟨w.heap.size,0,none⟩) n n)) (w.alloc (.cells vc' e)):=by
   unfold execOp;rw[ho];have Af9:¬(n*As P e>2 ^ 24):=by omega
   rw[Jx] at QT;by_cases HY:n*As P e=0
   ·simp only[Instr.buildSlice,Sem.run_bind,run_underlying hu,Result.andThen_ok,Bp Lc,if_neg Af9,HY];rw[HY] at QT;have e0:madeCells z.cells 0=(Array.range 0).map (fun _=>default):=by simp[madeCells]
    rw[e0] at QT;simp[QT,newRow]
   ·simp only[Instr.buildSlice,Sem.run_bind,run_underlying hu,Result.andThen_ok,Bp Lc,if_neg Af9,if_neg HY,P5 hz];unfold madeCells at QT;simp[QT,newRow]
  refine⟨_,_,_,hk,Ls (c:=vc') (e:=e) hm Bn (D0.alloc w vc' e) (fun j p hj=>?_) (.inr ⟨As P e,n,n,rfl,rfl,Nat.le_refl _,by rw[Rl];exact Nat.le_refl _,.inr (H0 w vc' e)⟩)⟩
  obtain⟨u,F5,hp⟩:=h3.get hj;exact⟨u,by simpa using F5,h3' u (List.mem_of_getElem? F5),hp⟩
 ·cases hk
end
end
end Go.Proofs.Yteicjnihnacadaa.Pv
