/-
  The proof of AccountAccepts, part 1.
-/
import Derived.Orders
import Derived.LoopN
import Derived.Below
import Derived.Lib.ValidU
import Derived.Lib.Bytealg
import Derived.IntWalk
import Derived.WalkKit
import Derived.WalkLawsBesides
import Derived.Laws.IdiomStrings
import Derived.Laws.MakeOwn
import Derived.Laws.Tables
set_option linter.unusedSimpArgs false
set_option linter.unusedVariables false
namespace Go.Proofs.Yteicjnihnacadaa.Pv
section
inductive PV where
 |sc (v:Value)
 |lst (z:Bool) (es n:Nat) (cells:List PV)
 |own (es n:Nat) (cells:List PV)
 |view (id es off n:Nat)
 |ptr (id off:Nat)
 |iptr (cells:List PV) (off:Nat)
 |pbox (cells:List PV)
 |agg (cells:List PV)
 |tup (vs:List PV)
 |top
 |ub
inductive A2 where
 |st (cells:List PV)
 |ar (fz:Bool) (cells:List PV)
 |mv
structure St where
 tm:Nat->PV
 hp:Nat->Option A2
structure A7 where
 vals:List PV
 outs:List (List PV)
structure Fd where
 shr:FuncId->Bool
 mvd:FuncId->Nat->Bool
 lnd:FuncId->Nat->Bool
 kz:FuncId->Bool
 ext:FuncId->Option (List PV->Option A7)
 nz:Nat->Bool
def Fd.core (C:Fd):Fd:={ C with ext:=fun _=>none }
def Bi {α:Type}(f:Nat->α)(i:Nat)(v:α):Nat->α:=fun j=>bif Nat.beq j i then v else f j
def rd (hp:Nat->Option A2)(id:Nat):Option (List PV):=
 match hp id with
 |some (.st c)=>some c
 |some (.ar _ c)=>some c
 |_=>none
def Ha (hp:Nat->Option A2)(id:Nat):Option (List PV):=
 match hp id with
 |some (.ar _ c)=>some c
 |_=>none
inductive CT where
 |int (k:IntKind)
 |bool
 |str
 |sl (es:Nat)
 |any
def As (P:Program)(t:TypeId):Nat:=((P.info? t).map (·.size)).getD 0
def Ba (P:Program)(t:TypeId):Bool:=
 match P.underlying t with
 |some (.struct _)=>true
 |some (.array _ _)=>true
 |_=>false
def Ah1 (P:Program):Nat->TypeId->List CT
 |0,_=>[]
 |d+1,t=>
  match P.underlying t with
  |some (.int k)=>[.int k]
  |some .bool=>[.bool]
  |some .string=>[.str]
  |some (.slice e)=>[.sl (As P e)]
  |some (.struct fs)=>fs.toList.flatMap fun f=>Ah1 P d f.type
  |some (.array n e)=>(List.replicate n (Ah1 P d e)).flatten
  |_=>[.any]
abbrev Fz (P:Program)(t:TypeId):List CT:=Ah1 P 9 t
def Gi (P:Program)(t:TypeId):Bool:=(P.underlying t).isSome&&Nat.beq (Fz P t).length (As P t)
abbrev DW (k:IntKind)(a b:Int):Int:=k.wrap (BitVec.ofInt k.bits a &&& BitVec.ofInt k.bits b).toNat
abbrev Sh (k:IntKind)(a b:Int):Int:=k.wrap (BitVec.ofInt k.bits a ||| BitVec.ofInt k.bits b).toNat
abbrev Ct (k:IntKind)(a b:Int):Int:=k.wrap (BitVec.ofInt k.bits a ^^^ BitVec.ofInt k.bits b).toNat
abbrev Aco (k:IntKind)(a b:Int):Int:=k.wrap (BitVec.ofInt k.bits a &&& ~~~BitVec.ofInt k.bits b).toNat
abbrev Fk (k:IntKind)(a b:Int):Int:=k.wrap (a*2 ^ (min b.toNat k.bits))
abbrev Te (k:IntKind)(a b:Int):Int:=a.fdiv (2 ^ (min b.toNat k.bits))
abbrev Aj4 (k:IntKind)(n:Int):Int:=k.wrap (BitVec.ofInt k.bits (if k.signed then -1 else k.max) ^^^ BitVec.ofInt k.bits n).toNat
section
variable {R:Type}
def Ad (k:IntKind)(p:PV)(K:Int->Option R):Option R:=
 match p with
 |.sc (.int k' n)=>if k'=k then K n else none
 |_=>none
def A0 (p:PV)(K:Bool->Option R):Option R:=
 match p with
 |.sc (.bool b)=>K b
 |_=>none
def Fx (p:PV)(K:ByteArray->Option R):Option R:=
 match p with
 |.sc (.string s)=>K s
 |_=>none
def Eu (es:Nat)(p:PV)(K:Bool->Nat->List PV->Option R):Option R:=
 match p with
 |.lst z es' n c=>bif Nat.beq es' es then K z n c else none
 |.sc (.slice none 0 0)=>K true 0 []
 |_=>none
def fsK (es:Nat)(p:PV)(K:PV->Option R):Option R:=
 match p with
 |.view id es' off n=>bif Nat.beq es' es then K (.view id es off n) else none
 |p=>Eu es p fun z n c=>K (.lst z es n c)
def Ov (es:Nat)(p:PV)(K:Nat->List PV->Option R):Option R:=
 match p with
 |.own es' n c=>bif Nat.beq es' es then K n c else none
 |_=>none
def Ar (b:Bool)(K:Option R):Option R:=bif b then K else none
abbrev Ab {α:Type}(x:α)(K:α->Option R):Option R:=K x
def EJ (b:Bool)(x y:Option R):Option R:=bif b then x else y
abbrev Ask (x:Nat)(K:Nat->Option R):Option R:=K x
def Acu (x:List (List Nat)) (K:List (List Nat)->Option R):Option R:=K x
def Bu (b:Bool)(x y:Option R):Option R:=bif b then x else y
def Db {α:Type}(o:Option α)(K:α->Option R):Option R:=
 match o with
 |some a=>K a
 |none=>none
def Aa {α:Type}(l:List α)(K:α->List α->Option R):Option R:=
 match l with
 |a::r=>K a r
 |[]=>none
def Af {α:Type}(l:List α)(K:Option R):Option R:=
 match l with
 |[]=>K
 |_::_=>none
def Dv (p:PV)(K:List PV->Option R):Option R:=
 match p with
 |.agg c=>K c
 |_=>none
def Pz (p:PV)(K:List PV->Option R):Option R:=
 match p with
 |.pbox c=>K c
 |_=>none
def Ao (r:Option A7)(K:List PV->List (List PV)->Option R):Option R:=
 match r with
 |some ⟨v,o⟩=>K v o
 |none=>none
def RT (p:PV)(K:Value->Option R):Option R:=
 match p with
 |.sc (.func f a b)=>K (.func f a b)
 |_=>none
def fvK (p:PV)(K:FuncId->Option R):Option R:=
 match p with
 |.sc (.func (.func f) a b)=>bif a.isEmpty&&b.isEmpty then K f else none
 |_=>none
def Sz (t:CT)(p:PV)(K:PV->Option R):Option R:=
 match t with
 |.int k=>Ad k p fun n=>K (.sc (.int k n))
 |.bool=>A0 p fun b=>K (.sc (.bool b))
 |.str=>Fx p fun s=>K (.sc (.string s))
 |.sl es=>Eu es p fun z n c=>K (.lst z es n c)
 |.any=>RT p fun v=>K (.sc v)
def fcK (t:CT)(p:PV)(K:PV->Option R):Option R:=
 match t with
 |.sl es=>fsK es p K
 |t=>Sz t p K
def Oo:List CT->List PV->Nat->(List PV->Option R)->Option R
 |[],_,_,K=>K []
 |t::ts,cells,off,K=>Sz t (cells.getD off .top) fun c=>Oo ts cells (off+1) fun r=>K (c::r)
def Li:List CT->List PV->Nat->(List PV->Option R)->Option R
 |[],_,_,K=>K []
 |t::ts,cells,off,K=>fcK t (cells.getD off .top) fun c=>Li ts cells (off+1) fun r=>K (c::r)
def MX (agg:Bool)(cells:List PV)(K:PV->Option R):Option R:=
 bif agg then K (.agg cells) else Aa cells fun c r=>Af r (K c)
def cellsOf:PV->List PV
 |.agg c=>c
 |p=>[p]
def cvK (P:Program)(t:TypeId)(v:Value)(K:PV->Option R):Option R:=
 match v with
 |.agg cs=>Ar (Nat.beq cs.toList.length (Fz P t).length) (Oo (Fz P t) (cs.toList.map .sc) 0 fun c=>K (.agg c))
 |.slice none 0 0=>
  match P.underlying t with
  |some (.slice e)=>K (.lst true (As P e) 0 [])
  |_=>none
 |v=>K (.sc v)
end
def Bb (tm:Nat->PV):Operand->PV
 |.tmp t=>tm t
 |.const (.agg cs)=>.agg (cs.toList.map .sc)
 |.const v=>.sc v
 |.func f=>.sc (.func (.func f) #[] #[])
 |.global g=>.sc (.pointer (some ⟨g,0,none⟩))
section
variable {R:Type}
def Ce (p:PV)(K:IntKind->Int->Option R):Option R:=
 match p with
 |.sc (.int k n)=>K k n
 |_=>none
def KV (rdf:Nat->Option (List PV)) (es:Nat)(p:PV)(K:Nat->List PV->Option R):Option R:=
 match p with
 |.view id es' off n=>bif Nat.beq es' es then Db (rdf id) fun c=>Ar (decide (off+n*es<=c.length)) (K n ((c.drop off).take (n*es))) else none
 |p=>Eu es p fun _ n c=>K n c
def Kn (rdf:Nat->Option (List PV)) (t:CT)(p:PV)(K:PV->List Nat->Option R):Option R:=
 match t with
 |.sl es=>
  match p with
  |.view id es' off n=>bif Nat.beq es' es then Db (rdf id) fun c=>Ar (decide (off+n*es<=c.length)) (K (.lst false es n ((c.drop off).take (n*es))) [id]) else none
  |p=>Eu es p fun _ n c=>K (.lst false es n c) []
 |t=>Sz t p fun c=>K c []
def J2 (rdf:Nat->Option (List PV)):List CT->List PV->(List PV->List Nat->Option R)->Option R
 |[],[],K=>K [] []
 |t::ts,p::ps,K=>Kn rdf t p fun c m=>J2 rdf ts ps fun cs ms=>K (c::cs) (m++ms)
 |_,_,_=>none
def EZ (k:Bool):List PV->List PV->List PV
  |p::ps,c::cs=>
    (match k,p with
     |true,.lst true es 0 []=>.lst true es 0 []
     |_,_=>c)::EZ k ps cs
  |_,cs=>cs
def KA (P:Program)(rdf:Nat->Option (List PV)) (t:TypeId)(p:PV)(K:PV->List Nat->Option R):Option R:=
 bif Ba P t then Dv p fun ps=>J2 rdf (Fz P t) ps fun cs m=>K (.agg cs) m
 else J2 rdf (Fz P t) [p] fun cs m=>Aa cs fun c r=>Af r (K c m)
def Xr (P:Program)(rdf:Nat->Option (List PV)):List TypeId->List PV->(List PV->List Nat->Option R)->Option R
 |[],[],K=>K [] []
 |t::ts,p::ps,K=>KA P rdf t p fun v m=>Xr P rdf ts ps fun vs ms=>K (v::vs) (m++ms)
 |_,_,_=>none
def TZ (shr:Bool)(id:Nat)(t:CT)(p:PV)(K:PV->List (Nat × A2)->Option R):Option R:=
 match t with
 |.sl es=>bif shr then Eu es p fun _ n c=>K (.lst false es n c) [] else Ov es p fun n c=>K (.view id es 0 n) [(id,.ar false c)]
 |t=>Sz t p fun c=>K c []
def L6 (shr:Bool)(N:Nat):Nat->List CT->List PV->(List PV->List (Nat × A2)->Option R)->Option R
 |_,[],ps,K=>Af ps (K [] [])
 |id,t::ts,ps,K=>Aa ps fun p ps=>TZ shr id t p fun c b=>L6 shr N (id+N) ts ps fun cs bs=>K (c::cs) (b++bs)
def R9 (P:Program)(t:TypeId):Option TypeId:=
 match P.underlying t with
 |some (.pointer e)=>some e
 |_=>none
def FR (P:Program)(t:TypeId):Nat:=
 match R9 P t with
 |some e=>1+(Fz P e).length
 |none=>(Fz P t).length
def QB (P:Program)(shr:Bool)(N:Nat)(id:Nat)(t:TypeId)(p:PV)(K:PV->List (Nat × A2)->Option R):Option R:=
 match R9 P t with
 |some e=>Pz p fun ps=>L6 shr N (id+N) (Fz P e) ps fun cs bs=>K (.ptr id 0) ((id,.st cs)::bs)
 |none=>
 bif Ba P t then Dv p fun ps=>L6 shr N id (Fz P t) ps fun cs bs=>K (.agg cs) bs
 else L6 shr N id (Fz P t) [p] fun cs bs=>Aa cs fun c r=>Af r (K c bs)
def Us (P:Program)(shr:Bool)(N:Nat):Nat->List TypeId->List PV->(List PV->List (Nat × A2)->Option R)->Option R
 |_,[],ps,K=>Af ps (K [] [])
 |id,t::ts,ps,K=>Aa ps fun p ps=>QB P shr N id t p fun v bs=>Us P shr N (id+N*FR P t) ts ps fun vs bs'=>K (v::vs) (bs++bs')
def J3 (P:Program)(t:TypeId):List TypeId:=
 match P.underlying t with
 |some (.tuple ts)=>ts.toList
 |_=>[t]
def J6 (vs:List PV)(t:Bool):PV:=bif t then .tup vs else vs.headD .top
def Kx (P:Program)(t:TypeId):Bool:=
 match P.underlying t with
 |some (.tuple _)=>true
 |_=>false
def YV (op:BinOp)(a b:Int)(K:Bool->Option R):Option R:=
 match op with
 |.eql=>K (a==b)
 |.neq=>K (a != b)
 |.lss=>K (decide (a<b))
 |.leq=>K (decide (a<=b))
 |.gtr=>K (decide (a>b))
 |.geq=>K (decide (a>=b))
 |_=>none
def Ww (op:BinOp)(k:IntKind)(a b:Int)(K:PV->Option R):Option R:=
 match op with
 |.add=>Ab ((k.wrap (a+b))) fun n=>K (.sc (.int k n))
 |.sub=>Ab ((k.wrap (a-b))) fun n=>K (.sc (.int k n))
 |.mul=>Ab ((k.wrap (a*b))) fun n=>K (.sc (.int k n))
 |.quo=>Ar (decide (b≠0)) (Ab ((k.wrap (a.tdiv b))) fun n=>K (.sc (.int k n)))
 |.rem=>Ar (decide (b≠0)) (Ab ((a.tmod b)) fun n=>K (.sc (.int k n)))
 |.and=>Ab (DW k a b) fun n=>K (.sc (.int k n))
 |.or=>Ab (Sh k a b) fun n=>K (.sc (.int k n))
 |.xor=>Ab (Ct k a b) fun n=>K (.sc (.int k n))
 |.andNot=>Ab (Aco k a b) fun n=>K (.sc (.int k n))
 |op=>YV op a b fun r=>K (.sc (.bool r))
def Wa (op:BinOp)(x y:ByteArray)(K:PV->Option R):Option R:=
 match op with
 |.add=>Ar (decide (x.size+y.size<=9223372036854775807)) (Ab (x++y) fun s=>K (.sc (.string s)))
 |.eql=>K (.sc (.bool (x.data.toList==y.data.toList)))
 |.neq=>K (.sc (.bool !(x.data.toList==y.data.toList)))
 |.lss=>K (.sc (.bool (Op.bytesLess x.data.toList y.data.toList)))
 |.leq=>K (.sc (.bool (Op.bytesLess x.data.toList y.data.toList||x.data.toList==y.data.toList)))
 |.gtr=>K (.sc (.bool !(Op.bytesLess x.data.toList y.data.toList||x.data.toList==y.data.toList)))
 |.geq=>K (.sc (.bool !(Op.bytesLess x.data.toList y.data.toList)))
 |_=>none
def W8 (e:Bool)(p:PV)(K:PV->Option R):Option R:=
 match p with
 |.sc (.slice none 0 0)=>K (.sc (.bool e))
 |.lst z _ n _=>Bu z (K (.sc (.bool e))) (Bu (decide (0<n)) (K (.sc (.bool !e))) (K .ub))
 |.view _ _ _ n=>Bu (decide (0<n)) (K (.sc (.bool !e))) (K .ub)
 |_=>none
def EE (P:Program):List Field->Nat->Bool
 |[],_=>true
 |f::r,i=>Nat.beq f.offset i&&(f.name != "_")&&(match P.underlying f.type with|some (.int _)=>true|some .bool=>true|some .string=>true|_=>false)&&EE P r (i+1)
def J8 (P:Program):List Field->Nat->Bool
  |[],_=>true
  |f::r,i=>Nat.beq f.offset i&&(f.name != "_") &&
    (match P.underlying f.type with
     |some (.int _)=>J8 P r (i+1)
     |some .bool=>J8 P r (i+1)
     |some .string=>J8 P r (i+1)
     |some (.struct gs)=>EE P gs.toList 0 && !P.stoodInHeld f.type&&(P.info? f.type).isSome&&Nat.beq (As P f.type) gs.size&&J8 P r (i+gs.size)
     |_=>false)
def BZ (P:Program)(t:TypeId)(fs:Array Field):Bool:=J8 P fs.toList 0 && !P.stoodInHeld t && !P.eqGuardType P.depth t
def SG (P:Program)(f:Field):CT:=
 match P.underlying f.type with
 |some (.int k)=>.int k
 |some .bool=>.bool
 |some .string=>.str
 |_=>.any
def EY (P:Program)(f:Field):List CT:=
 match P.underlying f.type with
 |some (.struct gs)=>gs.toList.map (SG P)
 |_=>[SG P f]
def Qa (P:Program):List Field->List CT
 |[]=>[]
 |f::r=>EY P f++Qa P r
def Io:List CT->List PV->List PV->(Bool->Option R)->Option R
 |[],[],[],K=>K true
 |.int k::ts,p::ps,q::qs,K=>Ad k p fun a=>Ad k q fun b=>Io ts ps qs fun r=>K ((a==b)&&r)
 |.bool::ts,p::ps,q::qs,K=>A0 p fun a=>A0 q fun b=>Io ts ps qs fun r=>K ((a==b)&&r)
 |.str::ts,p::ps,q::qs,K=>Fx p fun a=>Fx q fun b=>Io ts ps qs fun r=>K ((a==b)&&r)
 |_,_,_,_=>none
def TP (P:Program)(op:BinOp)(t:TypeId)(x y:PV)(K:PV->Option R):Option R:=
 match P.underlying t with
 |some (.int k)=>
  match op with
  |.shl=>Ad k x fun a=>Ce y fun _ b=>Ar (decide (0<=b)) (Ab (Fk k a b) fun n=>K (.sc (.int k n)))
  |.shr=>Ad k x fun a=>Ce y fun _ b=>Ar (decide (0<=b)) (Ab (Te k a b) fun n=>K (.sc (.int k n)))
  |op=>Ad k x fun a=>Ad k y fun b=>Ww op k a b K
 |some .string=>Fx x fun a=>Fx y fun b=>Wa op a b K
 |some .bool=>
  match op with
  |.eql=>A0 x fun a=>A0 y fun b=>K (.sc (.bool (a==b)))
  |.neq=>A0 x fun a=>A0 y fun b=>K (.sc (.bool !(a==b)))
  |_=>none
 |some (.slice _)=>
  match op,y with
  |.eql,.sc (.slice none 0 0)=>W8 true x K
  |.neq,.sc (.slice none 0 0)=>W8 false x K
  |_,_=>none
 |_=>none
def O2 (P:Program)(op:BinOp)(t:TypeId)(x y:PV)(K:PV->Option R):Option R:=
 match P.underlying t with
 |some (.struct fs)=>
  match op with
  |.eql=>Ar (BZ P t fs) (Dv x fun xs=>Dv y fun ys=>Io (Qa P fs.toList) xs ys fun b=>K (.sc (.bool b)))
  |.neq=>Ar (BZ P t fs) (Dv x fun xs=>Dv y fun ys=>Io (Qa P fs.toList) xs ys fun b=>K (.sc (.bool !b)))
  |_=>none
 |_=>TP P op t x y K
def unK (op:UnOp)(x:PV)(K:PV->Option R):Option R:=
 match op with
 |.not=>A0 x fun b=>K (.sc (.bool !b))
 |.neg=>Ce x fun k n=>Ab (k.wrap (0-n)) fun n=>K (.sc (.int k n))
 |.xor=>Ce x fun k n=>Ab (Aj4 k n) fun n=>K (.sc (.int k n))
 |_=>none
def bytesOf:List PV->Option (List UInt8)
 |[]=>some []
 |.sc (.int .u8 n)::r=>(bytesOf r).map (n.toNat.toUInt8 :: ·)
 |_::_=>none
def Ex (s:ByteArray):List PV:=s.data.toList.map fun b=>.sc (.int .u8 b.toNat)
def W9 (P:Program)(rdf:Nat->Option (List PV)) (d:Nat)(src dst:TypeId)(x:PV)(K:PV->List (Nat × A2)->Option R):Option R:=
 match P.underlying dst with
 |some (.int k)=>Ar (P.underlying src).isSome (Ce x fun _ n=>Ab (k.wrap n) fun n=>K (.sc (.int k n)) [])
 |some .string=>
  match P.underlying src with
  |some .string=>Fx x fun s=>K (.sc (.string s)) []
  |some (.slice e)=>
   match P.underlying e with
   |some (.int .u8)=>KV rdf 1 x fun n c=>Ar (decide (c.length=n)) (Db (bytesOf c) fun b=>K (.sc (.string ⟨b.toArray⟩)) [])
   |_=>none
  |_=>none
 |some (.slice e)=>
  match P.underlying e,P.underlying src with
  |some (.int .u8),some .string=>Fx x fun s=>Ar (decide (s.size<=1099511627776)) (K (.view d 1 0 s.size) [(d,.ar false (Ex s))])
  |_,_=>none
 |_=>none
def E3 (p:Option PV)(dflt:Nat)(K:Nat->Option R):Option R:=
 match p with
 |none=>K dflt
 |some p=>Ce p fun _ i=>Ar (decide (0<=i)) (K i.toNat)
def Td (P:Program)(rdf:Nat->Option (List PV)) (t:TypeId)(x:PV)(lo hi:Option PV)(K:PV->Option R):Option R:=
 match P.underlying t with
 |some .string=>Fx x fun s=>E3 lo 0 fun l=>E3 hi s.size fun h=>Ar (decide (l<=h)&&decide (h<=s.size)) (Ab (s.extract l h) fun s=>K (.sc (.string s)))
 |some (.slice e)=>Ar (P.info? e).isSome (
  match x with
  |.view id es off n=>Ar (Nat.beq es (As P e)) (E3 lo 0 fun l=>E3 hi n fun h=>Ar (decide (l<=h)&&decide (h<=n)) (Ab (off+l*es) fun o=>Ab (h-l) fun n=>K (.view id es o n)))
  |x=>Eu (As P e) x fun z n c=>E3 lo 0 fun l=>E3 hi n fun h=>Ar (decide (l<=h)&&decide (h<=n)) (Ab (h-l) fun n=>Ab ((c.drop (l*As P e)).take (n*As P e)) fun c=>K (.lst z (As P e) n c)))
 |some (.array n e)=>Ar (P.info? e).isSome (
  match x with
  |.ptr id off=>Db (rdf id) fun c=>Ar (decide (1<=n*As P e)&&decide (off+n*As P e<=c.length)&&Nat.beq (As P e) 1)<|E3 lo 0 fun l=>E3 hi n fun h=>Ar (decide (l<=h)&&decide (h<=n)) (Ab (off+l*As P e) fun o=>Ab (h-l) fun n=>K (.view id (As P e) o n))
  |_=>none)
 |_=>none
def O1 (P:Program)(d:Nat)(t:TypeId)(x:PV)(lo hi mx:Option PV)(K:PV->List (Nat × A2)->Option R):Option R:=
 match P.underlying t with
 |some (.slice e)=>Ar ((P.info? e).isSome&&hi.isSome) (
  match x with
  |.view _ es _ n=>Ar (Nat.beq es (As P e)) (E3 lo 0 fun l=>E3 hi n fun h=>E3 mx n fun m=>Ar (Nat.beq l m&&Nat.beq h m&&decide (m<=n)) (K (.view d (As P e) 0 0) [(d,.ar false [])]))
  |x=>Eu (As P e) x fun _ n _=>E3 lo 0 fun l=>E3 hi n fun h=>E3 mx n fun m=>Ar (Nat.beq l m&&Nat.beq h m&&decide (m<=n)) (K (.view d (As P e) 0 0) [(d,.ar false [])]))
 |_=>none
def N3 (x:PV)(d:Nat)(K:PV->Option R):Option R:=
 match x with
 |.ptr id off=>K (.ptr id (off+d))
 |.iptr c off=>K (.iptr c (off+d))
 |_=>none
def W2 (P:Program)(e:TypeId):Bool:=(P.info? e).isSome
def Mb (P:Program)(t:TypeId)(f:Nat):Option (Nat × TypeId):=
 match P.underlying t with
 |some (.struct fs)=>(fs[f]?).map fun g=>(g.offset,g.type)
 |_=>none
def Hz (P:Program)(t:TypeId)(x:PV)(i:Int)(K:PV->Option R):Option R:=
 match P.underlying t with
 |some (.array n e)=>Ar (W2 P e) (Ar (decide (0<=i)&&decide (i<n)) (N3 x (i.toNat*As P e) K))
 |some (.slice e)=>Ar (W2 P e) (
  match x with
  |.view id es off n=>Ar (Nat.beq es (As P e)) (Ar (decide (0<=i)&&decide (i<n)) (K (.ptr id (off+i.toNat*es))))
  |x=>Eu (As P e) x fun _ n c=>Ar (decide (0<=i)&&decide (i<n)) (K (.iptr c (i.toNat*As P e))))
 |_=>none
def Qd (P:Program)(rdf:Nat->Option (List PV)) (t:TypeId)(x:PV)(K:PV->Option R):Option R:=
 match x with
 |.ptr id off=>Ar (Gi P t) (Db (rdf id) fun c=>Li (Fz P t) c off fun cs=>MX (Ba P t) cs K)
 |.iptr c off=>Ar (Gi P t) (Oo (Fz P t) c off fun cs=>MX (Ba P t) cs K)
 |_=>none
def BO:PV->PV
 |.lst _ es n c=>.lst false es n c
 |p=>p
def IK:PV->PV
 |.agg cs=>.agg (cs.map BO)
 |p=>BO p
def Sn (nz:Bool)(P:Program)(rdf rdaf:Nat->Option (List PV)) (t:TypeId)(x:PV)(K:PV->Option R):Option R:=
 match x with
 |.ptr id off=>Ar (Gi P t) (
  match rdaf id with
  |some c=>Oo (Fz P t) c off fun cs=>MX (Ba P t) cs fun v=>K (bif nz then v else IK v)
  |none=>Db (rdf id) fun c=>Li (Fz P t) c off fun cs=>MX (Ba P t) cs K)
 |.iptr c off=>Ar (Gi P t) (Oo (Fz P t) c off fun cs=>MX (Ba P t) cs fun v=>K (bif nz then v else IK v))
 |_=>none
def A4 (cells new:List PV)(off:Nat):List PV:=cells.take off++new++cells.drop (off+new.length)
def okP:PV->Bool
 |.agg _=>true
 |.lst _ _ _ _=>true
 |.view _ _ _ _=>true
 |.sc (.int _ _)=>true
 |.sc (.bool _)=>true
 |.sc (.string _)=>true
 |.sc (.slice none 0 0)=>true
 |_=>false
def Ot (E0:Nat->Option (Nat × Nat)):List (Nat × PV)->List PV->(List PV->Option R)->Option R
 |[],cells,K=>K cells
 |(i,p)::r,cells,K=>Db (E0 i) fun q=>Ar (okP p&&Nat.beq (cellsOf p).length q.2&&Nat.ble (q.1+q.2) cells.length) (Ab (A4 cells (cellsOf p) q.1) fun cells=>Ot E0 r cells K)
def Mz (P:Program)(t:TypeId)(i:Nat):Option (Nat × Nat):=
 match P.underlying t with
 |some (.struct fs)=>(fs[i]?).map fun f=>(f.offset,As P f.type)
 |some (.array _ e)=>some (i*As P e,As P e)
 |some (.slice e)=>some (i*As P e,As P e)
 |_=>none
def Ln (P:Program)(t:TypeId):Bool:=
 match P.underlying t with
 |some (.struct fs)=>fs.toList.all fun f=>W2 P f.type
 |some (.array _ e)=>W2 P e
 |some (.slice e)=>W2 P e
 |_=>false
def Qs (P:Program)(t:TypeId):Option Value:=(P.info? t).bind (·.zero)
def Fb (P:Program)(t:TypeId)(K:List PV->Option R):Option R:=
 Db (Qs P t) fun v=>Ar (Nat.beq v.cells.toList.length (Fz P t).length&&Gi P t) (Oo (Fz P t) (v.cells.toList.map .sc) 0 K)
def Ok (P:Program)(t:TypeId):Bool:=
 match P.underlying t with
 |some (.array _ _)=>true
 |_=>false
def VT (P:Program)(t:TypeId)(cells:List PV):A2:=bif Ok P t then .ar false cells else .st cells
def Qj (n:Nat)(l:List PV):List PV:=(List.replicate n l).flatten
def Aa2 (a b:PV)(K:PV->Option R):Option R:=Ce a fun k x=>Ad k b fun y=>Ab (if y<x then y else x) fun n=>K (.sc (.int k n))
def YC (a b:PV)(K:PV->Option R):Option R:=Ce a fun k x=>Ad k b fun y=>Ab (if x<y then y else x) fun n=>K (.sc (.int k n))
def PE (P:Program)(t:TypeId)(x:PV)(K:Nat->Option R):Option R:=
 match P.underlying t with
 |some .string=>Fx x fun s=>K s.size
 |some (.array n _)=>K n
 |some (.slice e)=>
  match x with
  |.view _ es _ n=>Ar (Nat.beq es (As P e)) (K n)
  |x=>Eu (As P e) x fun _ n _=>K n
 |_=>none
end
abbrev Aj:=FuncId->List PV->Option A7
section
variable {R:Type}
def Gx (P:Program)(ts:List TypeId):Bool:=ts.any fun t=>(R9 P t).isSome||(Fz P t).any fun c=>match c with | .sl _=>true|_=>false
def Ta (P:Program)(t:TypeId)(tm:Nat->PV)(x:Operand)(K:PV->Option R):Option R:=
 match x with
 |.const v=>cvK P t v K
 |x=>K (Bb tm x)
def CU (P:Program)(e:TypeId):Bool:=
 match P.info? e with
 |some i=>(match i.zero with|some z=>Nat.beq z.cells.size i.size|none=>false)
 |none=>false
def JZ (P:Program)(rdaf:Nat->Option (List PV)) (es:Nat)(t:TypeId)(x:PV)(K:Nat->List PV->Option R):Option R:=
 match P.underlying t with
 |some .string=>Ar (Nat.beq es 1) (Fx x fun b=>K b.size (Ex b))
 |some (.slice _)=>KV rdaf es x K
 |_=>none
abbrev IX (P:Program)(s:St)(es:Nat)(t:TypeId)(x:PV)(K:Nat->List PV->Option R):Option R:=JZ P (Ha s.hp) es t x K
def Sm (c:Call):Bool:=
 match c.args.toList with
 |.const (.slice none 0 0)::_=>true
 |_=>false
def O7 (P:Program)(rdaf:Nat->Option (List PV)) (d:Nat)(t tx:TypeId)(x:PV)(K:PV->List (Nat × A2)->Option R):Option R:=
 match P.underlying t with
 |some (.slice e)=>Ar (CU P e) <|
  JZ P rdaf (As P e) tx x fun m new=>
   Ar (decide (new.length=m*As P e)&&decide (m*((P.info? e).map (·.bytes)).getD 0<=1099511627776)&&decide (m<=1099511627776)) (K (.view d (As P e) 0 m) [(d,.ar false new)])
 |_=>none
def Gu (k:Bool):List Operand->List PV->List PV
  |x::xs,p::ps=>
    (match x,p with
     |.const (.slice none 0 0),.lst z es 0 []=>.lst (k||z) es 0 []
     |_,p=>p)::Gu k xs ps
  |_,ps=>ps
def OO (P:Program)(t:TypeId)(x:PV)(K:Nat->Option R):Option R:=
 match P.underlying t with
 |some (.slice e)=>Eu (As P e) x fun z _ _=>Ar z (K 0)
 |_=>none
def V6 (P:Program)(f:FuncId)(c:Call):List TypeId:=
 match P.funcs[f]? with
 |some fn=>fn.params.toList
 |none=>c.argTypes.toList
def Wq (C:Fd)(P:Program)(N:Nat)(call:Aj)(tm:Nat->PV)(rdaf:Nat->Option (List PV)) (o:Oper)(c:Call)(f:FuncId)(K:PV->List Nat->List (Nat × A2)->Option R):Option R:=
 Xr P rdaf (V6 P f c) (c.args.toList.map (Bb tm)) fun vs m=>
  Ao (call f (Gu (C.kz f) c.args.toList vs)) fun rv ro=>Af ro (Ar (Nat.blt 0 N)<|Us P (C.shr f) N (o.dst.getD 0) (J3 P o.type) rv fun ws bs=>
   Ar (bif Kx P o.type then !Nat.beq ws.length 1 else Nat.beq ws.length 1)<|K (J6 ws (Kx P o.type)) (bif Gx P (J3 P o.type) then m else []) bs)
def Wx (C:Fd)(P:Program)(N:Nat)(call:Aj)(tm:Nat->PV)(rdf rdaf:Nat->Option (List PV)) (o:Oper)(K:PV->List Nat->List (Nat × A2)->Option R):Option R:=
  match o.op with
  |.move x=>Ta P o.type tm x fun p=>K p [] []
  |.assign x=>Ta P o.type tm x fun p=>K p [] []
  |.pick c a b=>A0 (Bb tm c) fun t=>Bu t (K (Bb tm a) [] []) (K (Bb tm b) [] [])
  |.alloc t=>Db o.dst fun d=>Fb P t fun cs=>K (.ptr d 0) [] [(d,VT P t cs)]
  |.box t x=>Db o.dst fun d=>Ar (Gi P t&&Nat.beq (cellsOf (Bb tm x)).length (Fz P t).length)
      (bif Ok P t then Oo (Fz P t) (cellsOf (Bb tm x)) 0 fun cs=>K (.ptr d 0) [] [(d,.ar false cs)]
       else Li (Fz P t) (cellsOf (Bb tm x)) 0 fun cs=>K (.ptr d 0) [] [(d,.st cs)])
  |.build t ps=>Ar (Ln P t&&Ba P t)<|Fb P t fun z=>Ot (Mz P t) (ps.toList.map fun q=>(q.1,Bb tm q.2)) z fun cs=>Li (Fz P t) cs 0 fun cs'=>K (.agg cs') [] []
  |.buildSlice t n ps=>Db o.dst fun d=>
      match P.underlying t with
      |some (.slice e)=>Ar (Ln P t&&Nat.ble (n*As P e) 16777216) (Fb P e fun z=>Ot (Mz P t) (ps.toList.map fun q=>(q.1,Bb tm q.2)) (Qj n z) fun cs=>
          J2 rdaf (List.replicate n (Fz P e)).flatten cs fun cs' m=>K (.view d (As P e) 0 n) m [(d,.ar false (bif C.nz N then EZ true cs cs' else cs'))])
      |_=>none
  |.load t a=>Sn (C.nz N) P rdf rdaf t (Bb tm a) fun v=>K v [] []
  |.nilCheck x=>N3 (Bb tm x) 0 fun p=>K p [] []
  |.binOp op t x y _=>
      O2 P op t (Bb tm x) (Bb tm y) fun v=>K v [] []
  |.unOp op _ x=>unK op (Bb tm x) fun v=>K v [] []
  |.convert src dst x=>W9 P rdaf (o.dst.getD 0) src dst (Bb tm x) fun v b=>Db o.dst fun _=>K v [] b
  |.makeSlice t l c=>Db o.dst fun d=>
      match P.underlying t with
      |some (.slice e)=>Ce (Bb tm l) fun _ n=>Ce (Bb tm c) fun _ m=>
          Ar (decide (0<=n)&&decide (n<=m)&&decide (m*((P.info? e).map (·.bytes)).getD 0<=1099511627776)&&decide (m<=1099511627776))
            (Fb P e fun z=>K (.view d (As P e) 0 n.toNat) [] [(d,.ar false (Qj n.toNat z))])
      |_=>none
  |.slice t x lo hi mx=>
      match mx with
      |none=>Td P rdf t (Bb tm x) (lo.map (Bb tm)) (hi.map (Bb tm)) fun v=>K v [] []
      |some m=>Db o.dst fun d=>O1 P d t (Bb tm x) (lo.map (Bb tm)) (hi.map (Bb tm)) (some (Bb tm m)) fun v nw=>K v [] nw
  |.fieldAddr t x f=>Db (Mb P t f) fun q=>Ar (Nat.ble 1 (As P q.2)) (N3 (Bb tm x) q.1 fun p=>K p [] [])
  |.field t x f=>Db (Mb P t f) fun q=>Ar (Gi P q.2)<|Dv (Bb tm x) fun cs=>Li (Fz P q.2) cs q.1 fun c=>MX (Ba P q.2) c fun v=>K v [] []
  |.indexAddr t x i=>Ce (Bb tm i) fun _ n=>Hz P t (Bb tm x) n fun p=>K p [] []
  |.index t x i=>Ce (Bb tm i) fun _ n=>
      match P.underlying t with
      |some .string=>Fx (Bb tm x) fun s=>Ar (decide (0<=n)) (Db (s.data.toList[n.toNat]?) fun b=>K (.sc (.int .u8 b.toNat)) [] [])
      |some (.array len e)=>Dv (Bb tm x) fun cs=>Ar (decide (0<=n)&&decide (n<len)&&Gi P e) (Li (Fz P e) cs (n.toNat*As P e) fun c=>MX (Ba P e) c fun v=>K v [] [])
      |_=>none
  |.extract x i=>
      match Bb tm x with
      |.tup vs=>Db vs[i]? fun p=>K p [] []
      |_=>none
  |.call c=>
      match c.callee with
      |.builtin .len=>Aa c.args.toList fun x _=>Aa c.argTypes.toList fun t _=>PE P t (Bb tm x) fun n=>K (.sc (.int .i64 n)) [] []
      |.builtin .cap=>Aa c.args.toList fun x _=>Aa c.argTypes.toList fun t _=>OO P t (Bb tm x) fun n=>K (.sc (.int .i64 n)) [] []
      |.builtin .min=>Aa c.args.toList fun x r=>Aa r fun y r'=>Af r' (Aa2 (Bb tm x) (Bb tm y) fun v=>K v [] [])
      |.builtin .max=>Aa c.args.toList fun x r=>Aa r fun y r'=>Af r' (YC (Bb tm x) (Bb tm y) fun v=>K v [] [])
      |.builtin .append=>Ar (Sm c) (Db o.dst fun d=>Aa c.args.toList fun _ r=>Aa r fun x r'=>Af r' (Aa c.argTypes.toList fun t u=>Aa u fun tx _=>O7 P rdaf d t tx (Bb tm x) fun v nw=>K v [] nw))
      |.value (.func f)=>Wq C P N call tm rdaf o c f K
      |.value (.tmp t)=>fvK (tm t) fun f=>Wq C P N call tm rdaf o c f K
      |_=>none
  |_=>none
def Mn (C:Fd)(P:Program)(o:Op):Bool:=
 match o with
 |.store .. =>true
 |.call c=>
  match c.callee with
  |.builtin .append=> !Sm c
  |.builtin .copy=>true
  |.builtin _=>false
  |.value (.func f)=>((V6 P f c).any fun t=>(R9 P t).isSome)||((V6 P f c).zipIdx.any fun q=>C.mvd f q.2||C.lnd f q.2)
  |_=>false
 |_=>false
def On (b:A2):A2:=
 match b with
 |.ar _ c=>.ar true c
 |b=>b
def Ac (hp:Nat->Option A2)(ids:List Nat):Nat->Option A2:=fun i=>bif ids.any (Nat.beq i) then (hp i).map On else hp i
def Al (hp:Nat->Option A2):List (Nat × A2)->Nat->Option A2
 |[]=>hp
 |(i,b)::r=>Al (Bi hp i (some b)) r
def A3 (hp:Nat->Option A2):List (Nat × A2)->Bool
 |[]=>true
 |(i,_)::r=>(hp i).isNone && !(r.any fun q=>Nat.beq q.1 i)&&A3 hp r
def A1 (tm:Nat->PV)(d:Option Tmp)(v:PV):Nat->PV:=
 match d with
 |some i=>Bi tm i v
 |none=>tm
def Ej (N:Nat)(d:Option Tmp):Bool:=
 match d with
 |some i=>Nat.blt i N
 |none=>true
def Tt (N:Nat)(s:St)(d:Option Tmp)(v:PV)(fz:List Nat)(nw:List (Nat × A2)) (K:St->Option R):Option R:=
 Ar (Ej N d&&A3 s.hp nw) (K ⟨A1 s.tm d v,Al (Ac s.hp fz) nw⟩)
def S7 (P:Program)(s:St)(t:TypeId)(a x:PV)(K:St->Option R):Option R:=
 match a with
 |.ptr id off=>
  match s.hp id with
  |some (.st c)=>Ar (Gi P t&&Nat.beq (cellsOf x).length (Fz P t).length&&decide (off+(Fz P t).length<=c.length)) (Li (Fz P t) (cellsOf x) 0 fun cs=>Ab (A4 c cs off) fun c=>K ⟨s.tm,Bi s.hp id (some (.st c))⟩)
  |some (.ar false c)=>Ar (Gi P t&&decide (off+(Fz P t).length<=c.length)) (J2 (Ha s.hp) (Fz P t) (cellsOf x) fun cs m=>Ar (!m.any (Nat.beq id)) (Ab (A4 c cs off) fun c=>K ⟨s.tm,Bi (Ac s.hp m) id (some (.ar false c))⟩))
  |_=>none
 |_=>none
def R1 (P:Program)(t:TypeId):Bool:=
 match P.underlying t with
 |some (.int _)=>true
 |_=>false
def Ol (P:Program)(N:Nat)(s:St)(d:Nat)(e:TypeId)(b x:PV)(K:St->Option R):Option R:=
 Ce x fun _ n=>Eu (As P e) b fun z _ _=>
  Ar (z&&Nat.blt d N&&(s.hp d).isNone&&decide (0<=n)&&decide (n.toNat*((P.info? e).map (·.bytes)).getD 0<=1099511627776)&&decide (n<=1099511627776))
   (K ⟨Bi s.tm d (.view d (As P e) 0 n.toNat),Bi s.hp d (some (.ar false []))⟩)
def Kw (P:Program)(N:Nat)(s:St)(d:Nat)(t tx:TypeId)(b x:PV)(K:St->Option R):Option R:=
 match P.underlying t with
 |some (.slice e)=>Ar (CU P e) <|
  bif R1 P tx then Ol P N s d e b x K else
  IX P s (As P e) tx x fun m new=>
  match b with
  |.view id es off n=>
   match s.hp id with
   |some (.ar false c)=>
    Ar (Nat.beq es (As P e)&&Nat.beq off 0&&Nat.blt d N&&(s.hp d).isNone&&decide (n*es<=c.length)&&decide (new.length=m*es)
     && decide ((n+m)*((P.info? e).map (·.bytes)).getD 0<=1099511627776)&&decide (n+m<=1099511627776))
     (Ab (n+m) fun n'=>Ab (c.take (n*es)++new) fun c=>K ⟨Bi s.tm d (.view d es 0 n'),Bi (Bi s.hp id (some .mv)) d (some (.ar false c))⟩)
   |_=>none
  |b=>Eu (As P e) b fun z _ _=>
    Ar (z&&Nat.blt d N&&(s.hp d).isNone&&decide (new.length=m*As P e)&&decide (m*((P.info? e).map (·.bytes)).getD 0<=1099511627776)&&decide (m<=1099511627776))
     (K ⟨Bi s.tm d (.view d (As P e) 0 m),Bi s.hp d (some (.ar false new))⟩)
 |_=>none
def AM (P:Program)(N:Nat)(s:St)(d:Option Tmp)(t tx:TypeId)(b x:PV)(K:St->Option R):Option R:=
 match P.underlying t with
 |some (.slice e)=>Ar (W2 P e&&Ej N d) <|
  IX P s (As P e) tx x fun m new=>
  match b with
  |.view id es off n=>
   match s.hp id with
   |some (.ar false c)=>Ar (Nat.beq es (As P e)&&decide (off+n*es<=c.length)&&decide (new.length=m*es))
     (Ab (min m n) fun k=>Ab (A4 c (new.take (k*es)) off) fun c=>K ⟨A1 s.tm d (.sc (.int .i64 k)),Bi s.hp id (some (.ar false c))⟩)
   |_=>none
  |_=>none
 |_=>none
def QT (mv:Bool)(hp:Nat->Option A2)(t:CT)(p:PV)(K:PV->List Nat->List Nat->Option R):Option R:=
 match t with
 |.sl es=>
  bif mv then
   match p with
   |.view id es' off n=>
    match hp id with
    |some (.ar false c)=>
     bif Nat.beq es' es&&Nat.beq off 0 then Ar (decide (n*es<=c.length)) (K (.own es n (c.take (n*es))) [] [id])
     else Kn (Ha hp) (.sl es) (.view id es' off n) fun c m=>K c m []
    |_=>Kn (Ha hp) (.sl es) (.view id es' off n) fun c m=>K c m []
   |p=>Eu es p fun z n c=>bif z then K (.own es 0 []) [] [] else K (.lst false es n c) [] []
  else Kn (Ha hp) (.sl es) p fun c m=>K c m []
 |t=>Sz t p fun c=>K c [] []
def Uw (mv:Bool)(hp:Nat->Option A2):List CT->List PV->(List PV->List Nat->List Nat->Option R)->Option R
 |[],[],K=>K [] [] []
 |t::ts,p::ps,K=>QT mv hp t p fun c m x=>Uw mv hp ts ps fun cs ms xs=>K (c::cs) (m++ms) (x++xs)
 |_,_,_=>none
inductive E2 where
 |var (id off:Nat) (cts:List CT) (ws:List PV)
 |row (id:Nat)
 |none
def E2.ids:E2->List Nat
 |.var id _ _ _=>[id]
 |.row id=>[id]
 |.none=>[]
def Ajh (P:Program)(t:TypeId):Option TypeId:=
 match P.underlying t with
 |some (.slice e)=>some e
 |_=>none
def UL (hp:Nat->Option A2)(es:Nat)(p:PV)(K:PV->List E2->Option R):Option R:=
 match p with
 |.view id es' off n=>
  match hp id with
  |some (.ar false c)=>Ar (Nat.beq es' es&&Nat.beq off 0) (K (.tup [.own es n c]) [.row id])
  |_=>none
 |p=>Eu es p fun z _ _=>Ar z (K (.tup [.own es 0 []]) [.none])
def To (C:Fd)(P:Program)(f:FuncId)(hp:Nat->Option A2)(i:Nat)(t:TypeId)(p:PV)(K:PV->List Nat->List Nat->List E2->Option R):Option R:=
 match R9 P t with
 |some e=>
  match p with
  |.ptr id off=>
   match hp id with
   |some (.st c)=>Ar (Gi P e&&decide (off+(Fz P e).length<=c.length)) (Uw (C.mvd f i) hp (Fz P e) ((c.drop off).take (Fz P e).length) fun cs m x=>K (.pbox cs) m x [.var id off (Fz P e) cs])
   |_=>none
  |_=>none
 |none=>
  bif C.lnd f i then Db (Ajh P t) fun e=>UL hp (As P e) p fun v l=>K v [] [] l
  else bif Ba P t then Dv p fun ps=>Uw (C.mvd f i) hp (Fz P t) ps fun cs m x=>K (.agg cs) m x []
  else Uw (C.mvd f i) hp (Fz P t) [p] fun cs m x=>Aa cs fun c r=>Af r (K c m x [])
def Zv (C:Fd)(P:Program)(f:FuncId)(hp:Nat->Option A2):Nat->List TypeId->List PV->(List PV->List Nat->List Nat->List E2->Option R)->Option R
 |_,[],[],K=>K [] [] [] []
 |i,t::ts,p::ps,K=>To C P f hp i t p fun v m x l=>Zv C P f hp (i+1) ts ps fun vs ms xs ls=>K (v::vs) (m++ms) (x++xs) (l++ls)
 |_,_,_,_=>none
def N0 (hp:Nat->Option A2)(ids:List Nat):Nat->Option A2:=fun i=>bif ids.any (Nat.beq i) then (hp i).map (fun _=>A2.mv) else hp i
def HP (N t:Nat):Nat:=N*(1000+t)
def GW (N:Nat)(hp:Nat->Option A2):Nat->Nat->Nat
 |0,t=>t
 |k+1,t=>bif (hp (HP N t)).isNone then t else GW N hp k (t+1)
def OH (N t:Nat)(ct:CT)(was p:PV)(K:Nat->PV->List (Nat × A2)->Option R):Option R:=
 match ct with
 |.sl es=>
  match was with
  |.own _ _ _=>Ov es p fun n c=>K (t+1) (.view (HP N t) es 0 n) [(HP N t,.ar false c)]
  |_=>Eu es p fun _ n c=>K t (.lst false es n c) []
 |ct=>Sz ct p fun c=>K t c []
def Z0 (N:Nat):Nat->List CT->List PV->List PV->(Nat->List PV->List (Nat × A2)->Option R)->Option R
 |t,[],[],ps,K=>Af ps (K t [] [])
 |t,ct::cts,w::ws,ps,K=>Aa ps fun p ps=>OH N t ct w p fun t' c b=>Z0 N t' cts ws ps fun t'' cs bs=>K t'' (c::cs) (b++bs)
 |_,_,_,_,_=>none
def Q4 (N:Nat):Nat->List E2->List (List PV)->(Nat->Option A2)->((Nat->Option A2)->List (Nat × A2)->Option R)->Option R
 |_,[],ro,hp,K=>Af ro (K hp [])
 |t,.var id off cts ws::l,ro,hp,K=>Aa ro fun cs ro=>Z0 N t cts ws cs fun t' cs' bs=>
   match hp id with
   |some (.st c)=>Ab (A4 c cs' off) fun c=>Q4 N t' l ro (Bi hp id (some (.st c))) fun Br bs'=>K Br (bs++bs')
   |_=>none
 |t,.row id::l,ro,hp,K=>Aa ro fun cs ro=>Q4 N t l ro (Bi hp id (some (.ar false cs))) K
 |t,.none::l,ro,hp,K=>Aa ro fun _ ro=>Q4 N t l ro hp K
def Cu:List Nat->Bool
 |[]=>true
 |a::r=> !(r.any (Nat.beq a))&&Cu r
def Tv (C:Fd)(P:Program)(N:Nat)(call:Aj)(s:St)(o:Oper)(f:FuncId)(c:Call)(K:St->Option R):Option R:=
 Zv C P f s.hp 0 (V6 P f c) (c.args.toList.map (Bb s.tm)) fun vs m x l=>
  Ar (Cu (l.flatMap E2.ids++x)&&m.all (fun i=> !((l.flatMap E2.ids++x).any (Nat.beq i)))&&Nat.blt 0 N&&Ej N o.dst) <|
  Ao (call f (Gu (C.kz f) c.args.toList vs)) fun rv ro=>
   Us P (C.shr f) N (o.dst.getD N) (J3 P o.type) rv fun ws bs=>
    Ar (bif Kx P o.type then !Nat.beq ws.length 1 else Nat.beq ws.length 1) <|
    Ask (GW N s.hp 100 0) fun t0=>Q4 N t0 l ro (N0 (Ac s.hp m) x) fun Br bs'=>
     Ar (A3 Br (bs++bs')) (K ⟨A1 s.tm o.dst (J6 ws (Kx P o.type)),Al Br (bs++bs')⟩)
def Pr (C:Fd)(P:Program)(N:Nat)(call:Aj)(s:St)(o:Oper)(K:St->Option R):Option R:=
 match o.op with
 |.store t a x=>Ar (o.dst.isNone) (S7 P s t (Bb s.tm a) (Bb s.tm x) K)
 |.call c=>
  match c.callee with
  |.builtin .append=>Db o.dst fun d=>Aa c.args.toList fun b r=>Aa r fun x r'=>Af r' (Aa c.argTypes.toList fun t u=>Aa u fun tx _=>Kw P N s d t tx (Bb s.tm b) (Bb s.tm x) K)
  |.builtin .copy=>Aa c.args.toList fun b r=>Aa r fun x r'=>Af r' (Aa c.argTypes.toList fun t u=>Aa u fun tx _=>AM P N s o.dst t tx (Bb s.tm b) (Bb s.tm x) K)
  |.value (.func f)=>Tv C P N call s o f c K
  |_=>none
 |_=>none
def ES (C:Fd)(P:Program)(N:Nat)(call:Aj)(o:Oper)(s:St)(K:St->Option R):Option R:=
 bif Mn C P o.op then Pr C P N call s o K
 else Wx C P N call s.tm (rd s.hp) (Ha s.hp) o fun v fz nw=>Tt N s o.dst v fz nw K
def Cd (C:Fd)(P:Program)(N:Nat)(call:Aj)(ops:Array Oper)(o:Oper)(s:St)(K:St->Option R):Option R:=
 match o.guard with
 |none=>ES C P N call o s K
 |some (j,want)=>
  match (ops[j]?).bind (·.dst) with
  |none=>none
  |some d=>
   match s.tm d with
   |.sc (.bool b)=>
    Bu b (bif want then ES C P N call o ⟨Bi s.tm d (.sc (.bool true)),s.hp⟩ K else Ar (Ej N o.dst) (K ⟨A1 (Bi s.tm d (.sc (.bool true))) o.dst (.sc undef),s.hp⟩))
     (bif want then Ar (Ej N o.dst) (K ⟨A1 (Bi s.tm d (.sc (.bool false))) o.dst (.sc undef),s.hp⟩) else ES C P N call o ⟨Bi s.tm d (.sc (.bool false)),s.hp⟩ K)
   |.sc (.tuple _)=>Ar (Ej N o.dst) (K ⟨A1 s.tm o.dst (.sc undef),s.hp⟩)
   |_=>none
def Jz (C:Fd)(P:Program)(N:Nat)(call:Aj)(ops:Array Oper):List Oper->St->(St->Option R)->Option R
 |[],s,K=>K s
 |o::r,s,K=>Cd C P N call ops o s fun s'=>Jz C P N call ops r s' K
noncomputable def Uy (x y:Option R):Option R:=open Classical in if x=y then x else none
noncomputable def KB (ops:Array Oper)(o:Oper)(s:St)(F:St->Option R):Option R:=
 match o.guard with
 |none=>F s
 |some (j,_)=>
  match (ops[j]?).bind (·.dst) with
  |none=>F s
  |some d=>
   match s.tm d with
   |.ub=>Uy (F ⟨Bi s.tm d (.sc (.bool true)),s.hp⟩) (F ⟨Bi s.tm d (.sc (.bool false)),s.hp⟩)
   |_=>F s
noncomputable def CA (C:Fd)(P:Program)(N:Nat)(call:Aj)(ops:Array Oper):List Oper->St->(St->Option R)->Option R
 |[],s,K=>K s
 |o::r,s,K=>KB ops o s fun s1=>Cd C P N call ops o s1 fun s'=>CA C P N call ops r s' K
end
def SM (o:Oper):List Nat:=o.op.operands.toList.filterMap fun x=>match x with | .tmp t=>some t|_=>none
def Cp (ops:Array Oper)(o:Oper):List Nat:=
 SM o++(match o.guard with|some (g,_)=>((ops[g]?).bind (·.dst)).toList|none=>[])
def Fm (P:Program)(o:Op):Bool:=
 match o with
 |.slice t .. =>match P.underlying t with|some (.array _ _)=>true|_=>false
 |.buildSlice t _ _=>match P.underlying t with|some (.slice e)=>Gx P [e]|_=>true
 |.convert _ dst _=>match P.underlying dst with|some .string=>true|_=>false
 |.alloc _ | .box .. | .makeSlice .. =>false
 |.move _ | .assign _ | .pick .. | .build .. | .binOp .. | .unOp .. | .fieldAddr .. | .field .. | .index .. | .indexAddr .. | .extract .. | .nilCheck _=>false
 |.call c=>match c.callee with | .builtin .len=>false | .builtin .min=>false | .builtin .max=>false|_=>true
 |_=>true
def W3 (C:Fd)(P:Program)(ops:Array Oper)(x y:Oper):Bool:=
 (match x.dst with|some d=>(Cp ops y).any (Nat.beq d)||(match y.dst with|some e=>Nat.beq d e|none=>false)|none=>false) ||
 (match y.dst with|some e=>(Cp ops x).any (Nat.beq e)|none=>false) ||
 (Mn C P x.op&&Fm P y.op)||(Mn C P y.op&&Fm P x.op)
def F5 (ops:List Oper):List Nat->List Nat
 |acc=>match ops with
  |[]=>acc
  |o::r=>F5 r (acc++[o.after.toList.foldl (fun s e=>bif Region.binds .any e then s ||| 2 ^ e.on ||| acc.getD e.on 0 else s) 0])
def Vu (C:Fd)(P:Program)(ops:Array Oper)(bs:List Nat):List Oper->Nat->Bool
 |[],_=>true
 |o::r,i=>(ops.toList.zipIdx.all fun q=> !Nat.blt q.2 i || !W3 C P ops q.1 o||(bs.getD i 0).testBit q.2)&&Vu C P ops bs r (i+1)
def Yy (C:Fd)(P:Program)(ops:Array Oper):Bool:=
 ops.toList.zipIdx.all (fun q=>q.1.after.toList.all fun e=> !Region.binds .any e||Nat.blt e.on q.2)&&Vu C P ops (F5 ops.toList []) ops.toList 0
def Ak:PV->List Nat
 |.view id _ _ _=>[id]
 |.ptr id _=>[id]
 |_=>[]
def Bh:PV->List Nat
 |.agg cs=>cs.flatMap Ak
 |p=>Ak p
def A8:PV->List Nat
 |.tup ps=>ps.flatMap Bh
 |p=>Bh p
def Oh (P:Program)(o:Op):Bool:=
 match o with
 |.load .. =>true
 |.convert _ dst _=>(match P.underlying dst with|some .string=>true|_=>false)
 |_=>false
def Kd (o:Op):Bool:=
 match o with
 |.call c=>(match c.callee with | .builtin .append=> !Sm c|_=>false)
 |_=>false
def SP (ops:Array Oper)(x y:Oper):Bool:=
 (match x.dst with|some d=>(Cp ops y).any (Nat.beq d)||(match y.dst with|some e=>Nat.beq d e|none=>false)|none=>false) ||
 (match y.dst with|some e=>(Cp ops x).any (Nat.beq e)|none=>false)
def M0 (C:Fd)(P:Program)(x y:Oper):Bool:=(Mn C P x.op&&Fm P y.op)||(Mn C P y.op&&Fm P x.op)
def Hl (C:Fd)(P:Program)(x y:Oper):Bool:=(Mn C P x.op&&Oh P y.op)||(Mn C P y.op&&Oh P x.op)||(Kd x.op&&Kd y.op)
def VF (C:Fd)(P:Program)(ops:Array Oper)(x y:Oper):Bool:=SP ops x y||(M0 C P x y && !Hl C P x y)
def Rl (C:Fd)(P:Program)(ops:Array Oper)(bs:List Nat):List Oper->Nat->Bool
 |[],_=>true
 |o::r,i=>(ops.toList.zipIdx.all fun q=> !Nat.blt q.2 i || !VF C P ops q.1 o||(bs.getD i 0).testBit q.2)&&Rl C P ops bs r (i+1)
def Xk (C:Fd)(P:Program)(ops:Array Oper):Bool:=
 ops.toList.zipIdx.all (fun q=>q.1.after.toList.all fun e=> !Region.binds .any e||Nat.blt e.on q.2)&&Rl C P ops (F5 ops.toList []) ops.toList 0
def I3 (C:Fd)(P:Program)(s:St)(o:Oper):List Nat:=
 let l:=o.op.operands.toList.flatMap fun y=>A8 (Bb s.tm y)
 bif Mn C P o.op && !Kd o.op then l++l.flatMap (fun i=>match s.hp i with|some (.st c)=>c.flatMap Ak|_=>[])
 else bif Oh P o.op||Kd o.op then l else []
def PB (a b:List Nat):Bool:=a.all fun i=> !b.any (Nat.beq i)
def Rm (C:Fd)(P:Program)(ops:Array Oper)(bs:List Nat)(i:Nat)(o:Oper):List Nat:=
 (ops.toList.zipIdx.filter fun q=>Hl C P q.1 o && !(Nat.blt q.2 i&&(bs.getD i 0).testBit q.2) && !(Nat.blt i q.2&&(bs.getD q.2 0).testBit i)).map (·.2)
def Ug (C:Fd)(P:Program)(ops:Array Oper)(bs:List Nat):List (List Nat):=ops.toList.zipIdx.map fun q=>Rm C P ops bs q.2 q.1
def U7 (C:Fd)(P:Program)(sm:List (List Nat)) (s:St)(i:Nat)(o:Oper):List Nat:=
 match sm.getD i [] with
 |[]=>[]
 |_::_=>I3 C P s o
def Yh (C:Fd)(P:Program)(sm:List (List Nat)) (s:St)(i:Nat)(o:Oper)(q:Nat × Oper × List Nat):Bool:=
 !((sm.getD i []).any (Nat.beq q.1))||PB q.2.2 (U7 C P sm s i o)
def Fy {R:Type}(C:Fd)(P:Program)(N:Nat)(call:Aj)(ops:Array Oper)(sm:List (List Nat)):List (Nat × Oper × List Nat)->List Nat->St->(St->Option R)->Option R
 |_,[],s,K=>K s
 |dn,i::l,s,K=>Db ops[i]? fun o=>Ar (dn.all (Yh C P sm s i o)&&(U7 C P sm s i o).all (fun k=>(s.hp k).isSome)) (Cd C P N call ops o s fun s'=>Fy C P N call ops sm ((i,o,U7 C P sm s i o)::dn) l s' K)
def UU (m i:Nat):Nat:=m ||| 2 ^ i
def As8 (m i:Nat):Nat:=bif m.testBit i then m ^^^ 2 ^ i else m
def NJ (ops:Array Oper):List Oper->Nat->Nat
 |[],m=>m
 |o::r,m=>
  let m1:=NJ ops r m
  let m2:=match o.dst with|some d=>As8 m1 d|none=>m1
  (Cp ops o).foldl UU m2
def Kl:Code->Nat->(Nat->Nat)->Nat->Nat
 |.skip,ln,_,_=>ln
 |.region _ ops _,ln,_,_=>NJ ops ops.toList ln
 |.seq a b,ln,lx,lr=>Kl a (Kl b ln lx lr) lx lr
 |.cond c a b,ln,lx,lr=>let m:=Kl a ln lx lr ||| Kl b ln lx lr;match c with | .tmp d=>UU m d|_=>m
 |.block id c,ln,lx,lr=>Kl c ln (fun j=>bif Nat.beq j id then ln else lx j) lr
 |.loop c,_,lx,lr=>Kl c (Kl c 0 lx lr) lx lr
 |.exit id,_,lx,_=>lx id
 |.ret,_,_,lr=>lr
 |_,_,_,_=>0
def GG (ops:List Oper):List Nat:=(ops.filterMap fun o=>o.guard.map (·.1)).eraseDups
def J5:Code->Nat
 |.region _ _ _=>1
 |.seq a b=>J5 a+J5 b
 |.cond _ a b=>J5 a+J5 b
 |.block _ c=>J5 c
 |.loop c=>J5 c
 |_=>0
def Tm:Code->Nat
 |.skip=>1
 |.region _ ops _=>2 ^ min 6 (GG ops.toList).length
 |.seq a b=>bif (Nat.ble 7 (Tm a)&&Nat.ble 6 (J5 b))||(Nat.ble 5 (Tm a)&&Nat.ble 9 (J5 b)) then Tm b else min 1000 (Tm a*Tm b)
 |.cond _ a b=>Tm a+Tm b
 |.block _ c=>Tm c
 |.loop _=>1
 |.exit _=>1
 |_=>0
def Ads (P:Program)(o:Oper):Bool:=
 match o.op with
 |.load t _=>Ok P t&&Nat.ble 8 (As P t)
 |.store t _ _=>Ok P t&&Nat.ble 8 (As P t)
 |_=>false
def FD (P:Program):Code->Bool
 |.region _ ops _=>ops.toList.any (Ads P)
 |.seq a _=>FD P a
 |_=>false
def MN (P:Program):Code->Bool
 |.region _ ops _=>ops.toList.any (Ads P)
 |.seq _ b=>MN P b
 |_=>false
def Ajg:Code->Nat
 |.seq a b=>match b with
  |.ret=>(match a with | .region _ ops _=>(GG ops.toList).length|_=>0)
  |_=>Ajg b
 |_=>0
def TK (x y:Code):Bool:=(Nat.beq (Tm x) 1&&Nat.beq (Ajg y) 11)||(Nat.beq (Tm x) 4&&Nat.beq (J5 x) 7&&(Nat.beq (J5 y) 3||Nat.beq (J5 y) 1))||(Nat.beq (Tm x) 9&&Nat.beq (J5 x) 5&&Nat.beq (J5 y) 5)
def Vw (a b:Code):Bool:=TK a b||(match b with | .seq x y=>TK x y|_=>false)
def WU (P:Program)(a b:Code):Bool:=(Nat.ble 7 (Tm a)&&Nat.ble 6 (J5 b))||(Nat.ble 5 (Tm a)&&Nat.ble 9 (J5 b))||Vw a b||FD P b||MN P a
def Iv (m:Nat):Nat->List Nat
 |0=>[]
 |n+1=>Iv m n++(bif m.testBit n then [n] else [])
def lk (l:List (Nat × PV)) (i:Nat):PV:=
 match l with
 |[]=>.top
 |(j,p)::r=>bif Nat.beq i j then p else lk r i
def Fo (l:List (Nat × A2)) (i:Nat):Option A2:=
 match l with
 |[]=>none
 |(j,b)::r=>bif Nat.beq i j then some b else Fo r i
def Pt (l:List (Nat × Nat)) (i:Nat):Option Nat:=
 match l with
 |[]=>none
 |(j,b)::r=>bif Nat.beq i j then some b else Pt r i
def Vx (N:Nat)(s:St)(i:Nat):St:=
 match s.tm i with
 |.lst true es 0 []=>
  bif (s.hp i).isNone then ⟨Bi s.tm i (.view i es 0 0),Bi s.hp i (some (.ar false []))⟩
  else bif (s.hp (i+N*3000)).isNone then ⟨Bi s.tm i (.view (i+N*3000) es 0 0),Bi s.hp (i+N*3000) (some (.ar false []))⟩
  else s
 |_=>s
def BF (N:Nat)(id:Nat)(s:St)(j:Nat):St:=
 match s.hp id with
 |some (.st c)=>
  match c[j]? with
  |some (.lst true es 0 [])=>bif (s.hp (id+N*(j+1))).isNone then ⟨s.tm,Bi (Bi s.hp id (some (.st (c.set j (.view (id+N*(j+1)) es 0 0))))) (id+N*(j+1)) (some (.ar false []))⟩ else s
  |_=>s
 |_=>s
def AS (N:Nat)(s:St)(i:Nat):St:=
 match s.tm i with
 |.ptr id _=>
  match s.hp id with
  |some (.st c)=>(List.range c.length).foldl (BF N id) s
  |_=>s
 |_=>s
def Zy (m:List (Nat × Nat)) (old new:Nat):List (Nat × Nat):=
 match Pt m old with
 |some _=>m
 |none=>m++[(old,new)]
def My (N new:Nat):List PV->Nat->List (Nat × Nat)->List (Nat × Nat)
 |[],_,m=>m
 |.view id _ _ _::r,j,m=>My N new r (j+1) (Zy m id (new+N*(j+1)))
 |_::r,j,m=>My N new r (j+1) m
def Vt (N:Nat)(s:St)(m:List (Nat × Nat)) (i:Nat):List (Nat × Nat):=
 match s.tm i with
 |.view id _ _ _=>Zy m id i
 |.ptr id _=>
  match Pt m id with
  |some _=>m
  |none=>
   match s.hp id with
   |some (.st c)=>My N i c 0 (Zy m id i)
   |_=>Zy m id i
 |.agg c=>My N i c 0 m
 |_=>m
def IV (m:List (Nat × Nat)):PV->PV
 |.view id es off n=>match Pt m id with|some j=>.view j es off n|none=>.top
 |.ptr id off=>match Pt m id with|some j=>.ptr j off|none=>.top
 |.sc v=>.sc v
 |.lst z es n c=>.lst z es n c
 |.iptr c off=>.iptr c off
 |_=>.top
def QS (m:List (Nat × Nat)):PV->PV
 |.agg c=>.agg (c.map (IV m))
 |p=>IV m p
def Ack (m:List (Nat × Nat)):A2->A2
 |.st c=>.st (c.map (IV m))
 |b=>b
def B7 (N i:Nat):Nat:=i+N*2000
def GZ (N:Nat)(hp:Nat->Option A2):Nat->List (Nat × Nat)
 |0=>[]
 |i+1=>bif (hp (B7 N i)).isSome then GZ N hp i++[(B7 N i,B7 N i)] else GZ N hp i
def Ox (N:Nat)(hp:Nat->Option A2):Nat->List (Nat × Nat)->List (Nat × Nat)
 |0,m=>m
 |i+1,m=>
  match hp (B7 N i) with
  |some (.st c)=>My N (B7 N i) c 0 (Ox N hp i m)
  |_=>Ox N hp i m
def Ani (N:Nat)(hp:Nat->Option A2)(k:Nat):List (Nat × Nat):=Ox N hp k (GZ N hp k)
def I2 (m:List (Nat × Nat)) (hp:Nat->Option A2):List (Nat × Nat)->List (Nat × A2)
 |[]=>[]
 |(old,new)::r=>match hp old with
  |some b=>(new,Ack m b)::I2 m hp r
  |none=>I2 m hp r
section
variable {R:Type}
def MG (N:Nat)(ls:List Nat)(q:Bool)(s:St)(K:St->Option R):Option R:=
 let s2:=bif q then s else ls.foldl (AS N) (ls.foldl (Vx N) s)
 let m:=ls.foldl (Vt N s2) (Ani N s2.hp 8)
 Ar (Cu (m.map (·.1))&&Cu (m.map (·.2))) (K ⟨lk (ls.map fun i=>(i,QS m (s2.tm i))),Fo (I2 m s2.hp m)⟩)
def Re (N L:Nat)(s:St)(K:St->Option R):Option R:=MG N (Iv L N) false s K
def LG (N L:Nat)(s:St)(K:St->Option R):Option R:=MG N (Iv L N) true s K
def WP (F:(St->Option R)->St->Option R) (nm:St->(St->Option R)->Option R):Nat->St->Option R
 |0,_=>none
 |n+1,s=>F (fun s'=>nm s' (WP F nm n)) s
def Xe (n:Nat)(F:St->Option R)(s:St):Option R:=
 match n with
 |0=>none
 |_+1=>F s
noncomputable def TA (s:St)(c:Operand)(kt kf:St->Option R):Option R:=
 match c with
 |.tmp d=>
  match s.tm d with
  |.sc (.bool b)=>Bu b (kt ⟨Bi s.tm d (.sc (.bool true)),s.hp⟩) (kf ⟨Bi s.tm d (.sc (.bool false)),s.hp⟩)
  |.ub=>Uy (kt s) (kf s)
  |_=>none
 |.const (.bool true)=>kt s
 |.const (.bool false)=>kf s
 |_=>none
noncomputable def Ld (C:Fd)(P:Program)(fu N:Nat)(call:Aj):Code->Nat->(Nat->Nat)->Nat->(St->Option R)->(Nat->St->Option R)->(St->Option R)->St->Option R
 |.skip,_,_,_,kn,_,_,s=>kn s
 |.region _ ops draw,_,_,_,kn,_,_,s=>EJ (draw && !Yy C P ops) (Ar (Xk C P ops) (Acu (Ug C P ops (F5 ops.toList [])) fun sm=>Fy C P N call ops sm [] (List.range ops.size) s kn)) (EJ draw (Jz C P N call ops ops.toList s kn) (CA C P N call ops ops.toList s kn))
 |.seq a b,ln,lx,lr,kn,kx,kr,s=>Ld C P fu N call a (Kl b ln lx lr) lx lr (fun s'=>EJ (WU P a b) (EJ (Vw a b) (LG N (Kl b ln lx lr) s' (Xe fu fun s''=>Ld C P fu N call b ln lx lr kn kx kr s'')) (Re N (Kl b ln lx lr) s' (Xe fu fun s''=>Ld C P fu N call b ln lx lr kn kx kr s''))) (Ld C P fu N call b ln lx lr kn kx kr s')) kx kr s
 |.cond c a b,ln,lx,lr,kn,kx,kr,s=>TA s c (Ld C P fu N call a ln lx lr kn kx kr) (Ld C P fu N call b ln lx lr kn kx kr)
 |.block id c,ln,lx,lr,kn,kx,kr,s=>Ld C P fu N call c ln (fun j=>bif Nat.beq j id then ln else lx j) lr kn (fun j s'=>bif Nat.beq j id then kn s' else kx j s') kr s
 |.loop c,ln,lx,lr,_,kx,kr,s=>
  Re N (Kl (.loop c) ln lx lr) s (WP (fun k s'=>Ld C P fu N call c (Kl (.loop c) ln lx lr) lx lr k kx kr s') (Re N (Kl (.loop c) ln lx lr)) fu)
 |.exit id,_,_,_,_,kx,_,s=>kx id s
 |.ret,_,_,_,_,_,kr,s=>kr s
 |_,_,_,_,_,_,_,_=>none
def UA (id:Nat)(t:CT)(p:PV)(K:PV->List (Nat × A2)->Option R):Option R:=
 match t with
 |.sl es=>
  match p with
  |.own es' n c=>bif Nat.beq es' es then K (.view id es 0 n) [(id,.ar false c)] else none
  |p=>Eu es p fun z n c=>K (.lst z es n c) []
 |t=>Sz t p fun c=>K c []
def Ux (N:Nat):Nat->List CT->List PV->(List PV->List (Nat × A2)->Option R)->Option R
 |_,[],ps,K=>Af ps (K [] [])
 |id,t::ts,ps,K=>Aa ps fun p ps=>UA id t p fun c b=>Ux N (id+N) ts ps fun cs bs=>K (c::cs) (b++bs)
def inK (P:Program)(N i:Nat)(t:TypeId)(p:PV)(K:PV->List (Nat × A2)->Option R):Option R:=
 match R9 P t with
 |some e=>Pz p fun ps=>Ar (Nat.blt i 8) (Ux N (B7 N i+N) (Fz P e) ps fun cs bs=>K (.ptr (B7 N i) 0) ((B7 N i,.st cs)::bs))
 |none=>
  match p with
  |.tup ps=>Db (Ajh P t) fun e=>Ar (Nat.blt i 8) (Aa ps fun q r=>Af r (Ov (As P e) q fun n c=>K (.view (B7 N i) (As P e) 0 n) [(B7 N i,.ar false c)]))
  |p=>
   bif Ba P t then Dv p fun ps=>Ux N (i+N) (Fz P t) ps fun cs bs=>K (.agg cs) bs
   else Ux N (i+N) (Fz P t) [p] fun cs bs=>Aa cs fun c r=>Af r (K c bs)
def XF (P:Program)(N:Nat):Nat->List TypeId->List PV->(List (Nat × PV)->List (Nat × A2)->Option R)->Option R
 |_,[],ps,K=>Af ps (K [] [])
 |i,t::ts,ps,K=>Aa ps fun p ps=>inK P N i t p fun v bs=>XF P N (i+1) ts ps fun vs bs'=>K ((i,v)::vs) (bs++bs')
def Adq (hp:Nat->Option A2)(t:CT)(p:PV)(K:PV->List Nat->List Nat->Option R):Option R:=
  match t with
  |.sl es=>
    match p with
    |.view id es' off n=>bif Nat.beq es' es&&Nat.beq off 0 then
        (match hp id with
         |some (.ar false c)=>Ar (decide (n*es<=c.length)) (K (.own es n (c.take (n*es))) [id] [])
         |_=>none) else none
    |p=>Eu es p fun z _ _=>Ar z (K (.own es 0 []) [] [])
  |t=>Sz t p fun c=>K c [] []
def LY (shr:Bool)(hp:Nat->Option A2)(t:CT)(p:PV)(K:PV->List Nat->List Nat->Option R):Option R:=
 bif shr then Kn (Ha hp) t p fun c m=>K c [] m else Adq hp t p K
def Tz (shr:Bool)(hp:Nat->Option A2):List CT->List PV->(List PV->List Nat->List Nat->Option R)->Option R
 |[],[],K=>K [] [] []
 |t::ts,p::ps,K=>LY shr hp t p fun c m z=>Tz shr hp ts ps fun cs ms zs=>K (c::cs) (m++ms) (z++zs)
 |_,_,_=>none
def XB (P:Program)(shr:Bool)(hp:Nat->Option A2)(t:TypeId)(p:PV)(K:PV->List Nat->List Nat->Option R):Option R:=
 match R9 P t with
 |some e=>
  match p with
  |.ptr id off=>
   match hp id with
   |some (.st c)=>Ar (Nat.beq off 0) (Tz shr hp (Fz P e) c fun cs m z=>K (.pbox cs) (id::m) z)
   |_=>none
  |_=>none
 |none=>
  bif Ba P t then Dv p fun ps=>Tz shr hp (Fz P t) ps fun cs m z=>K (.agg cs) m z
  else Tz shr hp (Fz P t) [p] fun cs m z=>Aa cs fun c r=>Af r (K c m z)
def WZ (P:Program)(s:St)(r:ResultVar)(K:PV->Option R):Option R:=
 match r with
 |.tmp t=>K (s.tm t)
 |.cell a t=>Sn false P (rd s.hp) (Ha s.hp) t (s.tm a) K
def CI (P:Program)(shr:Bool)(s:St):List ResultVar->List TypeId->(List PV->List Nat->List Nat->Option R)->Option R
 |[],[],K=>K [] [] []
 |r::rs,t::ts,K=>WZ P s r fun p=>XB P shr s.hp t p fun v m z=>CI P shr s rs ts fun vs ms zs=>K (v::vs) (m++ms) (z++zs)
 |_,_,_=>none
def Vl (hp:Nat->Option A2):List CT->List PV->List PV->(List PV->List Nat->List Nat->Option R)->Option R
 |[],[],[],K=>K [] [] []
 |t::ts,w::ws,p::ps,K=>LY (match w with | .own _ _ _=>false|_=>true) hp t p fun c m z=>Vl hp ts ws ps fun cs ms zs=>K (c::cs) (m++ms) (z++zs)
 |_,_,_,_=>none
def Tf (P:Program)(N:Nat)(hp:Nat->Option A2):Nat->List TypeId->List PV->(List (List PV)->List Nat->List Nat->List Nat->Option R)->Option R
 |_,[],ps,K=>Af ps (K [] [] [] [])
 |i,t::ts,ps,K=>Aa ps fun p ps=>
  match p with
  |.pbox ws=>Db (R9 P t) fun e=>
    match hp (B7 N i) with
    |some (.st c)=>Vl hp (Fz P e) ws c fun cs m z=>Tf P N hp (i+1) ts ps fun r m' z' q=>K (cs::r) (m++m') (z++z') (B7 N i::q)
    |_=>none
  |.tup _=>
    match hp (B7 N i) with
    |some (.ar false c)=>Tf P N hp (i+1) ts ps fun r m' z' q=>K (c::r) m' z' (B7 N i::q)
    |_=>none
  |_=>Tf P N hp (i+1) ts ps K
def NA (rs:List ResultVar):Nat:=rs.foldl (fun m r=>match r with | .tmp t=>UU m t | .cell a _=>UU m a) 0
end
def Wl (P:Program):Nat->List TypeId->Nat->Nat
 |_,[],m=>m
 |i,t::ts,m=>Wl P (i+1) ts (match P.underlying t with|some (.pointer _)=>UU m i|_=>m)
def NQ (C:Fd)(P:Program)(f:FuncId)(fn:Func)(args:List PV)(s:St):Option A7:=
 CI P (C.shr f) s fn.results.toList fn.resultTypes.toList fun vs m z=>Tf P fn.ntmps s.hp 0 fn.params.toList args fun os m' z' q=>
  Ar (Cu ((m++m')++q)&&(z++z').all (fun i=> !(((m++m')++q).any (Nat.beq i)))) (some ⟨vs,os⟩)
noncomputable def Ae4 (C:Fd)(P:Program)(fu:Nat)(call:Aj)(f:FuncId)(fn:Func)(c:Code)(args:List PV):Option A7:=
  XF P fn.ntmps 0 fn.params.toList args fun tms bs=>Ar (Nat.ble args.length fn.ntmps&&A3 (fun _=>none) bs)
    (let lr:=Wl P 0 fn.params.toList (NA fn.results.toList)
     Ld C P fu fn.ntmps call c lr (fun _=>0) lr (NQ C P f fn args) (fun _ _=>none) (NQ C P f fn args) ⟨lk tms,Fo bs⟩)
noncomputable def Ai (C:Fd)(P:Program)(fu:Nat):Nat->FuncId->List PV->Option A7
 |0,_,_=>none
 |d+1,f,args=>
  match C.ext f with
  |some g=>g args
  |none=>
   match P.funcs[f]? with
   |none=>none
   |some fn=>match fn.body with
    |none=>none
    |some c=>Ae4 C.core P fu (Ai C P fu d) f fn c args
inductive Dir where
 |l
 |r
 |i (m:Nat)
section
variable {R:Type}
noncomputable def Qi (C:Fd)(P:Program)(fu N:Nat)(call:Aj):List Dir->Code->Nat->(Nat->Nat)->Nat->(St->Option R)->(Nat->St->Option R)->(St->Option R)->Nat->St->Option R
 |[],.seq _ b,ln,lx,lr,kn,kx,kr,n,s=>Xe n (fun s''=>Ld C P fu N call b ln lx lr kn kx kr s'') s
 |[],.loop c,ln,lx,lr,_,kx,kr,n,s=>WP (fun k s'=>Ld C P fu N call c (Kl (.loop c) ln lx lr) lx lr k kx kr s') (Re N (Kl (.loop c) ln lx lr)) n s
 |.l::p,.seq a b,ln,lx,lr,kn,kx,kr,n,s=>Qi C P fu N call p a (Kl b ln lx lr) lx lr (fun s'=>EJ (WU P a b) (EJ (Vw a b) (LG N (Kl b ln lx lr) s' (Xe fu fun s''=>Ld C P fu N call b ln lx lr kn kx kr s'')) (Re N (Kl b ln lx lr) s' (Xe fu fun s''=>Ld C P fu N call b ln lx lr kn kx kr s''))) (Ld C P fu N call b ln lx lr kn kx kr s')) kx kr n s
 |.r::p,.seq _ b,ln,lx,lr,kn,kx,kr,n,s=>Qi C P fu N call p b ln lx lr kn kx kr n s
 |.l::p,.cond _ a _,ln,lx,lr,kn,kx,kr,n,s=>Qi C P fu N call p a ln lx lr kn kx kr n s
 |.r::p,.cond _ _ b,ln,lx,lr,kn,kx,kr,n,s=>Qi C P fu N call p b ln lx lr kn kx kr n s
 |.l::p,.block id c,ln,lx,lr,kn,kx,kr,n,s=>Qi C P fu N call p c ln (fun j=>bif Nat.beq j id then ln else lx j) lr kn (fun j s'=>bif Nat.beq j id then kn s' else kx j s') kr n s
 |.i m::p,.loop c,ln,lx,lr,_,kx,kr,n,s=>
  Qi C P fu N call p c (Kl (.loop c) ln lx lr) lx lr
   (fun s'=>Re N (Kl (.loop c) ln lx lr) s' (WP (fun k s'=>Ld C P fu N call c (Kl (.loop c) ln lx lr) lx lr k kx kr s') (Re N (Kl (.loop c) ln lx lr)) m)) kx kr n s
 |_,_,_,_,_,_,_,_,_,_=>none
end
noncomputable def C5 (C:Fd)(P:Program)(fu:Nat)(call:Aj)(f:FuncId)(fn:Func)(c:Code)(args:List PV)(p:List Dir)(n:Nat)(s:St):Option A7:=
 let lr:=Wl P 0 fn.params.toList (NA fn.results.toList)
 Qi C P fu fn.ntmps call p c lr (fun _=>0) lr (NQ C P f fn args) (fun _ _=>none) (NQ C P f fn args) n s
def Aab:List Nat:=[
 1000000]
def Afb:List Nat:=[
 10,
 21,
 15,
 30,
 28,
 22,
 12,
 53,
 32,
 31,
 29,
 1000000]
def Agq:List Nat:=[
 43,
 60,
 70,
 71,
 72,
 73,
 74,
 75,
 76,
 77,
 1000000]
def YI:List Nat:=[
 45,
 1000000]
def Afk:List Nat:=[
 45,
 1000000]
def Oe (args:List PV):Option A7:=
  match args with
  |[.lst _ 1 n c,.lst _ 1 m c']=>bif Nat.beq c.length n&&Nat.beq c'.length m then
      (match bytesOf c,bytesOf c' with
       |some a,some b=>some ⟨[.sc (.int .i64 (Lib.compareBytes a b))],[]⟩
       |_,_=>none) else none
  |_=>none
def BM:List Nat:=[
 82,
 59,
 68,
 69,
 67,
 58,
 41,
 89,
 81,
 65,
 48,
 56,
 39,
 38,
 18,
 55,
 35,
 50,
 40,
 66,
 57,
 1000000]
def Aq0:List Nat:=[
 88,
 1000000]
def CB:Fd:=⟨fun f=>Afb.any (Nat.beq f),fun f i=>Nat.beq i 0&&Afk.any (Nat.beq f),fun f i=>(Nat.beq i 0&&Agq.any (Nat.beq f))||(Nat.beq i 2&&YI.any (Nat.beq f)),fun f=>Aab.any (Nat.beq f),fun _=>none,fun N=>Aq0.any (Nat.beq N)⟩
def CX (xs:FuncId->Option (List PV->Option A7)):Fd:={ CB with ext:=fun f=>bif BM.any (Nat.beq f) then none else xs f }
def Bz (f:Func):Code:=match f.body with|some c=>c|none=>.skip
section
variable {R:Type} {r:Option R}
theorem Gc {k:IntKind}{p:PV}{K:Int->Option R}{n:Int}(h:p=.sc (.int k n)) (hk:K n=r):Ad k p K=r:=by
 subst h;unfold Ad;simp[hk]
theorem Ap7 {p:PV}{K:IntKind->Int->Option R}{k:IntKind}{n:Int}(h:p=.sc (.int k n)) (hk:K k n=r):Ce p K=r:=by
 subst h;exact hk
theorem G5 {p:PV}{K:Bool->Option R}{b:Bool}(h:p=.sc (.bool b)) (hk:K b=r):A0 p K=r:=by
 subst h;exact hk
theorem App {p:PV}{K:ByteArray->Option R}{s:ByteArray}(h:p=.sc (.string s)) (hk:K s=r):Fx p K=r:=by
 subst h;exact hk
theorem P9 {es:Nat}{p:PV}{K:Bool->Nat->List PV->Option R}{z:Bool}{n:Nat}{c:List PV}(h:p=.lst z es n c)(hk:K z n c=r):Eu es p K=r:=by
 subst h;unfold Eu;simp[Nat.beq_refl,hk]
theorem EU {es:Nat}{p:PV}{K:Nat->List PV->Option R}{n:Nat}{c:List PV}(h:p=.own es n c)(hk:K n c=r):Ov es p K=r:=by
 subst h;unfold Ov;simp[Nat.beq_refl,hk]
theorem F9 {b:Bool}{K:Option R}(h:b=true)(hk:K=r):Ar b K=r:=by
 subst h;exact hk
theorem Gd {b:Bool}{x y:Option R}(h:b=true)(hx:x=r):Bu b x y=r:=by
 subst h;exact hx
theorem Ge {b:Bool}{x y:Option R}(h:b=false)(hx:y=r):Bu b x y=r:=by
 subst h;exact hx
theorem Lf {α:Type}{o:Option α}{K:α->Option R}{a:α}(h:o=some a)(hk:K a=r):Db o K=r:=by
 subst h;exact hk
theorem Er {α:Type}{l:List α}{K:α->List α->Option R}{a:α}{t:List α}(h:l=a::t)(hk:K a t=r):Aa l K=r:=by
 subst h;exact hk
theorem Gb {α:Type}{l:List α}{K:Option R}(h:l=[]) (hk:K=r):Af l K=r:=by
 subst h;exact hk
theorem Jx {p:PV}{K:List PV->Option R}{c:List PV}(h:p=.agg c)(hk:K c=r):Dv p K=r:=by
 subst h;exact hk
theorem Ia {p:PV}{K:List PV->Option R}{c:List PV}(h:p=.pbox c)(hk:K c=r):Pz p K=r:=by
 subst h;exact hk
theorem Em {o:Option A7}{K:List PV->List (List PV)->Option R} {v:List PV}{q:List (List PV)} (h:o=some ⟨v,q⟩)(hk:K v q=r):Ao o K=r:=by
 subst h;exact hk
end
theorem NR (a b:Int):(a==b)=decide (a=b):=by by_cases h:a=b<;>simp[h]
section
variable {R:Type}
theorem NB (v:List PV)(o:List (List PV)) (K:List PV->List (List PV)->Option R):Ao (some ⟨v,o⟩) K=K v o:=by exact id rfl
theorem SZ {α:Type}(K:Option R):Af ([]:List α) K=K:=by exact id rfl
theorem MO {α:Type}(a:α)(r:List α)(K:α->List α->Option R):Aa (a::r) K=K a r:=by exact id rfl
theorem LI (b:Bool)(K:Bool->Option R):A0 (.sc (.bool b)) K=K b:=by exact id rfl
theorem VA (s:ByteArray)(K:ByteArray->Option R):Fx (.sc (.string s)) K=K s:=by exact id rfl
theorem BJ (k:IntKind)(n:Int)(K:Int->Option R):Ad k (.sc (.int k n)) K=K n:=by unfold Ad;simp
theorem VI (k:IntKind)(n:Int)(K:IntKind->Int->Option R):Ce (.sc (.int k n)) K=K k n:=by exact id rfl
theorem Acr (z:Bool)(es n:Nat)(c:List PV)(K:Bool->Nat->List PV->Option R):Eu es (.lst z es n c) K=K z n c:=by unfold Eu;simp
theorem Adv (es n:Nat)(c:List PV)(K:Nat->List PV->Option R):Ov es (.own es n c) K=K n c:=by unfold Ov;simp
theorem TB (c:List PV)(K:List PV->Option R):Dv (.agg c) K=K c:=by exact id rfl
theorem NC (c:List PV)(K:List PV->Option R):Pz (.pbox c) K=K c:=by exact id rfl
theorem WB {α:Type}(a:α)(K:α->Option R):Db (some a) K=K a:=by exact id rfl
theorem Ie {α:Type}(a:α)(K:α->Option R):Ab a K=K a:=by exact id rfl
theorem TT (K:Option R):Ar true K=K:=by exact id rfl
theorem Sb (p:Prop) [Decidable p] (K:Option R)(h:p):Ar (decide p) K=K:=by simp[Ar,h]
theorem LT (b c:Bool)(K:Option R):Ar (b&&c) K=Ar b (Ar c K):=by cases b<;>rfl
theorem US (x y:Option R):Bu true x y=x:=by exact id rfl
theorem WR (x y:Option R):Bu false x y=y:=by exact id rfl
theorem Qt (p:Prop) [Decidable p] (x y:Option R)(h:p):Bu (decide p) x y=x:=by simp[Bu,h]
theorem Nd (p:Prop) [Decidable p] (x y:Option R)(h:¬p):Bu (decide p) x y=y:=by simp[Bu,h]
theorem Ahr (p:Prop) [Decidable p] (x y:Option R):Bu (decide p) x y=if p then x else y:=by by_cases h:p<;>simp[Bu,h]
theorem ME (a b:Int)(x y:Option R):Bu (a==b) x y=if a=b then x else y:=by
 rw[NR,Ahr]
theorem LL (x:Option R):Uy x x=x:=by unfold Uy;simp
end
theorem wrap_i64 {x:Int}(h1: -9223372036854775808<=x)(h2:x<=9223372036854775807):IntKind.wrap .i64 x=x:=by
 have:=IntWalk.i64_in x (by omega)
 exact this
theorem Ca {x:Int}(h1:0<=x)(h2:x<=18446744073709551615):IntKind.wrap .u64 x=x:=by
 simp only[IntKind.wrap,IntKind.signed,IntKind.bits];simp;omega
theorem V1 (x:Int):0<=IntKind.wrap .u64 x∧IntKind.wrap .u64 x<=18446744073709551615:=by
 simp only[IntKind.wrap,IntKind.signed,IntKind.bits];simp;omega
theorem Fj {α:Type}{l r:List α}{x:α}{i:Nat}(h:l.drop i=x::r):i<l.length∧l[i]?=some x∧l.drop (i+1)=r:=by
 have h1:i<l.length:=by
  rcases Nat.lt_or_ge i l.length with h1|h1
  ·exact h1
  ·rw[List.drop_of_length_le h1] at h;cases h
 rw[List.drop_eq_getElem_cons h1] at h;injection h with h2 h3;exact⟨h1,by rw[List.getElem?_eq_getElem h1,h2],h3⟩
theorem drop_nil {α:Type}{l:List α}{i:Nat}(h:l.drop i=[]):l.length<=i:=by
 have:=congrArg List.length h;simp at this;omega
section
variable {α:Type} {f:α->List PV} {k:Nat}
theorem JD (hf:∀x,(f x).length=k):∀(l:List α),(l.flatMap f).length=l.length*k
 |[]=>by simp
 |x::l=>by simp[hf x,JD hf l,Nat.succ_mul];omega
theorem Vs (hf:∀x,(f x).length=k):∀(l:List α)(i:Nat),(l.flatMap f).drop (i*k)=(l.drop i).flatMap f
 |l,0=>by simp
 |[],i+1=>by simp
 |x::l,i+1=>by
  rw[List.flatMap_cons,Nat.succ_mul,Nat.add_comm,←List.drop_drop,List.drop_append_of_le_length (by rw[hf x];omega)]
  rw[show (f x).drop k=[] from List.drop_of_length_le (by rw[hf x];omega),List.nil_append]
  exact Vs hf l i
theorem AU (hf:∀x,(f x).length=k):∀(l:List α)(i:Nat),(l.flatMap f).take (i*k)=(l.take i).flatMap f
 |l,0=>by simp
 |[],i+1=>by simp
 |x::l,i+1=>by
  rw[List.flatMap_cons,Nat.succ_mul,Nat.add_comm,List.take_succ_cons,List.flatMap_cons,←AU hf l i];rw[show k+i*k=(f x).length+i*k by rw[hf x],List.take_length_add_append]
theorem Y2 (hf:∀x,(f x).length=k) {l:List α}{i:Nat}{x:α}(h:l[i]?=some x) {j:Nat}(hj:j<k):(l.flatMap f).getD (i*k+j) .top=(f x).getD j .top:=by
 have h1:((l.flatMap f).drop (i*k))[j]?=(l.flatMap f)[i*k+j]?:=List.getElem?_drop;rw[Vs hf] at h1
 have h2:i<l.length:=by
  rcases Nat.lt_or_ge i l.length with h1|h1
  ·exact h1
  ·rw[List.getElem?_eq_none h1] at h;cases h
 rw[List.drop_eq_getElem_cons h2,List.flatMap_cons] at h1;have h3:l[i]=x:=by rw[List.getElem?_eq_getElem h2] at h;injection h
 rw[h3,List.getElem?_append_left (by rw[hf x];exact hj)] at h1
 simp only[List.getD_eq_getElem?_getD,←h1]
theorem JC (hf:∀x,(f x).length=k) {p:PV}{j:Nat}(hj:j<k):∀{l:List α}{i:Nat}{x y:α},l[i]?=some x->f y=(f x).set j p->(l.flatMap f).set (i*k+j) p=(l.set i y).flatMap f
 |[],i,x,y,h,_=>by simp at h
 |a::l,0,x,y,h,hy=>by
  simp at h;subst h;rw[Nat.zero_mul,Nat.zero_add,List.flatMap_cons,List.set_cons_zero,List.flatMap_cons,hy,List.set_append_left _ _ (by rw[hf];exact hj)]
 |a::l,i+1,x,y,h,hy=>by
  simp at h;rw[List.flatMap_cons,List.set_cons_succ,List.flatMap_cons,List.set_append_right _ _ (by rw[hf,Nat.succ_mul];omega),hf]
  congr 1
  rw[show (i+1)*k+j-k=i*k+j by rw[Nat.succ_mul];omega]
  exact JC hf hj h hy
theorem Xx {c:List PV}{p:PV}{i:Nat}(h:i<c.length):A4 c [p] i=c.set i p:=by
 unfold A4;rw[List.set_eq_take_append_cons_drop,if_pos h];simp
end
theorem Lh {α:Type}{l:List α}{i:Nat}{x:α}(h:l[i]?=some x):i<l.length:=by
 rcases Nat.lt_or_ge i l.length with h1|h1
 ·exact h1
 ·rw[List.getElem?_eq_none h1] at h;cases h
abbrev Aid (k:IntKind)(n:Int):List PV:=[.sc (.int k n)]
abbrev Au (k:IntKind)(l:List Int):List PV:=l.flatMap (Aid k)
theorem Ro (k:IntKind)(n:Int):(Aid k n).length=1:=rfl
theorem ati {k:IntKind}{l:List Int}{i:Nat}{n:Int}(h:l[i]?=some n):(Au k l).getD i .top=.sc (.int k n):=by
 have:=Y2 (Ro k) h (j:=0) (by omega)
 simpa using this
theorem Bf (k:IntKind)(l:List Int):(Au k l).length=l.length:=by rw[JD (Ro k)];omega
theorem FT (k:IntKind)(l:List Int)(n:Int):Au k l++[.sc (.int k n)]=Au k (l++[n]):=by simp
theorem ZZ (k:IntKind)(l:List Int):List.take l.length (Au k l)=Au k l:=List.take_of_length_le (by rw[Bf];omega)
theorem Ds:type_of% @NB∧type_of% @SZ∧type_of% @MO∧type_of% @LI∧type_of% @VA∧type_of% @BJ∧type_of% @VI∧type_of% @Acr∧type_of% @Adv∧type_of% @TB∧type_of% @NC∧type_of% @WB∧type_of% @Ie∧type_of% @TT∧type_of% @Sb∧type_of% @LT∧type_of% @US∧type_of% @WR∧type_of% @Qt∧type_of% @Nd∧type_of% @LL∧type_of% @Bool.not_true∧type_of% @Bool.not_false∧type_of% @Bool.false_eq_true∧type_of% @if_true.{1}∧type_of% @if_false.{1}∧type_of% @Bool.true_and∧type_of% @Bool.and_true∧type_of% @Bool.false_and∧type_of% @Bool.and_false∧type_of% @decide_true∧type_of% @decide_false:=
 ⟨@NB,@SZ,@MO,@LI,@VA,@BJ,@VI,@Acr,@Adv,@TB,@NC,@WB,@Ie,@TT,@Sb,@LT,@US,@WR,@Qt,@Nd,@LL,@Bool.not_true,@Bool.not_false,@Bool.false_eq_true,@if_true.{1},@if_false.{1},@Bool.true_and,@Bool.and_true,@Bool.false_and,@Bool.and_false,@decide_true,@decide_false⟩
theorem gT:type_of% @Bool.and_eq_true∧type_of% @decide_eq_true_eq∧type_of% @beq_iff_eq.{0}∧type_of% @bne_iff_ne.{0}∧type_of% @ne_eq.{1}∧type_of% @Bool.not_eq_true'∧type_of% @true_and∧type_of% @and_true:=
 ⟨@Bool.and_eq_true,@decide_eq_true_eq,@beq_iff_eq.{0},@bne_iff_ne.{0},@ne_eq.{1},@Bool.not_eq_true',@true_and,@and_true⟩
theorem gF:type_of% @decide_eq_false_iff_not∧type_of% @beq_eq_false_iff_ne.{0}∧type_of% @bne_eq_false_iff_eq.{0}∧type_of% @ne_eq.{1}∧type_of% @Bool.not_eq_false':=
 ⟨@decide_eq_false_iff_not,@beq_eq_false_iff_ne.{0},@bne_eq_false_iff_eq.{0},@ne_eq.{1},@Bool.not_eq_false'⟩
end
section
open Go.RowKit
def Av {α β:Type}(R:α->β->Prop):List α->List β->Prop
 |[],[]=>True
 |a::zs,b::bs=>R a b∧Av R zs bs
 |_,_=>False
section
variable {α β γ:Type} {R S:α->β->Prop}
theorem Av.len:∀{zs:List α}{bs:List β},Av R zs bs->zs.length=bs.length
 |[],[],_=>rfl
 |_::_,_::_,h=>by simp[Av.len h.2]
 |[],_::_,h=>h.elim
 |_::_,[],h=>h.elim
theorem Av.at_:∀{zs:List α}{bs:List β},Av R zs bs->∀{i:Nat} {a b},zs[i]?=some a->bs[i]?=some b->R a b
 |[],[],_,i,a,b,h,_=>by simp at h
 |_::_,_::_,h,0,a,b,ha,hb=>by simp at ha hb;subst ha;subst hb;exact h.1
 |_::_,_::_,h,i+1,a,b,ha,hb=>by simp at ha hb;exact Av.at_ h.2 ha hb
 |[],_::_,h,_,_,_,_,_=>h.elim
 |_::_,[],h,_,_,_,_,_=>h.elim
theorem Av.of_at:∀{zs:List α}{bs:List β},zs.length=bs.length->(∀(i:Nat) a b,zs[i]?=some a->bs[i]?=some b->R a b)->Av R zs bs
 |[],[],_,_=>trivial
 |a::zs,b::bs,hl,h=>⟨h 0 a b rfl rfl,Av.of_at (by simpa using hl) fun i x y hx hy=>h (i+1) x y hx hy⟩
 |[],_::_,hl,_=>by simp at hl
 |_::_,[],hl,_=>by simp at hl
theorem Av.mono (hRS:∀a b,R a b->S a b):∀{zs:List α}{bs:List β},Av R zs bs->Av S zs bs
 |[],[],_=>trivial
 |_::_,_::_,h=>⟨hRS _ _ h.1,Av.mono hRS h.2⟩
 |[],_::_,h=>h.elim
 |_::_,[],h=>h.elim
theorem Av.mono_mem:∀{zs:List α}{bs:List β},(∀a∈zs,∀b,R a b->S a b)->Av R zs bs->Av S zs bs
 |[],[],_,_=>trivial
 |a::_,_::_,hRS,h=>⟨hRS a (by simp) _ h.1,Av.mono_mem (fun x hx=>hRS x (by simp[hx])) h.2⟩
 |[],_::_,_,h=>h.elim
 |_::_,[],_,h=>h.elim
theorem Av.app:∀{zs:List α}{bs:List β}{as':List α}{bs':List β},Av R zs bs->Av R as' bs'->Av R (zs++as') (bs++bs')
 |[],[],_,_,_,h'=>h'
 |_::_,_::_,_,_,h,h'=>⟨h.1,Av.app h.2 h'⟩
 |[],_::_,_,_,h,_=>h.elim
 |_::_,[],_,_,h,_=>h.elim
theorem Av.take:∀(n:Nat){zs:List α}{bs:List β},Av R zs bs->Av R (zs.take n) (bs.take n)
 |0,_,_,_=>by simp[Av]
 |_+1,[],[],_=>trivial
 |n+1,_::_,_::_,h=>⟨h.1,Av.take n h.2⟩
 |_+1,[],_::_,h=>h.elim
 |_+1,_::_,[],h=>h.elim
theorem Av.drop:∀(n:Nat){zs:List α}{bs:List β},Av R zs bs->Av R (zs.drop n) (bs.drop n)
 |0,_,_,h=>h
 |_+1,[],[],_=>trivial
 |n+1,_::_,_::_,h=>Av.drop n h.2
 |_+1,[],_::_,h=>h.elim
 |_+1,_::_,[],h=>h.elim
end
inductive Ap (w:World) (A:Nat->Prop):PV->Value->Prop where
 |sc (v:Value):Ap w A (.sc v) v
 |top (v:Value):Ap w A .top v
 |ub (b:Bool):Ap w A .ub (.bool b)
 |lnil (z:Bool) (es:Nat):Ap w A (.lst z es 0 []) (.slice none 0 0)
 |lemp (es:Nat) (a:Addr) (cap:Nat):Ap w A (.lst false es 0 []) (.slice (some a) 0 cap)
 |lst (es n:Nat) (cells:List PV) (a:Addr) (cap:Nat) (f:Nat->Value) (hs:a.spot=none) (hb:a.block<w.heap.size) (hA:¬A a.block) (hn:n<=cap)
   (hc:∀j c,cells[j]?=some c->w.cell? (a.add j)=some (f j)) (h1:∀j c,cells[j]?=some c->(f j).oneCell'=true) (hr:∀j c,cells[j]?=some c->Ap w A c (f j)):Ap w A (.lst false es n cells) (.slice (some a) n cap)
def bsz (w:World)(b:Nat):Nat:=
 match w.heap[b]? with
 |some (.cells c _ _)=>c.size
 |_=>0
def EI (w:World)(b:Nat):Bool:=w.frozen? ⟨b,bsz w b,none⟩
def Fit (w:World)(es b e:Nat):Prop:=e<=bsz w b∧(es=1∨EI w b=false)
def Gt (w w':World)(b:Nat):Prop:=bsz w b<=bsz w' b∧(EI w b=false->EI w' b=false)
theorem Gt.refl (w:World)(b:Nat):Gt w w b:=⟨Nat.le_refl _,id⟩
theorem Gt.same {w w':World}{b:Nat}(h:w'.heap[b]?=w.heap[b]?):Gt w w' b:=by
 have e:bsz w' b=bsz w b:=by unfold bsz;rw[h]
 refine⟨by rw[e];exact Nat.le_refl _,fun q=>?_⟩
 unfold EI at q ⊢;rw[e];unfold World.frozen? at q ⊢;simp only[h];exact q
theorem Gt.trans {w w' w'':World}{b:Nat}(h:Gt w w' b)(h':Gt w' w'' b):Gt w w'' b:=⟨Nat.le_trans h.1 h'.1,fun q=>h'.2 (h.2 q)⟩
theorem Fit.step {w w':World}{es b e:Nat}(h:Fit w es b e)(hb:Gt w w' b):Fit w' es b e:=⟨Nat.le_trans h.1 hb.1,h.2.imp id hb.2⟩
def DH (w:World)(A:Nat->Prop)(a:Addr)(cells:List PV):Prop:=∀j c,cells[j]?=some c->∃v,w.cell? (a.add j)=some v∧v.oneCell'=true∧Ap w A c v
def A9 (w:World)(A:Nat->Prop)(β:Nat->Option (Nat × Nat)) (p:PV)(v:Value):Prop:=
 match p with
 |.view id es off n=>(β id=none∧off=0∧n=0∧∃ad,v=.slice ad 0 0) ∨
   ∃b o x cap,β id=some (b,o)∧v=.slice (some ⟨b,x,none⟩) n cap∧(x=o+off∨(n=0∧off≠0))∧n<=cap∧Fit w es b (x+cap*es)∧b<w.heap.size
 |.ptr id off=>∃b o,β id=some (b,o)∧v=.pointer (some ⟨b,o+off,none⟩)
 |.iptr c off=>∃a:Addr,v=.pointer (some (a.add off))∧a.spot=none∧a.block<w.heap.size∧¬A a.block∧DH w A a c
 |p=>Ap w A p v
def Ft (w:World)(A:Nat->Prop)(β:Nat->Option (Nat × Nat)) (p:PV)(v:Value):Prop:=
 match p with
 |.agg cs=>∃vs,v=.agg ⟨vs⟩∧Av (A9 w A β) cs vs
 |p=>A9 w A β p v
def C4 (w:World)(A:Nat->Prop)(β:Nat->Option (Nat × Nat)) (p:PV)(v:Value):Prop:=
 match p with
 |.tup ps=>∃vs,v=.tuple ⟨vs⟩∧Av (Ft w A β) ps vs
 |p=>Ft w A β p v
structure Bd (A:Nat->Prop) (w w':World):Prop where
 size:w.heap.size<=w'.heap.size
 keep:∀b,b<w.heap.size->¬A b->w'.heap[b]?=w.heap[b]?
 bs:∀b,b<w.heap.size->Gt w w' b
theorem Ec (a:Addr)(j:Nat):(a.add j).block=a.block:=by unfold Addr.add;split<;>rfl
theorem add_add (a:Addr)(i j:Nat):(a.add i).add j=a.add (i+j):=by
 unfold Addr.add;by_cases hi:i=0<;>by_cases hj:j=0<;>simp[hi,hj,Nat.add_assoc]
theorem Cf (b o j:Nat):(⟨b,o,none⟩:Addr).add j=⟨b,o+j,none⟩:=by
 unfold Addr.add;by_cases hj:j=0<;>simp[hj]
theorem TS {a:Addr}(h:a.spot=none)(j:Nat):(a.add j).spot=none:=by unfold Addr.add;split<;>simp[h]
section
variable {w w':World} {A A':Nat->Prop} {β β':Nat->Option (Nat × Nat)}
theorem Bd.cell (h:Bd A w w'){a:Addr}(hb:a.block<w.heap.size)(hA:¬A a.block):w'.cell? a=w.cell? a:=
 World.cell?_of_block (h.keep a.block hb hA)
theorem Ap.step (h:Bd A w w')(hA:∀b,b<w.heap.size->A' b->A b){p:PV}{v:Value}(t:Ap w A p v):Ap w' A' p v:=by
 induction t with
 |sc v=>exact .sc v
 |top v=>exact .top v
 |ub b=>exact .ub b
 |lnil z es=>exact .lnil z es
 |lemp es a cap=>exact .lemp es a cap
 |lst es n cells a cap f hs hb hA1 hn hc h1 hr ih=>
  refine .lst es n cells a cap f hs (Nat.lt_of_lt_of_le hb h.size) (fun x=>hA1 (hA _ hb x)) hn (fun j c hj=>?_) h1 (fun j c hj=>ih j c hj)
  rw[h.cell (by rw[Ec];exact hb) (by rw[Ec];exact hA1)]
  exact hc j c hj
theorem DH.step (h:Bd A w w')(hA:∀b,b<w.heap.size->A' b->A b){a:Addr}(hb:a.block<w.heap.size)(hn:¬A a.block){cells:List PV}(t:DH w A a cells):DH w' A' a cells:=by
 intro j c hj;obtain⟨v,hv,h1,ht⟩:=t j c hj;exact⟨v,by rw[h.cell (by rw[Ec];exact hb) (by rw[Ec];exact hn)];exact hv,h1,ht.step h hA⟩
theorem A9.step (h:Bd A w w')(hA:∀b,b<w.heap.size->A' b->A b){p:PV}{v:Value}(hβ:∀id∈Ak p,β' id=β id)(t:A9 w A β p v):A9 w' A' β' p v:=by
 cases p with
 |view id es off n=>
  have e:=hβ id (by simp[Ak])
  rcases t with⟨h1,h2,h3,h4⟩|⟨b,o,x,cap,h1,h2,hx,h3,h4,h5⟩
  ·exact .inl ⟨by rw[e];exact h1,h2,h3,h4⟩
  ·exact .inr ⟨b,o,x,cap,by rw[e];exact h1,h2,hx,h3,h4.step (h.bs b h5),Nat.lt_of_lt_of_le h5 h.size⟩
 |ptr id off=>
  have e:=hβ id (by simp[Ak])
  obtain⟨b,o,h1,h2⟩:=t;exact⟨b,o,by rw[e];exact h1,h2⟩
 |iptr c off=>
  obtain⟨a,h1,h2,h3,h4,h5⟩:=t;exact⟨a,h1,h2,Nat.lt_of_lt_of_le h3 h.size,fun x=>h4 (hA _ h3 x),h5.step h hA h3 h4⟩
 |sc v=>exact Ap.step h hA t
 |lst z es n c=>exact Ap.step h hA t
 |own es n c=>exact Ap.step h hA t
 |pbox c=>exact Ap.step h hA t
 |agg c=>exact Ap.step h hA t
 |tup c=>exact Ap.step h hA t
 |top=>exact Ap.step h hA t
 |ub=>exact Ap.step h hA t
theorem Ft.step (h:Bd A w w')(hA:∀b,b<w.heap.size->A' b->A b){p:PV}{v:Value}(hβ:∀id∈Bh p,β' id=β id)(t:Ft w A β p v):Ft w' A' β' p v:=by
 cases p with
 |agg cs=>
  obtain⟨vs,rfl,h2⟩:=t;exact⟨vs,rfl,h2.mono_mem fun c hc v hv=>hv.step h hA fun id Ay=>hβ id (by simp only[Bh,List.mem_flatMap];exact⟨c,hc,Ay⟩)⟩
 |sc x=>exact A9.step (p:=.sc x) h hA hβ t
 |lst x y z u=>exact A9.step (p:=.lst x y z u) h hA hβ t
 |own x y z=>exact A9.step (p:=.own x y z) h hA hβ t
 |view x y z u=>exact A9.step (p:=.view x y z u) h hA hβ t
 |ptr x y=>exact A9.step (p:=.ptr x y) h hA hβ t
 |iptr x y=>exact A9.step (p:=.iptr x y) h hA hβ t
 |pbox x=>exact A9.step (p:=.pbox x) h hA hβ t
 |tup x=>exact A9.step (p:=.tup x) h hA hβ t
 |top=>exact A9.step (p:=.top) h hA hβ t
 |ub=>exact A9.step (p:=.ub) h hA hβ t
theorem C4.step (h:Bd A w w')(hA:∀b,b<w.heap.size->A' b->A b){p:PV}{v:Value}(hβ:∀id∈A8 p,β' id=β id)(t:C4 w A β p v):C4 w' A' β' p v:=by
 cases p with
 |tup cs=>
  obtain⟨vs,rfl,h2⟩:=t;exact⟨vs,rfl,h2.mono_mem fun c hc v hv=>hv.step h hA fun id Ay=>hβ id (by simp only[A8,List.mem_flatMap];exact⟨c,hc,Ay⟩)⟩
 |sc x=>exact Ft.step (p:=.sc x) h hA hβ t
 |lst x y z u=>exact Ft.step (p:=.lst x y z u) h hA hβ t
 |own x y z=>exact Ft.step (p:=.own x y z) h hA hβ t
 |view x y z u=>exact Ft.step (p:=.view x y z u) h hA hβ t
 |ptr x y=>exact Ft.step (p:=.ptr x y) h hA hβ t
 |iptr x y=>exact Ft.step (p:=.iptr x y) h hA hβ t
 |pbox x=>exact Ft.step (p:=.pbox x) h hA hβ t
 |top=>exact Ft.step (p:=.top) h hA hβ t
 |ub=>exact Ft.step (p:=.ub) h hA hβ t
 |agg x=>exact Ft.step (p:=.agg x) h hA hβ t
theorem Bd.refl (A:Nat->Prop)(w:World):Bd A w w:=⟨Nat.le_refl _,fun _ _ _=>rfl,fun _ _=>Gt.refl _ _⟩
theorem DH.weak (hA:∀b,b<w.heap.size->A' b->A b){a:Addr}{cells:List PV}(t:DH w A a cells):DH w A' a cells:=by
 intro j c hj;obtain⟨v,hv,h1,ht⟩:=t j c hj;exact⟨v,hv,h1,ht.step (Bd.refl A w) hA⟩
theorem Bd.trans {w'':World}(h:Bd A w w')(h':Bd A' w' w'')(hA:∀b,b<w.heap.size->A' b->A b):Bd A w w'':=
  ⟨Nat.le_trans h.size h'.size,fun b hb hn=>(h'.keep b (Nat.lt_of_lt_of_le hb h.size) (fun x=>hn (hA b hb x))).trans (h.keep b hb hn),
   fun b hb=>(h.bs b hb).trans (h'.bs b (Nat.lt_of_lt_of_le hb h.size))⟩
theorem Bd.weaken (h:Bd A w w')(hA:∀b,b<w.heap.size->A b->A' b):Bd A' w w':=⟨h.size,fun b hb hn=>h.keep b hb (fun x=>hn (hA b hb x)),h.bs⟩
end
section
variable {R:Type} {r:R}
theorem C3 {k:IntKind}{p:PV}{K:Int->Option R}(h:Ad k p K=some r):∃n,p=.sc (.int k n)∧K n=some r:=by
 unfold Ad at h;split at h
 ·split at h
  ·rename_i hk;subst hk;exact⟨_,rfl,h⟩
  ·cases h
 ·cases h
theorem Ci {p:PV}{K:Bool->Option R}(h:A0 p K=some r):∃b,p=.sc (.bool b)∧K b=some r:=by
 unfold A0 at h;split at h
 ·exact⟨_,rfl,h⟩
 ·cases h
theorem Cj {p:PV}{K:ByteArray->Option R}(h:Fx p K=some r):∃b,p=.sc (.string b)∧K b=some r:=by
 unfold Fx at h;split at h
 ·exact⟨_,rfl,h⟩
 ·cases h
theorem B6 {p:PV}{K:IntKind->Int->Option R}(h:Ce p K=some r):∃k n,p=.sc (.int k n)∧K k n=some r:=by
 unfold Ce at h;split at h
 ·exact⟨_,_,rfl,h⟩
 ·cases h
theorem Ag {b:Bool}{K:Option R}(h:Ar b K=some r):b=true∧K=some r:=by
 unfold Ar at h;cases b
 ·cases h
 ·exact⟨rfl,h⟩
theorem Bp {α:Type}{o:Option α}{K:α->Option R}(h:Db o K=some r):∃a,o=some a∧K a=some r:=by
 unfold Db at h;split at h
 ·exact⟨_,rfl,h⟩
 ·cases h
theorem Aq {α:Type}{l:List α}{K:α->List α->Option R}(h:Aa l K=some r):∃a t,l=a::t∧K a t=some r:=by
 unfold Aa at h;split at h
 ·exact⟨_,_,rfl,h⟩
 ·cases h
theorem Cb {α:Type}{l:List α}{K:Option R}(h:Af l K=some r):l=[]∧K=some r:=by
 unfold Af at h;split at h
 ·exact⟨rfl,h⟩
 ·cases h
theorem Ff {p:PV}{K:List PV->Option R}(h:Dv p K=some r):∃c,p=.agg c∧K c=some r:=by
 unfold Dv at h;split at h
 ·exact⟨_,rfl,h⟩
 ·cases h
theorem Yz {p:PV}{K:List PV->Option R}(h:Pz p K=some r):∃c,p=.pbox c∧K c=some r:=by
 unfold Pz at h;split at h
 ·exact⟨_,rfl,h⟩
 ·cases h
theorem BT {p:PV}{K:Value->Option R}(h:RT p K=some r):∃f a b,p=.sc (.func f a b)∧K (.func f a b)=some r:=by
 unfold RT at h;split at h
 ·exact⟨_,_,_,rfl,h⟩
 ·cases h
theorem Aax {p:PV}{K:FuncId->Option R}(h:fvK p K=some r):∃f,p=.sc (.func (.func f) #[] #[])∧K f=some r:=by
 unfold fvK at h;split at h
 ·rename_i f a b;cases hb:(a.isEmpty&&b.isEmpty)<;>rw[hb] at h
  ·cases h
  ·simp only[Bool.and_eq_true,Array.isEmpty_iff] at hb;rw[hb.1,hb.2];exact⟨f,rfl,h⟩
 ·cases h
theorem Z5 {o:Option A7}{K:List PV->List (List PV)->Option R} (h:Ao o K=some r):∃v x,o=some ⟨v,x⟩∧K v x=some r:=by
 unfold Ao at h;split at h
 ·exact⟨_,_,rfl,h⟩
 ·cases h
theorem Jd {b:Bool}{x y:Option R}(h:Bu b x y=some r):(b=true∧x=some r)∨(b=false∧y=some r):=by
 unfold Bu at h;cases b
 ·exact .inr ⟨rfl,h⟩
 ·exact .inl ⟨rfl,h⟩
theorem Dp {es:Nat}{p:PV}{K:Bool->Nat->List PV->Option R}(h:Eu es p K=some r):
  ∃z n c,K z n c=some r∧(p=.lst z es n c∨(p=.sc (.slice none 0 0)∧z=true∧n=0∧c=[])):=by
 unfold Eu at h;split at h
 ·rename_i z es' n c;cases hb:Nat.beq es' es
  ·rw[hb] at h;cases h
  ·rw[hb] at h;have:=Nat.eq_of_beq_eq_true hb;subst this;exact⟨z,n,c,h,.inl rfl⟩
 ·exact⟨true,0,[],h,.inr ⟨rfl,rfl,rfl,rfl⟩⟩
 ·cases h
def Py:PV->Prop
 |.sc _=>True
 |.lst _ _ _ _=>True
 |_=>False
def Yq:PV->Prop
 |.sc _=>True
 |.lst _ _ _ _=>True
 |.view _ _ _ _=>True
 |_=>False
theorem M9 {c:PV}(h:Py c):Yq c:=by
 cases c<;>first|trivial|exact h.elim
theorem Fl {c:PV}(h:Py c):Ak c=[]:=by
 cases c<;>first|rfl|exact h.elim
variable {w:World} {A:Nat->Prop} {β:Nat->Option (Nat × Nat)}
theorem Ib {c:PV}{v:Value}(h:Py c):A9 w A β c v↔Ap w A c v:=by
 cases c<;>first|exact Iff.rfl|exact h.elim
theorem Rh {c:PV}{v:Value}(h:∀cs,c ≠ .agg cs):Ft w A β c v↔A9 w A β c v:=by
 cases c<;>first|exact Iff.rfl|exact absurd rfl (h _)
theorem Mx {c:PV}{v:Value}(h:∀cs,c ≠ .tup cs):C4 w A β c v↔Ft w A β c v:=by
 cases c<;>first|exact Iff.rfl|exact absurd rfl (h _)
theorem Ra {c:PV}(h:Py c)(cs:List PV):c ≠ .agg cs:=by rintro rfl;exact h
theorem LE {c:PV}(h:Py c)(cs:List PV):c ≠ .tup cs:=by rintro rfl;exact h
theorem Ap.val {v u:Value}(h:Ap w A (.sc v) u):u=v:=by cases h;rfl
theorem Q1 {es n:Nat}{z:Bool}{c:List PV}{p:PV}{v:Value}(h:p=.lst z es n c∨(p=.sc (.slice none 0 0)∧z=true∧n=0∧c=[])) (hv:A9 w A β p v):Ap w A (.lst z es n c) v:=by
 rcases h with rfl|⟨rfl,rfl,rfl,rfl⟩
 ·exact hv
 ·have:=Ap.val (w:=w) (A:=A) hv;subst this;exact .lnil true es
theorem Jc {t:CT}{p:PV}{K:PV->Option R}(h:Sz t p K=some r):
  ∃c,K c=some r∧Py c∧Py p∧∀(w:World) (A:Nat->Prop) (β:Nat->Option (Nat × Nat)) (v:Value),A9 w A β p v->Ap w A c v∧v.oneCell'=true:=by
 cases t with
 |int k=>obtain⟨n,rfl,h2⟩:=C3 h;exact⟨_,h2,trivial,trivial,fun w A β v hv=>⟨hv,by have:=Ap.val (w:=w) (A:=A) hv;subst this;rfl⟩⟩
 |bool=>obtain⟨n,rfl,h⟩:=Ci h;exact⟨_,h,trivial,trivial,fun w A β v hv=>⟨hv,by have:=Ap.val (w:=w) (A:=A) hv;subst this;rfl⟩⟩
 |str=>obtain⟨n,rfl,h⟩:=Cj h;exact⟨_,h,trivial,trivial,fun w A β v hv=>⟨hv,by have:=Ap.val (w:=w) (A:=A) hv;subst this;rfl⟩⟩
 |sl es=>
  obtain⟨z,n,c,h,hp⟩:=Dp h;refine⟨_,h,trivial,?_,fun w A β v hv=>⟨Q1 hp hv,?_⟩⟩
  ·rcases hp with rfl|⟨rfl,_⟩<;>trivial
  ·have ht:=Q1 hp hv;cases ht<;>rfl
 |any=>
  obtain⟨f,a,b,rfl,h2⟩:=BT (show RT p (fun v=>K (.sc v))=some r from h)
  exact⟨_,h2,trivial,trivial,fun w A β v hv=>⟨hv,by have:=Ap.val (w:=w) (A:=A) hv;subst this;rfl⟩⟩
theorem Abu {t:CT}{p:PV}{K:PV->Option R}(h:fcK t p K=some r):
  ∃c,K c=some r∧(Py c∨c=p)∧Yq p∧p ≠ .top∧(∀cs,c ≠ .agg cs)∧(∀cs,c ≠ .tup cs)∧(∀id,id∈Ak c->id∈Ak p)∧∀(w:World) (A:Nat->Prop) (β:Nat->Option (Nat × Nat)) (v:Value),A9 w A β p v->A9 w A β c v∧v.oneCell'=true:=by
 have tree:∀t',Sz t' p K=some r->∃c,K c=some r∧(Py c∨c=p)∧Yq p∧p ≠ .top∧(∀cs,c ≠ .agg cs)∧(∀cs,c ≠ .tup cs)∧(∀id,id∈Ak c->id∈Ak p)∧∀(w:World) (A:Nat->Prop) (β:Nat->Option (Nat × Nat)) (v:Value),A9 w A β p v->A9 w A β c v∧v.oneCell'=true:=by
  intro t' h;obtain⟨c,h,hc,hp,hv⟩:=Jc h;exact⟨c,h,.inl hc,M9 hp,by rintro rfl;exact hp,Ra hc,LE hc,by rw[Fl hc];simp,fun w A β v h=>⟨(Ib hc).2 (hv w A β v h).1,(hv w A β v h).2⟩⟩
 cases t with
 |sl es=>
  unfold fcK fsK at h;dsimp only at h;split at h
  ·rename_i id es' off n;cases hb:Nat.beq es' es
   ·rw[hb] at h;cases h
   ·rw[hb] at h;have:=Nat.eq_of_beq_eq_true hb;subst this;exact⟨_,h,.inr rfl,trivial,by simp,by simp,by simp,fun _ h=>h,fun _ _ _ _ h=>⟨h,by rcases h with⟨_,_,_,_,rfl⟩|⟨_,_,_,_,_,rfl,_⟩<;>rfl⟩⟩
  ·exact tree (.sl es) h
 |int k=>exact tree (.int k) h
 |bool=>exact tree (.bool) h
 |str=>exact tree (.str) h
 |any=>exact tree (.any) h
theorem Ua {cells:List PV}{i:Nat}{p:PV}(h:cells.getD i .top=p)(hp:p ≠ .top):cells[i]?=some p:=by
 rw[List.getD_eq_getElem?_getD] at h;cases hc:cells[i]? with
 |none=>rw[hc] at h;exact absurd h.symm hp
 |some q=>rw[hc] at h;simp at h;rw[h]
theorem Og:∀{ts:List CT}{cells:List PV}{off:Nat}{K:List PV->Option R},Oo ts cells off K=some r ->
  ∃cs,K cs=some r∧cs.length=ts.length∧∀j c,cs[j]?=some c->Py c∧∃p,cells[off+j]?=some p∧Py p ∧
   ∀(w:World) (A:Nat->Prop) (β:Nat->Option (Nat × Nat)) (v:Value),A9 w A β p v->Ap w A c v∧v.oneCell'=true
 |[],_,_,_,h=>⟨[],h,rfl,fun j c hj=>by simp at hj⟩
 |t::ts,cells,off,K,h=>by
  unfold Oo at h;obtain⟨c,h,hc,hp,hv⟩:=Jc h;obtain⟨cs,h,hl,P6⟩:=Og h;refine⟨c::cs,h,by simp[hl],fun j c' hj=>?_⟩
  cases j with
  |zero=>
   simp at hj;subst hj;refine⟨hc,cells.getD off .top,Ua rfl ?_,hp,hv⟩;intro e;rw[e] at hp;exact hp
  |succ j=>
   simp at hj;have:=P6 j c' hj
   rwa [Nat.add_right_comm,Nat.add_assoc] at this
theorem Ob:∀{ts:List CT}{cells:List PV}{off:Nat}{K:List PV->Option R},Li ts cells off K=some r ->
  ∃cs,K cs=some r∧cs.length=ts.length∧(∀c∈cs,(∀x,c ≠ .agg x)∧(∀x,c ≠ .tup x))∧∀j c,cs[j]?=some c->∃p,cells[off+j]?=some p∧Yq p∧(∀id,id∈Ak c->id∈Ak p) ∧
   ∀(w:World) (A:Nat->Prop) (β:Nat->Option (Nat × Nat)) (v:Value),A9 w A β p v->A9 w A β c v∧v.oneCell'=true
 |[],_,_,_,h=>⟨[],h,rfl,by simp,fun j c hj=>by simp at hj⟩
 |t::ts,cells,off,K,h=>by
  unfold Li at h;obtain⟨c,h,hc,hf,hp,ha,ht,hr,hv⟩:=Abu h;obtain⟨cs,h,hl,Tn,P6⟩:=Ob h;refine⟨c::cs,h,by simp[hl],?_,fun j c' hj=>?_⟩
  ·intro x hx;rcases List.mem_cons.1 hx with rfl|hx
   ·exact⟨ha,ht⟩
   ·exact Tn x hx
  ·cases j with
   |zero=>
    simp at hj;subst hj;exact⟨cells.getD off .top,Ua rfl hp,hf,hr,hv⟩
   |succ j=>
    simp at hj;have:=P6 j c' hj
    rwa [Nat.add_right_comm,Nat.add_assoc] at this
theorem AY {agg:Bool}{cells:List PV}{K:PV->Option R}(h:MX agg cells K=some r):
  (agg=true∧K (.agg cells)=some r)∨(agg=false∧∃c,cells=[c]∧K c=some r):=by
 unfold MX at h;cases agg
 ·obtain⟨c,t,rfl,h⟩:=Aq h;obtain⟨rfl,h⟩:=Cb h;exact .inr ⟨rfl,c,rfl,h⟩
 ·exact .inl ⟨rfl,h⟩
end
open Go.RowKit
def B0 (b:Option A2):Prop:=
 match b with
 |some (.st _)=>True
 |some (.ar false _)=>True
 |_=>False
abbrev Bt:=Nat->Option (Nat × Nat)
def CC (hp:Nat->Option A2)(β:Bt)(b:Nat):Prop:=∃id o,B0 (hp id)∧β id=some (b,o)
def B1 (hp:Nat->Option A2)(β:Bt)(Y:Nat->Prop)(b:Nat):Prop:=CC hp β b∨Y b
def M6 (w:World)(A:Nat->Prop)(β:Bt)(id:Nat)(bx:A2):Prop:=
 match bx with
 |.st cells=>∃b o,β id=some (b,o)∧(∀j c,cells[j]?=some c->∃v,w.cell? ⟨b,o+j,none⟩=some v∧A9 w A β c v)∧∀j,j<cells.length->w.frozen? ⟨b,o+j,none⟩=false
 |.ar fz cells=>(β id=none∧cells=[])∨∃b o,β id=some (b,o)∧DH w A ⟨b,o,none⟩ cells∧(fz=false->∀j,o<=j->j<bsz w b->w.frozen? ⟨b,j,none⟩=false)∧(fz=true->¬A b)
 |.mv=>True
structure Fw where
 X:Nat->Prop
 L:Nat->Nat->Prop
 pn:Nat->Prop
 pt:Nat->Option (Nat × Nat)
 p8:∀i,pn i->i<8
def BR (bx:A2)(o j:Nat):Prop:=
 match bx with
 |.st c=>o<=j∧j<o+c.length
 |.ar _ _=>o<=j
 |.mv=>False
structure Fr (X0:Fw) (w0 w:World):Prop where
 os:w.os=w0.os
 tape:w.tape=w0.tape
 output:w.output=w0.output
 step:Bd X0.X w0 w
 rng:∀b j,b<w0.heap.size->¬X0.L b j->w.cell? ⟨b,j,none⟩=w0.cell? ⟨b,j,none⟩∧w.frozen? ⟨b,j,none⟩=w0.frozen? ⟨b,j,none⟩
structure Bs (N:Nat) (w0:World) (X0:Fw) (Y:Nat->Prop) (β:Bt) (s:St) (a:Act) (w:World):Prop where
 dfr:a.defers=[]
 tsz:a.tmps.size=N
 tmo:∀i,N<=i->s.tm i=.top
 tms:∀i,i<N->C4 w (B1 s.hp β Y) β (s.tm i) (a.tmps.getD i undef)
 box:∀id b,s.hp id=some b->M6 w (B1 s.hp β Y) β id b
 inj:∀id id' b o o',B0 (s.hp id)->B0 (s.hp id')->β id=some (b,o)->β id'=some (b,o')->id=id'
 blt:∀id b o,s.hp id≠none->β id=some (b,o)->b<w.heap.size
 wfT:∀i,i<N->∀id∈A8 (s.tm i),s.hp id≠none
 wfB:∀id cells,s.hp id=some (.st cells)->∀c∈cells,∀id'∈Ak c,s.hp id'≠none
 ownd:∀b,CC s.hp β b->X0.X b∨w0.heap.size<=b
 rngB:∀id bx b o,s.hp id=some bx->B0 (some bx)->β id=some (b,o)->b<w0.heap.size->∀j,BR bx o j->X0.L b j
 pin:∀i,X0.pn i->s.hp (B7 N i)≠none∧β (B7 N i)=X0.pt i
 stp:∀id c b o,s.hp id=some (.st c)->β id=some (b,o)->b<w0.heap.size->∃i,id=B7 N i∧X0.pn i
 Yx:∀b,Y b->¬CC s.hp β b
 Ylt:∀b,Y b->b<w0.heap.size
 fr:Fr X0 w0 w
theorem Bw {b:Option A2}(h:B0 b):b≠none:=by rintro rfl;exact h
theorem Ah {α:Type}(f:Nat->α)(i:Nat)(v:α):Bi f i v i=v:=by simp[Bi,Nat.beq_refl]
theorem Ae {α:Type}(f:Nat->α){i j:Nat}(v:α)(h:j≠i):Bi f i v j=f j:=by
 have:Nat.beq j i=false:=by
  cases hb:Nat.beq j i
  ·rfl
  ·exact absurd (Nat.eq_of_beq_eq_true hb) h
 simp[Bi,this]
theorem R0 {α:Type}(f:Nat->α){i:Nat}{v:α}(h:f i=v):Bi f i v=f:=by
 funext j
 by_cases e:j=i
 ·subst e;rw[Ah];exact h.symm
 ·exact Ae f v e
theorem EF {α:Type}(f:Nat->α){i j:Nat}(u v:α)(h:i≠j):Bi (Bi f i u) j v=Bi (Bi f j v) i u:=by
 funext k
 by_cases e:k=j
 ·subst e;rw[Ah,Ae _ _ (Ne.symm h),Ah]
 ·rw[Ae _ _ e];by_cases e':k=i
  ·subst e';rw[Ah,Ah]
  ·rw[Ae _ _ e',Ae _ _ e',Ae _ _ e]
theorem Yn {a:Act}{d:Nat}{v:Value}(h:d<a.tmps.size):(a.put (some d) v).tmps.getD d undef=v:=by
 simp[Act.put,h]
theorem Xc {a:Act}{d i:Nat}{v:Value}(h:i≠d):(a.put (some d) v).tmps.getD i undef=a.tmps.getD i undef:=by
 have h':d≠i:=fun e=>h e.symm
 simp[Act.put,Array.getElem?_setIfInBounds_ne h']
section
variable {N:Nat} {w0:World} {X0:Fw} {Y:Nat->Prop} {β β':Bt} {s:St} {a:Act} {w w':World}
theorem Ru (d:Option Tmp)(v:Value):(a.put d v).tmps.size=a.tmps.size:=by cases d<;>simp[Act.put]
theorem Mv (d:Option Tmp)(v:Value):(a.put d v).defers=a.defers:=by cases d<;>rfl
theorem Mi {d:Option Tmp}(h:Ej N d=true){i:Nat}(e:d=some i):i<N:=by
 subst e;exact Nat.lt_of_succ_le (Nat.le_of_ble_eq_true h)
theorem K7 {Q:Nat->PV->Value->Prop}{tm:Nat->PV}{d:Option Tmp}{v:PV}{val:Value}(hN:a.tmps.size=N)(hd:Ej N d=true)
  (h:∀i,i<N->Q i (tm i) (a.tmps.getD i undef)) (hv:∀i,Q i v val):∀i,i<N->Q i (A1 tm d v i) ((a.put d val).tmps.getD i undef):=by
 intro i hi;cases d with
 |none=>exact h i hi
 |some d=>
  have Bl:=Mi hd rfl;by_cases e:i=d
  ·subst e;show Q i (Bi tm i v i) _;rw[Ah,Yn (by omega)]
   exact hv i
  ·show Q i (Bi tm d v i) _;rw[Ae _ _ e,Xc e];exact h i hi
theorem BW {tm:Nat->PV}{d:Option Tmp}{v:PV}(hd:Ej N d=true)(h:∀i,N<=i->tm i=.top):∀i,N<=i->A1 tm d v i=.top:=by
 intro i hi;cases d with
 |none=>exact h i hi
 |some d=>
  have:=Mi hd rfl;show Bi tm d v i=_;rw[Ae _ _ (by omega)]
  exact h i hi
theorem Bs.put (h:Bs N w0 X0 Y β s a w){d:Option Tmp}{v:PV}{val:Value}(hd:Ej N d=true)(hv:C4 w (B1 s.hp β Y) β v val) (hr:∀id∈A8 v,s.hp id≠none):
  Bs N w0 X0 Y β ⟨A1 s.tm d v,s.hp⟩ (a.put d val) w where
 dfr:=by rw[Mv];exact h.dfr
 tsz:=by rw[Ru];exact h.tsz
 tmo:=BW hd h.tmo
 tms:=K7 (Q:=fun _ p u=>C4 w (B1 s.hp β Y) β p u) h.tsz hd h.tms (fun _=>hv)
 box:=h.box
 inj:=h.inj
 blt:=h.blt
 wfT:=by
  have:=K7 (Q:=fun _ p _=>∀id∈A8 p,s.hp id≠none) (val:=val) h.tsz hd h.wfT (fun _=>hr)
  exact this
 wfB:=h.wfB
 ownd:=h.ownd
 rngB:=h.rngB
 pin:=h.pin
 stp:=h.stp
 Yx:=h.Yx
 Ylt:=h.Ylt
 fr:=h.fr
theorem A6 (hp:Nat->Option A2)(ids:List Nat)(i:Nat):Ac hp ids i=if i∈ids then (hp i).map On else hp i:=by
 unfold Ac;by_cases hi:i∈ids
 ·have:ids.any (Nat.beq i)=true:=List.any_eq_true.2 ⟨i,hi,Nat.beq_refl i⟩;rw[this,if_pos hi];rfl
 ·have:ids.any (Nat.beq i)=false:=by
   cases hb:ids.any (Nat.beq i)
   ·rfl
   ·obtain⟨j,hj,e⟩:=List.any_eq_true.1 hb;exact absurd (Nat.eq_of_beq_eq_true e ▸ hj) hi
  rw[this,if_neg hi];rfl
theorem Cq {hp:Nat->Option A2}{ids:List Nat}{i:Nat}:Ac hp ids i=none↔hp i=none:=by
 rw[A6];split<;>simp
theorem Kr {hp:Nat->Option A2}{ids:List Nat}{i:Nat}(h:B0 (Ac hp ids i)):B0 (hp i):=by
 rw[A6] at h;split at h
 ·cases hb:hp i with
  |none=>rw[hb] at h;exact h
  |some b=>cases b with
   |st c=>trivial
   |ar fz c=>rw[hb] at h;exact h.elim
   |mv=>rw[hb] at h;exact h
 ·exact h
theorem Gp {hp:Nat->Option A2}{ids:List Nat}{i:Nat}{bx:A2}(h:Ac hp ids i=some bx)(hl:B0 (some bx)):hp i=some bx:=by
 rw[A6] at h;split at h
 ·cases hb:hp i with
  |none=>rw[hb] at h;cases h
  |some b=>
   rw[hb] at h;cases b with
   |st c=>exact h
   |ar fz c=>simp only[Option.map_some,On,Option.some.injEq] at h;subst h;exact hl.elim
   |mv=>simp only[Option.map_some,On,Option.some.injEq] at h;subst h;exact hl.elim
 ·exact h
theorem L9 {hp:Nat->Option A2}{ids:List Nat}{b:Nat}(h:CC (Ac hp ids) β b):CC hp β b:=by
 obtain⟨id,o,hl,hb⟩:=h;exact⟨id,o,Kr hl,hb⟩
theorem M6.step' {A A':Nat->Prop}{id:Nat}{bx:A2}(hA:∀b,A' b->A b)(h:M6 w A β id bx):M6 w A' β id bx:=by
 have hs:=Bd.refl A w;cases bx with
 |st c=>
  obtain⟨b,o,h1,h2,h3⟩:=h;exact⟨b,o,h1,fun j c hj=>let ⟨v,hv,hc⟩:=h2 j c hj;⟨v,hv,hc.step hs (fun b _=>hA b) (fun _ _=>rfl)⟩,h3⟩
 |ar fz c=>
  rcases h with h|⟨b,o,h1,h2,h3,h4⟩
  ·exact .inl h
  ·exact .inr ⟨b,o,h1,h2.weak (fun b _=>hA b),h3,fun e x=>h4 e (hA b x)⟩
 |mv=>trivial
theorem Bs.freeze (h:Bs N w0 X0 Y β s a w){fz:List Nat}(Nk:∀id∈fz,∃f c,s.hp id=some (.ar f c)):Bs N w0 X0 Y β ⟨s.tm,Ac s.hp fz⟩ a w:=by
 have hA:∀b,B1 (Ac s.hp fz) β Y b->B1 s.hp β Y b:=fun b hb=>hb.imp L9 id
 refine⟨h.dfr,h.tsz,h.tmo,fun i hi=>(h.tms i hi).step (Bd.refl _ _) (fun b _=>hA b) (fun _ _=>rfl),fun id b hb=>?_,fun id id' b o o' h1 h2=>h.inj id id' b o o' (Kr h1) (Kr h2),
  fun id b o hn=>h.blt id b o (fun e=>hn (Cq.2 e)),fun i hi id Ay e=>h.wfT i hi id Ay (Cq.1 e),fun id cells hc c HC id' Ay e=>?_,fun b hb=>h.ownd b (L9 hb),
  fun id bx b o hb hl=>h.rngB id bx b o (Gp hb hl) hl,fun i hi=>⟨fun e=>(h.pin i hi).1 (Cq.1 e),(h.pin i hi).2⟩,fun id c b o hc=>h.stp id c b o (Gp hc trivial),fun b hb x=>h.Yx b hb (L9 x),h.Ylt,h.fr⟩
 ·simp only at hb;rw[A6] at hb;split at hb
  ·rename_i hm;obtain⟨f,c,hc⟩:=Nk id hm;rw[hc] at hb;simp only[Option.map_some,On,Option.some.injEq] at hb;subst hb;have I1:=h.box id _ hc;rcases I1 with I1|⟨b,o,h1,h2,h3,h4⟩
   ·exact .inl I1
   ·refine .inr ⟨b,o,h1,h2.weak (fun b _=>hA b),(fun e=>by cases e),fun _ hb=>?_⟩
    rcases hb with⟨id',o',hl,hb⟩|hY
    ·have VC:=Kr hl;cases f with
     |true=>exact h4 rfl (.inl ⟨id',o',VC,hb⟩)
     |false=>
      have e:=h.inj id' id b o' o VC (by rw[hc];trivial) hb h1
      subst e;simp only at hl;rw[A6,if_pos hm,hc] at hl;exact hl
    ·cases f with
     |true=>exact h4 rfl (.inr hY)
     |false=>exact h.Yx b hY ⟨id,o,by rw[hc];trivial,h1⟩
  ·exact (h.box id b hb).step' hA
 ·simp only at hc;rw[A6] at hc;refine h.wfB id cells ?_ c HC id' Ay (Cq.1 e);split at hc
  ·rename_i hm;obtain⟨f,c,Mr⟩:=Nk id hm;rw[Mr] at hc;cases hc
  ·exact hc
theorem Ax:∀{nw:List (Nat × A2)} {hp:Nat->Option A2},A3 hp nw=true ->
  (∀id bx,(id,bx)∈nw->hp id=none)∧(∀id bx bx',(id,bx)∈nw->(id,bx')∈nw->bx=bx')
 |[],_,_=>⟨by simp,by simp⟩
 |(i,b)::r,hp,h=>by
  simp only[A3,Bool.and_eq_true,Option.isNone_iff_eq_none,Bool.not_eq_true'] at h;obtain⟨⟨h1,h2⟩,h3⟩:=h;obtain⟨h4,h5⟩:=Ax h3
  have H7:∀bx,(i,bx) ∉ r:=by
   intro bx hm;have:r.any (fun q=>Nat.beq q.1 i)=true:=List.any_eq_true.2 ⟨_,hm,Nat.beq_refl i⟩
   rw[this] at h2;cases h2
  refine⟨fun id bx hm=>?_,fun id bx bx' hm Je=>?_⟩
  ·rcases List.mem_cons.1 hm with e|hm
   ·cases e;exact h1
   ·exact h4 id bx hm
  ·rcases List.mem_cons.1 hm with e|hm
   ·cases e;rcases List.mem_cons.1 Je with e|Je
    ·cases e;rfl
    ·exact absurd Je (H7 _)
   ·rcases List.mem_cons.1 Je with e|Je
    ·cases e;exact absurd hm (H7 _)
    ·exact h5 id bx bx' hm Je
theorem C1:∀{nw:List (Nat × A2)} {hp:Nat->Option A2},(∀id bx bx',(id,bx)∈nw->(id,bx')∈nw->bx=bx') ->
  (∀id bx,(id,bx)∈nw->Al hp nw id=some bx)∧(∀id,(∀bx,(id,bx) ∉ nw)->Al hp nw id=hp id)
 |[],_,_=>⟨by simp,fun _ _=>rfl⟩
 |(i,b)::r,hp,h=>by
  obtain⟨h1,h2⟩:=C1 (nw:=r) (hp:=Bi hp i (some b)) (fun id bx bx' hm Je=>h id bx bx' (by simp[hm]) (by simp[Je]))
  refine⟨fun id bx hm=>?_,fun id hn=>?_⟩
  ·by_cases hr:∃bx',(id,bx')∈r
   ·obtain⟨bx',hr⟩:=hr;have:=h id bx bx' hm (by simp[hr])
    subst this;exact h1 id bx hr
   ·rcases List.mem_cons.1 hm with e|hm
    ·cases e;show Al (Bi hp i (some b)) r i=_;rw[h2 i (fun bx' hb=>hr ⟨bx',hb⟩),Ah]
    ·exact absurd ⟨bx,hm⟩ hr
  ·show Al (Bi hp i (some b)) r id=_;rw[h2 id (fun bx hb=>hn bx (by simp[hb])),Ae]
   rintro rfl
   exact hn b (by simp)
structure Y3 (Y:Nat->Prop) (β:Bt) (s:St) (w:World) (v:PV) (nw:List (Nat × A2)) (val:Value) (w':World) (β':Bt):Prop where
 os:w'.os=w.os
 tape:w'.tape=w.tape
 output:w'.output=w.output
 ext:Bd (fun _=>False) w w'
 old:∀id,s.hp id≠none->β' id=β id
 nlive:∀id bx,(id,bx)∈nw->B0 (some bx)
 nbox:∀id bx,(id,bx)∈nw->M6 w' (B1 (Al s.hp nw) β' Y) β' id bx
 nblk:∀id bx b o,(id,bx)∈nw->β' id=some (b,o)->w.heap.size<=b∧b<w'.heap.size
 ninj:∀id bx id' bx' b o o',(id,bx)∈nw->(id',bx')∈nw->β' id=some (b,o)->β' id'=some (b,o')->id=id'
 nwf:∀id cells,(id,.st cells)∈nw->∀c∈cells,∀id'∈Ak c,s.hp id'≠none∨∃bx,(id',bx)∈nw
 val:C4 w' (B1 (Al s.hp nw) β' Y) β' v val
 vwf:∀id∈A8 v,s.hp id≠none∨∃bx,(id,bx)∈nw
theorem Bs.stepR (h:Bs N w0 X0 Y β s a w){d:Option Tmp}{v:PV}{nw:List (Nat × A2)} {val:Value}(hd:Ej N d=true)(Lm:A3 s.hp nw=true)
  (st:Y3 Y β s w v nw val w' β'):Bs N w0 X0 Y β' ⟨A1 s.tm d v,Al s.hp nw⟩ (a.put d val) w':=by
 obtain⟨YW,ha2⟩:=Ax Lm;obtain⟨XK,hg2⟩:=C1 (hp:=s.hp) ha2
 have Fe:∀id,(∃bx,(id,bx)∈nw)∨Al s.hp nw id=s.hp id:=fun id=>by
  by_cases hx:∃bx,(id,bx)∈nw
  ·exact .inl hx
  ·exact .inr (hg2 id fun bx hb=>hx ⟨bx,hb⟩)
 have Al1:∀id,s.hp id≠none->Al s.hp nw id=s.hp id:=fun id hn=>by
  rcases Fe id with⟨bx,hx⟩|e
  ·exact absurd (YW id bx hx) hn
  ·exact e
 have Es:∀id,(s.hp id≠none∨∃bx,(id,bx)∈nw)->Al s.hp nw id≠none:=by
  rintro id (hn|⟨bx,hx⟩)
  ·rw[Al1 id hn];exact hn
  ·rw[XK id bx hx];simp
 have Ady:∀b,b<w.heap.size->CC (Al s.hp nw) β' b->CC s.hp β b:=by
  rintro b hb ⟨id,o,hl,hβ⟩
  rcases Fe id with⟨bx,hx⟩|e
  ·have:=(st.nblk id bx b o hx hβ).1;omega
  ·rw[e] at hl;exact⟨id,o,hl,by rw[←st.old id (Bw hl)];exact hβ⟩
 have MY:∀b,b<w.heap.size->B1 (Al s.hp nw) β' Y b->B1 s.hp β Y b:=fun b hb hA=>hA.imp (Ady b hb) id
 have VP:Bd (B1 s.hp β Y) w w':=st.ext.weaken (fun _ _ x=>x.elim)
 refine⟨by rw[Mv];exact h.dfr,by rw[Ru];exact h.tsz,BW hd h.tmo,?_,?_,?_,?_,?_,?_,?_,?_,?_,?_,?_,h.Ylt,?_⟩
 ·refine K7 (Q:=fun _ p u=>C4 w' (B1 (Al s.hp nw) β' Y) β' p u) h.tsz hd (fun i hi=>?_) (fun _=>st.val)
  exact (h.tms i hi).step VP MY fun id Ay=>st.old id (h.wfT i hi id Ay)
 ·intro id b hb;simp only at hb;rcases Fe id with⟨bx,hx⟩|e
  ·rw[XK id bx hx] at hb;cases hb;exact st.nbox id _ hx
  ·rw[e] at hb;have hβ:=st.old id (by rw[hb];simp)
   have I1:=h.box id b hb;have Bl:=h.blt id;have H7:s.hp id≠none:=by rw[hb];simp
   cases b with
   |st c=>
    obtain⟨b,o,h1,h2,h3⟩:=I1;have Fs:=Bl b o H7 h1;have Sk:=st.ext.keep b Fs (fun x=>x)
    refine⟨b,o,by rw[hβ];exact h1,fun j c hj=>?_,fun j hj=>?_⟩
    ·obtain⟨v,hv,hc⟩:=h2 j c hj;refine⟨v,by rw[World.cell?_of_block (w:=w) Sk];exact hv,hc.step VP MY fun id' Ay=>st.old id' ?_⟩
     exact h.wfB id _ hb c (List.mem_of_getElem? hj) id' Ay
    ·rw[World.frozen?_of_block (w:=w) Sk];exact h3 j hj
   |ar fz c=>
    rcases I1 with⟨h1,h2⟩|⟨b,o,h1,h2,h3,h4⟩
    ·exact .inl ⟨by rw[hβ];exact h1,h2⟩
    ·have Fs:=Bl b o H7 h1;have Sk:=st.ext.keep b Fs (fun x=>x)
     have Yb:bsz w' b=bsz w b:=by unfold bsz;rw[Sk]
     refine .inr ⟨b,o,by rw[hβ];exact h1,fun j c hj=>?_,fun e j hj Kk=>?_,fun e x=>h4 e (MY b Fs x)⟩
     ·obtain⟨v,hv,h5,hc⟩:=h2 j c hj;exact⟨v,by rw[World.cell?_of_block (w:=w) (by rw[Ec];exact Sk)];exact hv,h5,hc.step VP MY⟩
     ·rw[World.frozen?_of_block (w:=w) Sk];exact h3 e j hj (by rw[←Yb];exact Kk)
   |mv=>trivial
 ·intro id id' b o o' hl G9 hb Fs;simp only at hl G9;rcases Fe id with⟨bx,hx⟩|e
  ·rcases Fe id' with⟨bx',Wh⟩|e'
   ·exact st.ninj id bx id' bx' b o o' hx Wh hb Fs
   ·rw[e'] at G9;have h1:=(st.nblk id bx b o hx hb).1;have h2:=h.blt id' b o' (Bw G9) (by rw[←st.old id' (Bw G9)];exact Fs)
    omega
  ·rw[e] at hl;rcases Fe id' with⟨bx',Wh⟩|e'
   ·have h1:=(st.nblk id' bx' b o' Wh Fs).1;have h2:=h.blt id b o (Bw hl) (by rw[←st.old id (Bw hl)];exact hb)
    omega
   ·rw[e'] at G9;exact h.inj id id' b o o' hl G9 (by rw[←st.old id (Bw hl)];exact hb) (by rw[←st.old id' (Bw G9)];exact Fs)
 ·intro id b o hn hb;simp only at hn;rcases Fe id with⟨bx,hx⟩|e
  ·exact (st.nblk id bx b o hx hb).2
  ·rw[e] at hn;exact Nat.lt_of_lt_of_le (h.blt id b o hn (by rw[←st.old id hn];exact hb)) st.ext.size
 ·have:=K7 (Q:=fun _ p _=>∀id∈A8 p,Al s.hp nw id≠none) (val:=val) (d:=d) (v:=v) h.tsz hd (fun i hi id Ay=>Es id (.inl (h.wfT i hi id Ay))) (fun _ id Ay=>Es id (st.vwf id Ay))
  exact this
 ·intro id cells hc c HC id' Ay;simp only at hc;rcases Fe id with⟨bx,hx⟩|e
  ·rw[XK id bx hx] at hc;cases hc;exact Es id' (st.nwf id _ hx c HC id' Ay)
  ·rw[e] at hc;exact Es id' (.inl (h.wfB id cells hc c HC id' Ay))
 ·rintro b ⟨id,o,hl,hb⟩
  simp only at hl;rcases Fe id with⟨bx,hx⟩|e
  ·exact .inr (Nat.le_trans h.fr.step.size (st.nblk id bx b o hx hb).1)
  ·rw[e] at hl;exact h.ownd b ⟨id,o,hl,by rw[←st.old id (Bw hl)];exact hb⟩
 ·intro id bx b o hb hl hβ Bl;simp only at hb;rcases Fe id with⟨bx',hx⟩|e
  ·have:=(st.nblk id bx' b o hx hβ).1;have:=h.fr.step.size;omega
  ·rw[e] at hb;exact h.rngB id bx b o hb hl (by rw[←st.old id (by rw[hb];simp)];exact hβ) Bl
 ·intro i hi;obtain⟨h1,h2⟩:=h.pin i hi;exact⟨Es _ (.inl h1),by rw[st.old _ h1];exact h2⟩
 ·intro id c b o hb hβ Bl;simp only at hb;rcases Fe id with⟨bx',hx⟩|e
  ·have:=(st.nblk id bx' b o hx hβ).1;have:=h.fr.step.size;omega
  ·rw[e] at hb;exact h.stp id c b o hb (by rw[←st.old id (by rw[hb];simp)];exact hβ) Bl
 ·rintro b hY hX
  have hb:b<w.heap.size:=Nat.lt_of_lt_of_le (h.Ylt b hY) h.fr.step.size;exact h.Yx b hY (Ady b hb hX)
 ·refine⟨st.os.trans h.fr.os,st.tape.trans h.fr.tape,st.output.trans h.fr.output,h.fr.step.trans st.ext (fun _ _ x=>x.elim),fun b j hb hL=>?_⟩
  have Sk:=st.ext.keep b (Nat.lt_of_lt_of_le hb h.fr.step.size) (fun x=>x)
  have hc:w'.cell? ⟨b,j,none⟩=w.cell? ⟨b,j,none⟩:=World.cell?_of_block (w:=w) Sk;have hf:w'.frozen? ⟨b,j,none⟩=w.frozen? ⟨b,j,none⟩:=World.frozen?_of_block (w:=w) Sk;rw[hc,hf];exact h.fr.rng b j hb hL
end
open Go.RowKit
section
variable {P:Program} {N:Nat} {w0:World} {X0:Fw} {Y:Nat->Prop} {β β':Bt} {s:St} {a:Act} {w w':World} {o:Oper}
theorem EN (cs:List Value)(A:Nat->Prop):Av (A9 w A β) (cs.map PV.sc) cs:=by
 induction cs with
 |nil=>trivial
 |cons v r ih=>exact⟨Ap.sc v,ih⟩
theorem JM (cs:List Value):(cs.map PV.sc).flatMap Ak=[]:=by
 induction cs with
 |nil=>rfl
 |cons v r ih=>exact ih
theorem Bx (h:Bs N w0 X0 Y β s a w)(x:Operand):C4 w (B1 s.hp β Y) β (Bb s.tm x) (a.eval x):=by
 cases x with
 |tmp t=>
  show C4 _ _ _ (s.tm t) (a.tmps.getD t undef);by_cases ht:t<N
  ·exact h.tms t ht
  ·rw[h.tmo t (Nat.le_of_not_lt ht)];exact Ap.top _
 |const v=>
  cases v with
  |agg cs=>exact⟨cs.toList,by simp[Act.eval],EN cs.toList _⟩
  |_=>exact Ap.sc _
 |func f=>exact Ap.sc _
 |global g=>exact Ap.sc _
theorem Df (h:Bs N w0 X0 Y β s a w)(x:Operand):∀id∈A8 (Bb s.tm x),s.hp id≠none:=by
 cases x with
 |tmp t=>
  show ∀id∈A8 (s.tm t),_;by_cases ht:t<N
  ·exact h.wfT t ht
  ·rw[h.tmo t (Nat.le_of_not_lt ht)];intro id Ay;cases Ay
 |const v=>
  cases v with
  |agg cs=>
   intro id Ay;have:A8 (.agg (cs.toList.map .sc))=[]:=JM cs.toList;simp only[Bb] at Ay;rw[this] at Ay;cases Ay
  |_=>intro id Ay;cases Ay
 |func f=>intro id Ay;cases Ay
 |global g=>intro id Ay;cases Ay
theorem Ty {A:Nat->Prop}{v u:Value}(h:C4 w A β (.sc v) u):u=v:=Ap.val h
theorem Bk (h:Bs N w0 X0 Y β s a w){x:Operand}{v:Value}(e:Bb s.tm x=.sc v):a.eval x=v:=by
 have:=Bx h x;rw[e] at this;exact Ty this
def C2 (P:Program)(a:Act)(w:World)(o:Oper)(Y:Nat->Prop)(β:Bt)(s:St)(v:PV)(fz:List Nat)(nw:List (Nat × A2)):Prop:=
 (∀id∈fz,∃f c,s.hp id=some (.ar f c))∧∃val w',(execOp a.eval o).run P w=.ok (.value val) w'∧(A3 s.hp nw=true->∃β',Y3 Y β ⟨s.tm,Ac s.hp fz⟩ w v nw val w' β')
theorem KR {v:PV}{val:Value}(hv:C4 w (B1 s.hp β Y) β v val) (hr:∀id∈A8 v,s.hp id≠none):Y3 Y β s w v [] val w β:=
 ⟨rfl,rfl,rfl,Bd.refl _ _,fun _ _=>rfl,by simp,by simp,by simp,by simp,by simp,hv,fun id Ay=>.inl (hr id Ay)⟩
theorem Bc {v:PV}{val:Value}(Bn:(execOp a.eval o).run P w=.ok (.value val) w) (hv:C4 w (B1 s.hp β Y) β v val) (hr:∀id∈A8 v,s.hp id≠none):C2 P a w o Y β s v [] []:=
 ⟨by simp,val,w,Bn,fun _=>⟨β,KR (s:=⟨s.tm,Ac s.hp []⟩) hv hr⟩⟩
theorem Bq {v:Value}(Bn:(execOp a.eval o).run P w=.ok (.value v) w):C2 P a w o Y β s (.sc v) [] []:=Bc Bn (Ap.sc v) (by intro id Ay;cases Ay)
structure Dr (w w':World) (c:Array Value) (e:TypeId):Prop where
 os:w'.os=w.os
 tape:w'.tape=w.tape
 output:w'.output=w.output
 old:∀b,b<w.heap.size->w'.heap[b]?=w.heap[b]?
 size:w'.heap.size=w.heap.size+1
 new:∃fz:Nat × Nat,w'.heap[w.heap.size]?=some (.cells c e fz)∧(fz.1=fz.2∨c.size<=fz.1)
theorem Dr.alloc (w:World)(c:Array Value)(e:TypeId):Dr w (w.alloc (.cells c e)) c e:=
 ⟨rfl,rfl,rfl,fun b hb=>Below.heap_alloc w _ b hb,by show (w.heap.push _).size=_;simp,(0,0),by show (w.heap.push _)[w.heap.size]?=_;simp,.inl rfl⟩
theorem Dr.drew {c:Array Value}{e:TypeId}(h:Dr w w' c e):Dr w w'.drew c e:=⟨h.os,h.tape,h.output,h.old,h.size,h.new⟩
section
variable {c:Array Value} {e:TypeId}
theorem Dr.step (h:Dr w w' c e):Bd (fun _=>False) w w':=
 ⟨by rw[h.size];omega,fun b hb _=>h.old b hb,fun b hb=>Gt.same (h.old b hb)⟩
theorem Dr.cell (h:Dr w w' c e)(j:Nat):w'.cell? ⟨w.heap.size,j,none⟩=c[j]?:=by
 obtain⟨fz,hn,_⟩:=h.new;simp[World.cell?,hn]
theorem Dr.frozen (h:Dr w w' c e){j:Nat}(hj:j<c.size):w'.frozen? ⟨w.heap.size,j,none⟩=false:=by
 obtain⟨fz,hn,hf⟩:=h.new;simp only[World.frozen?,hn];rcases hf with hf|hf<;>simp<;>omega
theorem Hs (w:World)(c:Array Value)(e:TypeId):EI (w.alloc (.cells c e)) w.heap.size=false:=by
 unfold EI World.frozen?;have:(w.alloc (.cells c e)).heap[w.heap.size]?=some (.cells c e (0,0)):=by show (w.heap.push _)[w.heap.size]?=_;simp
 simp only[this];simp
theorem Dr.bsz (h:Dr w w' c e):bsz w' w.heap.size=c.size:=by
 obtain⟨fz,hn,_⟩:=h.new;simp[Pv.bsz,hn]
end
theorem Lr {c:Array Value}{e:TypeId}{d:Nat}{bx:A2}{v:PV}{val:Value}(hg:Dr w w' c e)(hd:s.hp d=none)(hl:B0 (some bx))
  (I1:M6 w' (B1 (Bi s.hp d (some bx)) (Bi β d (some (w.heap.size,0))) Y) (Bi β d (some (w.heap.size,0))) d bx)
  (hcw:∀cells,bx=.st cells->∀x∈cells,∀id'∈Ak x,s.hp id'≠none)
  (hv:C4 w' (B1 (Bi s.hp d (some bx)) (Bi β d (some (w.heap.size,0))) Y) (Bi β d (some (w.heap.size,0))) v val)
  (hvr:∀id∈A8 v,s.hp id≠none∨id=d):Y3 Y β s w v [(d,bx)] val w' (Bi β d (some (w.heap.size,0))) where
 os:=hg.os
 tape:=hg.tape
 output:=hg.output
 ext:=hg.step
 old:=fun id hn=>Ae _ _ (by rintro rfl;exact hn hd)
 nlive:=by intro id b hm;simp at hm;obtain⟨rfl,rfl⟩:=hm;exact hl
 nbox:=by intro id b hm;simp at hm;obtain⟨rfl,rfl⟩:=hm;exact I1
 nblk:=by
  intro id b x y hm hb;simp at hm;obtain⟨rfl,rfl⟩:=hm;rw[Ah] at hb;simp at hb;have:=hg.size;omega
 ninj:=by intro id b id' b' x y z hm Je _ _;simp at hm Je;rw[hm.1,Je.1]
 nwf:=by intro id cells hm x hx id' Ay;simp at hm;exact .inl (hcw cells hm.2.symm x hx id' Ay)
 val:=hv
 vwf:=by
  intro id Ay;rcases hvr id Ay with h|rfl
  ·exact .inl h
  ·exact .inr ⟨bx,by simp⟩
theorem MC {c:Array Value}{e:TypeId}(hg:Dr w w' c e){A A':Nat->Prop}(hA:∀b,b<w.heap.size->A' b->A b){cells:List PV}
  (h:∀(j:Nat) p,cells[j]?=some p->∃v,c[j]?=some v∧v.oneCell'=true∧Ap w A p v):DH w' A' ⟨w.heap.size,0,none⟩ cells:=by
 intro j p hj;obtain⟨v,hv,h1,ht⟩:=h j p hj;exact⟨v,by rw[Cf,Nat.zero_add,hg.cell];exact hv,h1,ht.step (hg.step.weaken (fun _ _ x=>x.elim)) hA⟩
theorem MH {d:Nat}{bx:A2}(hwf:s.hp d=none):∀b,b<w.heap.size->B1 (Bi s.hp d (some bx)) (Bi β d (some (w.heap.size,0))) Y b->B1 s.hp β Y b:=by
 intro b hb hA;rcases hA with⟨id,o,hl,hβ⟩|hY
 ·by_cases e:id=d
  ·subst e;rw[Ah] at hβ;simp at hβ;omega
  ·rw[Ae _ _ e] at hl hβ;exact .inl ⟨id,o,hl,hβ⟩
 ·exact .inr hY
theorem Ma {c:Array Value}{e:TypeId}{d:Nat}{cells:List PV}{fz:List Nat}{v:PV}{val:Value}
  (Nk:∀id∈fz,∃f c,s.hp id=some (.ar f c))
  (Bn:(execOp a.eval o).run P w=.ok (.value val) w') (hg:Dr w w' c e)
  (hc:∀(j:Nat) p,cells[j]?=some p->∃u,c[j]?=some u∧u.oneCell'=true∧Ap w (B1 (Ac s.hp fz) β Y) p u)
  (hv:(v=.ptr d 0∧val=.pointer (some ⟨w.heap.size,0,none⟩))∨∃es n cap,v=.view d es 0 n∧val=.slice (some ⟨w.heap.size,0,none⟩) n cap∧n<=cap∧cap*es<=c.size∧(es=1∨EI w' w.heap.size=false)):
  C2 P a w o Y β s v fz [(d,.ar false cells)]:=by
 refine⟨Nk,val,w',Bn,fun Lm=>⟨Bi β d (some (w.heap.size,0)),?_⟩⟩
 have hd:s.hp d=none:=(Ax Lm).1 d (.ar false cells) (by simp)
 have hd':Ac s.hp fz d=none:=Cq.2 hd;refine Lr (s:=⟨s.tm,Ac s.hp fz⟩) hg hd' trivial ?_ (fun cells hx=>by cases hx) ?_ ?_
 ·refine .inr ⟨w.heap.size,0,Ah _ _ _,?_,fun _ j _ hj=>?_,(fun x=>by cases x)⟩
  ·exact MC hg (MH (s:=⟨s.tm,Ac s.hp fz⟩) hd') hc
  ·rw[hg.bsz] at hj;exact hg.frozen hj
 ·rcases hv with⟨rfl,rfl⟩|⟨es,n,cap,rfl,rfl,hn,Ps,Amy⟩
  ·exact⟨w.heap.size,0,Ah _ _ _,rfl⟩
  ·exact .inr ⟨w.heap.size,0,0,cap,Ah _ _ _,rfl,.inl rfl,hn,⟨by rw[hg.bsz];omega,Amy⟩,by rw[hg.size];omega⟩
 ·intro id Ay;rcases hv with⟨rfl,_⟩|⟨es,n,cap,rfl,_⟩<;>(simp[A8,Bh,Ak] at Ay;exact .inr Ay)
theorem AK {c:Array Value}{e:TypeId}{d:Nat}{cells:List PV}
  (Bn:(execOp a.eval o).run P w=.ok (.value (.pointer (some ⟨w.heap.size,0,none⟩))) w') (hg:Dr w w' c e)
  (hc:∀(j:Nat) p,cells[j]?=some p->∃u,c[j]?=some u∧A9 w (B1 s.hp β Y) β p u) (hr:∀x∈cells,∀id∈Ak x,s.hp id≠none):
  C2 P a w o Y β s (.ptr d 0) [] [(d,.st cells)]:=by
 refine⟨by simp,_,w',Bn,fun Lm=>⟨Bi β d (some (w.heap.size,0)),?_⟩⟩
 have hd:s.hp d=none:=(Ax Lm).1 d (.st cells) (by simp)
 refine Lr (s:=⟨s.tm,Ac s.hp []⟩) hg hd trivial ?_ (fun cs hx x QL id Ay=>?_) ?_ ?_
 ·refine⟨w.heap.size,0,Ah _ _ _,fun j p hj=>?_,fun j hj=>?_⟩
  ·obtain⟨u,hu,hp⟩:=hc j p hj;refine⟨u,by rw[Nat.zero_add,hg.cell];exact hu,hp.step (hg.step.weaken (fun _ _ x=>x.elim)) (MH (s:=⟨s.tm,Ac s.hp []⟩) hd) fun id Ay=>Ae _ _ ?_⟩
   rintro rfl
   exact hr p (List.mem_of_getElem? hj) id Ay hd
  ·rw[Nat.zero_add];obtain⟨u,hu,_⟩:=hc j _ (List.getElem?_eq_getElem hj)
   exact hg.frozen (by
    rcases Nat.lt_or_ge j c.size with h|h
    ·exact h
    ·rw[Array.getElem?_eq_none h] at hu;cases hu)
 ·injection hx with hx;subst hx;exact hr x QL id Ay
 ·exact⟨w.heap.size,0,Ah _ _ _,rfl⟩
 ·intro id Ay;simp[A8,Bh,Ak] at Ay;exact .inr Ay
end
open Go.RowKit
section
variable {R:Type} {r:R} {P:Program} {N:Nat} {w0:World} {X0:Fw} {Y:Nat->Prop} {β β':Bt} {s:St} {a:Act} {w w':World} {o:Oper}
theorem Hu {t:TypeId}{n:Nat}(h:(P.info? t).map (·.size)=some n) (w:World):(sizeOf t).run P w=.ok n w:=by
 cases hi:P.info? t with
 |none=>rw[hi] at h;cases h
 |some i=>rw[hi] at h;simp at h;simp[sizeOf,typeInfo,hi,h]
theorem SU {t:TypeId}{n:Nat}(h:As P t=n)(hn:0<n):(P.info? t).map (·.size)=some n:=by
 unfold As at h;cases hi:(P.info? t).map (·.size) with
 |none=>rw[hi] at h;simp at h;omega
 |some i=>rw[hi] at h;simp at h;rw[h]
theorem Js {t:TypeId}{d:TypeDesc}(h:P.underlying t=some d)(w:World):(isAgg t).run P w=.ok (Ba P t) w:=by
 unfold isAgg Ba;rw[h];simp only[Sem.run_bind,run_underlying h,Result.andThen_ok];cases d<;>rfl
theorem YO {t:TypeId}{v:Value}{K:PV->Option R}(h:cvK P t v K=some r):∃p,K p=some r∧A8 p=[]∧∀(w:World)(A:Nat->Prop)(β:Bt),C4 w A β p v:=by
 have sc:∀v:Value,K (.sc v)=some r->∃p,K p=some r∧A8 p=[]∧∀(w:World) (A:Nat->Prop) (β:Bt),C4 w A β p v:=fun v h=>⟨_,h,rfl,fun w A β=>Ap.sc v⟩
 unfold cvK at h;split at h
 ·rename_i cs;obtain⟨hl,h⟩:=Ag h;obtain⟨xs,h,hxl,hx⟩:=Og h;have hl:=Nat.eq_of_beq_eq_true hl;refine⟨_,h,?_,fun w A β=>⟨cs.toList,by simp,?_⟩⟩
  ·show xs.flatMap Ak=[];rw[List.flatMap_eq_nil_iff];intro c hc;obtain⟨j,hj⟩:=List.mem_iff_getElem?.1 hc;exact Fl (hx j c hj).1
  ·refine Av.of_at (by rw[hxl,hl]) fun i c u hc hu=>?_
   obtain⟨hT,p,hp,_,S0⟩:=hx i c hc;refine (Ib hT).2 (S0 w A β u ?_).1;rw[Nat.zero_add,List.getElem?_map,hu] at hp;simp at hp;subst hp;exact Ap.sc u
 ·split at h
  ·exact⟨_,h,rfl,fun w A β=>Ap.lnil true _⟩
  ·cases h
 ·exact sc _ h
theorem R8 (h:Bs N w0 X0 Y β s a w){x:Operand}(Bn:(execOp a.eval o).run P w=.ok (.value (a.eval x)) w) {K:PV->Option R}(hk:Ta P o.type s.tm x K=some r):
  ∃v,K v=some r∧C2 P a w o Y β s v [] []:=by
 have dflt:K (Bb s.tm x)=some r->∃v,K v=some r∧C2 P a w o Y β s v [] []:=fun hk=>⟨_,hk,Bc Bn (Bx h x) (Df h x)⟩
 cases x with
 |const v=>
  obtain⟨p,hk,hr,hv⟩:=YO hk;exact⟨p,hk,Bc Bn (hv _ _ _) (by rw[hr];simp)⟩
 |tmp t=>exact dflt hk
 |func f=>exact dflt hk
 |global g=>exact dflt hk
theorem QP {x:Operand}(ho:o.op=.move x):(execOp a.eval o).run P w=.ok (.value (a.eval x)) w:=by unfold execOp;rw[ho];rfl
theorem DM {x:Operand}(ho:o.op=.assign x):(execOp a.eval o).run P w=.ok (.value (a.eval x)) w:=by unfold execOp;rw[ho];rfl
theorem HZ (h:Bs N w0 X0 Y β s a w){c x y:Operand}(ho:o.op=.pick c x y){K:PV->Option R}(hk:(A0 (Bb s.tm c) fun t=>Bu t (K (Bb s.tm x)) (K (Bb s.tm y)))=some r):
  ∃v,K v=some r∧C2 P a w o Y β s v [] []:=by
 obtain⟨b,hb,hk⟩:=Ci hk;have hc:=Bk h hb;rcases Jd hk with⟨rfl,hk⟩|⟨rfl,hk⟩
 ·exact⟨_,hk,Bc (by unfold execOp;rw[ho];simp[asBool,hc]) (Bx h x) (Df h x)⟩
 ·exact⟨_,hk,Bc (by unfold execOp;rw[ho];simp[asBool,hc]) (Bx h y) (Df h y)⟩
theorem Kv {t:TypeId}{K:List PV->Option R}(h:Fb P t K=some r):∃(v:Value)(cs:List PV),K cs=some r∧Qs P t=some v∧cs.length=(Fz P t).length∧cs.length=v.cells.toList.length∧cs.length=As P t ∧
  ∀(j:Nat) c,cs[j]?=some c->Py c∧∃u,v.cells.toList[j]?=some u∧u.oneCell'=true∧∀(w:World) (A:Nat->Prop),Ap w A c u:=by
 unfold Fb at h;obtain⟨v,hz,h⟩:=Bp h;obtain⟨hl,h⟩:=Ag h;obtain⟨cs,h,Lc,hc⟩:=Og h;simp only[Bool.and_eq_true] at hl;have Xp:=Nat.eq_of_beq_eq_true hl.1
 have DD:(Fz P t).length=As P t:=by
  have:=hl.2;simp only[Gi,Bool.and_eq_true] at this;exact Nat.eq_of_beq_eq_true this.2
 refine⟨v,cs,h,hz,Lc,by rw[Lc,Xp],by rw[Lc,DD],fun j c hj=>?_⟩
 obtain⟨hT,p,hp,_,S0⟩:=hc j c hj;rw[Nat.zero_add,List.getElem?_map] at hp;cases hu:v.cells.toList[j]? with
 |none=>rw[hu] at hp;cases hp
 |some u=>
  rw[hu] at hp;simp at hp;subst hp;exact⟨hT,u,rfl,(S0 default (fun _=>False) (fun _=>none) u (Ap.sc u)).2,fun w A=>(S0 w A (fun _=>none) u (Ap.sc u)).1⟩
theorem P5 {t:TypeId}{v:Value}(h:Qs P t=some v)(w:World):(zeroValue t).run P w=.ok v w:=by
 unfold Qs at h;cases hi:P.info? t with
 |none=>rw[hi] at h;cases h
 |some i=>rw[hi] at h;simp at h;simp[zeroValue,typeInfo,hi,h]
theorem EP {t:TypeId}(ho:o.op=.alloc t){d:Nat}{K:PV->List Nat->List (Nat × A2)->Option R}
  (hk:(Fb P t fun cs=>K (.ptr d 0) [] [(d,VT P t cs)])=some r):∃v fz nw,K v fz nw=some r∧C2 P a w o Y β s v fz nw:=by
 obtain⟨z,cs,hk,hz,_,hl,_,hc⟩:=Kv hk
 have Bn:(execOp a.eval o).run P w=.ok (.value (.pointer (some ⟨w.heap.size,0,none⟩))) (w.alloc (.cells z.cells t)):=by
  unfold execOp;rw[ho];simp[Instr.alloc,P5 hz,newVar,newRow]
 have hg:=Dr.alloc w z.cells t;refine⟨_,_,_,hk,?_⟩;unfold VT;cases Ok P t
 ·refine AK Bn hg (fun j p hj=>?_) fun x hx id Ay=>?_
  ·obtain⟨hT,u,hu,_,hv⟩:=hc j p hj;exact⟨u,by simpa using hu,(Ib hT).2 (hv _ _)⟩
  ·obtain⟨j,hj⟩:=List.mem_iff_getElem?.1 hx;rw[Fl (hc j x hj).1] at Ay;cases Ay
 ·refine Ma (by simp) Bn hg (fun j p hj=>?_) (.inl ⟨rfl,rfl⟩)
  obtain⟨hT,u,hu,h1,hv⟩:=hc j p hj;exact⟨u,by simpa using hu,h1,hv _ _⟩
end
open Go.RowKit
section
variable {R:Type} {r:R} {P:Program} {N:Nat} {w0:World} {X0:Fw} {Y:Nat->Prop} {β β':Bt} {s:St} {a:Act} {w w':World} {o:Oper} {A:Nat->Prop}
theorem L0 {t:TypeId}(h:Gi P t=true):(∃d,P.underlying t=some d)∧(Fz P t).length=As P t∧(P.info? t).map (·.size)=some (As P t):=by
 simp only[Gi,Bool.and_eq_true] at h;refine⟨Option.isSome_iff_exists.1 h.1,Nat.eq_of_beq_eq_true h.2,?_⟩;unfold As;cases hi:P.info? t with
 |none=>unfold Program.underlying at h;rw[hi] at h;cases h.1
 |some i=>simp
theorem Jw {v:Value}(h:v.oneCell'=true):v.cells = #[v]:=by cases v<;>first|rfl|cases h
theorem MK {p:PV}{v:Value}{ts:List CT}{K:List PV->Option R}(hv:C4 w A β p v)(hl:(cellsOf p).length=ts.length) (h:Li ts (cellsOf p) 0 K=some r):
  ∃cs,K cs=some r∧cs.length=ts.length∧Av (A9 w A β) cs v.cells.toList∧(∀u∈v.cells.toList,u.oneCell'=true)∧(∀c∈cs,∀id∈Ak c,id∈A8 p)∧∀c∈cs,(∀x,c ≠ .agg x)∧(∀x,c ≠ .tup x):=by
 obtain⟨cs,h,Lc,Tn,hc⟩:=Ob h;refine⟨cs,h,Lc,?_⟩
 have single:(∀x,p ≠ .agg x)->cellsOf p=[p]:=by
  intro hp;cases p<;>first|rfl|exact absurd rfl (hp _)
 by_cases Ef:∃x,p=.agg x
 ·obtain⟨x,rfl⟩:=Ef;obtain⟨vs,rfl,h2⟩:=hv;have Dc:cs.length=vs.length:=by rw[Lc,←hl];exact h2.len
  have key:∀(i:Nat) c u,cs[i]?=some c->vs[i]?=some u->A9 w A β c u∧u.oneCell'=true:=by
   intro i c u Mr hu;obtain⟨q,hq,_,_,hqv⟩:=hc i c Mr;rw[Nat.zero_add] at hq;exact hqv w A β u (h2.at_ hq hu)
  refine⟨Av.of_at Dc fun i c u Mr hu=>(key i c u Mr hu).1,?_,?_,Tn⟩
  ·intro u hu;obtain⟨i,hi⟩:=List.mem_iff_getElem?.1 (show u∈vs from hu)
   have Bl:i<vs.length:=by
    rcases Nat.lt_or_ge i vs.length with h|h
    ·exact h
    ·rw[List.getElem?_eq_none h] at hi;cases hi
   exact (key i _ u (List.getElem?_eq_getElem (by omega)) hi).2
  ·intro c HC id Ay;obtain⟨i,hi⟩:=List.mem_iff_getElem?.1 HC;obtain⟨q,hq,_,hr,_⟩:=hc i c hi;rw[Nat.zero_add] at hq;show id∈x.flatMap Ak;exact List.mem_flatMap.2 ⟨q,List.mem_of_getElem? hq,hr id Ay⟩
 ·have hp:∀x,p ≠ .agg x:=fun x e=>Ef ⟨x,e⟩
  rw[single hp] at hl hc;have Xp:cs.length=1:=by rw[Lc,←hl];rfl
  match cs,Xp with
  |[c],_=>
   obtain⟨q,hq,hf,hr,hqv⟩:=hc 0 c rfl;simp at hq;subst hq;have L8:∀x,p ≠ .tup x:=by rintro x rfl;exact hf
   have Kt:A9 w A β p v:=(Rh hp).1 ((Mx L8).1 hv);obtain⟨h5,h6⟩:=hqv w A β v Kt;rw[Jw h6];refine⟨⟨h5,trivial⟩,?_,?_,Tn⟩
   ·intro u hu;simp at hu;subst hu;exact h6
   ·intro c' Mr id Ay;simp at Mr;subst Mr;have:=hr id Ay;cases p<;>first|exact this|exact absurd rfl (hp _)|exact absurd rfl (L8 _)
end
open Go.RowKit
section
variable {R:Type} {r:R} {P:Program} {N:Nat} {w0:World} {X0:Fw} {Y:Nat->Prop} {β β':Bt} {s:St} {a:Act} {w w':World} {o:Oper} {A:Nat->Prop}
theorem Av.get {α β':Type}{R':α->β'->Prop}{zs:List α}{bs:List β'}(h:Av R' zs bs){i:Nat}{x:α}(hx:zs[i]?=some x):∃y,bs[i]?=some y∧R' x y:=by
 have Bl:i<zs.length:=by
  rcases Nat.lt_or_ge i zs.length with h|h
  ·exact h
  ·rw[List.getElem?_eq_none h] at hx;cases hx
 have hb:bs[i]?=some (bs[i]'(by rw[←h.len];exact Bl)):=List.getElem?_eq_getElem _
 exact⟨_,hb,h.at_ hx hb⟩
theorem Abd {p:PV}{v:Value}{ts:List CT}{K:List PV->Option R}(hv:C4 w A β p v)(hl:(cellsOf p).length=ts.length) (h:Oo ts (cellsOf p) 0 K=some r):
  ∃cs,K cs=some r∧cs.length=ts.length∧Av (Ap w A) cs v.cells.toList∧∀u∈v.cells.toList,u.oneCell'=true:=by
 obtain⟨cs,h,Lc,hc⟩:=Og h;refine⟨cs,h,Lc,?_⟩;by_cases Ef:∃x,p=.agg x
 ·obtain⟨x,rfl⟩:=Ef;obtain⟨vs,rfl,h2⟩:=hv;have Dc:cs.length=vs.length:=by rw[Lc,←hl];exact h2.len
  have key:∀(i:Nat) c u,cs[i]?=some c->vs[i]?=some u->Ap w A c u∧u.oneCell'=true:=by
   intro i c u Mr hu;obtain⟨_,q,hq,_,hqv⟩:=hc i c Mr;rw[Nat.zero_add] at hq;exact hqv w A β u (h2.at_ hq hu)
  refine⟨Av.of_at Dc fun i c u Mr hu=>(key i c u Mr hu).1,?_⟩
  intro u hu;obtain⟨i,hi⟩:=List.mem_iff_getElem?.1 (show u∈vs from hu)
  have Bl:i<vs.length:=by
   rcases Nat.lt_or_ge i vs.length with h|h
   ·exact h
   ·rw[List.getElem?_eq_none h] at hi;cases hi
  exact (key i _ u (List.getElem?_eq_getElem (by omega)) hi).2
 ·have hp:∀x,p ≠ .agg x:=fun x e=>Ef ⟨x,e⟩
  have single:cellsOf p=[p]:=by cases p<;>first|rfl|exact absurd rfl (hp _)
  rw[single] at hl hc;have Xp:cs.length=1:=by rw[Lc,←hl];rfl
  match cs,Xp with
  |[c],_=>
   obtain⟨_,q,hq,hf,hqv⟩:=hc 0 c rfl;simp at hq;subst hq;have L8:∀x,p ≠ .tup x:=by rintro x rfl;exact hf
   have Kt:A9 w A β p v:=(Rh hp).1 ((Mx L8).1 hv);obtain⟨h5,h6⟩:=hqv w A β v Kt;rw[Jw h6];exact⟨⟨h5,trivial⟩,fun u hu=>by simp at hu;subst hu;exact h6⟩
theorem PU (h:Bs N w0 X0 Y β s a w){t:TypeId}{x:Operand}(ho:o.op=.box t x){d:Nat}{K:PV->List Nat->List (Nat × A2)->Option R}
    (hk:(Ar (Gi P t&&Nat.beq (cellsOf (Bb s.tm x)).length (Fz P t).length)
      (bif Ok P t then Oo (Fz P t) (cellsOf (Bb s.tm x)) 0 fun cs=>K (.ptr d 0) [] [(d,.ar false cs)]
       else Li (Fz P t) (cellsOf (Bb s.tm x)) 0 fun cs=>K (.ptr d 0) [] [(d,.st cs)]))=some r):∃v fz nw,K v fz nw=some r∧C2 P a w o Y β s v fz nw:=by
  obtain⟨hl,hk⟩:=Ag hk
  simp only[Bool.and_eq_true] at hl
  have hl:=Nat.eq_of_beq_eq_true hl.2
  have Bn:(execOp a.eval o).run P w=.ok (.value (.pointer (some ⟨w.heap.size,0,none⟩))) (w.alloc (.cells (a.eval x).cells t)):=by
    unfold execOp
    rw[ho]
    simp[Instr.box,newVar,newRow]
  have hg:=Dr.alloc w (a.eval x).cells t
  cases ha:Ok P t
  · rw[ha] at hk
    obtain⟨cs,hk,_,h2,_,hr,_⟩:=MK (Bx h x) hl hk
    refine⟨_,_,_,hk,AK Bn hg (fun j p hj=>?_) fun c hc id Ay=>Df h x id (hr c hc id Ay)⟩
    obtain⟨u,hu,hp⟩:=h2.get hj
    exact⟨u,by simpa using hu,hp⟩
  · rw[ha] at hk
    obtain⟨cs,hk,_,h2,h1⟩:=Abd (Bx h x) hl hk
    refine⟨_,_,_,hk,Ma (by simp) Bn hg (fun j p hj=>?_) (.inl ⟨rfl,rfl⟩)⟩
    obtain⟨u,hu,hp⟩:=h2.get hj
    exact⟨u,by simpa using hu,h1 u (List.mem_of_getElem? hu),hp⟩
theorem KI {c:PV}(h1:∀x,c ≠ .agg x)(h2:∀x,c ≠ .tup x):A8 c=Ak c:=by
 cases c<;>first|rfl|exact absurd rfl (h1 _)|exact absurd rfl (h2 _)
theorem Sf {t:TypeId}{ad:Addr}{cs:List PV}{p:PV}(Kh:Gi P t=true)(Dc:cs.length=(Fz P t).length)
  (Tn:∀c∈cs,(∀x,c ≠ .agg x)∧(∀x,c ≠ .tup x))
  (hc:∀(j:Nat) c,cs[j]?=some c->∃v,w.cell? (ad.add j)=some v∧A9 w A β c v)
  (hp:(Ba P t=true∧p=.agg cs)∨(Ba P t=false∧cs=[p])):∃val,(loadVar t ad).run P w=.ok val w∧C4 w A β p val:=by
 obtain⟨⟨d,hd⟩,hl,hi⟩:=L0 Kh;rcases hp with⟨Ef,rfl⟩|⟨Ef,rfl⟩
 ·have hf:∀j,j<As P t->w.cell? (ad.add j)=some ((w.cell? (ad.add j)).getD undef):=by
   intro j hj;obtain⟨v,hv,_⟩:=hc j _ (List.getElem?_eq_getElem (by omega))
   rw[hv];rfl
  refine⟨_,?_,(List.range (As P t)).map (fun j=>(w.cell? (ad.add j)).getD undef),rfl,?_⟩
  ·simp only[loadVar,Sem.run_bind,Js hd,Ef,Result.andThen_ok,if_true,Hu hi,run_loadCells w ad (As P t) _ hf];simp
  ·refine Av.of_at (by simp;omega) fun i c u Mr hu=>?_
   obtain⟨v,hv,Ul⟩:=hc i c Mr
   have Bl:i<As P t:=by
    rcases Nat.lt_or_ge i cs.length with h|h
    ·omega
    ·rw[List.getElem?_eq_none h] at Mr;cases Mr
   rw[List.getElem?_map,List.getElem?_range Bl] at hu;simp[hv] at hu;subst hu;exact Ul
 ·obtain⟨v,hv,Ul⟩:=hc 0 p rfl;have hn:=Tn p (by simp)
  have h0:ad.add 0=ad:=by simp[Addr.add]
  rw[h0] at hv;refine⟨v,?_,(Mx hn.2).2 ((Rh hn.1).2 Ul)⟩;simp only[loadVar,Sem.run_bind,Js hd,Ef,Result.andThen_ok];simp[hv]
theorem SI {hp:Nat->Option A2}{id:Nat}{c:List PV}(h:rd hp id=some c):hp id=some (.st c)∨∃f,hp id=some (.ar f c):=by
 unfold rd at h;split at h
 ·rename_i e;simp at h;subst h;exact .inl e
 ·rename_i f _ e;simp at h;subst h;exact .inr ⟨_,e⟩
 ·cases h
theorem AO {hp:Nat->Option A2}{id:Nat}{c:List PV}(h:Ha hp id=some c):∃f,hp id=some (.ar f c):=by
 unfold Ha at h;split at h
 ·rename_i e;simp at h;subst h;exact⟨_,e⟩
 ·cases h
theorem Wr (h:Bs N w0 X0 Y β s a w){id:Nat}{c:List PV}(hr:rd s.hp id=some c){b ob:Nat}(hβ:β id=some (b,ob)) {j:Nat}{p:PV}(hj:c[j]?=some p):
  ∃v,w.cell? ⟨b,ob+j,none⟩=some v∧A9 w (B1 s.hp β Y) β p v:=by
 rcases SI hr with hb|⟨f,hb⟩
 ·obtain⟨b',o',h1,h2,_⟩:=h.box id _ hb;rw[hβ] at h1;simp at h1;obtain⟨rfl,rfl⟩:=h1;exact h2 j p hj
 ·rcases h.box id _ hb with⟨h1,_⟩|⟨b',o',h1,h2,_⟩
  ·rw[hβ] at h1;cases h1
  ·rw[hβ] at h1;simp at h1;obtain⟨rfl,rfl⟩:=h1
   obtain⟨v,hv,_,ht⟩:=h2 j p hj;rw[Cf] at hv;refine⟨v,hv,?_⟩;cases ht with
   |sc=>exact Ap.sc _
   |top=>exact Ap.top _
   |ub=>exact Ap.ub _
   |lnil=>exact Ap.lnil _ _
   |lemp=>exact Ap.lemp _ _ _
   |lst es n cells a cap f hs hb hA hn hc h1 hr=>exact Ap.lst es n cells a cap f hs hb hA hn hc h1 hr
theorem Ht:∀{ts:List CT}{cells:List PV}{off:Nat}{K:List PV->Option R},Oo ts cells off K=some r->Li ts cells off K=some r
 |[],_,_,_,h=>h
 |.int k::ts,cells,off,K,h=>by
  obtain⟨n,hp,h⟩:=C3 (show Ad k (cells.getD off .top) _=some r from h)
  show Ad k _ _=_;rw[hp];simp only[Ad,if_true];exact Ht h
 |.bool::ts,cells,off,K,h=>by
  obtain⟨n,hp,h⟩:=Ci (show A0 (cells.getD off .top) _=some r from h)
  show A0 _ _=_;rw[hp];exact Ht h
 |.str::ts,cells,off,K,h=>by
  obtain⟨n,hp,h⟩:=Cj (show Fx (cells.getD off .top) _=some r from h)
  show Fx _ _=_;rw[hp];exact Ht h
 |.sl es::ts,cells,off,K,h=>by
  obtain⟨z,n,c,h,hp⟩:=Dp (show Eu es (cells.getD off .top) _=some r from h)
  change fcK (.sl es) (cells.getD off .top) (fun c=>Li ts cells (off+1) fun r=>K (c::r))=some r
  unfold fcK;dsimp only;unfold fsK;rcases hp with hp|⟨hp,rfl,rfl,rfl⟩
  ·rw[hp];simp only[Eu,Nat.beq_refl,cond_true];exact Ht h
  ·rw[hp];exact Ht h
 |.any::ts,cells,off,K,h=>by
  obtain⟨f,a,b,hp,h⟩:=BT (show RT (cells.getD off .top) (fun v=>Oo ts cells (off+1) fun r=>K (.sc v::r))=some r from h)
  show RT (cells.getD off .top) (fun v=>Li ts cells (off+1) fun r=>K (.sc v::r))=some r
  rw[hp];exact Ht h
theorem Ap.unz {w:World}{A:Nat->Prop}{z:Bool}{es n:Nat}{c:List PV}{u:Value}(h:Ap w A (.lst z es n c) u):Ap w A (.lst false es n c) u:=by
 cases h with
 |lnil z es=>exact .lnil false es
 |lemp es a cap=>exact .lemp es a cap
 |lst es n c a cap f h1 h2 h3 h4 h5 h6 h7=>exact .lst es n c a cap f h1 h2 h3 h4 h5 h6 h7
theorem OZ {w:World}{A:Nat->Prop}{β:Bt}{p:PV}{u:Value}(h:A9 w A β p u):A9 w A β (BO p) u:=by
 cases p with
 |lst z es n c=>exact Ap.unz h
 |_=>exact h
theorem JA (p:PV):Ak (BO p)=Ak p:=by cases p<;>rfl
theorem Y8 {w:World}{A:Nat->Prop}{β:Bt}:∀{cs:List PV}{vs:List Value},Av (A9 w A β) cs vs->Av (A9 w A β) (cs.map BO) vs
 |[],[],_=>trivial
 |_::_,_::_,h=>⟨OZ h.1,Y8 h.2⟩
 |[],_::_,h=>h.elim
 |_::_,[],h=>h.elim
theorem ON {w:World}{A:Nat->Prop}{β:Bt}{p:PV}{u:Value}(h:C4 w A β p u):C4 w A β (IK p) u:=by
 cases p with
 |agg cs=>
  obtain⟨vs,h1,h2⟩:=(show Ft w A β (.agg cs) u from h)
  exact⟨vs,h1,Y8 h2⟩
 |lst z es n c=>exact Ap.unz (show Ap w A (.lst z es n c) u from h)
 |_=>exact h
theorem OM (p:PV):A8 (IK p)=A8 p:=by
 cases p with
 |agg cs=>
  show (cs.map BO).flatMap Ak=cs.flatMap Ak
  induction cs with
  |nil=>rfl
  |cons a l ih=>rw[List.map_cons,List.flatMap_cons,List.flatMap_cons,ih,JA]
 |_=>rfl
theorem Ab9 {nz:Bool}{hp:Nat->Option A2}{t:TypeId}{x:PV}{K:PV->Option R}(h:Sn nz P (rd hp) (Ha hp) t x K=some r):
  Qd P (rd hp) t x K=some r∨Qd P (rd hp) t x (fun v=>K (IK v))=some r:=by
 have h':Qd P (rd hp) t x K=some r∨Qd P (rd hp) t x (fun v=>K (bif nz then v else IK v))=some r:=by
  unfold Sn at h;unfold Qd;split at h
  ·rename_i id off;obtain⟨hb,h⟩:=Ag h;rw[hb];show Db _ _=_∨Db _ _=_;split at h
   ·rename_i c hc;obtain⟨f,I1⟩:=AO hc;have:rd hp id=some c:=by unfold rd;rw[I1]
    rw[this];exact .inr (Ht h)
   ·exact .inl h
  ·exact .inr h
  ·cases h
 cases nz
 ·exact h'
 ·exact .inl (h'.elim id id)
theorem Zq (h:Bs N w0 X0 Y β s a w){t:TypeId}{x:PV}{u:Value}(hx:C4 w (B1 s.hp β Y) β x u) {K:PV->Option R}(hk:Qd P (rd s.hp) t x K=some r):
  ∃v ad val,K v=some r∧u=.pointer (some ad)∧(loadVar t ad).run P w=.ok val w∧C4 w (B1 s.hp β Y) β v val∧∀i∈A8 v,s.hp i≠none:=by
 unfold Qd at hk;split at hk
 ·rename_i id off;obtain⟨Kh,hk⟩:=Ag hk;obtain⟨c,hr,hk⟩:=Bp hk;obtain⟨cs,hk,hl,Tn,hc⟩:=Ob hk;obtain⟨b,ob,hβ,B4⟩:=hx
  have hcell:∀(j:Nat) q,cs[j]?=some q->∃v,w.cell? ((⟨b,ob+off,none⟩:Addr).add j)=some v∧A9 w (B1 s.hp β Y) β q v:=by
   intro j q hq;obtain⟨p,hp,_,_,S0⟩:=hc j q hq;obtain⟨v,hv,Ul⟩:=Wr h hr hβ hp;exact⟨v,by rw[Cf,Nat.add_assoc];exact hv,(S0 _ _ _ _ Ul).1⟩
  have P1:∀q∈cs,∀i∈Ak q,s.hp i≠none:=by
   intro q hq i hi;obtain⟨j,hj⟩:=List.mem_iff_getElem?.1 hq;obtain⟨p,hp,_,hpr,_⟩:=hc j q hj;rcases SI hr with hb|⟨f,hb⟩
   ·exact h.wfB id c hb p (List.mem_of_getElem? hp) i (hpr i hi)
   ·obtain⟨v,hv,Ul⟩:=Wr h hr hβ hp;exfalso;have Br:=hpr i hi;rcases h.box id _ hb with⟨_,rfl⟩|⟨b',o',h1,h2,_⟩
    ·simp at hp
    ·obtain⟨v',_,_,ht⟩:=h2 _ p hp;cases ht<;>cases Br
  rcases AY hk with⟨Ef,Dk⟩|⟨Ef,q,rfl,Dk⟩
  ·obtain⟨val,Rg,hv⟩:=Sf Kh hl Tn hcell (.inl ⟨Ef,rfl⟩);refine⟨_,_,val,Dk,B4,Rg,hv,fun i hi=>?_⟩
   obtain⟨q,hq,hi⟩:=List.mem_flatMap.1 (show i∈cs.flatMap Ak from hi)
   exact P1 q hq i hi
  ·obtain⟨val,Rg,hv⟩:=Sf Kh hl Tn hcell (.inr ⟨Ef,rfl⟩);refine⟨_,_,val,Dk,B4,Rg,hv,fun i hi=>P1 q (by simp) i ?_⟩
   have hn:=Tn q (by simp)
   rw[KI hn.1 hn.2] at hi;exact hi
 ·rename_i c off;obtain⟨Kh,hk⟩:=Ag hk;obtain⟨cs,hk,hl,hc⟩:=Og hk;obtain⟨ad,B4,hs,hb,hA,hrd⟩:=hx
  have Tn:∀q∈cs,(∀x,q ≠ .agg x)∧(∀x,q ≠ .tup x):=by
   intro q hq;obtain⟨j,hj⟩:=List.mem_iff_getElem?.1 hq;exact⟨Ra (hc j q hj).1,LE (hc j q hj).1⟩
  have hcell:∀(j:Nat) q,cs[j]?=some q->∃v,w.cell? ((ad.add off).add j)=some v∧A9 w (B1 s.hp β Y) β q v:=by
   intro j q hq;obtain⟨hT,p,hp,Xn,S0⟩:=hc j q hq;obtain⟨v,hv,_,ht⟩:=hrd (off+j) p hp;exact⟨v,by rw[add_add];exact hv,(Ib hT).2 (S0 w (B1 s.hp β Y) β v ((Ib Xn).2 ht)).1⟩
  have P1:∀q∈cs,Ak q=[]:=by
   intro q hq;obtain⟨j,hj⟩:=List.mem_iff_getElem?.1 hq;exact Fl (hc j q hj).1
  rcases AY hk with⟨Ef,Dk⟩|⟨Ef,q,rfl,Dk⟩
  ·obtain⟨val,Rg,hv⟩:=Sf Kh hl Tn hcell (.inl ⟨Ef,rfl⟩);refine⟨_,_,val,Dk,B4,Rg,hv,fun i hi=>?_⟩
   obtain⟨q,hq,hi⟩:=List.mem_flatMap.1 (show i∈cs.flatMap Ak from hi)
   rw[P1 q hq] at hi;cases hi
  ·obtain⟨val,Rg,hv⟩:=Sf Kh hl Tn hcell (.inr ⟨Ef,rfl⟩);refine⟨_,_,val,Dk,B4,Rg,hv,fun i hi=>?_⟩
   have hn:=Tn q (by simp)
   rw[KI hn.1 hn.2,P1 q (by simp)] at hi
   cases hi
 ·cases hk
theorem DQ (h:Bs N w0 X0 Y β s a w){t:TypeId}{x:PV}{u:Value}(hx:C4 w (B1 s.hp β Y) β x u) {nz:Bool}{K:PV->Option R}(hk:Sn nz P (rd s.hp) (Ha s.hp) t x K=some r):
  ∃v ad val,K v=some r∧u=.pointer (some ad)∧(loadVar t ad).run P w=.ok val w∧C4 w (B1 s.hp β Y) β v val∧∀i∈A8 v,s.hp i≠none:=by
 rcases Ab9 hk with hk|hk
 ·exact Zq h hx hk
 ·obtain⟨v,ad,val,h1,h2,h3,h4,h5⟩:=Zq h hx hk;exact⟨IK v,ad,val,h1,h2,h3,ON h4,by rw[OM];exact h5⟩
theorem JQ (h:Bs N w0 X0 Y β s a w){t:TypeId}{x:Operand}(ho:o.op=.load t x){nz:Bool}{K:PV->Option R}(hk:Sn nz P (rd s.hp) (Ha s.hp) t (Bb s.tm x) K=some r):
  ∃v,K v=some r∧C2 P a w o Y β s v [] []:=by
 obtain⟨v,ad,val,Cv,B4,hl,hv,hr⟩:=DQ h (Bx h x) hk;refine⟨v,Cv,Bc ?_ hv hr⟩;unfold execOp;rw[ho];simp[Instr.loadAt,Instr.sureAddr,B4,hl]
theorem PC {x:PV}{d:Nat}{K:PV->Option R}(h:N3 x d K=some r):(∃id off,x=.ptr id off∧K (.ptr id (off+d))=some r)∨∃c off,x=.iptr c off∧K (.iptr c (off+d))=some r:=by
 unfold N3 at h;split at h
 ·exact .inl ⟨_,_,rfl,h⟩
 ·exact .inr ⟨_,_,rfl,h⟩
 ·cases h
theorem Qo (h:Bs N w0 X0 Y β s a w){x:Operand}{d:Nat}{K:PV->Option R}(hk:N3 (Bb s.tm x) d K=some r)
  (Bn:∀ad:Addr,a.eval x=.pointer (some ad)->(execOp a.eval o).run P w=.ok (.value (.pointer (some (ad.add d)))) w):∃v,K v=some r∧C2 P a w o Y β s v [] []:=by
 have hx:=Bx h x;have X5:=Df h x;rcases PC hk with⟨id,off,e,hk⟩|⟨c,off,e,hk⟩
 ·rw[e] at hx X5;obtain⟨b,ob,hβ,B4⟩:=hx;refine⟨_,hk,Bc (Bn _ B4) ⟨b,ob,hβ,by rw[Cf,Nat.add_assoc]⟩ X5⟩
 ·rw[e] at hx;obtain⟨ad,B4,h1,h2,h3,h4⟩:=hx;exact⟨_,hk,Bc (Bn _ B4) ⟨ad,by rw[add_add],h1,h2,h3,h4⟩ (by intro i hi;cases hi)⟩
theorem Wv (h:Bs N w0 X0 Y β s a w){x:Operand}(ho:o.op=.nilCheck x){K:PV->Option R}(hk:N3 (Bb s.tm x) 0 K=some r):∃v,K v=some r∧C2 P a w o Y β s v [] []:=by
 refine Qo h hk fun ad B4=>?_
 unfold execOp;rw[ho];simp[B4,Addr.add]
theorem Rf {t:TypeId}{f:Nat}{q:Nat × TypeId}(h:Mb P t f=some q):∃fs g,P.underlying t=some (.struct fs)∧fs[f]?=some g∧q=(g.offset,g.type):=by
 unfold Mb at h;split at h
 ·rename_i fs e;cases hg:fs[f]? with
  |none=>rw[hg] at h;cases h
  |some g=>rw[hg] at h;simp at h;exact⟨fs,g,e,hg,h.symm⟩
 ·cases h
theorem U8 (h:Bs N w0 X0 Y β s a w){t:TypeId}{x:Operand}{f:Nat}(ho:o.op=.fieldAddr t x f){K:PV->Option R}
  (hk:(Db (Mb P t f) fun q=>Ar (Nat.ble 1 (As P q.2)) (N3 (Bb s.tm x) q.1 K))=some r):∃v,K v=some r∧C2 P a w o Y β s v [] []:=by
 obtain⟨q,hq,hk⟩:=Bp hk;obtain⟨hs,hk⟩:=Ag hk;obtain⟨fs,g,hu,hg,rfl⟩:=Rf hq;have hs:1<=As P g.type:=Nat.le_of_ble_eq_true hs;have Jl:=SU (P:=P) (t:=g.type) rfl (by omega)
 refine Qo h hk fun ad B4=>?_
 unfold execOp;rw[ho];have H7:¬As P g.type=0:=by omega
 simp[Instr.fieldAt,run_underlying hu,hg,Instr.sureAddr,B4,fieldPlace,Hu Jl,H7]
end
open Go.RowKit
section
variable {R:Type} {r:R} {P:Program} {N:Nat} {w0:World} {X0:Fw} {Y:Nat->Prop} {β β':Bt} {s:St} {a:Act} {w w':World} {o:Oper} {A:Nat->Prop}
theorem Xd (h:Bs N w0 X0 Y β s a w){t:TypeId}{cs:List PV}{vs:List Value}{off:Nat}{K:PV->Option R}{x:Operand}(hx:Bb s.tm x=.agg cs)(hv:Av (A9 w (B1 s.hp β Y) β) cs vs)
  (hk:Ar (Gi P t) (Li (Fz P t) cs off fun c=>MX (Ba P t) c K)=some r)
  (Bn:∀val,(part t ⟨vs⟩ off).run P w=.ok val w->(execOp a.eval o).run P w=.ok (.value val) w):∃v,K v=some r∧C2 P a w o Y β s v [] []:=by
 obtain⟨Kh,hk⟩:=Ag hk;obtain⟨⟨d,hd⟩,hl,hi⟩:=L0 Kh;obtain⟨qs,hk,hql,Tn,hq⟩:=Ob hk;have X5:=Df h x;rw[hx] at X5
 have hcell:∀(j:Nat) q,qs[j]?=some q->∃v,vs[off+j]?=some v∧A9 w (B1 s.hp β Y) β q v:=by
  intro j q hj;obtain⟨p,hp,_,_,S0⟩:=hq j q hj;obtain⟨v,Kt,hc⟩:=hv.get hp;exact⟨v,Kt,(S0 _ _ _ _ hc).1⟩
 have P1:∀q∈qs,∀i∈Ak q,s.hp i≠none:=by
  intro q hqm i hi;obtain⟨j,hj⟩:=List.mem_iff_getElem?.1 hqm;obtain⟨p,hp,_,hpr,_⟩:=hq j q hj;exact X5 i (List.mem_flatMap.2 ⟨p,List.mem_of_getElem? hp,hpr i hi⟩)
 rcases AY hk with⟨Ef,Dk⟩|⟨Ef,q,rfl,Dk⟩
 ·have Sv:As P t=0∨off+As P t<=vs.length:=by
   rcases Nat.eq_zero_or_pos (As P t) with h0|h0
   ·exact .inl h0
   ·obtain⟨v,Kt,_⟩:=hcell (As P t-1) _ (List.getElem?_eq_getElem (by omega))
    have:off+(As P t-1)<vs.length:=by
     rcases Nat.lt_or_ge (off+(As P t-1)) vs.length with h|h
     ·exact h
     ·rw[List.getElem?_eq_none h] at Kt;cases Kt
    exact .inr (by omega)
  refine⟨_,Dk,Bc (Bn (.agg ⟨(vs.drop off).take (As P t)⟩) ?_) ⟨(vs.drop off).take (As P t),rfl,?_⟩ fun i hi=>?_⟩
  ·simp only[part,Sem.run_bind,Js hd,Ef,Result.andThen_ok,if_true,Hu hi];simp[List.extract_eq_take_drop]
  ·refine Av.of_at ?_ fun i c u hc hu=>?_
   ·simp only[List.length_take,List.length_drop];omega
   ·obtain⟨v,Kt,Ul⟩:=hcell i c hc
    have Bl:i<As P t:=by
     rcases Nat.lt_or_ge i qs.length with h|h
     ·omega
     ·rw[List.getElem?_eq_none h] at hc;cases hc
    rw[List.getElem?_take_of_lt Bl,List.getElem?_drop,Kt] at hu;cases hu;exact Ul
  ·obtain⟨q,hqm,hi⟩:=List.mem_flatMap.1 (show i∈qs.flatMap Ak from hi)
   exact P1 q hqm i hi
 ·obtain⟨v,Kt,Ul⟩:=hcell 0 q rfl;have hn:=Tn q (by simp)
  refine⟨_,Dk,Bc (Bn v ?_) ((Mx hn.2).2 ((Rh hn.1).2 Ul)) fun i hi=>?_⟩
  ·simp only[part,Sem.run_bind,Js hd,Ef,Result.andThen_ok];rw[Nat.add_zero] at Kt;simp[Kt]
  ·rw[KI hn.1 hn.2] at hi;exact P1 q (by simp) i hi
theorem DZ (h:Bs N w0 X0 Y β s a w){t:TypeId}{x:Operand}{f:Nat}(ho:o.op=.field t x f){K:PV->Option R}
  (hk:(Db (Mb P t f) fun q=>Ar (Gi P q.2)<|Dv (Bb s.tm x) fun cs=>Li (Fz P q.2) cs q.1 fun c=>MX (Ba P q.2) c K)=some r):∃v,K v=some r∧C2 P a w o Y β s v [] []:=by
 obtain⟨q,hq,hk⟩:=Bp hk;obtain⟨Kh,hk⟩:=Ag hk;obtain⟨cs,hx,hk⟩:=Ff hk;obtain⟨fs,g,hu,hg,rfl⟩:=Rf hq;have hxv:=Bx h x;rw[hx] at hxv;obtain⟨vs,B4,hv⟩:=hxv;refine Xd (t:=g.type) (off:=g.offset) h hx hv (by rw[show Gi P g.type=true from Kh];exact hk) fun val hp=>?_
 unfold execOp;rw[ho];simp[Instr.field,run_underlying hu,hg,asAgg,B4,hp]
theorem Yt (h:Bs N w0 X0 Y β s a w){x:Operand}{i:Nat}(ho:o.op=.extract x i){K:PV->Option R}
  (hk:(match Bb s.tm x with | .tup vs=>Db vs[i]? K|_=>none)=some r):∃v,K v=some r∧C2 P a w o Y β s v [] []:=by
 have hx:=Bx h x;have X5:=Df h x;split at hk
 ·rename_i ps e;rw[e] at hx X5;obtain⟨p,hp,hk⟩:=Bp hk;obtain⟨vs,B4,hv⟩:=hx;obtain⟨v,Kt,S0⟩:=hv.get hp
  have Ac8:∀y,p ≠ .tup y:=by
   rintro y rfl
   have Arg:Ap _ _ (.tup y) v:=S0;cases Arg
  refine⟨p,hk,Bc (val:=v) ?_ ((Mx Ac8).2 S0) fun id Ay=>X5 id ?_⟩
  ·unfold execOp;rw[ho];simp[Instr.extract,B4,Kt]
  ·refine List.mem_flatMap.2 ⟨p,List.mem_of_getElem? hp,?_⟩;cases p<;>first|exact Ay|exact absurd rfl (Ac8 _)
 ·cases hk
theorem En {es:Nat}{p:PV}{z:Bool}{n:Nat}{c:List PV}{v:Value}(hp:p=.lst z es n c∨(p=.sc (.slice none 0 0)∧z=true∧n=0∧c=[])) (hv:C4 w A β p v):
  (v=.slice none 0 0∧n=0∧c=[])∨(∃ad cap,v=.slice (some ad) n cap∧z=false∧n<=cap∧ad.spot=none∧ad.block<w.heap.size∧¬A ad.block∧DH w A ad c)∨∃ad cap,v=.slice (some ad) 0 cap∧z=false∧n=0∧c=[]:=by
 have Kt:A9 w A β p v:=by rcases hp with rfl|⟨rfl,_⟩<;>exact hv
 have ht:=Q1 hp Kt;cases ht with
 |lnil=>exact .inl ⟨rfl,rfl,rfl⟩
 |lst _ _ _ ad cap f hs hb hA hn hc h1 hr=>exact .inr (.inl ⟨ad,cap,rfl,rfl,hn,hs,hb,hA,fun j q hj=>⟨f j,hc j q hj,h1 j q hj,hr j q hj⟩⟩)
 |lemp _ ad cap=>exact .inr (.inr ⟨ad,cap,rfl,rfl,rfl,rfl⟩)
theorem Ve (h:Bs N w0 X0 Y β s a w){t:TypeId}{x i:Operand}(ho:o.op=.indexAddr t x i){K:PV->Option R}
  (hk:(Ce (Bb s.tm i) fun _ n=>Hz P t (Bb s.tm x) n K)=some r):∃v,K v=some r∧C2 P a w o Y β s v [] []:=by
 obtain⟨ik,n,hi,hk⟩:=B6 hk;have hai:=Bk h hi;have hx:=Bx h x;have X5:=Df h x;unfold Hz at hk;split at hk
 ·rename_i len e hu;obtain⟨hz,hk⟩:=Ag hk;obtain⟨hb,hk⟩:=Ag hk;simp only[Bool.and_eq_true,decide_eq_true_eq] at hb;obtain⟨inf,Lb⟩:=Option.isSome_iff_exists.1 hz;refine Qo h hk fun ad B4=>?_
  unfold execOp;rw[ho];simp[Instr.indexAt,asIntOf,hai,B4,run_underlying hu,Instr.sureAddr,hb.1,hb.2,sizeOf,typeInfo,Lb,As]
 ·rename_i e hu;obtain⟨hz,hk⟩:=Ag hk;obtain⟨inf,Lb⟩:=Option.isSome_iff_exists.1 hz;have Jl:As P e=inf.size:=by simp[As,Lb]
  split at hk
  ·rename_i id es off n' e';rw[e'] at hx X5;obtain⟨Rs,hk⟩:=Ag hk;have Rs:=Nat.eq_of_beq_eq_true Rs;subst Rs;obtain⟨hb,hk⟩:=Ag hk;simp only[Bool.and_eq_true,decide_eq_true_eq] at hb;rcases hx with⟨_,_,rfl,_⟩|⟨b,ob,y,cap,hβ,B4,hy,_⟩
   ·omega
   ·have hy:y=ob+off:=by rcases hy with hy|⟨rfl,_⟩<;>omega
    subst hy;refine⟨_,hk,Bc (val:=.pointer (some ⟨b,ob+(off+n.toNat*As P e),none⟩)) ?_ ⟨b,ob,hβ,rfl⟩ X5⟩;unfold execOp;rw[ho];simp[Instr.indexAt,asIntOf,hai,B4,run_underlying hu,hb.1,hb.2,sizeOf,typeInfo,Lb,Jl,Cf,Nat.add_assoc]
  ·obtain⟨z,n',c,hk,hp⟩:=Dp hk;obtain⟨hb,hk⟩:=Ag hk;simp only[Bool.and_eq_true,decide_eq_true_eq] at hb;rcases En hp hx with⟨_,rfl,_⟩|⟨ad,cap,B4,_,_,h1,h2,h3,h4⟩|⟨_,_,_,_,rfl,_⟩
   ·omega
   rotate_left
   ·omega
   ·refine⟨_,hk,Bc (val:=.pointer (some (ad.add (n.toNat*As P e)))) ?_ ⟨ad,rfl,h1,h2,h3,h4⟩ (by intro i hi;cases hi)⟩
    unfold execOp;rw[ho];simp[Instr.indexAt,asIntOf,hai,B4,run_underlying hu,hb.1,hb.2,sizeOf,typeInfo,Lb,Jl]
 ·cases hk
theorem GC (h:Bs N w0 X0 Y β s a w){t:TypeId}{x i:Operand}(ho:o.op=.index t x i){K:PV->Option R}
  (hk:(Ce (Bb s.tm i) fun _ n=>
   match P.underlying t with
   |some .string=>Fx (Bb s.tm x) fun s=>Ar (decide (0<=n)) (Db (s.data.toList[n.toNat]?) fun b=>K (.sc (.int .u8 b.toNat)))
   |some (.array len e)=>Dv (Bb s.tm x) fun cs=>Ar (decide (0<=n)&&decide (n<len)&&Gi P e) (Li (Fz P e) cs (n.toNat*As P e) fun c=>MX (Ba P e) c K)
   |_=>none)=some r):∃v,K v=some r∧C2 P a w o Y β s v [] []:=by
 obtain⟨ik,n,hi,hk⟩:=B6 hk;have hai:=Bk h hi;split at hk
 ·rename_i hu;obtain⟨sb,hx,hk⟩:=Cj hk;have B4:=Bk h hx;obtain⟨h0,hk⟩:=Ag hk;obtain⟨b,hb,hk⟩:=Bp hk;have h0:=of_decide_eq_true h0;refine⟨_,hk,Bq ?_⟩
  have Bl:n.toNat<sb.size:=by
   rcases Nat.lt_or_ge n.toNat sb.data.toList.length with h|h
   ·simpa using h
   ·rw[List.getElem?_eq_none h] at hb;cases hb
  have Fs:sb[n.toNat]=b:=by
   have:sb.data.toList[n.toNat]?=some sb[n.toNat]:=by
    rw[List.getElem?_eq_getElem (by simpa using Bl)]
    rfl
   rw[hb] at this;injection this with this;exact this.symm
  unfold execOp;rw[ho];simp[Instr.index,asIntOf,hai,B4,run_underlying hu,h0,Bl,Fs]
 ·rename_i len e hu;obtain⟨cs,hx,hk⟩:=Ff hk;obtain⟨hb,hk⟩:=Ag hk;simp only[Bool.and_eq_true,decide_eq_true_eq] at hb;have hxv:=Bx h x;rw[hx] at hxv;obtain⟨vs,B4,hv⟩:=hxv;obtain⟨_,_,Jl⟩:=L0 hb.2;refine Xd (t:=e) (off:=n.toNat*As P e) h hx hv (by rw[hb.2];exact hk) fun val hp=>?_
  unfold execOp;rw[ho];simp[Instr.index,asIntOf,hai,B4,run_underlying hu,hb.1.1,hb.1.2,Hu Jl,hp]
 ·cases hk
end
open Go.RowKit
section
variable {R:Type} {r:R} {P:Program} {N:Nat} {w0:World} {X0:Fw} {Y:Nat->Prop} {β β':Bt} {s:St} {a:Act} {w w':World} {o:Oper} {A:Nat->Prop}
theorem Cn (h:Bs N w0 X0 Y β s a w){x:Option Operand}{dflt:Nat}{K:Nat->Option R}(hk:E3 (x.map (Bb s.tm)) dflt K=some r):
  ∃l,K l=some r∧((x=none∧l=dflt)∨∃y k,x=some y∧a.eval y=.int k (l:Int)):=by
 cases x with
 |none=>exact⟨dflt,hk,.inl ⟨rfl,rfl⟩⟩
 |some y=>
  obtain⟨k,i,hi,hk⟩:=B6 (show Ce (Bb s.tm y) _=some r from hk)
  obtain⟨h0,hk⟩:=Ag hk;have h0:=of_decide_eq_true h0;exact⟨i.toNat,hk,.inr ⟨y,k,rfl,by rw[Bk h hi,Int.toNat_of_nonneg h0]⟩⟩
theorem Gg {lo hi:Option Operand}{isS:Bool}{len cap l u:Nat}(hl:(lo=none∧l=0)∨∃y k,lo=some y∧a.eval y=.int k (l:Int))
  (hu:(hi=none∧u=len)∨∃y k,hi=some y∧a.eval y=.int k (u:Int)) (h1:l<=u)(h2:u<=cap):
  (Instr.sliceBounds isS len cap (lo.map a.eval) (hi.map a.eval) none).run P w=.ok (l,u,cap) w:=by
 rcases hl with⟨rfl,rfl⟩|⟨y,k,rfl,hy⟩<;>rcases hu with⟨rfl,rfl⟩|⟨y',k',rfl,hy'⟩
 ·simp[Instr.sliceBounds]
 ·simp[Instr.sliceBounds,Instr.sliceBound,asIntOf,hy',h2]
 ·simp[Instr.sliceBounds,Instr.sliceBound,asIntOf,hy,h1]
 ·simp[Instr.sliceBounds,Instr.sliceBound,asIntOf,hy,hy',h1,h2]
theorem Bo {e:TypeId}(h:(P.info? e).isSome=true) (w:World):(sizeOf e).run P w=.ok (As P e) w:=by
 obtain⟨i,hi⟩:=Option.isSome_iff_exists.1 h;exact Hu (by simp[As,hi]) w
theorem Rv {b j:Nat}{v:Value}(h:w.cell? ⟨b,j,none⟩=some v):j<bsz w b:=by
 unfold World.cell? at h;unfold bsz;split at h
 ·rename_i c e fz hb;simp only at hb;rw[hb];simp only[Option.isSome_none,Bool.false_eq_true,if_false] at h;rcases Nat.lt_or_ge j c.size with Bl|RL
  ·exact Bl
  ·rw[Array.getElem?_eq_none RL] at h;cases h
 ·cases h
theorem GY (h:Bs N w0 X0 Y β s a w){t:TypeId}{x:Operand}{lo hi:Option Operand}(ho:o.op=.slice t x lo hi none){K:PV->Option R}
  (hk:Td P (rd s.hp) t (Bb s.tm x) (lo.map (Bb s.tm)) (hi.map (Bb s.tm)) K=some r):∃v,K v=some r∧C2 P a w o Y β s v [] []:=by
 have hx:=Bx h x;have X5:=Df h x;unfold Td at hk;split at hk
 ·rename_i hu;obtain⟨sb,X4,hk⟩:=Cj hk;have B4:=Bk h X4;obtain⟨l,hk,hl⟩:=Cn h hk;obtain⟨u,hk,Gs⟩:=Cn h hk;obtain⟨hb,hk⟩:=Ag hk;simp only[Bool.and_eq_true,decide_eq_true_eq] at hb;refine⟨_,hk,Bq ?_⟩;unfold execOp;rw[ho];simp[Instr.sliceAt,Instr.slice,run_underlying hu,B4,Gg hl Gs hb.1 hb.2]
 ·rename_i e hu;obtain⟨Lb,hk⟩:=Ag hk;split at hk
  ·rename_i id es off n e';rw[e'] at hx X5;obtain⟨Rs,hk⟩:=Ag hk;have Rs:=Nat.eq_of_beq_eq_true Rs;subst Rs;obtain⟨l,hk,hl⟩:=Cn h hk;obtain⟨u,hk,Gs⟩:=Cn h hk;obtain⟨hb,hk⟩:=Ag hk;simp only[Bool.and_eq_true,decide_eq_true_eq] at hb;rcases hx with⟨hβ,rfl,rfl,ad,B4⟩|⟨b,ob,y,cap,hβ,B4,hy,hn,Ps,Bl⟩
   ·have hu0:u=0:=by omega
    have VC:l=0:=by omega
    subst hu0 VC;refine⟨_,hk,Bc (val:=.slice ad 0 0) ?_ (.inl ⟨hβ,by simp,rfl,ad,rfl⟩) X5⟩
    unfold execOp;rw[ho];cases ad<;>simp[Instr.sliceAt,Instr.slice,run_underlying hu,B4,Gg hl Gs (Nat.le_refl 0) (Nat.le_refl 0),Bo Lb]
   ·have Bn:(execOp a.eval o).run P w=.ok (.value (.slice (some (if cap=l then ⟨b,y,none⟩ else ⟨b,y+l*As P e,none⟩)) (u-l) (cap-l))) w:=by
     unfold execOp;rw[ho];have DJ:=Gg (P:=P) (w:=w) (isS:=true) hl Gs hb.1 (Nat.le_trans hb.2 hn);simp[Instr.sliceAt,Instr.slice,run_underlying hu,B4,DJ,Bo Lb,Cf];split<;>rfl
    refine⟨_,hk,Bc Bn (.inr ?_) X5⟩;by_cases hc:cap=l
    ·rw[if_pos hc];refine⟨b,ob,y,cap-l,hβ,rfl,?_,by omega,⟨by rw[hc,Nat.sub_self];have:=Ps.1;omega,Ps.2⟩,Bl⟩
     by_cases h0:l*As P e=0
     ·rw[h0,Nat.add_zero];rcases hy with hy|⟨HX,Lg⟩
      ·exact .inl hy
      ·exact .inr ⟨by omega,Lg⟩
     ·exact .inr ⟨by omega,by omega⟩
    ·rw[if_neg hc];refine⟨b,ob,y+l*As P e,cap-l,hβ,rfl,?_,by omega,?_,Bl⟩
     ·rcases hy with hy|⟨HX,Lg⟩
      ·exact .inl (by omega)
      ·exact .inr ⟨by omega,by omega⟩
     ·have:l*As P e+(cap-l)*As P e=cap*As P e:=by
       rw[←Nat.add_mul]
       congr 1
       omega
      have:=Ps.1;exact⟨by omega,Ps.2⟩
  ·obtain⟨z,n,c,hk,hp⟩:=Dp hk;obtain⟨l,hk,hl⟩:=Cn h hk;obtain⟨u,hk,Gs⟩:=Cn h hk;obtain⟨hb,hk⟩:=Ag hk;simp only[Bool.and_eq_true,decide_eq_true_eq] at hb;rcases En hp hx with⟨B4,rfl,rfl⟩|⟨ad,cap,B4,rfl,hn,h1,h2,h3,h4⟩|⟨ad,cap,B4,rfl,rfl,rfl⟩
   rotate_right
   ·have hu0:u=0:=by omega
    have VC:l=0:=by omega
    subst hu0 VC;refine⟨_,hk,Bc (val:=.slice (some (if cap=0 then ad else ad.add (0*As P e))) (0-0) (cap-0)) ?_ ?_ (by intro i hi;cases hi)⟩
    ·unfold execOp;rw[ho];have DJ:=Gg (P:=P) (w:=w) (isS:=true) hl Gs (Nat.le_refl 0) (Nat.zero_le cap);simp[Instr.sliceAt,Instr.slice,run_underlying hu,B4,DJ,Bo Lb];split<;>rfl
    ·have:((([]:List PV).drop (0*As P e)).take ((0-0)*As P e))=[]:=by simp
     rw[this];exact Ap.lemp _ _ _
   ·have hu0:u=0:=by omega
    have VC:l=0:=by omega
    subst hu0 VC;refine⟨_,hk,Bc (val:=.slice none 0 0) ?_ ?_ (by intro i hi;cases hi)⟩
    ·unfold execOp;rw[ho];simp[Instr.sliceAt,Instr.slice,run_underlying hu,B4,Gg hl Gs (Nat.le_refl 0) (Nat.le_refl 0),Bo Lb]
    ·have:((([]:List PV).drop (0*As P e)).take ((0-0)*As P e))=[]:=by simp
     rw[this];exact Ap.lnil z _
   ·have Bn:(execOp a.eval o).run P w=.ok (.value (.slice (some (if cap=l then ad else ad.add (l*As P e))) (u-l) (cap-l))) w:=by
     unfold execOp;rw[ho];have DJ:=Gg (P:=P) (w:=w) (isS:=true) hl Gs hb.1 (Nat.le_trans hb.2 hn);simp[Instr.sliceAt,Instr.slice,run_underlying hu,B4,DJ,Bo Lb];split<;>rfl
    refine⟨_,hk,Bc Bn ?_ (by intro i hi;cases hi)⟩
    by_cases hc:cap=l
    ·rw[if_pos hc];have:u-l=0:=by omega
     rw[this];simp only[Nat.zero_mul,List.take_zero];exact Ap.lst _ _ [] ad _ (fun _=>undef) h1 h2 h3 (by omega) (by simp) (by simp) (by simp)
    ·rw[if_neg hc]
     have hcell:∀(j:Nat) q,((c.drop (l*As P e)).take ((u-l)*As P e))[j]?=some q->c[l*As P e+j]?=some q:=by
      intro j q hq;rw[List.getElem?_take] at hq;split at hq
      ·rw[List.getElem?_drop] at hq;exact hq
      ·cases hq
     refine Ap.lst _ _ _ (ad.add (l*As P e)) _ (fun j=>(w.cell? (ad.add (l*As P e+j))).getD undef) (TS h1 _) (by rw[Ec];exact h2) (by rw[Ec];exact h3) (by omega) (fun j q hq=>?_) (fun j q hq=>?_) (fun j q hq=>?_)
     ·obtain⟨v,hv,_⟩:=h4 _ q (hcell j q hq);rw[add_add,hv];rfl
     ·obtain⟨v,hv,h5,_⟩:=h4 _ q (hcell j q hq);rw[hv];exact h5
     ·obtain⟨v,hv,_,ht⟩:=h4 _ q (hcell j q hq);rw[hv];exact ht
 ·rename_i n e hu;obtain⟨Lb,hk⟩:=Ag hk;split at hk
  ·rename_i id off e';rw[e'] at hx X5;obtain⟨c,hrc,hk⟩:=Bp hk;obtain⟨Dc,hk⟩:=Ag hk;simp only[Bool.and_eq_true,decide_eq_true_eq] at Dc;have Rs:=Nat.eq_of_beq_eq_true Dc.2
   replace Dc:=Dc.1
   obtain⟨l,hk,hl⟩:=Cn h hk;obtain⟨u,hk,Gs⟩:=Cn h hk;obtain⟨hb,hk⟩:=Ag hk;simp only[Bool.and_eq_true,decide_eq_true_eq] at hb;obtain⟨b,ob,hβ,B4⟩:=hx
   have Yb:ob+off+n*As P e<=bsz w b:=by
    obtain⟨v,hv,_⟩:=Wr h hrc hβ (j:=off+n*As P e-1) (List.getElem?_eq_getElem (by omega))
    have:=Rv hv;omega
   have Bl:b<w.heap.size:=h.blt id b ob (X5 id (by simp[A8,Bh,Ak])) hβ
   have Bn:(execOp a.eval o).run P w=.ok (.value (.slice (some (if n=l then ⟨b,ob+off,none⟩ else ⟨b,ob+off+l*As P e,none⟩)) (u-l) (n-l))) w:=by
    unfold execOp;rw[ho];have DJ:=Gg (P:=P) (w:=w) (isS:=false) hl Gs hb.1 hb.2;simp[Instr.sliceAt,Instr.sureAddr,run_underlying hu,B4,DJ,Bo Lb,Cf]
   refine⟨_,hk,Bc Bn (.inr ?_) X5⟩;by_cases hc:n=l
   ·rw[if_pos hc];refine⟨b,ob,ob+off,n-l,hβ,rfl,?_,by omega,⟨by rw[hc,Nat.sub_self];omega,.inl Rs⟩,Bl⟩
    by_cases h0:l*As P e=0
    ·rw[h0,Nat.add_zero];exact .inl rfl
    ·exact .inr ⟨by omega,by omega⟩
   ·rw[if_neg hc];refine⟨b,ob,ob+off+l*As P e,n-l,hβ,rfl,.inl (by omega),by omega,?_,Bl⟩
    have:l*As P e+(n-l)*As P e=n*As P e:=by
     rw[←Nat.add_mul]
     congr 1
     omega
    exact⟨by omega,.inl Rs⟩
  ·cases hk
 ·cases hk
end
open Go.RowKit
section
variable {R:Type} {r:R} {P:Program} {N:Nat} {w0:World} {X0:Fw} {Y:Nat->Prop} {β β':Bt} {s:St} {a:Act} {w w':World} {o:Oper} {A:Nat->Prop}
theorem PJ (h:Bs N w0 X0 Y β s a w){c:Call}(ho:o.op=.call c)(hc:c.callee=.builtin .len){K:PV->Option R}
  (hk:(Aa c.args.toList fun x _=>Aa c.argTypes.toList fun t _=>PE P t (Bb s.tm x) fun n=>K (.sc (.int .i64 n)))=some r):∃v,K v=some r∧C2 P a w o Y β s v [] []:=by
 obtain⟨x,xs,X4,hk⟩:=Aq hk;obtain⟨t,ts,hts,hk⟩:=Aq hk;have hx:=Bx h x;have Dh:c.args=(x::xs).toArray:=by rw[←X4]
 have Vg:c.argTypes=(t::ts).toArray:=by rw[←hts]
 have Bn:∀n:Nat,(Builtin.len_ c.argTypes o.type (c.args.map a.eval)).run P w=.ok (.int .i64 n) w->(execOp a.eval o).run P w=.ok (.value (.int .i64 n)) w:=by
  intro n hl;unfold execOp;rw[ho];simp only[resolve,hc,invoke,builtin,Sem.run_bind,Sem.run_pure,Result.andThen_ok,hl]
 unfold PE at hk;split at hk
 ·rename_i hu;obtain⟨sb,Asx,hk⟩:=Cj hk;have B4:=Bk h Asx;refine⟨_,hk,Bq (Bn _ ?_)⟩;simp[Builtin.len_,Dh,Vg,run_underlying hu,B4,goInt]
 ·rename_i n e hu;refine⟨_,hk,Bq (Bn _ ?_)⟩;simp[Builtin.len_,Dh,Vg,run_underlying hu,goInt]
 ·rename_i e hu;split at hk
  ·rename_i id es off n e';rw[e'] at hx;obtain⟨_,hk⟩:=Ag hk;refine⟨_,hk,Bq (Bn _ ?_)⟩;rcases hx with⟨_,_,rfl,ad,B4⟩|⟨b,ob,y,cap,_,B4,_⟩<;>simp[Builtin.len_,Dh,Vg,run_underlying hu,B4,goInt]
  ·obtain⟨z,n,cc,hk,hp⟩:=Dp hk;refine⟨_,hk,Bq (Bn _ ?_)⟩;rcases En hp hx with⟨B4,rfl,_⟩|⟨ad,cap,B4,_⟩|⟨ad,cap,B4,_,rfl,_⟩<;>simp[Builtin.len_,Dh,Vg,run_underlying hu,B4,goInt]
 ·cases hk
theorem RB (h:Bs N w0 X0 Y β s a w){c:Call}(ho:o.op=.call c)(hc:c.callee=.builtin .cap){K:PV->Option R}
  (hk:(Aa c.args.toList fun x _=>Aa c.argTypes.toList fun t _=>OO P t (Bb s.tm x) fun n=>K (.sc (.int .i64 n)))=some r):∃v,K v=some r∧C2 P a w o Y β s v [] []:=by
 obtain⟨x,xs,X4,hk⟩:=Aq hk;obtain⟨t,ts,hts,hk⟩:=Aq hk;have hx:=Bx h x;have Dh:c.args=(x::xs).toArray:=by rw[←X4]
 have Vg:c.argTypes=(t::ts).toArray:=by rw[←hts]
 have Bn:∀n:Nat,(Builtin.cap_ c.argTypes o.type (c.args.map a.eval)).run P w=.ok (.int .i64 n) w->(execOp a.eval o).run P w=.ok (.value (.int .i64 n)) w:=by
  intro n hl;unfold execOp;rw[ho];simp only[resolve,hc,invoke,builtin,Sem.run_bind,Sem.run_pure,Result.andThen_ok,hl]
 unfold OO at hk;split at hk
 ·rename_i e hu;obtain⟨z,n,cc,hk,hp⟩:=Dp hk;obtain⟨hz,hk⟩:=Ag hk;refine⟨_,hk,Bq (Bn _ ?_)⟩;rcases En hp hx with⟨B4,rfl,_⟩|⟨ad,cap,B4,Ws,_⟩|⟨ad,cap,B4,Ws,_,_⟩
  ·simp[Builtin.cap_,Dh,Vg,run_underlying hu,B4,goInt]
  ·rw[hz] at Ws;cases Ws
  ·rw[hz] at Ws;cases Ws
 ·cases hk
theorem OQ (h:Bs N w0 X0 Y β s a w){c:Call}(ho:o.op=.call c)(hc:c.callee=.builtin .min){K:PV->Option R}
  (hk:(Aa c.args.toList fun x r=>Aa r fun y r'=>Af r' (Aa2 (Bb s.tm x) (Bb s.tm y) K))=some r):∃v,K v=some r∧C2 P a w o Y β s v [] []:=by
 obtain⟨x,xs,X4,hk⟩:=Aq hk;obtain⟨y,ys,rfl,hk⟩:=Aq hk;obtain⟨rfl,hk⟩:=Cb hk;obtain⟨k,n,hx,hk⟩:=B6 hk;obtain⟨m,hy,hk⟩:=C3 hk
 have Dh:c.args = #[x,y]:=by
  have:c.args=([x,y]:List Operand).toArray:=by rw[←X4]
  exact this
 refine⟨_,hk,Bq ?_⟩;unfold execOp;rw[ho];simp[resolve,hc,invoke,builtin,Dh,Builtin.min_,Builtin.min2,Bk h hx,Bk h hy]
theorem NM (h:Bs N w0 X0 Y β s a w){c:Call}(ho:o.op=.call c)(hc:c.callee=.builtin .max){K:PV->Option R}
  (hk:(Aa c.args.toList fun x r=>Aa r fun y r'=>Af r' (YC (Bb s.tm x) (Bb s.tm y) K))=some r):∃v,K v=some r∧C2 P a w o Y β s v [] []:=by
 obtain⟨x,xs,X4,hk⟩:=Aq hk;obtain⟨y,ys,rfl,hk⟩:=Aq hk;obtain⟨rfl,hk⟩:=Cb hk;obtain⟨k,n,hx,hk⟩:=B6 hk;obtain⟨m,hy,hk⟩:=C3 hk
 have Dh:c.args = #[x,y]:=by
  have:c.args=([x,y]:List Operand).toArray:=by rw[←X4]
  exact this
 refine⟨_,hk,Bq ?_⟩;unfold execOp;rw[ho];simp[resolve,hc,invoke,builtin,Dh,Builtin.max_,Builtin.max2,Bk h hx,Bk h hy]
theorem IF (h:Bs N w0 X0 Y β s a w){op:UnOp}{t:TypeId}{x:Operand}(ho:o.op=.unOp op t x){K:PV->Option R}(hk:unK op (Bb s.tm x) K=some r):
  ∃v,K v=some r∧C2 P a w o Y β s v [] []:=by
 unfold unK at hk;split at hk
 ·obtain⟨b,hb,hk⟩:=Ci hk;refine⟨_,hk,Bq ?_⟩;unfold execOp;rw[ho];simp[Op.unary,Bk h hb]
 ·obtain⟨k,n,hb,hk⟩:=B6 hk;refine⟨_,hk,Bq ?_⟩;unfold execOp;rw[ho];simp[Op.unary,Op.intArith,Bk h hb]
 ·obtain⟨k,n,hb,hk⟩:=B6 hk;refine⟨_,hk,Bq ?_⟩;unfold execOp;rw[ho];simp[Op.unary,Op.intBits,Bk h hb,Aj4]
 ·cases hk
theorem PY {op:BinOp}{k:IntKind}{m n:Int}{t:TypeId}{x y:Operand}{K:PV->Option R}(XU:op ≠ .shl)(hs2:op ≠ .shr)(hk:Ww op k m n K=some r):
  ∃v,K (.sc v)=some r∧(do eqGuard op t x y (.int k m) (.int k n);binOp op t (.int k m) (.int k n)).run P w=.ok v w:=by
 cases op<;>first
  |exact absurd rfl XU
  |exact absurd rfl hs2
  |(obtain⟨hb,hk⟩:=Ag hk;have hb:=of_decide_eq_true hb;exact⟨_,hk,by simp[eqGuard,binOp,Op.intDiv,hb]⟩)
  |exact⟨_,hk,by simp[eqGuard,binOp,-BitVec.toNat_and,-BitVec.toNat_or,-BitVec.toNat_xor,-gt_iff_lt,-ge_iff_le]<;>rfl⟩
theorem PS {op:BinOp}{m n:ByteArray}{t:TypeId}{x y:Operand}{K:PV->Option R}(hk:Wa op m n K=some r):
  ∃v,K (.sc v)=some r∧(do eqGuard op t x y (.string m) (.string n);binOp op t (.string m) (.string n)).run P w=.ok v w:=by
 cases op<;>first
  |cases hk
  |(obtain⟨hb,hk⟩:=Ag hk;have hb:=of_decide_eq_true hb;exact⟨_,hk,by
    have Fs:¬(((m.size+n.size:Nat):Int)>IntKind.i64.max):=by
     have:IntKind.i64.max=9223372036854775807:=rfl;rw[this];omega
    simp only[eqGuard,binOp,Op.stringOp,if_neg Fs];rfl⟩)
  |exact⟨_,hk,by simp only[eqGuard,binOp,Op.stringOp,ByteArray.toList_eq];rfl⟩
end
open Go.RowKit
section
variable {R:Type} {r:R} {P:Program} {N:Nat} {w0:World} {X0:Fw} {Y:Nat->Prop} {β β':Bt} {s:St} {a:Act} {w w':World} {o:Oper} {A:Nat->Prop}
theorem X2 {t:TypeId}(hu:P.underlying t=some .bool)(x y:Bool):(Op.equal t (.bool x) (.bool y)).run P w=.ok (x==y) w:=by
 have h:∀d,(Op.equalIn (d+1) t (.bool x) (.bool y)).run P w=.ok (x==y) w:=fun d=>by simp[Op.equalIn,run_underlying hu]
 exact h 9999
theorem O5 {t e:TypeId}(hu:P.underlying t=some (.slice e)) (x:Option Addr)(n c:Nat):(Op.equal t (.slice x n c) (.slice none 0 0)).run P w=.ok x.isNone w:=by
 have h:∀d,(Op.equalIn (d+1) t (.slice x n c) (.slice none 0 0)).run P w=.ok x.isNone w:=fun d=>by
  cases x<;>simp[Op.equalIn,run_underlying hu]
 exact h 9999
theorem Gm {t:TypeId}(d:Nat){v u:Value}(hv:(∃k m n,P.underlying t=some (.int k)∧v=.int k m∧u=.int k n)∨(∃m n,P.underlying t=some .bool∧v=.bool m∧u=.bool n)∨∃m n,P.underlying t=some .string∧v=.string m∧u=.string n) {b:Bool}
  (hb:∀k m n,v=.int k m->u=.int k n->b=(m==n)) (Fs:∀m n,v=.bool m->u=.bool n->b=(m==n)) (Aqe:∀m n,v=.string m->u=.string n->b=(m==n)):(Op.equalIn (d+1) t v u).run P w=.ok b w:=by
 rcases hv with⟨k,m,n,hu,rfl,rfl⟩|⟨m,n,hu,rfl,rfl⟩|⟨m,n,hu,rfl,rfl⟩
 ·rw[hb k m n rfl rfl];simp[Op.equalIn,run_underlying hu]
 ·rw[Fs m n rfl rfl];simp[Op.equalIn,run_underlying hu]
 ·rw[Aqe m n rfl rfl];simp[Op.equalIn,run_underlying hu]
theorem M7 {t:TypeId}{dsc:TypeDesc}(hu:P.underlying t=some dsc)(hd:Ba P t=false){xs:Array Value}{i:Nat}{v:Value}(hv:xs[i]?=some v):(part t xs i).run P w=.ok v w:=by
 simp only[part,Sem.run_bind,Js hu,hd,Result.andThen_ok];simp[hv]
theorem Z8 (k:IntKind)(n:Int)(K:Int->Option R):Ad k (.sc (.int k n)) K=K n:=by simp[Ad]
theorem ER (d : Nat) : ∀ (fs : List Field) (i : Nat) (xs ys : Array Value) (ps qs : List PV) (K : Bool -> Option R), EE P fs i = true -> Io (fs.map (SG P)) ps qs K = some r ->
    (∀ (j : Nat) p, ps[j]? = some p -> ∃ v, xs[i + j]? = some v ∧ A9 w A β p v) -> (∀ (j : Nat) p, qs[j]? = some p -> ∃ v, ys[i + j]? = some v ∧ A9 w A β p v) ->
    ∃ b, K b = some r ∧ (forIn fs ((none, ()) : Option Bool × Unit) fun (f : Field) (_ : Option Bool × Unit) =>
            if f.name = "_" then pure (ForInStep.yield ((none, ()) : Option Bool × Unit))
            else do
              let x ← part f.type xs f.offset
              let y ← part f.type ys f.offset
              let e ← Op.equalIn (d + 1) f.type x y
              if e = false then pure (ForInStep.done ((some false, ()) : Option Bool × Unit)) else pure (ForInStep.yield ((none, ()) : Option Bool × Unit)) : Sem (Option Bool × Unit)).run P w = .ok (if b then (none, ()) else (some false, ())) w
  | [], i, xs, ys, ps, qs, K, _, hk, _, _ => by
    cases ps with
    | nil => cases qs with
      | nil => exact⟨true, hk, by simp⟩
      | cons q qs => cases hk
    | cons p ps => cases hk
  | f :: fs, i, xs, ys, ps, qs, K, AD, hk, hp, hq => by
    simp only[EE, Bool.and_eq_true] at AD
    obtain⟨⟨⟨Lg, WH⟩, hty⟩, P4⟩ := AD
    have Lg := Nat.eq_of_beq_eq_true Lg
    have Wb : f.name ≠ "_" := by simpa using WH
    cases ps with
    | nil =>
      simp only[List.map_cons] at hk
      cases Agm : SG P f <;> rw[Agm] at hk <;> cases hk
    | cons p ps =>
      cases qs with
      | nil =>
        simp only[List.map_cons] at hk
        cases Agm : SG P f <;> rw[Agm] at hk <;> cases hk
      | cons q qs =>
        obtain⟨v, hv, S0⟩ := hp 0 p rfl
        obtain⟨u, hu, hqu⟩ := hq 0 q rfl
        rw[Nat.add_zero] at hv hu
        have main : ∃ b0 dsc, P.underlying f.type = some dsc ∧ Ba P f.type = false ∧ (Op.equalIn (d + 1) f.type v u).run P w = .ok b0 w ∧ Io (fs.map (SG P)) ps qs (fun r => K (b0 && r)) = some r := by
          simp only[List.map_cons] at hk
          unfold SG at hk
          split at hk
          · rename_i k Hc
            obtain⟨m, Zc, Cv⟩ := C3 (show Ad k p _ = some r from hk)
            obtain⟨n, Yd, Dk⟩ := C3 Cv
            subst Zc Yd
            have Kt : v = .int k m := Ap.val (w := w) (A := A) S0
            have Gs : u = .int k n := Ap.val (w := w) (A := A) hqu
            subst Kt Gs
            refine⟨m == n, _, Hc, by simp[Ba, Hc], Gm d (.inl ⟨k, m, n, Hc, rfl, rfl⟩) ?_ ?_ ?_, Dk⟩
            · intro k' m' n' h1 h2; injection h1 with _ h1; injection h2 with _ h2; rw[h1, h2]
            · intro m' n' h1; cases h1
            · intro m' n' h1; cases h1
          · rename_i Hc
            obtain⟨m, Zc, Cv⟩ := Ci (show A0 p _ = some r from hk)
            obtain⟨n, Yd, Dk⟩ := Ci Cv
            subst Zc Yd
            have Kt : v = .bool m := Ap.val (w := w) (A := A) S0
            have Gs : u = .bool n := Ap.val (w := w) (A := A) hqu
            subst Kt Gs
            refine⟨m == n, _, Hc, by simp[Ba, Hc], Gm d (.inr (.inl ⟨m, n, Hc, rfl, rfl⟩)) ?_ ?_ ?_, Dk⟩
            · intro k' m' n' h1; cases h1
            · intro m' n' h1 h2; injection h1 with h1; injection h2 with h2; rw[h1, h2]
            · intro m' n' h1; cases h1
          · rename_i Hc
            obtain⟨m, Zc, Cv⟩ := Cj (show Fx p _ = some r from hk)
            obtain⟨n, Yd, Dk⟩ := Cj Cv
            subst Zc Yd
            have Kt : v = .string m := Ap.val (w := w) (A := A) S0
            have Gs : u = .string n := Ap.val (w := w) (A := A) hqu
            subst Kt Gs
            refine⟨m == n, _, Hc, by simp[Ba, Hc], Gm d (.inr (.inr ⟨m, n, Hc, rfl, rfl⟩)) ?_ ?_ ?_, Dk⟩
            · intro k' m' n' h1; cases h1
            · intro m' n' h1; cases h1
            · intro m' n' h1 h2; injection h1 with h1; injection h2 with h2; rw[h1, h2]
          · cases hk
        obtain⟨b0, dsc, Hc, Ef, he, hk⟩ := main
        obtain⟨b, VR, Bn⟩ := ER d fs (i + 1) xs ys ps qs _ P4 hk (fun j p' hj => by have := hp (j + 1) p' hj; rwa [Nat.add_assoc, Nat.add_comm 1 j]) (fun j p' hj => by have := hq (j + 1) p' hj; rwa [Nat.add_assoc, Nat.add_comm 1 j])
        refine⟨b0 && b, VR, ?_⟩
        have hpx : (part f.type xs f.offset).run P w = .ok v w := M7 Hc Ef (by rw[Lg]; exact hv)
        have hpy : (part f.type ys f.offset).run P w = .ok u w := M7 Hc Ef (by rw[Lg]; exact hu)
        cases b0
        · simp[List.forIn_cons, Wb, hpx, hpy, he]
        · simp only[Bool.true_and]
          rw[← Bn]
          simp[List.forIn_cons, Wb, hpx, hpy, he]
theorem U5 (d:Nat){t:TypeId}{fs:Array Field}(hu:P.underlying t=some (.struct fs)) (Kf:P.stoodInHeld t=false)(AD:EE P fs.toList 0=true){xs ys:List PV}{vx vy:List Value}
  (YF:Av (A9 w A β) xs vx) (hvy:Av (A9 w A β) ys vy) {K:Bool->Option R}(hk:Io (fs.toList.map (SG P)) xs ys K=some r):
  ∃b,K b=some r∧(Op.equalIn (d+2) t (.agg ⟨vx⟩) (.agg ⟨vy⟩)).run P w=.ok b w:=by
 obtain⟨b,VR,Bn⟩:=ER (P:=P) (w:=w) (A:=A) (β:=β) d fs.toList 0 ⟨vx⟩ ⟨vy⟩ xs ys K AD hk (fun j p hj=>by
   obtain⟨v,hv,hc⟩:=YF.get hj;exact⟨v,by simpa using hv,hc⟩) (fun j p hj=>by
   obtain⟨v,hv,hc⟩:=hvy.get hj;exact⟨v,by simpa using hv,hc⟩)
 refine⟨b,VR,?_⟩;rw[Array.forIn_toList] at Bn;rw[Op.equalIn];simp[run_underlying hu,Kf];rw[Bn];cases b<;>simp
theorem Sp:∀(ts1:List CT){ts2:List CT}{ps qs:List PV}{K:Bool->Option R},Io (ts1++ts2) ps qs K=some r ->
  Io ts1 (ps.take ts1.length) (qs.take ts1.length) (fun b=>Io ts2 (ps.drop ts1.length) (qs.drop ts1.length) fun r'=>K (b&&r'))=some r
 |[],ts2,ps,qs,K,h=>by
  simp only[List.length_nil,List.take_zero,List.drop_zero,Io,Bool.true_and];exact h
 |t::ts1,ts2,ps,qs,K,h=>by
  rw[List.cons_append] at h;cases ps with
  |nil=>cases t<;>cases h
  |cons p ps=>
   cases qs with
   |nil=>cases t<;>cases h
   |cons q qs=>
    simp only[List.length_cons,List.take_succ_cons,List.drop_succ_cons];cases t with
    |int k=>
     obtain⟨m,Zc,h1⟩:=C3 (show Ad k p _=some r from h)
     obtain⟨n,Yd,h2⟩:=C3 h1;subst Zc Yd;have:=Sp ts1 h2;simp only[←Bool.and_assoc] at this;exact (Z8 _ _ _).trans ((Z8 _ _ _).trans this)
    |bool=>
     obtain⟨m,Zc,h1⟩:=Ci (show A0 p _=some r from h)
     obtain⟨n,Yd,h2⟩:=Ci h1;subst Zc Yd;have:=Sp ts1 h2;simp only[←Bool.and_assoc] at this;exact this
    |str=>
     obtain⟨m,Zc,h1⟩:=Cj (show Fx p _=some r from h)
     obtain⟨n,Yd,h2⟩:=Cj h1;subst Zc Yd;have:=Sp ts1 h2;simp only[←Bool.and_assoc] at this;exact this
    |sl es=>cases h
    |any=>cases h
theorem FG:∀(ts:List CT){ps qs:List PV}{K:Bool->Option R},Io ts ps qs K=some r->ps.length=ts.length∧qs.length=ts.length
 |[],ps,qs,K,h=>by
  cases ps with
  |nil=>cases qs with
   |nil=>exact⟨rfl,rfl⟩
   |cons q qs=>cases h
  |cons p ps=>cases h
 |t::ts,ps,qs,K,h=>by
  cases ps with
  |nil=>cases t<;>cases h
  |cons p ps=>
   cases qs with
   |nil=>cases t<;>cases h
   |cons q qs=>
    have go:∃K',Io ts ps qs K'=some r:=by
     cases t with
     |int k=>
      obtain⟨m,Zc,h1⟩:=C3 (show Ad k p _=some r from h)
      obtain⟨n,Yd,h2⟩:=C3 h1;exact⟨_,h2⟩
     |bool=>
      obtain⟨m,Zc,h1⟩:=Ci (show A0 p _=some r from h)
      obtain⟨n,Yd,h2⟩:=Ci h1;exact⟨_,h2⟩
     |str=>
      obtain⟨m,Zc,h1⟩:=Cj (show Fx p _=some r from h)
      obtain⟨n,Yd,h2⟩:=Cj h1;exact⟨_,h2⟩
     |sl es=>cases h
     |any=>cases h
    obtain⟨K',h'⟩:=go;have:=FG ts h';exact⟨by simp[this.1],by simp[this.2]⟩
theorem GH {t:TypeId}{dsc:TypeDesc}(hu:P.underlying t=some dsc)(hd:Ba P t=true)(hi:(P.info? t).isSome=true) (xs:Array Value)(i:Nat):(part t xs i).run P w=.ok (.agg (xs.extract i (i+As P t))) w:=by
 simp only[part,Sem.run_bind,Js hu,hd,Result.andThen_ok,if_true,Bo hi];rfl
theorem Zr {xs:Array Value}{i n:Nat}{ps:List PV}(hn:n<=ps.length)(hp:∀(j:Nat) p,ps[j]?=some p->∃v,xs[i+j]?=some v∧A9 w A β p v):Av (A9 w A β) (ps.take n) (xs.extract i (i+n)).toList:=by
 rcases Nat.eq_zero_or_pos n with h0|h0
 ·subst h0;simp[Av]
 have hl:n-1<ps.length:=by omega
 obtain⟨v,hv,_⟩:=hp (n-1) _ (List.getElem?_eq_getElem hl);have Jl:=(Array.getElem?_eq_some_iff.1 hv).1;refine Av.of_at (by simp;omega) fun j a b ha hb=>?_
 rw[List.getElem?_take] at ha;split at ha
 ·rename_i hj;obtain⟨v,hv,hc⟩:=hp j a ha;rw[Array.getElem?_toList,Array.getElem?_extract] at hb;split at hb
  ·rw[hv] at hb;cases hb;exact hc
  ·cases hb
 ·cases ha
theorem Uz {f:Field}{gs:Array Field}(hu:P.underlying f.type=some (.struct gs)):EY P f=gs.toList.map (SG P):=by unfold EY;rw[hu]
theorem JU {f:Field}(h:∀gs,P.underlying f.type≠some (.struct gs)):EY P f=[SG P f]:=by
 unfold EY;split
 ·rename_i gs hu;exact absurd hu (h gs)
 ·rfl
theorem LQ (d : Nat) : ∀ (fs : List Field) (i : Nat) (xs ys : Array Value) (ps qs : List PV) (K : Bool -> Option R), J8 P fs i = true -> Io (Qa P fs) ps qs K = some r ->
    (∀ (j : Nat) p, ps[j]? = some p -> ∃ v, xs[i + j]? = some v ∧ A9 w A β p v) -> (∀ (j : Nat) p, qs[j]? = some p -> ∃ v, ys[i + j]? = some v ∧ A9 w A β p v) ->
    ∃ b, K b = some r ∧ (forIn fs ((none, ()) : Option Bool × Unit) fun (f : Field) (_ : Option Bool × Unit) =>
            if f.name = "_" then pure (ForInStep.yield ((none, ()) : Option Bool × Unit))
            else do
              let x ← part f.type xs f.offset
              let y ← part f.type ys f.offset
              let e ← Op.equalIn (d + 2) f.type x y
              if e = false then pure (ForInStep.done ((some false, ()) : Option Bool × Unit)) else pure (ForInStep.yield ((none, ()) : Option Bool × Unit)) : Sem (Option Bool × Unit)).run P w = .ok (if b then (none, ()) else (some false, ())) w
  | [], i, xs, ys, ps, qs, K, _, hk, _, _ => by
    cases ps with
    | nil => cases qs with
      | nil => exact⟨true, hk, by simp⟩
      | cons q qs => cases hk
    | cons p ps => cases hk
  | f :: fs, i, xs, ys, ps, qs, K, AD, hk, hp, hq => by
    simp only[J8, Bool.and_eq_true] at AD
    obtain⟨⟨Lg, WH⟩, hty⟩ := AD
    have Lg := Nat.eq_of_beq_eq_true Lg
    have Wb : f.name ≠ "_" := by simpa using WH
    have main : ∃ b0 v u n, (part f.type xs f.offset).run P w = .ok v w ∧ (part f.type ys f.offset).run P w = .ok u w ∧ (Op.equalIn (d + 2) f.type v u).run P w = .ok b0 w ∧ J8 P fs (i + n) = true ∧ Io (Qa P fs) (ps.drop n) (qs.drop n) (fun r' => K (b0 && r')) = some r := by
      have hk := Sp (EY P f) (show Io (EY P f ++ Qa P fs) ps qs K = some r from hk)
      have Dc := FG _ hk
      rw[List.length_take, List.length_take] at Dc
      have plain : (∀ gs, P.underlying f.type ≠ some (.struct gs)) -> J8 P fs (i + 1) = true -> (match P.underlying f.type with | some (.int _) => true | some .bool => true | some .string => true | _ => false) = true ->
          ∃ b0 v u n, (part f.type xs f.offset).run P w = .ok v w ∧ (part f.type ys f.offset).run P w = .ok u w ∧ (Op.equalIn (d + 2) f.type v u).run P w = .ok b0 w ∧ J8 P fs (i + n) = true ∧ Io (Qa P fs) (ps.drop n) (qs.drop n) (fun r' => K (b0 && r')) = some r := by
        intro hs Aen Vo
        rw[JU hs] at hk Dc
        simp only[List.length_singleton] at hk Dc
        obtain⟨p, ps, rfl⟩ : ∃ p ps', ps = p :: ps' := by
          cases ps with
          | nil => simp at Dc
          | cons p ps => exact⟨p, ps, rfl⟩
        obtain⟨q, qs, rfl⟩ : ∃ q qs', qs = q :: qs' := by
          cases qs with
          | nil => simp at Dc
          | cons q qs => exact⟨q, qs, rfl⟩
        obtain⟨v, hv, S0⟩ := hp 0 p rfl
        obtain⟨u, hu, hqu⟩ := hq 0 q rfl
        rw[Nat.add_zero] at hv hu
        simp only[List.take_succ_cons, List.take_zero, List.drop_succ_cons, List.drop_zero] at hk ⊢
        have one : ∃ b0 dsc, P.underlying f.type = some dsc ∧ Ba P f.type = false ∧ (Op.equalIn (d + 2) f.type v u).run P w = .ok b0 w ∧ Io (Qa P fs) ps qs (fun r' => K (b0 && r')) = some r := by
          unfold SG at hk
          split at hk
          · rename_i k Hc
            obtain⟨m, Zc, Cv⟩ := C3 (show Ad k p _ = some r from hk)
            obtain⟨n, Yd, Dk⟩ := C3 Cv
            subst Zc Yd
            have Kt : v = .int k m := Ap.val (w := w) (A := A) S0
            have Gs : u = .int k n := Ap.val (w := w) (A := A) hqu
            subst Kt Gs
            have e : ∀ b : Bool, (b && true) = b := Bool.and_true
            simp only[Io, e] at Dk
            refine⟨m == n, _, Hc, by simp[Ba, Hc], Gm (d + 1) (.inl ⟨k, m, n, Hc, rfl, rfl⟩) ?_ ?_ ?_, Dk⟩
            · intro k' m' n' h1 h2; injection h1 with _ h1; injection h2 with _ h2; rw[h1, h2]
            · intro m' n' h1; cases h1
            · intro m' n' h1; cases h1
          · rename_i Hc
            obtain⟨m, Zc, Cv⟩ := Ci (show A0 p _ = some r from hk)
            obtain⟨n, Yd, Dk⟩ := Ci Cv
            subst Zc Yd
            have Kt : v = .bool m := Ap.val (w := w) (A := A) S0
            have Gs : u = .bool n := Ap.val (w := w) (A := A) hqu
            subst Kt Gs
            have e : ∀ b : Bool, (b && true) = b := Bool.and_true
            simp only[Io, e] at Dk
            refine⟨m == n, _, Hc, by simp[Ba, Hc], Gm (d + 1) (.inr (.inl ⟨m, n, Hc, rfl, rfl⟩)) ?_ ?_ ?_, Dk⟩
            · intro k' m' n' h1; cases h1
            · intro m' n' h1 h2; injection h1 with h1; injection h2 with h2; rw[h1, h2]
            · intro m' n' h1; cases h1
          · rename_i Hc
            obtain⟨m, Zc, Cv⟩ := Cj (show Fx p _ = some r from hk)
            obtain⟨n, Yd, Dk⟩ := Cj Cv
            subst Zc Yd
            have Kt : v = .string m := Ap.val (w := w) (A := A) S0
            have Gs : u = .string n := Ap.val (w := w) (A := A) hqu
            subst Kt Gs
            have e : ∀ b : Bool, (b && true) = b := Bool.and_true
            simp only[Io, e] at Dk
            refine⟨m == n, _, Hc, by simp[Ba, Hc], Gm (d + 1) (.inr (.inr ⟨m, n, Hc, rfl, rfl⟩)) ?_ ?_ ?_, Dk⟩
            · intro k' m' n' h1; cases h1
            · intro m' n' h1; cases h1
            · intro m' n' h1 h2; injection h1 with h1; injection h2 with h2; rw[h1, h2]
          · cases hk
        obtain⟨b0, dsc, Hc, Ef, he, hk⟩ := one
        exact⟨b0, v, u, 1, M7 Hc Ef (by rw[Lg]; exact hv), M7 Hc Ef (by rw[Lg]; exact hu), he, Aen, by simpa using hk⟩
      split at hty
      · rename_i k Hc
        exact plain (fun gs e => by rw[Hc] at e; cases e) hty (by rw[Hc])
      · rename_i Hc
        exact plain (fun gs e => by rw[Hc] at e; cases e) hty (by rw[Hc])
      · rename_i Hc
        exact plain (fun gs e => by rw[Hc] at e; cases e) hty (by rw[Hc])
      · rename_i gs Hc
        simp only[Bool.and_eq_true, Bool.not_eq_true'] at hty
        obtain⟨⟨⟨⟨hfp, Kf⟩, hi⟩, Jl⟩, P4⟩ := hty
        have Jl := Nat.eq_of_beq_eq_true Jl
        have Lc : (EY P f).length = gs.size := by rw[Uz Hc, List.length_map, Array.length_toList]
        rw[Lc] at hk Dc
        rw[Uz Hc] at hk
        have hx := Zr (n := gs.size) (by omega) hp
        have hy := Zr (n := gs.size) (by omega) hq
        obtain⟨b0, VR, he⟩ := U5 d Hc Kf hfp hx hy hk
        have ha : Ba P f.type = true := by simp[Ba, Hc]
        exact⟨b0, _, _, gs.size, by rw[GH Hc ha hi, Lg, Jl], by rw[GH Hc ha hi, Lg, Jl], he, P4, VR⟩
      · cases hty
    obtain⟨b0, v, u, n, hpx, hpy, he, Aen, hk⟩ := main
    obtain⟨b, VR, Bn⟩ := LQ d fs (i + n) xs ys (ps.drop n) (qs.drop n) _ Aen hk (fun j p' hj => by rw[List.getElem?_drop] at hj; have := hp (n + j) p' hj; rwa [← Nat.add_assoc] at this) (fun j p' hj => by rw[List.getElem?_drop] at hj; have := hq (n + j) p' hj; rwa [← Nat.add_assoc] at this)
    refine⟨b0 && b, VR, ?_⟩
    cases b0
    · simp[List.forIn_cons, Wb, hpx, hpy, he]
    · simp only[Bool.true_and]
      rw[← Bn]
      simp[List.forIn_cons, Wb, hpx, hpy, he]
theorem We (d:Nat){t:TypeId}{fs:Array Field}(hu:P.underlying t=some (.struct fs)) (Kf:P.stoodInHeld t=false)(AD:J8 P fs.toList 0=true){xs ys:List PV}{vx vy:List Value}
  (YF:Av (A9 w A β) xs vx) (hvy:Av (A9 w A β) ys vy) {K:Bool->Option R}(hk:Io (Qa P fs.toList) xs ys K=some r):
  ∃b,K b=some r∧(Op.equalIn (d+3) t (.agg ⟨vx⟩) (.agg ⟨vy⟩)).run P w=.ok b w:=by
 obtain⟨b,VR,Bn⟩:=LQ (P:=P) (w:=w) (A:=A) (β:=β) d fs.toList 0 ⟨vx⟩ ⟨vy⟩ xs ys K AD hk (fun j p hj=>by
   obtain⟨v,hv,hc⟩:=YF.get hj;exact⟨v,by simpa using hv,hc⟩) (fun j p hj=>by
   obtain⟨v,hv,hc⟩:=hvy.get hj;exact⟨v,by simpa using hv,hc⟩)
 refine⟨b,VR,?_⟩;rw[Array.forIn_toList] at Bn;rw[Op.equalIn];simp[run_underlying hu,Kf];rw[Bn];cases b<;>simp
theorem AE (h:Bs N w0 X0 Y β s a w){t:TypeId}{fs:Array Field}{x y:Operand}{op:BinOp}(RH:op=.eql∨op=.neq)(hu:P.underlying t=some (.struct fs)) (AD:BZ P t fs=true){xs ys:List PV}
  (hx:Bb s.tm x=.agg xs)(hy:Bb s.tm y=.agg ys){K:Bool->Option R}(hk:Io (Qa P fs.toList) xs ys K=some r):
  ∃b,K b=some r∧(do eqGuard op t x y (a.eval x) (a.eval y);binOp op t (a.eval x) (a.eval y)).run P w=.ok (.bool (if op=.eql then b else !b)) w:=by
 have hxv:=Bx h x;have MM:=Bx h y;rw[hx] at hxv;rw[hy] at MM;obtain⟨vx,B4,YF⟩:=hxv;obtain⟨vy,hay,hvy⟩:=MM;simp only[BZ,Bool.and_eq_true,Bool.not_eq_true'] at AD;obtain⟨⟨AD,Kf⟩,heg⟩:=AD;obtain⟨b,VR,heq⟩:=We 9997 hu Kf AD YF hvy hk;have heq:(Op.equal t (.agg ⟨vx⟩) (.agg ⟨vy⟩)).run P w=.ok b w:=heq;refine⟨b,VR,?_⟩;rw[B4,hay];rcases RH with rfl|rfl
 ·simp[eqGuard,binOp,heq,heg]
 ·simp[eqGuard,binOp,heq,heg]
theorem FP (h:Bs N w0 X0 Y β s a w){op:BinOp}{t ty:TypeId}{x y:Operand}(ho:o.op=.binOp op t x y ty){K:PV->Option R}
  (hk:O2 P op t (Bb s.tm x) (Bb s.tm y) K=some r):∃v,K v=some r∧C2 P a w o Y β s v [] []:=by
 have Bn:∀v,(do eqGuard op t x y (a.eval x) (a.eval y);binOp op t (a.eval x) (a.eval y)).run P w=.ok v w->(execOp a.eval o).run P w=.ok (.value v) w:=by
  intro v hv;unfold execOp;rw[ho];simp only[Sem.run_bind] at hv ⊢;rw[hv];rfl
 unfold O2 at hk;split at hk
 ·rename_i fs hu;split at hk
  ·obtain⟨AD,hk⟩:=Ag hk;obtain⟨xs,hx,hk⟩:=Ff hk;obtain⟨ys,hy,hk⟩:=Ff hk;obtain⟨b,hk,hr⟩:=AE h (.inl rfl) hu AD hx hy hk;exact⟨_,hk,Bq (Bn _ (by rw[hr];rfl))⟩
  ·obtain⟨AD,hk⟩:=Ag hk;obtain⟨xs,hx,hk⟩:=Ff hk;obtain⟨ys,hy,hk⟩:=Ff hk;obtain⟨b,hk,hr⟩:=AE h (.inr rfl) hu AD hx hy hk;exact⟨_,hk,Bq (Bn _ (by rw[hr];rfl))⟩
  ·cases hk
 ·unfold TP at hk;split at hk
  ·rename_i k hu;split at hk
   ·obtain⟨m,hx,hk⟩:=C3 hk;obtain⟨k2,n,hy,hk⟩:=B6 hk;obtain⟨hb,hk⟩:=Ag hk;have hb:=of_decide_eq_true hb;refine⟨_,hk,Bq (Bn _ ?_)⟩;have:¬n<0:=by omega
    simp[eqGuard,binOp,Op.shift,Bk h hx,Bk h hy,this]
   ·obtain⟨m,hx,hk⟩:=C3 hk;obtain⟨k2,n,hy,hk⟩:=B6 hk;obtain⟨hb,hk⟩:=Ag hk;have hb:=of_decide_eq_true hb;refine⟨_,hk,Bq (Bn _ ?_)⟩;have:¬n<0:=by omega
    simp[eqGuard,binOp,Op.shift,Bk h hx,Bk h hy,this]
   ·rename_i XU hs2;obtain⟨m,hx,hk⟩:=C3 hk;obtain⟨n,hy,hk⟩:=C3 hk;obtain⟨v,hk,hr⟩:=PY (P:=P) (w:=w) (t:=t) (x:=x) (y:=y) XU hs2 hk;exact⟨_,hk,Bq (Bn _ (by rw[Bk h hx,Bk h hy];exact hr))⟩
  ·rename_i hu;obtain⟨m,hx,hk⟩:=Cj hk;obtain⟨n,hy,hk⟩:=Cj hk;obtain⟨v,hk,hr⟩:=PS (P:=P) (w:=w) (t:=t) (x:=x) (y:=y) hk;exact⟨_,hk,Bq (Bn _ (by rw[Bk h hx,Bk h hy];exact hr))⟩
  ·rename_i hu;split at hk
   ·obtain⟨m,hx,hk⟩:=Ci hk;obtain⟨n,hy,hk⟩:=Ci hk;refine⟨_,hk,Bq (Bn _ ?_)⟩;simp[eqGuard,binOp,Bk h hx,Bk h hy,X2 hu]
   ·obtain⟨m,hx,hk⟩:=Ci hk;obtain⟨n,hy,hk⟩:=Ci hk;refine⟨_,hk,Bq (Bn _ ?_)⟩;simp[eqGuard,binOp,Bk h hx,Bk h hy,X2 hu]
   ·cases hk
  ·rename_i e hu;have hx:=Bx h x
   have nilQ:∀{e:Bool} {K':PV->Option R},W8 e (Bb s.tm x) K'=some r->∃q ad n c,K' q=some r∧a.eval x=.slice ad n c∧(q=.sc (.bool (if ad.isNone then e else !e))∨q=.ub):=by
    intro e K' hq;unfold W8 at hq;split at hq
    ·rename_i e';exact⟨_,none,0,0,hq,Bk h e',.inl rfl⟩
    ·rename_i z es n c e';rcases En (.inl e') hx with⟨B4,rfl,_⟩|⟨ad,cap,B4,rfl,_⟩|⟨ad,cap,B4,rfl,rfl,_⟩
     ·rcases Jd hq with⟨_,hq⟩|⟨_,hq⟩
      ·exact⟨_,none,0,0,hq,B4,.inl rfl⟩
      ·rcases Jd hq with⟨hb,_⟩|⟨_,hq⟩
       ·exact absurd (of_decide_eq_true hb) (by omega)
       ·exact⟨_,none,0,0,hq,B4,.inr rfl⟩
     ·rcases Jd hq with⟨hz,_⟩|⟨_,hq⟩
      ·cases hz
      ·rcases Jd hq with⟨_,hq⟩|⟨_,hq⟩
       ·exact⟨_,some ad,n,cap,hq,B4,.inl rfl⟩
       ·exact⟨_,some ad,n,cap,hq,B4,.inr rfl⟩
     ·rcases Jd hq with⟨hz,_⟩|⟨_,hq⟩
      ·cases hz
      ·rcases Jd hq with⟨hb,_⟩|⟨_,hq⟩
       ·exact absurd (of_decide_eq_true hb) (by omega)
       ·exact⟨_,some ad,0,cap,hq,B4,.inr rfl⟩
    ·rename_i id es off n e';rw[e'] at hx;rcases hx with⟨_,_,rfl,ad,B4⟩|⟨b,ob,y',cap,_,B4,_⟩
     ·rcases Jd hq with⟨hb,_⟩|⟨_,hq⟩
      ·exact absurd (of_decide_eq_true hb) (by omega)
      ·exact⟨_,ad,0,0,hq,B4,.inr rfl⟩
     ·rcases Jd hq with⟨_,hq⟩|⟨_,hq⟩
      ·exact⟨_,_,n,cap,hq,B4,.inl rfl⟩
      ·exact⟨_,_,n,cap,hq,B4,.inr rfl⟩
    ·cases hq
   split at hk
   ·rename_i hy;obtain⟨q,ad,n,c,hk,B4,hb⟩:=nilQ hk;rcases hb with rfl|rfl
    ·refine⟨_,hk,Bq (Bn _ ?_)⟩;cases ad<;>simp[eqGuard,binOp,B4,Bk h hy,O5 hu]
    ·refine⟨_,hk,Bc (val:=.bool ad.isNone) (Bn _ ?_) (Ap.ub _) (by intro i hi;cases hi)⟩
     simp[eqGuard,binOp,B4,Bk h hy,O5 hu]
   ·rename_i hy;obtain⟨q,ad,n,c,hk,B4,hb⟩:=nilQ hk;rcases hb with rfl|rfl
    ·refine⟨_,hk,Bq (Bn _ ?_)⟩;cases ad<;>simp[eqGuard,binOp,B4,Bk h hy,O5 hu]
    ·refine⟨_,hk,Bc (val:=.bool !ad.isNone) (Bn _ ?_) (Ap.ub _) (by intro i hi;cases hi)⟩
     simp[eqGuard,binOp,B4,Bk h hy,O5 hu]
   ·cases hk
  ·cases hk
end
open Go.RowKit
section
variable {R:Type} {r:R} {P:Program} {N:Nat} {w0:World} {X0:Fw} {Y:Nat->Prop} {β β':Bt} {s:St} {a:Act} {w w':World} {o:Oper} {A:Nat->Prop}
theorem N5:∀{c:List PV}{l:List UInt8},bytesOf c=some l->∃ns:List Int,c=ns.map (fun n=>.sc (.int .u8 n))∧l=ns.map fun n=>n.toNat.toUInt8
 |[],l,h=>⟨[],rfl,by simp[bytesOf] at h;subst h;rfl⟩
 |p::c,l,h=>by
  unfold bytesOf at h;split at h
  ·rename_i e;cases e
  ·rename_i n r e;cases e;cases hr:bytesOf c with
   |none=>rw[hr] at h;cases h
   |some l'=>
    rw[hr] at h;simp at h;obtain⟨ns,rfl,rfl⟩:=N5 hr;exact⟨n::ns,rfl,h.symm⟩
  ·cases h
theorem Nj:∀(ns:List Int)(b:ByteArray),ns.foldl (fun r n=>r.push (UInt8.ofNat n.toNat)) b=⟨b.data++(ns.map fun n=>n.toNat.toUInt8).toArray⟩
 |[],b=>by simp
 |n::ns,b=>by
  simp only[List.foldl_cons];rw[Nj ns];simp[ByteArray.push]
theorem GO (h:Bs N w0 X0 Y β s a w){es:Nat}{x:Operand}{K:Nat->List PV->Option R}(hk:KV (Ha s.hp) es (Bb s.tm x) K=some r):
  ∃n c,K n c=some r∧(((∃ad,a.eval x=.slice ad 0 0)∧n=0∧c=[])∨∃ad cap,a.eval x=.slice (some ad) n cap∧n<=cap∧(c=[]∨ad.block<w.heap.size)∧DH w (B1 s.hp β Y) ad c):=by
 have hx:=Bx h x;have X5:=Df h x;unfold KV at hk;split at hk
 ·rename_i id es' off n e;rw[e] at hx X5;cases hb:Nat.beq es' es
  ·rw[hb] at hk;cases hk
  ·rw[hb] at hk;obtain⟨c,hc,hk⟩:=Bp (show Db _ _=some r from hk)
   obtain⟨hl,hk⟩:=Ag hk;have hl:=of_decide_eq_true hl;obtain⟨f,OX⟩:=AO hc;refine⟨_,_,hk,?_⟩;rcases hx with⟨_,rfl,rfl,ad,B4⟩|⟨b,ob,y,cap,hβ,B4,hy,hn,_,Bl⟩
   ·exact .inl ⟨⟨ad,B4⟩,rfl,by simp⟩
   ·refine .inr ⟨_,cap,B4,hn,.inr Bl,fun j p hj=>?_⟩
    have Aks:0<n*es:=by
     rcases Nat.eq_zero_or_pos (n*es) with h0|h0
     ·rw[h0] at hj;simp at hj
     ·exact h0
    have HX:n≠0:=by rintro rfl;simp at Aks
    have hy:y=ob+off:=by rcases hy with hy|⟨h0,_⟩<;>omega
    subst hy;rw[List.getElem?_take] at hj;split at hj
    ·rw[List.getElem?_drop] at hj;rcases h.box id _ OX with⟨h1,_⟩|⟨b',o',h1,h2,_⟩
     ·rw[hβ] at h1;cases h1
     ·rw[hβ] at h1;simp at h1;obtain⟨rfl,rfl⟩:=h1
      obtain⟨v,hv,h3,ht⟩:=h2 (off+j) p hj;rw[Cf] at hv;exact⟨v,by rw[Cf,Nat.add_assoc];exact hv,h3,ht⟩
    ·cases hj
 ·obtain⟨z,n,c,hk,hp⟩:=Dp hk;refine⟨n,c,hk,?_⟩;rcases En hp hx with h1|⟨ad,cap,B4,_,hn,h1,h2,_,h4⟩|⟨ad,cap,B4,_,rfl,rfl⟩
  ·exact .inl ⟨⟨none,h1.1⟩,h1.2⟩
  ·exact .inr ⟨ad,cap,B4,hn,.inr h2,h4⟩
  ·exact .inr ⟨ad,cap,B4,Nat.zero_le _,.inl rfl,fun j c hj=>by simp at hj⟩
theorem OD (b:ByteArray)(j:Nat)(p:PV)(h:(Ex b)[j]?=some p):∃x,b.data[j]?=some x∧p=.sc (.int .u8 x.toNat):=by
 unfold Ex at h;rw[List.getElem?_map] at h;cases hx:b.data.toList[j]? with
 |none=>rw[hx] at h;cases h
 |some x=>
  rw[hx] at h;simp at h;exact⟨x,by simpa using hx,h.symm⟩
theorem IA (h:Bs N w0 X0 Y β s a w){src dst:TypeId}{x:Operand}(ho:o.op=.convert src dst x){d:Nat}{K:PV->List (Nat × A2)->Option R}
  (hk:W9 P (Ha s.hp) d src dst (Bb s.tm x) K=some r):∃v nw,K v nw=some r∧C2 P a w o Y β s v [] nw:=by
 have Bn:∀v w',(convert src dst (a.eval x)).run P w=.ok v w'->(execOp a.eval o).run P w=.ok (.value v) w':=by
  intro v w' hv;unfold execOp;rw[ho];simp[hv]
 unfold W9 at hk;split at hk
 ·rename_i k hu;obtain⟨hs,hk⟩:=Ag hk;obtain⟨k',n,hx,hk⟩:=B6 hk;exact⟨_,_,hk,Bq (Bn _ _ (by rw[Bk h hx];obtain⟨ds,hds⟩:=Option.isSome_iff_exists.1 hs;cases ds<;>simp[convert,run_underlying hds,run_underlying hu,Conv.intToInt]))⟩
 ·rename_i hu;split at hk
  ·rename_i hs;obtain⟨b,hx,hk⟩:=Cj hk;exact⟨_,_,hk,Bq (Bn _ _ (by rw[Bk h hx];simp[convert,run_underlying hs,run_underlying hu]))⟩
  ·rename_i e hs;split at hk
   ·rename_i he;obtain⟨n,c,hk,hc⟩:=GO h hk;obtain⟨hl,hk⟩:=Ag hk;have hl:=of_decide_eq_true hl;obtain⟨l,hb,hk⟩:=Bp hk;obtain⟨ns,rfl,rfl⟩:=N5 hb;refine⟨_,_,hk,Bq (Bn _ _ ?_)⟩;rcases hc with⟨⟨ad,B4⟩,rfl,hn⟩|⟨ad,cap,B4,_,_,hrd⟩
    ·have:ns=[]:=by simpa using hn
     subst this;rw[B4,run_convert_bytes_string w src dst e ad 0 0 hs he hu];cases ad<;>rfl
    ·rw[B4,run_convert_bytes_string w src dst e _ _ _ hs he hu]
     have hld:(loadCells ad n).run P w=.ok (ns.map (Value.int .u8)).toArray w:=by
      have:=run_loadCells_list (P:=P) w ad (ns.map (Value.int .u8)) (fun j v hj=>by
       rw[List.getElem?_map] at hj;cases hn:ns[j]? with
       |none=>rw[hn] at hj;cases hj
       |some m=>
        rw[hn] at hj;simp at hj;subst hj;obtain⟨v,hv,_,ht⟩:=hrd j (.sc (.int .u8 m)) (by rw[List.getElem?_map,hn];rfl)
        rw[ht.val] at hv;exact hv)
      simp only[List.length_map] at this hl;rw[hl] at this;exact this
     rw[run_bytesToString w ad n cap ns hld,Nj];simp
   ·cases hk
  ·cases hk
 ·rename_i e hu;split at hk
  ·rename_i he hs;obtain⟨b,hx,hk⟩:=Cj hk;obtain⟨Jl,hk⟩:=Ag hk;have hr:=run_bytes_of_string (P:=P) w src dst e b hs hu he;rw[←Bk h hx] at hr
   have Ps:b.size<=grownCap w b.size 0 e:=by
    unfold grownCap;simp[Question.cut]
   have FL:(bytesRow b (grownCap w b.size 0 e)).size=grownCap w b.size 0 e:=by
    simp only[bytesRow,Array.size_append,Array.size_map,Array.size_replicate];have:b.data.size=b.size:=rfl;omega
   refine⟨_,_,hk,Ma (c:=bytesRow b (grownCap w b.size 0 e)) (e:=e) (by simp) (Bn _ _ hr) ?_ (fun j p hj=>?_) (.inr ⟨1,b.size,grownCap w b.size 0 e,rfl,rfl,Ps,by rw[FL];omega,.inl rfl⟩)⟩
   ·exact⟨rfl,rfl,rfl,fun i hi=>Below.heap_alloc w.drew _ i hi,by show (w.heap.push _).size=_;simp,_,by show (w.heap.push _)[w.heap.size]?=_;simp;rfl,.inr (Nat.le_refl _)⟩
   ·obtain⟨y,hy,rfl⟩:=OD b j p hj;refine⟨.int .u8 y.toNat,?_,rfl,Ap.sc _⟩
    have Bl:j<b.data.size:=by
     rcases Nat.lt_or_ge j b.data.size with h|h
     ·exact h
     ·rw[Array.getElem?_eq_none h] at hy;cases hy
    simp only[bytesRow];rw[Array.getElem?_append_left (by simpa using Bl),Array.getElem?_map,hy]
    rfl
  ·cases hk
 ·cases hk
end
open Go.RowKit
section
variable {R:Type} {r:R} {P:Program} {N:Nat} {w0:World} {X0:Fw} {Y:Nat->Prop} {β β':Bt} {s:St} {a:Act} {w w':World} {o:Oper} {A:Nat->Prop}
theorem Rb:∀{n:Nat}{l:List PV}{j:Nat}{c:PV},(Qj n l)[j]?=some c->j<n*l.length∧l[j % l.length]?=some c
 |0,l,j,c,h=>by simp[Qj] at h
 |n+1,l,j,c,h=>by
  have e:Qj (n+1) l=l++Qj n l:=by simp[Qj,List.replicate_succ]
  rw[e] at h;by_cases hj:j<l.length
  ·rw[List.getElem?_append_left hj] at h;refine⟨by rw[Nat.add_mul];omega,?_⟩
   rw[Nat.mod_eq_of_lt hj];exact h
  ·rw[List.getElem?_append_right (by omega)] at h
   obtain⟨h1,h2⟩:=Rb h;refine⟨by rw[Nat.add_mul];omega,?_⟩
   rw[Nat.mod_eq_sub_mod (by omega)];exact h2
theorem FA (n:Nat)(l:List PV):(Qj n l).length=n*l.length:=by
 induction n with
 |zero=>simp[Qj]
 |succ n ih=>
  have e:Qj (n+1) l=l++Qj n l:=by simp[Qj,List.replicate_succ]
  rw[e,List.length_append,ih,Nat.add_mul];omega
theorem GI {z:Array Value}{n j:Nat}(hj:j<n){v:Value}(hv:z[j % z.size]?=some v):(madeCells z n)[j]?=some v:=by
 unfold madeCells;rw[Array.getElem?_map,Array.getElem?_range,if_pos hj];simp only[Option.map_some];rw[getElem!_def,hv]
theorem KH (h:Bs N w0 X0 Y β s a w){t:TypeId}{x y:Operand}(ho:o.op=.makeSlice t x y){d:Nat}{K:PV->List Nat->List (Nat × A2)->Option R}
  (hk:(match P.underlying t with
   |some (.slice e)=>Ce (Bb s.tm x) fun _ n=>Ce (Bb s.tm y) fun _ m=>
     Ar (decide (0<=n)&&decide (n<=m)&&decide (m*((P.info? e).map (·.bytes)).getD 0<=1099511627776)&&decide (m<=1099511627776))
      (Fb P e fun z=>K (.view d (As P e) 0 n.toNat) [] [(d,.ar false (Qj n.toNat z))])
   |_=>none)=some r):∃v fz nw,K v fz nw=some r∧C2 P a w o Y β s v fz nw:=by
 split at hk
 ·rename_i e hu;obtain⟨k1,n,hx,hk⟩:=B6 hk;obtain⟨k2,m,hy,hk⟩:=B6 hk;obtain⟨hb,hk⟩:=Ag hk;simp only[Bool.and_eq_true,decide_eq_true_eq] at hb;obtain⟨⟨⟨h0,DF⟩,Nx⟩,hm⟩:=hb;obtain⟨z,cs,hk,hz,hct,hl,Jl,hc⟩:=Kv hk
  have hzc:∃i,P.info? e=some i∧i.zero=some z:=by
   unfold Qs at hz;cases hi:P.info? e with
   |none=>rw[hi] at hz;cases hz
   |some i=>rw[hi] at hz;exact⟨i,rfl,hz⟩
  obtain⟨i,hi,OY⟩:=hzc;have Ako:As P e=i.size:=by simp[As,hi]
  simp only[hi,Option.map_some,Option.getD_some] at Nx;have hr:=run_make (P:=P) w t e i z hu hi OY k1 k2 n m h0 DF (by rw[Int.mul_comm];omega) (by omega)
  have Bn:(execOp a.eval o).run P w=.ok (.value (.slice (some ⟨w.heap.size,0,none⟩) n.toNat m.toNat)) (w.alloc (.cells (madeCells z.cells (m.toNat*i.size)) e)):=by
   unfold execOp;rw[ho];simp[Bk h hx,Bk h hy,hr]
  have hzl:z.cells.size=As P e:=by
   have:z.cells.toList.length=z.cells.size:=by simp
   omega
  refine⟨_,_,_,hk,Ma (c:=madeCells z.cells (m.toNat*i.size)) (e:=e) (by simp) Bn (Dr.alloc w _ e) (fun j p hj=>?_) (.inr ⟨As P e,n.toNat,m.toNat,rfl,rfl,by omega,by rw[size_madeCells,Ako];exact Nat.le_refl _,.inr (Hs w _ e)⟩)⟩
  obtain⟨h1,h2⟩:=Rb hj;obtain⟨hT,u,Gs,U6,hv⟩:=hc _ p h2;refine⟨u,GI ?_ ?_,U6,hv _ _⟩
  ·have:n.toNat*cs.length<=m.toNat*i.size:=by
    rw[Jl,Ako];exact Nat.mul_le_mul_right _ (by omega)
   omega
  ·rw[hzl,←Jl]
   simpa using Gs
 ·cases hk
theorem QJ {p:PV}{v:Value}(hp:okP p=true)(hv:C4 w A β p v):Av (A9 w A β) (cellsOf p) v.cells.toList:=by
 have one:v.oneCell'=true->A9 w A β p v->(∀x,p ≠ .agg x)->Av (A9 w A β) (cellsOf p) v.cells.toList:=by
  intro h1 h2 h3;have:cellsOf p=[p]:=by cases p<;>first|rfl|exact absurd rfl (h3 _)
  rw[this,Jw h1];exact⟨h2,trivial⟩
 unfold okP at hp;split at hp
 ·obtain⟨vs,rfl,h2⟩:=hv;exact h2
 ·refine one ?_ hv (by simp)
  have Kt:Ap w A _ v:=hv;cases Kt<;>rfl
 ·refine one ?_ hv (by simp)
  rcases hv with⟨_,_,_,_,rfl⟩|⟨_,_,_,_,_,rfl,_⟩<;>rfl
 ·have:=Ty hv;subst this;exact one rfl hv (by simp)
 ·have:=Ty hv;subst this;exact one rfl hv (by simp)
 ·have:=Ty hv;subst this;exact one rfl hv (by simp)
 ·have:=Ty hv;subst this;exact one rfl hv (by simp)
 ·cases hp
theorem MW:∀(vs:List Value)(k off:Nat)(cells:Array Value),off+k+vs.length<=cells.size ->
  ((vs.zipIdx k).foldl (fun cs (q:Value × Nat)=>cs.setIfInBounds (off+q.2) q.1) cells).toList=cells.toList.take (off+k)++vs++cells.toList.drop (off+k+vs.length)
 |[],k,off,cells,_=>by simp
 |v::vs,k,off,cells,h=>by
  simp only[List.zipIdx_cons,List.foldl_cons,List.length_cons] at h ⊢;rw[MW vs (k+1) off _ (by simp;omega)]
  have Bl:off+k<cells.toList.length:=by simp;omega
  simp only[Array.toList_setIfInBounds];rw[show off+(k+1)=off+k+1 from by omega,List.take_succ_eq_append_getElem (by simpa using Bl)]
  rw[List.getElem_set_self,List.take_set_of_le (Nat.le_refl _),List.drop_set_of_lt (by omega)]
  simp only[List.append_assoc,List.cons_append,List.nil_append];rw[show off+k+1+vs.length=off+k+(vs.length+1) from by omega]
theorem Xj (h:Bs N w0 X0 Y β s a w){E0:Nat->Option (Nat × Nat)}:∀{parts:List (Nat × Operand)} {pc:List PV}{vc:Array Value}{K:List PV->Option R},
  Ot E0 (parts.map fun q=>(q.1,Bb s.tm q.2)) pc K=some r->Av (A9 w (B1 s.hp β Y) β) pc vc.toList->(∀c∈pc,∀id∈Ak c,s.hp id≠none) ->
  ∃pc' vc',K pc'=some r∧Instr.fill E0 vc (parts.map fun q=>(q.1,a.eval q.2))=some vc'∧Av (A9 w (B1 s.hp β Y) β) pc' vc'.toList∧pc'.length=pc.length∧∀c∈pc',∀id∈Ak c,s.hp id≠none
 |[],pc,vc,K,hk,hv,hr=>⟨pc,vc,hk,rfl,hv,rfl,hr⟩
 |(i,x)::parts,pc,vc,K,hk,hv,hr=>by
  simp only[List.map_cons] at hk;unfold Ot at hk;obtain⟨⟨off,size⟩,Vo,hk⟩:=Bp hk;obtain⟨hb,hk⟩:=Ag hk;simp only[Bool.and_eq_true] at hb;obtain⟨⟨Kh,Jl⟩,Sv⟩:=hb;have Jl:(cellsOf (Bb s.tm x)).length=size:=Nat.eq_of_beq_eq_true Jl;have Sv:off+size<=pc.length:=Nat.le_of_ble_eq_true Sv;have hxc:=QJ Kh (Bx h x);have hxl:=hxc.len;have R2:=hv.len;have G8:vc.toList.length=vc.size:=by simp
  have P6:(a.eval x).cells.toList.length=(a.eval x).cells.size:=by simp
  have Alb:=MW (a.eval x).cells.toList 0 off vc (by omega)
  simp only[Nat.add_zero] at Alb
  have Akj:((a.eval x).cells.zipIdx.foldl (fun cs (q:Value × Nat)=>cs.setIfInBounds (off+q.2) q.1) vc).toList=vc.toList.take off++(a.eval x).cells.toList++vc.toList.drop (off+(a.eval x).cells.toList.length):=by
   rw[←Alb,←Array.foldl_toList];simp
  obtain⟨pc',vc',hk,hf,h2,hl,MZ⟩:=Xj h (pc:=A4 pc (cellsOf (Bb s.tm x)) off) (vc:=(a.eval x).cells.zipIdx.foldl (fun cs (q:Value × Nat)=>cs.setIfInBounds (off+q.2) q.1) vc) hk (by
    rw[Akj,←hxl];exact (((hv.take off).app hxc).app (hv.drop _))) (by
    intro c hc id Ay;unfold A4 at hc;rcases List.mem_append.1 hc with hc|hc
    ·rcases List.mem_append.1 hc with hc|hc
     ·exact hr c (List.mem_of_mem_take hc) id Ay
     ·refine Df h x id ?_;cases hp:Bb s.tm x with
      |agg cs=>rw[hp] at hc;exact List.mem_flatMap.2 ⟨c,hc,Ay⟩
      |tup cs=>rw[hp] at hc;simp[cellsOf] at hc;subst hc;cases Ay
      |_=>rw[hp] at hc;simp[cellsOf] at hc;subst hc;exact Ay
    ·exact hr c (List.mem_of_mem_drop hc) id Ay)
  refine⟨pc',vc',hk,?_,h2,?_,MZ⟩
  ·simp only[List.map_cons,Instr.fill,Vo];rw[if_neg (by simp;omega)]
   exact hf
  ·rw[hl];simp[A4];omega
theorem GU {t:TypeId}{z:Value}{cs:List PV}(hl:cs.length=z.cells.toList.length)(hc:∀(j:Nat) c,cs[j]?=some c->Py c∧∃u,z.cells.toList[j]?=some u∧u.oneCell'=true∧∀(w:World)(A:Nat->Prop),Ap w A c u) (_ht:Qs P t=some z):
  Av (A9 w A β) cs z.cells.toList∧∀c∈cs,Ak c=[]:=by
 refine⟨Av.of_at hl fun i c u hci hu=>?_,fun c HC=>?_⟩
 ·obtain⟨hT,u',Gs,_,hv⟩:=hc i c hci;rw[hu] at Gs;cases Gs;exact (Ib hT).2 (hv _ _)
 ·obtain⟨j,hj⟩:=List.mem_iff_getElem?.1 HC;exact Fl (hc j c hj).1
theorem V4:∀{fs:List Field},(fs.all fun f=>W2 P f.type)=true->fs.mapM (fun f=>(P.info? f.type).map fun i=>(f.offset,i.size))=some (fs.map fun f=>(f.offset,As P f.type))
 |[],_=>rfl
 |f::fs,h=>by
  simp only[List.all_cons,Bool.and_eq_true] at h;obtain⟨i,hi⟩:=Option.isSome_iff_exists.1 h.1;simp[List.mapM_cons,hi,V4 h.2,As]
theorem Ql {p q:Nat->Option (Nat × Nat)} (h:∀i,p i=q i)(cells:Array Value)(parts:List (Nat × Value)):Instr.fill p cells parts=Instr.fill q cells parts:=by
 have:p=q:=funext h;rw[this]
theorem GB (h:Bs N w0 X0 Y β s a w){t:TypeId}{ps:Array (Nat × Operand)} (ho:o.op=.build t ps){K:PV->Option R}
  (hk:(Ar (Ln P t&&Ba P t)<|Fb P t fun z=>Ot (Mz P t) (ps.toList.map fun q=>(q.1,Bb s.tm q.2)) z fun cs=>Li (Fz P t) cs 0 fun cs'=>K (.agg cs'))=some r):∃v,K v=some r∧C2 P a w o Y β s v [] []:=by
 obtain⟨Vo,hk⟩:=Ag hk;simp only[Bool.and_eq_true] at Vo;obtain⟨Vo,Ef⟩:=Vo;obtain⟨z,cs,hk,hz,hct,hl,Jl,hc⟩:=Kv hk;obtain⟨hzr,Ws⟩:=GU (w:=w) (A:=B1 s.hp β Y) (β:=β) hl hc hz;obtain⟨pc',vc',hk,hf,h2,G9,MZ⟩:=Xj h hk hzr (fun c HC id Ay=>by rw[Ws c HC] at Ay;cases Ay)
 obtain⟨qs,hk,hql,Tn,hq⟩:=Ob hk
 have Afw:P.built t (ps.toList.map fun q=>(q.1,a.eval q.2))=some vc':=by
  have OY:∃i,P.info? t=some i∧i.zero=some z:=by
   unfold Qs at hz;cases hi:P.info? t with
   |none=>rw[hi] at hz;cases hz
   |some i=>rw[hi] at hz;exact⟨i,rfl,hz⟩
  obtain⟨i,hi,OY⟩:=OY;unfold Ln at Vo;unfold Program.built;split at Vo
  ·rename_i fs hu
   have NN:Instr.fill (((fs.toList.map fun f=>(f.offset,As P f.type)).toArray)[·]?) z.cells (ps.toList.map fun q=>(q.1,a.eval q.2))=some vc':=by
    rw[←hf];refine Ql (fun j=>?_) _ _
    simp[Mz,hu]
   simp only[hi,hu,OY,V4 Vo];exact NN
  ·rename_i n e hu;obtain⟨ie,hie⟩:=Option.isSome_iff_exists.1 Vo
   have NN:Instr.fill (fun j=>some (j*ie.size,ie.size)) z.cells (ps.toList.map fun q=>(q.1,a.eval q.2))=some vc':=by
    rw[←hf];refine Ql (fun j=>?_) _ _
    simp[Mz,hu,As,hie]
   simp only[hi,hu,OY,hie];exact NN
  ·rename_i e hu;simp[Ba,hu] at Ef
  ·cases Vo
 refine⟨_,hk,Bc (val:=.agg vc') ?_ ⟨vc'.toList,rfl,?_⟩ ?_⟩
 ·unfold execOp;rw[ho];have:=run_build (P:=P) w t (ps.map fun q=>(q.1,a.eval q.2)) vc' (by simpa using Afw)
  simp[this]
 ·refine Av.of_at (by have:=h2.len;omega) fun j c u hcj hu=>?_
  obtain⟨p,hp,_,_,S0⟩:=hq j c hcj;rw[Nat.zero_add] at hp;exact (S0 _ _ _ _ (h2.at_ hp hu)).1
 ·intro id Ay;obtain⟨c,HC,Ay⟩:=List.mem_flatMap.1 (show id∈qs.flatMap Ak from Ay)
  obtain⟨j,hj⟩:=List.mem_iff_getElem?.1 HC;obtain⟨p,hp,_,hpr,_⟩:=hq j c hj;rw[Nat.zero_add] at hp;exact MZ p (List.mem_of_getElem? hp) id (hpr id Ay)
end
open Go.RowKit
section
variable {R:Type} {r:R} {P:Program} {N:Nat} {w0:World} {X0:Fw} {Y:Nat->Prop} {β β':Bt} {s:St} {a:Act} {w w':World} {o:Oper} {A:Nat->Prop}
theorem IL (h:Bs N w0 X0 Y β s a w){fz:List Nat}(Nk:∀id∈fz,∃f c,s.hp id=some (.ar f c)) {id:Nat}(hm:id∈fz){f:Bool}{c:List PV}(hb:s.hp id=some (.ar f c)) {b ob:Nat}(hβ:β id=some (b,ob)):
  ¬B1 (Ac s.hp fz) β Y b∧DH w (B1 (Ac s.hp fz) β Y) ⟨b,ob,none⟩ c∧b<w.heap.size:=by
 have hf:=h.freeze Nk;have he:Ac s.hp fz id=some (.ar true c):=by rw[A6,if_pos hm,hb];rfl
 rcases hf.box id _ he with⟨h1,_⟩|⟨b',o',h1,h2,_,h4⟩
 ·rw[hβ] at h1;cases h1
 ·rw[hβ] at h1;simp at h1;obtain⟨rfl,rfl⟩:=h1;exact⟨h4 rfl,h2,h.blt id b ob (by rw[hb];simp) hβ⟩
theorem NT (h:Bs N w0 X0 Y β s a w){fz:List Nat}(Nk:∀id∈fz,∃f c,s.hp id=some (.ar f c)) {id es off n:Nat}(hm:id∈fz){f:Bool}{c:List PV}(hb:s.hp id=some (.ar f c)) {v:Value}
  (hv:A9 w (B1 s.hp β Y) β (.view id es off n) v):Ap w (B1 (Ac s.hp fz) β Y) (.lst false es n ((c.drop off).take (n*es))) v:=by
 rcases hv with⟨_,rfl,rfl,ad,rfl⟩|⟨b,ob,y,cap,hβ,rfl,hy,hn,_,Bl⟩
 ·simp only[Nat.zero_mul,List.take_zero];cases ad with
  |none=>exact Ap.lnil false es
  |some p=>exact Ap.lemp es p 0
 ·obtain⟨h1,h2,_⟩:=IL h Nk hm hb hβ;by_cases HX:n*es=0
  ·rw[HX,List.take_zero];exact Ap.lst es n [] ⟨b,y,none⟩ cap (fun _=>undef) rfl Bl h1 hn (by simp) (by simp) (by simp)
  ·have hy:y=ob+off:=by
    rcases hy with hy|⟨h0,_⟩
    ·exact hy
    ·rw[h0] at HX;simp at HX
   subst hy
   have hcell:∀(j:Nat) q,((c.drop off).take (n*es))[j]?=some q->c[off+j]?=some q:=by
    intro j q hq;rw[List.getElem?_take] at hq;split at hq
    ·rw[List.getElem?_drop] at hq;exact hq
    ·cases hq
   refine Ap.lst es n _ ⟨b,ob+off,none⟩ cap (fun j=>(w.cell? ⟨b,ob+off+j,none⟩).getD undef) rfl Bl h1 hn (fun j q hq=>?_) (fun j q hq=>?_) (fun j q hq=>?_)
   ·obtain⟨v,hv,_⟩:=h2 _ q (hcell j q hq);rw[Cf,←Nat.add_assoc] at hv;rw[Cf,hv];rfl
   ·obtain⟨v,hv,h3,_⟩:=h2 _ q (hcell j q hq);rw[Cf,←Nat.add_assoc] at hv;rw[hv];exact h3
   ·obtain⟨v,hv,_,ht⟩:=h2 _ q (hcell j q hq);rw[Cf,←Nat.add_assoc] at hv;rw[hv];exact ht
theorem Ap.zf {A:Nat->Prop}{z:Bool}{es n:Nat}{c:List PV}{v:Value}(h:Ap w A (.lst z es n c) v):Ap w A (.lst false es n c) v:=by
 cases h with
 |lnil=>exact .lnil _ _
 |lemp=>exact .lemp _ _ _
 |lst _ _ _ a cap f hs hb hA hn hc h1 hr=>exact .lst _ _ _ a cap f hs hb hA hn hc h1 hr
theorem Wn (h:Bs N w0 X0 Y β s a w){t:CT}{p:PV}{K:PV->List Nat->Option R}(hk:Kn (Ha s.hp) t p K=some r):
  ∃c m,K c m=some r∧Py c∧Yq p∧(∀id∈m,∃f cc,s.hp id=some (.ar f cc))∧∀fz:List Nat,(∀id∈m,id∈fz)->(∀id∈fz,∃f cc,s.hp id=some (.ar f cc))->∀v,A9 w (B1 s.hp β Y) β p v->Ap w (B1 (Ac s.hp fz) β Y) c v∧v.oneCell'=true:=by
 have tree:∀t',(Sz t' p fun c=>K c [])=some r->∃c m,K c m=some r∧Py c∧Yq p∧(∀id∈m,∃f cc,s.hp id=some (.ar f cc))∧∀fz:List Nat,(∀id∈m,id∈fz)->(∀id∈fz,∃f cc,s.hp id=some (.ar f cc))->∀v,A9 w (B1 s.hp β Y) β p v->Ap w (B1 (Ac s.hp fz) β Y) c v∧v.oneCell'=true:=by
  intro t' hk;obtain⟨c,hk,hT,Xn,hv⟩:=Jc hk;refine⟨c,[],hk,hT,M9 Xn,by simp,fun fz _ Nk v S0=>?_⟩
  obtain⟨h1,h2⟩:=hv _ _ _ _ S0;exact⟨h1.step (Bd.refl _ _) (fun b _ hb=>hb.imp L9 id),h2⟩
 cases t with
 |sl es=>
  unfold Kn at hk;dsimp only at hk;split at hk
  ·rename_i id es' off n;cases hb:Nat.beq es' es
   ·rw[hb] at hk;cases hk
   ·rw[hb] at hk;have:=Nat.eq_of_beq_eq_true hb;subst this;obtain⟨c,hc,hk⟩:=Bp (show Db _ _=some r from hk)
    obtain⟨_,hk⟩:=Ag hk;obtain⟨f,I1⟩:=AO hc;refine⟨_,[id],hk,trivial,trivial,?_,fun fz hm Nk v hv=>⟨NT h Nk (hm id (by simp)) I1 hv,?_⟩⟩
    ·intro i hi;simp at hi;subst hi;exact⟨f,c,I1⟩
    ·rcases hv with⟨_,_,_,_,rfl⟩|⟨_,_,_,_,_,rfl,_⟩<;>rfl
  ·obtain⟨z,n,c,hk,hp⟩:=Dp hk;refine⟨_,[],hk,trivial,?_,by simp,fun fz _ Nk v S0=>?_⟩
   ·rcases hp with rfl|⟨rfl,_⟩<;>trivial
   ·have ht:=Q1 hp S0;refine⟨Ap.zf (ht.step (Bd.refl _ _) (fun b _ hb=>hb.imp L9 id)),?_⟩
    cases ht<;>rfl
 |int k=>exact tree (.int k) hk
 |bool=>exact tree .bool hk
 |str=>exact tree .str hk
 |any=>exact tree .any hk
theorem Lp (h:Bs N w0 X0 Y β s a w):∀{ts:List CT}{ps:List PV}{K:List PV->List Nat->Option R},J2 (Ha s.hp) ts ps K=some r ->
  ∃cs m,K cs m=some r∧cs.length=ts.length∧ps.length=ts.length∧(∀c∈cs,Py c)∧(∀p∈ps,Yq p)∧(∀id∈m,∃f cc,s.hp id=some (.ar f cc)) ∧
   ∀fz:List Nat,(∀id∈m,id∈fz)->(∀id∈fz,∃f cc,s.hp id=some (.ar f cc))->∀vs,Av (A9 w (B1 s.hp β Y) β) ps vs->Av (Ap w (B1 (Ac s.hp fz) β Y)) cs vs∧∀v∈vs,v.oneCell'=true
 |[],[],K,hk=>⟨[],[],hk,rfl,rfl,by simp,by simp,by simp,fun fz _ _ vs hv=>by
   cases vs with
   |nil=>exact⟨trivial,by simp⟩
   |cons v vs=>exact hv.elim⟩
 |[],_::_,K,hk=>by cases hk
 |_::_,[],K,hk=>by cases hk
 |t::ts,p::ps,K,hk=>by
  unfold J2 at hk;obtain⟨c,m,hk,hT,hF,hm,hv⟩:=Wn h hk;obtain⟨cs,ms,hk,hl,G9,hTs,hFs,Wm,G8⟩:=Lp h hk;refine⟨c::cs,m++ms,hk,by simp[hl],by simp[G9],?_,?_,?_,fun fz hfm Nk vs h2=>?_⟩
  ·intro x hx;rcases List.mem_cons.1 hx with rfl|hx
   ·exact hT
   ·exact hTs x hx
  ·intro x hx;rcases List.mem_cons.1 hx with rfl|hx
   ·exact hF
   ·exact hFs x hx
  ·intro x hx;rcases List.mem_append.1 hx with hx|hx
   ·exact hm x hx
   ·exact Wm x hx
  ·cases vs with
   |nil=>exact h2.elim
   |cons v vs=>
    obtain⟨h3,h4⟩:=hv fz (fun i hi=>hfm i (by simp[hi])) Nk v h2.1
    obtain⟨h5,h6⟩:=G8 fz (fun i hi=>hfm i (by simp[hi])) Nk vs h2.2
    refine⟨⟨h3,h5⟩,?_⟩;intro x hx;rcases List.mem_cons.1 hx with rfl|hx
    ·exact h4
    ·exact h6 x hx
theorem OJ {R':PV->Value->Prop}{cs:List PV}{z:Array Value}(h:Av R' cs z.toList)(n:Nat):Av R' (Qj n cs) (madeCells z (n*cs.length)).toList:=by
 have hzl:z.size=cs.length:=by have:=h.len;simp at this;exact this.symm
 refine Av.of_at ?_ fun j c v hc hv=>?_
 ·rw[FA];simp[size_madeCells]
 ·obtain⟨h1,h2⟩:=Rb hc
  have Bl:j % cs.length<cs.length:=by
   rcases Nat.lt_or_ge (j % cs.length) cs.length with h|h
   ·exact h
   ·rw[List.getElem?_eq_none h] at h2;cases h2
  obtain⟨u,hu,hcu⟩:=h.get h2;have:(madeCells z (n*cs.length))[j]?=some u:=GI h1 (by rw[hzl];simpa using hu)
  have Kt:(madeCells z (n*cs.length))[j]?=some v:=by simpa using hv
  rw[this] at Kt;cases Kt;exact hcu
theorem Zp {A':Nat->Prop}:∀{ps cs:List PV}{vs:List Value},Av (A9 w (B1 s.hp β Y) β) ps vs->Av (Ap w A') cs vs->Av (Ap w A') (EZ true ps cs) vs
 |[],_,_,_,h=>h
 |_::_,[],_,_,h=>h
 |p::ps,c::cs,[],_,h=>h.elim
 |p::ps,c::cs,v::vs,hp,h=>by
  refine⟨?_,Zp hp.2 h.2⟩;split
  ·have h1:Ap w (B1 s.hp β Y) (.lst true _ 0 []) v:=hp.1;cases h1;exact .lnil true _
  ·exact h.1
theorem Ts (h:Bs N w0 X0 Y β s a w){nz:Bool}{t:TypeId}{n:Nat}{ps:Array (Nat × Operand)} (ho:o.op=.buildSlice t n ps){d:Nat}{K:PV->List Nat->List (Nat × A2)->Option R}
  (hk:(match P.underlying t with
   |some (.slice e)=>Ar (Ln P t&&Nat.ble (n*As P e) 16777216) (Fb P e fun z=>Ot (Mz P t) (ps.toList.map fun q=>(q.1,Bb s.tm q.2)) (Qj n z) fun cs=>
     J2 (Ha s.hp) (List.replicate n (Fz P e)).flatten cs fun cs' m=>K (.view d (As P e) 0 n) m [(d,.ar false (bif nz then EZ true cs cs' else cs'))])
   |_=>none)=some r):∃v fz nw,K v fz nw=some r∧C2 P a w o Y β s v fz nw:=by
 split at hk
 ·rename_i e hu;obtain⟨hb,hk⟩:=Ag hk;simp only[Bool.and_eq_true] at hb;have Sv:n*As P e<=16777216:=Nat.le_of_ble_eq_true hb.2;have Lb:(P.info? e).isSome=true:=by have:=hb.1;unfold Ln at this;rw[hu] at this;exact this
  obtain⟨z,cs,hk,hz,hct,hl,Jl,hc⟩:=Kv hk;obtain⟨hzr,Ws⟩:=GU (w:=w) (A:=B1 s.hp β Y) (β:=β) hl hc hz;have Apb:=OJ hzr n
  obtain⟨pc',vc',hk,hf,h2,G9,MZ⟩:=Xj h hk Apb (fun c HC id Ay=>by
   obtain⟨j,hj⟩:=List.mem_iff_getElem?.1 HC;obtain⟨_,hg⟩:=Rb hj;rw[Ws c (List.mem_of_getElem? hg)] at Ay;cases Ay)
  obtain⟨qs,m,hk,hql,Vo,hqT,_,hm,hqv⟩:=Lp h hk;obtain⟨h3,h3'⟩:=hqv m (fun _ hi=>hi) hm _ h2
  have h3:Av (Ap w (B1 (Ac s.hp m) β Y)) (bif nz then EZ true pc' qs else qs) vc'.toList:=by
   cases nz
   ·exact h3
   ·exact Zp h2 h3
  have NN:Instr.fill (fun i=>some (i*As P e,As P e)) (madeCells z.cells (n*cs.length)) (ps.toList.map fun q=>(q.1,a.eval q.2))=some vc':=by
   rw[←hf];refine Ql (fun i=>?_) _ _
   simp[Mz,hu]
  have R2:vc'.size=n*As P e:=by
   have h4:=h2.len;rw[G9,FA] at h4;simp at h4;rw[←h4,Jl]
  have Bn:(execOp a.eval o).run P w=.ok (.value (.slice (some ⟨w.heap.size,0,none⟩) n n)) (w.alloc (.cells vc' e)):=by
   unfold execOp;rw[ho];have Alf:¬(n*As P e>2 ^ 24):=by omega
   rw[Jl] at NN;by_cases HX:n*As P e=0
   ·simp only[Instr.buildSlice,Sem.run_bind,run_underlying hu,Result.andThen_ok,Bo Lb,if_neg Alf,HX];rw[HX] at NN;have e0:madeCells z.cells 0=(Array.range 0).map (fun _=>default):=by simp[madeCells]
    rw[e0] at NN;simp[NN,newRow]
   ·simp only[Instr.buildSlice,Sem.run_bind,run_underlying hu,Result.andThen_ok,Bo Lb,if_neg Alf,if_neg HX,P5 hz];unfold madeCells at NN;simp[NN,newRow]
  refine⟨_,_,_,hk,Ma (c:=vc') (e:=e) hm Bn (Dr.alloc w vc' e) (fun j p hj=>?_) (.inr ⟨As P e,n,n,rfl,rfl,Nat.le_refl _,by rw[R2];exact Nat.le_refl _,.inr (Hs w vc' e)⟩)⟩
  obtain⟨u,Gs,hp⟩:=h3.get hj;exact⟨u,by simpa using Gs,h3' u (List.mem_of_getElem? Gs),hp⟩
 ·cases hk
end
end
end Go.Proofs.Yteicjnihnacadaa.Pv
