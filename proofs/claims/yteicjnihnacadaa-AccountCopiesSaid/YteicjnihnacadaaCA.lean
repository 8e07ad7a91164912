/-
  The proof of AccountCopies, part 1.
-/
import Derived.Orders
import Derived.LoopN
import Derived.Below
import Derived.Lib.ValidU
import Derived.Lib.Bytealg
import Derived.IntWalk
import Derived.WalkKit
import Derived.WalkLawsBesides
import Derived.Laws.IdiomStrings
import Derived.Laws.MakeOwn
import Derived.Laws.Tables
set_option linter.unusedSimpArgs false
set_option linter.unusedVariables false
namespace Go.Proofs.Yteicjnihnacadaa.Pv
section
inductive PV where
 |sc (v:Value)
 |lst (z:Bool) (es n:Nat) (cells:List PV)
 |own (es n:Nat) (cells:List PV)
 |view (id es off n:Nat)
 |ptr (id off:Nat)
 |iptr (cells:List PV) (off:Nat)
 |pbox (cells:List PV)
 |agg (cells:List PV)
 |tup (vs:List PV)
 |top
 |ub
inductive A1 where
 |st (cells:List PV)
 |ar (fz:Bool) (cells:List PV)
 |mv
structure St where
 tm:Nat->PV
 hp:Nat->Option A1
structure Bg where
 vals:List PV
 outs:List (List PV)
structure Eg where
 shr:FuncId->Bool
 mvd:FuncId->Nat->Bool
 lnd:FuncId->Nat->Bool
 kz:FuncId->Bool
 ext:FuncId->Option (List PV->Option Bg)
 nz:Nat->Bool
def Eg.core (C:Eg):Eg:={ C with ext:=fun _=>none }
def Bh {α:Type}(f:Nat->α)(i:Nat)(v:α):Nat->α:=fun j=>bif Nat.beq j i then v else f j
def rd (hp:Nat->Option A1)(id:Nat):Option (List PV):=
 match hp id with
 |some (.st c)=>some c
 |some (.ar _ c)=>some c
 |_=>none
def Gb (hp:Nat->Option A1)(id:Nat):Option (List PV):=
 match hp id with
 |some (.ar _ c)=>some c
 |_=>none
inductive CT where
 |int (k:IntKind)
 |bool
 |str
 |sl (es:Nat)
 |any
def Aq (P:Program)(t:TypeId):Nat:=((P.info? t).map (·.size)).getD 0
def A9 (P:Program)(t:TypeId):Bool:=
 match P.underlying t with
 |some (.struct _)=>true
 |some (.array _ _)=>true
 |_=>false
def Abj (P:Program):Nat->TypeId->List CT
 |0,_=>[]
 |d+1,t=>
  match P.underlying t with
  |some (.int k)=>[.int k]
  |some .bool=>[.bool]
  |some .string=>[.str]
  |some (.slice e)=>[.sl (Aq P e)]
  |some (.struct fs)=>fs.toList.flatMap fun f=>Abj P d f.type
  |some (.array n e)=>(List.replicate n (Abj P d e)).flatten
  |_=>[.any]
abbrev Ez (P:Program)(t:TypeId):List CT:=Abj P 9 t
def Fm (P:Program)(t:TypeId):Bool:=(P.underlying t).isSome&&Nat.beq (Ez P t).length (Aq P t)
abbrev VG (k:IntKind)(a b:Int):Int:=k.wrap (BitVec.ofInt k.bits a &&& BitVec.ofInt k.bits b).toNat
abbrev Te (k:IntKind)(a b:Int):Int:=k.wrap (BitVec.ofInt k.bits a ||| BitVec.ofInt k.bits b).toNat
abbrev Ci (k:IntKind)(a b:Int):Int:=k.wrap (BitVec.ofInt k.bits a ^^^ BitVec.ofInt k.bits b).toNat
abbrev XU (k:IntKind)(a b:Int):Int:=k.wrap (BitVec.ofInt k.bits a &&& ~~~BitVec.ofInt k.bits b).toNat
abbrev F8 (k:IntKind)(a b:Int):Int:=k.wrap (a*2 ^ (min b.toNat k.bits))
abbrev Z5 (k:IntKind)(a b:Int):Int:=a.fdiv (2 ^ (min b.toNat k.bits))
abbrev Afc (k:IntKind)(n:Int):Int:=k.wrap (BitVec.ofInt k.bits (if k.signed then -1 else k.max) ^^^ BitVec.ofInt k.bits n).toNat
section
variable {R:Type}
def Ag (k:IntKind)(p:PV)(K:Int->Option R):Option R:=
 match p with
 |.sc (.int k' n)=>if k'=k then K n else none
 |_=>none
def A7 (p:PV)(K:Bool->Option R):Option R:=
 match p with
 |.sc (.bool b)=>K b
 |_=>none
def Er (p:PV)(K:ByteArray->Option R):Option R:=
 match p with
 |.sc (.string s)=>K s
 |_=>none
def F5 (es:Nat)(p:PV)(K:Bool->Nat->List PV->Option R):Option R:=
 match p with
 |.lst z es' n c=>bif Nat.beq es' es then K z n c else none
 |.sc (.slice none 0 0)=>K true 0 []
 |_=>none
def fsK (es:Nat)(p:PV)(K:PV->Option R):Option R:=
 match p with
 |.view id es' off n=>bif Nat.beq es' es then K (.view id es off n) else none
 |p=>F5 es p fun z n c=>K (.lst z es n c)
def Ml (es:Nat)(p:PV)(K:Nat->List PV->Option R):Option R:=
 match p with
 |.own es' n c=>bif Nat.beq es' es then K n c else none
 |_=>none
def As (b:Bool)(K:Option R):Option R:=bif b then K else none
abbrev Ab {α:Type}(x:α)(K:α->Option R):Option R:=K x
def EO (b:Bool)(x y:Option R):Option R:=bif b then x else y
abbrev Aj6 (x:Nat)(K:Nat->Option R):Option R:=K x
def Aam (x:List (List Nat)) (K:List (List Nat)->Option R):Option R:=K x
def Cb (b:Bool)(x y:Option R):Option R:=bif b then x else y
def C7 {α:Type}(o:Option α)(K:α->Option R):Option R:=
 match o with
 |some a=>K a
 |none=>none
def Aa {α:Type}(l:List α)(K:α->List α->Option R):Option R:=
 match l with
 |a::r=>K a r
 |[]=>none
def Ah {α:Type}(l:List α)(K:Option R):Option R:=
 match l with
 |[]=>K
 |_::_=>none
def Dw (p:PV)(K:List PV->Option R):Option R:=
 match p with
 |.agg c=>K c
 |_=>none
def Pq (p:PV)(K:List PV->Option R):Option R:=
 match p with
 |.pbox c=>K c
 |_=>none
def Ar (r:Option Bg)(K:List PV->List (List PV)->Option R):Option R:=
 match r with
 |some ⟨v,o⟩=>K v o
 |none=>none
def PX (p:PV)(K:Value->Option R):Option R:=
 match p with
 |.sc (.func f a b)=>K (.func f a b)
 |_=>none
def fvK (p:PV)(K:FuncId->Option R):Option R:=
 match p with
 |.sc (.func (.func f) a b)=>bif a.isEmpty&&b.isEmpty then K f else none
 |_=>none
def Se (t:CT)(p:PV)(K:PV->Option R):Option R:=
 match t with
 |.int k=>Ag k p fun n=>K (.sc (.int k n))
 |.bool=>A7 p fun b=>K (.sc (.bool b))
 |.str=>Er p fun s=>K (.sc (.string s))
 |.sl es=>F5 es p fun z n c=>K (.lst z es n c)
 |.any=>PX p fun v=>K (.sc v)
def ZX (t:CT)(p:PV)(K:PV->Option R):Option R:=
 match t with
 |.sl es=>fsK es p K
 |t=>Se t p K
def Mp:List CT->List PV->Nat->(List PV->Option R)->Option R
 |[],_,_,K=>K []
 |t::ts,cells,off,K=>Se t (cells.getD off .top) fun c=>Mp ts cells (off+1) fun r=>K (c::r)
def J4:List CT->List PV->Nat->(List PV->Option R)->Option R
 |[],_,_,K=>K []
 |t::ts,cells,off,K=>ZX t (cells.getD off .top) fun c=>J4 ts cells (off+1) fun r=>K (c::r)
def LO (agg:Bool)(cells:List PV)(K:PV->Option R):Option R:=
 bif agg then K (.agg cells) else Aa cells fun c r=>Ah r (K c)
def cellsOf:PV->List PV
 |.agg c=>c
 |p=>[p]
def cvK (P:Program)(t:TypeId)(v:Value)(K:PV->Option R):Option R:=
 match v with
 |.agg cs=>As (Nat.beq cs.toList.length (Ez P t).length) (Mp (Ez P t) (cs.toList.map .sc) 0 fun c=>K (.agg c))
 |.slice none 0 0=>
  match P.underlying t with
  |some (.slice e)=>K (.lst true (Aq P e) 0 [])
  |_=>none
 |v=>K (.sc v)
end
def A8 (tm:Nat->PV):Operand->PV
 |.tmp t=>tm t
 |.const (.agg cs)=>.agg (cs.toList.map .sc)
 |.const v=>.sc v
 |.func f=>.sc (.func (.func f) #[] #[])
 |.global g=>.sc (.pointer (some ⟨g,0,none⟩))
section
variable {R:Type}
def B4 (p:PV)(K:IntKind->Int->Option R):Option R:=
 match p with
 |.sc (.int k n)=>K k n
 |_=>none
def IV (rdf:Nat->Option (List PV)) (es:Nat)(p:PV)(K:Nat->List PV->Option R):Option R:=
 match p with
 |.view id es' off n=>bif Nat.beq es' es then C7 (rdf id) fun c=>As (decide (off+n*es<=c.length)) (K n ((c.drop off).take (n*es))) else none
 |p=>F5 es p fun _ n c=>K n c
def Ja (rdf:Nat->Option (List PV)) (t:CT)(p:PV)(K:PV->List Nat->Option R):Option R:=
 match t with
 |.sl es=>
  match p with
  |.view id es' off n=>bif Nat.beq es' es then C7 (rdf id) fun c=>As (decide (off+n*es<=c.length)) (K (.lst false es n ((c.drop off).take (n*es))) [id]) else none
  |p=>F5 es p fun _ n c=>K (.lst false es n c) []
 |t=>Se t p fun c=>K c []
def Iv (rdf:Nat->Option (List PV)):List CT->List PV->(List PV->List Nat->Option R)->Option R
 |[],[],K=>K [] []
 |t::ts,p::ps,K=>Ja rdf t p fun c m=>Iv rdf ts ps fun cs ms=>K (c::cs) (m++ms)
 |_,_,_=>none
def DX (k:Bool):List PV->List PV->List PV
  |p::ps,c::cs=>
    (match k,p with
     |true,.lst true es 0 []=>.lst true es 0 []
     |_,_=>c)::DX k ps cs
  |_,cs=>cs
def HC (P:Program)(rdf:Nat->Option (List PV)) (t:TypeId)(p:PV)(K:PV->List Nat->Option R):Option R:=
 bif A9 P t then Dw p fun ps=>Iv rdf (Ez P t) ps fun cs m=>K (.agg cs) m
 else Iv rdf (Ez P t) [p] fun cs m=>Aa cs fun c r=>Ah r (K c m)
def Vl (P:Program)(rdf:Nat->Option (List PV)):List TypeId->List PV->(List PV->List Nat->Option R)->Option R
 |[],[],K=>K [] []
 |t::ts,p::ps,K=>HC P rdf t p fun v m=>Vl P rdf ts ps fun vs ms=>K (v::vs) (m++ms)
 |_,_,_=>none
def QA (shr:Bool)(id:Nat)(t:CT)(p:PV)(K:PV->List (Nat × A1)->Option R):Option R:=
 match t with
 |.sl es=>bif shr then F5 es p fun _ n c=>K (.lst false es n c) [] else Ml es p fun n c=>K (.view id es 0 n) [(id,.ar false c)]
 |t=>Se t p fun c=>K c []
def Ka (shr:Bool)(N:Nat):Nat->List CT->List PV->(List PV->List (Nat × A1)->Option R)->Option R
 |_,[],ps,K=>Ah ps (K [] [])
 |id,t::ts,ps,K=>Aa ps fun p ps=>QA shr id t p fun c b=>Ka shr N (id+N) ts ps fun cs bs=>K (c::cs) (b++bs)
def P0 (P:Program)(t:TypeId):Option TypeId:=
 match P.underlying t with
 |some (.pointer e)=>some e
 |_=>none
def EH (P:Program)(t:TypeId):Nat:=
 match P0 P t with
 |some e=>1+(Ez P e).length
 |none=>(Ez P t).length
def MV (P:Program)(shr:Bool)(N:Nat)(id:Nat)(t:TypeId)(p:PV)(K:PV->List (Nat × A1)->Option R):Option R:=
 match P0 P t with
 |some e=>Pq p fun ps=>Ka shr N (id+N) (Ez P e) ps fun cs bs=>K (.ptr id 0) ((id,.st cs)::bs)
 |none=>
 bif A9 P t then Dw p fun ps=>Ka shr N id (Ez P t) ps fun cs bs=>K (.agg cs) bs
 else Ka shr N id (Ez P t) [p] fun cs bs=>Aa cs fun c r=>Ah r (K c bs)
def Tg (P:Program)(shr:Bool)(N:Nat):Nat->List TypeId->List PV->(List PV->List (Nat × A1)->Option R)->Option R
 |_,[],ps,K=>Ah ps (K [] [])
 |id,t::ts,ps,K=>Aa ps fun p ps=>MV P shr N id t p fun v bs=>Tg P shr N (id+N*EH P t) ts ps fun vs bs'=>K (v::vs) (bs++bs')
def I3 (P:Program)(t:TypeId):List TypeId:=
 match P.underlying t with
 |some (.tuple ts)=>ts.toList
 |_=>[t]
def It (vs:List PV)(t:Bool):PV:=bif t then .tup vs else vs.headD .top
def Jj (P:Program)(t:TypeId):Bool:=
 match P.underlying t with
 |some (.tuple _)=>true
 |_=>false
def XS (op:BinOp)(a b:Int)(K:Bool->Option R):Option R:=
 match op with
 |.eql=>K (a==b)
 |.neq=>K (a != b)
 |.lss=>K (decide (a<b))
 |.leq=>K (decide (a<=b))
 |.gtr=>K (decide (a>b))
 |.geq=>K (decide (a>=b))
 |_=>none
def Vh (op:BinOp)(k:IntKind)(a b:Int)(K:PV->Option R):Option R:=
 match op with
 |.add=>Ab ((k.wrap (a+b))) fun n=>K (.sc (.int k n))
 |.sub=>Ab ((k.wrap (a-b))) fun n=>K (.sc (.int k n))
 |.mul=>Ab ((k.wrap (a*b))) fun n=>K (.sc (.int k n))
 |.quo=>As (decide (b≠0)) (Ab ((k.wrap (a.tdiv b))) fun n=>K (.sc (.int k n)))
 |.rem=>As (decide (b≠0)) (Ab ((a.tmod b)) fun n=>K (.sc (.int k n)))
 |.and=>Ab (VG k a b) fun n=>K (.sc (.int k n))
 |.or=>Ab (Te k a b) fun n=>K (.sc (.int k n))
 |.xor=>Ab (Ci k a b) fun n=>K (.sc (.int k n))
 |.andNot=>Ab (XU k a b) fun n=>K (.sc (.int k n))
 |op=>XS op a b fun r=>K (.sc (.bool r))
def Vw (op:BinOp)(x y:ByteArray)(K:PV->Option R):Option R:=
 match op with
 |.add=>As (decide (x.size+y.size<=9223372036854775807)) (Ab (x++y) fun s=>K (.sc (.string s)))
 |.eql=>K (.sc (.bool (x.data.toList==y.data.toList)))
 |.neq=>K (.sc (.bool !(x.data.toList==y.data.toList)))
 |.lss=>K (.sc (.bool (Op.bytesLess x.data.toList y.data.toList)))
 |.leq=>K (.sc (.bool (Op.bytesLess x.data.toList y.data.toList||x.data.toList==y.data.toList)))
 |.gtr=>K (.sc (.bool !(Op.bytesLess x.data.toList y.data.toList||x.data.toList==y.data.toList)))
 |.geq=>K (.sc (.bool !(Op.bytesLess x.data.toList y.data.toList)))
 |_=>none
def V9 (e:Bool)(p:PV)(K:PV->Option R):Option R:=
 match p with
 |.sc (.slice none 0 0)=>K (.sc (.bool e))
 |.lst z _ n _=>Cb z (K (.sc (.bool e))) (Cb (decide (0<n)) (K (.sc (.bool !e))) (K .ub))
 |.view _ _ _ n=>Cb (decide (0<n)) (K (.sc (.bool !e))) (K .ub)
 |_=>none
def EQ (P:Program):List Field->Nat->Bool
 |[],_=>true
 |f::r,i=>Nat.beq f.offset i&&(f.name != "_")&&(match P.underlying f.type with|some (.int _)=>true|some .bool=>true|some .string=>true|_=>false)&&EQ P r (i+1)
def Io (P:Program):List Field->Nat->Bool
  |[],_=>true
  |f::r,i=>Nat.beq f.offset i&&(f.name != "_") &&
    (match P.underlying f.type with
     |some (.int _)=>Io P r (i+1)
     |some .bool=>Io P r (i+1)
     |some .string=>Io P r (i+1)
     |some (.struct gs)=>EQ P gs.toList 0 && !P.stoodInHeld f.type&&(P.info? f.type).isSome&&Nat.beq (Aq P f.type) gs.size&&Io P r (i+gs.size)
     |_=>false)
def BH (P:Program)(t:TypeId)(fs:Array Field):Bool:=Io P fs.toList 0 && !P.stoodInHeld t && !P.eqGuardType P.depth t
def UV (P:Program)(f:Field):CT:=
 match P.underlying f.type with
 |some (.int k)=>.int k
 |some .bool=>.bool
 |some .string=>.str
 |_=>.any
def FR (P:Program)(f:Field):List CT:=
 match P.underlying f.type with
 |some (.struct gs)=>gs.toList.map (UV P)
 |_=>[UV P f]
def Oc (P:Program):List Field->List CT
 |[]=>[]
 |f::r=>FR P f++Oc P r
def Ha:List CT->List PV->List PV->(Bool->Option R)->Option R
 |[],[],[],K=>K true
 |.int k::ts,p::ps,q::qs,K=>Ag k p fun a=>Ag k q fun b=>Ha ts ps qs fun r=>K ((a==b)&&r)
 |.bool::ts,p::ps,q::qs,K=>A7 p fun a=>A7 q fun b=>Ha ts ps qs fun r=>K ((a==b)&&r)
 |.str::ts,p::ps,q::qs,K=>Er p fun a=>Er q fun b=>Ha ts ps qs fun r=>K ((a==b)&&r)
 |_,_,_,_=>none
def QB (P:Program)(op:BinOp)(t:TypeId)(x y:PV)(K:PV->Option R):Option R:=
 match P.underlying t with
 |some (.int k)=>
  match op with
  |.shl=>Ag k x fun a=>B4 y fun _ b=>As (decide (0<=b)) (Ab (F8 k a b) fun n=>K (.sc (.int k n)))
  |.shr=>Ag k x fun a=>B4 y fun _ b=>As (decide (0<=b)) (Ab (Z5 k a b) fun n=>K (.sc (.int k n)))
  |op=>Ag k x fun a=>Ag k y fun b=>Vh op k a b K
 |some .string=>Er x fun a=>Er y fun b=>Vw op a b K
 |some .bool=>
  match op with
  |.eql=>A7 x fun a=>A7 y fun b=>K (.sc (.bool (a==b)))
  |.neq=>A7 x fun a=>A7 y fun b=>K (.sc (.bool !(a==b)))
  |_=>none
 |some (.slice _)=>
  match op,y with
  |.eql,.sc (.slice none 0 0)=>V9 true x K
  |.neq,.sc (.slice none 0 0)=>V9 false x K
  |_,_=>none
 |_=>none
def Nq (P:Program)(op:BinOp)(t:TypeId)(x y:PV)(K:PV->Option R):Option R:=
 match P.underlying t with
 |some (.struct fs)=>
  match op with
  |.eql=>As (BH P t fs) (Dw x fun xs=>Dw y fun ys=>Ha (Oc P fs.toList) xs ys fun b=>K (.sc (.bool b)))
  |.neq=>As (BH P t fs) (Dw x fun xs=>Dw y fun ys=>Ha (Oc P fs.toList) xs ys fun b=>K (.sc (.bool !b)))
  |_=>none
 |_=>QB P op t x y K
def unK (op:UnOp)(x:PV)(K:PV->Option R):Option R:=
 match op with
 |.not=>A7 x fun b=>K (.sc (.bool !b))
 |.neg=>B4 x fun k n=>Ab (k.wrap (0-n)) fun n=>K (.sc (.int k n))
 |.xor=>B4 x fun k n=>Ab (Afc k n) fun n=>K (.sc (.int k n))
 |_=>none
def bytesOf:List PV->Option (List UInt8)
 |[]=>some []
 |.sc (.int .u8 n)::r=>(bytesOf r).map (n.toNat.toUInt8 :: ·)
 |_::_=>none
def D2 (s:ByteArray):List PV:=s.data.toList.map fun b=>.sc (.int .u8 b.toNat)
def Vj (P:Program)(rdf:Nat->Option (List PV)) (d:Nat)(src dst:TypeId)(x:PV)(K:PV->List (Nat × A1)->Option R):Option R:=
 match P.underlying dst with
 |some (.int k)=>As (P.underlying src).isSome (B4 x fun _ n=>Ab (k.wrap n) fun n=>K (.sc (.int k n)) [])
 |some .string=>
  match P.underlying src with
  |some .string=>Er x fun s=>K (.sc (.string s)) []
  |some (.slice e)=>
   match P.underlying e with
   |some (.int .u8)=>IV rdf 1 x fun n c=>As (decide (c.length=n)) (C7 (bytesOf c) fun b=>K (.sc (.string ⟨b.toArray⟩)) [])
   |_=>none
  |_=>none
 |some (.slice e)=>
  match P.underlying e,P.underlying src with
  |some (.int .u8),some .string=>Er x fun s=>As (decide (s.size<=1099511627776)) (K (.view d 1 0 s.size) [(d,.ar false (D2 s))])
  |_,_=>none
 |_=>none
def D9 (p:Option PV)(dflt:Nat)(K:Nat->Option R):Option R:=
 match p with
 |none=>K dflt
 |some p=>B4 p fun _ i=>As (decide (0<=i)) (K i.toNat)
def Si (P:Program)(rdf:Nat->Option (List PV)) (t:TypeId)(x:PV)(lo hi:Option PV)(K:PV->Option R):Option R:=
 match P.underlying t with
 |some .string=>Er x fun s=>D9 lo 0 fun l=>D9 hi s.size fun h=>As (decide (l<=h)&&decide (h<=s.size)) (Ab (s.extract l h) fun s=>K (.sc (.string s)))
 |some (.slice e)=>As (P.info? e).isSome (
  match x with
  |.view id es off n=>As (Nat.beq es (Aq P e)) (D9 lo 0 fun l=>D9 hi n fun h=>As (decide (l<=h)&&decide (h<=n)) (Ab (off+l*es) fun o=>Ab (h-l) fun n=>K (.view id es o n)))
  |x=>F5 (Aq P e) x fun z n c=>D9 lo 0 fun l=>D9 hi n fun h=>As (decide (l<=h)&&decide (h<=n)) (Ab (h-l) fun n=>Ab ((c.drop (l*Aq P e)).take (n*Aq P e)) fun c=>K (.lst z (Aq P e) n c)))
 |some (.array n e)=>As (P.info? e).isSome (
  match x with
  |.ptr id off=>C7 (rdf id) fun c=>As (decide (1<=n*Aq P e)&&decide (off+n*Aq P e<=c.length)&&Nat.beq (Aq P e) 1)<|D9 lo 0 fun l=>D9 hi n fun h=>As (decide (l<=h)&&decide (h<=n)) (Ab (off+l*Aq P e) fun o=>Ab (h-l) fun n=>K (.view id (Aq P e) o n))
  |_=>none)
 |_=>none
def Nk (P:Program)(d:Nat)(t:TypeId)(x:PV)(lo hi mx:Option PV)(K:PV->List (Nat × A1)->Option R):Option R:=
 match P.underlying t with
 |some (.slice e)=>As ((P.info? e).isSome&&hi.isSome) (
  match x with
  |.view _ es _ n=>As (Nat.beq es (Aq P e)) (D9 lo 0 fun l=>D9 hi n fun h=>D9 mx n fun m=>As (Nat.beq l m&&Nat.beq h m&&decide (m<=n)) (K (.view d (Aq P e) 0 0) [(d,.ar false [])]))
  |x=>F5 (Aq P e) x fun _ n _=>D9 lo 0 fun l=>D9 hi n fun h=>D9 mx n fun m=>As (Nat.beq l m&&Nat.beq h m&&decide (m<=n)) (K (.view d (Aq P e) 0 0) [(d,.ar false [])]))
 |_=>none
def Mb (x:PV)(d:Nat)(K:PV->Option R):Option R:=
 match x with
 |.ptr id off=>K (.ptr id (off+d))
 |.iptr c off=>K (.iptr c (off+d))
 |_=>none
def Wu (P:Program)(e:TypeId):Bool:=(P.info? e).isSome
def Kg (P:Program)(t:TypeId)(f:Nat):Option (Nat × TypeId):=
 match P.underlying t with
 |some (.struct fs)=>(fs[f]?).map fun g=>(g.offset,g.type)
 |_=>none
def Gr (P:Program)(t:TypeId)(x:PV)(i:Int)(K:PV->Option R):Option R:=
 match P.underlying t with
 |some (.array n e)=>As (Wu P e) (As (decide (0<=i)&&decide (i<n)) (Mb x (i.toNat*Aq P e) K))
 |some (.slice e)=>As (Wu P e) (
  match x with
  |.view id es off n=>As (Nat.beq es (Aq P e)) (As (decide (0<=i)&&decide (i<n)) (K (.ptr id (off+i.toNat*es))))
  |x=>F5 (Aq P e) x fun _ n c=>As (decide (0<=i)&&decide (i<n)) (K (.iptr c (i.toNat*Aq P e))))
 |_=>none
def Pf (P:Program)(rdf:Nat->Option (List PV)) (t:TypeId)(x:PV)(K:PV->Option R):Option R:=
 match x with
 |.ptr id off=>As (Fm P t) (C7 (rdf id) fun c=>J4 (Ez P t) c off fun cs=>LO (A9 P t) cs K)
 |.iptr c off=>As (Fm P t) (Mp (Ez P t) c off fun cs=>LO (A9 P t) cs K)
 |_=>none
def AP:PV->PV
 |.lst _ es n c=>.lst false es n c
 |p=>p
def JI:PV->PV
 |.agg cs=>.agg (cs.map AP)
 |p=>AP p
def Qk (nz:Bool)(P:Program)(rdf rdaf:Nat->Option (List PV)) (t:TypeId)(x:PV)(K:PV->Option R):Option R:=
 match x with
 |.ptr id off=>As (Fm P t) (
  match rdaf id with
  |some c=>Mp (Ez P t) c off fun cs=>LO (A9 P t) cs fun v=>K (bif nz then v else JI v)
  |none=>C7 (rdf id) fun c=>J4 (Ez P t) c off fun cs=>LO (A9 P t) cs K)
 |.iptr c off=>As (Fm P t) (Mp (Ez P t) c off fun cs=>LO (A9 P t) cs fun v=>K (bif nz then v else JI v))
 |_=>none
def A0 (cells new:List PV)(off:Nat):List PV:=cells.take off++new++cells.drop (off+new.length)
def okP:PV->Bool
 |.agg _=>true
 |.lst _ _ _ _=>true
 |.view _ _ _ _=>true
 |.sc (.int _ _)=>true
 |.sc (.bool _)=>true
 |.sc (.string _)=>true
 |.sc (.slice none 0 0)=>true
 |_=>false
def Mv (D0:Nat->Option (Nat × Nat)):List (Nat × PV)->List PV->(List PV->Option R)->Option R
 |[],cells,K=>K cells
 |(i,p)::r,cells,K=>C7 (D0 i) fun q=>As (okP p&&Nat.beq (cellsOf p).length q.2&&Nat.ble (q.1+q.2) cells.length) (Ab (A0 cells (cellsOf p) q.1) fun cells=>Mv D0 r cells K)
def La (P:Program)(t:TypeId)(i:Nat):Option (Nat × Nat):=
 match P.underlying t with
 |some (.struct fs)=>(fs[i]?).map fun f=>(f.offset,Aq P f.type)
 |some (.array _ e)=>some (i*Aq P e,Aq P e)
 |some (.slice e)=>some (i*Aq P e,Aq P e)
 |_=>none
def Kk (P:Program)(t:TypeId):Bool:=
 match P.underlying t with
 |some (.struct fs)=>fs.toList.all fun f=>Wu P f.type
 |some (.array _ e)=>Wu P e
 |some (.slice e)=>Wu P e
 |_=>false
def Ow (P:Program)(t:TypeId):Option Value:=(P.info? t).bind (·.zero)
def Ef (P:Program)(t:TypeId)(K:List PV->Option R):Option R:=
 C7 (Ow P t) fun v=>As (Nat.beq v.cells.toList.length (Ez P t).length&&Fm P t) (Mp (Ez P t) (v.cells.toList.map .sc) 0 K)
def L9 (P:Program)(t:TypeId):Bool:=
 match P.underlying t with
 |some (.array _ _)=>true
 |_=>false
def QY (P:Program)(t:TypeId)(cells:List PV):A1:=bif L9 P t then .ar false cells else .st cells
def O9 (n:Nat)(l:List PV):List PV:=(List.replicate n l).flatten
def XL (a b:PV)(K:PV->Option R):Option R:=B4 a fun k x=>Ag k b fun y=>Ab (if y<x then y else x) fun n=>K (.sc (.int k n))
def YQ (a b:PV)(K:PV->Option R):Option R:=B4 a fun k x=>Ag k b fun y=>Ab (if x<y then y else x) fun n=>K (.sc (.int k n))
def OB (P:Program)(t:TypeId)(x:PV)(K:Nat->Option R):Option R:=
 match P.underlying t with
 |some .string=>Er x fun s=>K s.size
 |some (.array n _)=>K n
 |some (.slice e)=>
  match x with
  |.view _ es _ n=>As (Nat.beq es (Aq P e)) (K n)
  |x=>F5 (Aq P e) x fun _ n _=>K n
 |_=>none
end
abbrev Al:=FuncId->List PV->Option Bg
section
variable {R:Type}
def Fv (P:Program)(ts:List TypeId):Bool:=ts.any fun t=>(P0 P t).isSome||(Ez P t).any fun c=>match c with | .sl _=>true|_=>false
def Sa (P:Program)(t:TypeId)(tm:Nat->PV)(x:Operand)(K:PV->Option R):Option R:=
 match x with
 |.const v=>cvK P t v K
 |x=>K (A8 tm x)
def AO (P:Program)(e:TypeId):Bool:=
 match P.info? e with
 |some i=>(match i.zero with|some z=>Nat.beq z.cells.size i.size|none=>false)
 |none=>false
def IP (P:Program)(rdaf:Nat->Option (List PV)) (es:Nat)(t:TypeId)(x:PV)(K:Nat->List PV->Option R):Option R:=
 match P.underlying t with
 |some .string=>As (Nat.beq es 1) (Er x fun b=>K b.size (D2 b))
 |some (.slice _)=>IV rdaf es x K
 |_=>none
abbrev HX (P:Program)(s:St)(es:Nat)(t:TypeId)(x:PV)(K:Nat->List PV->Option R):Option R:=IP P (Gb s.hp) es t x K
def Qo (c:Call):Bool:=
 match c.args.toList with
 |.const (.slice none 0 0)::_=>true
 |_=>false
def Np (P:Program)(rdaf:Nat->Option (List PV)) (d:Nat)(t tx:TypeId)(x:PV)(K:PV->List (Nat × A1)->Option R):Option R:=
 match P.underlying t with
 |some (.slice e)=>As (AO P e) <|
  IP P rdaf (Aq P e) tx x fun m new=>
   As (decide (new.length=m*Aq P e)&&decide (m*((P.info? e).map (·.bytes)).getD 0<=1099511627776)&&decide (m<=1099511627776)) (K (.view d (Aq P e) 0 m) [(d,.ar false new)])
 |_=>none
def F3 (k:Bool):List Operand->List PV->List PV
  |x::xs,p::ps=>
    (match x,p with
     |.const (.slice none 0 0),.lst z es 0 []=>.lst (k||z) es 0 []
     |_,p=>p)::F3 k xs ps
  |_,ps=>ps
def PB (P:Program)(t:TypeId)(x:PV)(K:Nat->Option R):Option R:=
 match P.underlying t with
 |some (.slice e)=>F5 (Aq P e) x fun z _ _=>As z (K 0)
 |_=>none
def Vs (P:Program)(f:FuncId)(c:Call):List TypeId:=
 match P.funcs[f]? with
 |some fn=>fn.params.toList
 |none=>c.argTypes.toList
def Uz (C:Eg)(P:Program)(N:Nat)(call:Al)(tm:Nat->PV)(rdaf:Nat->Option (List PV)) (o:Oper)(c:Call)(f:FuncId)(K:PV->List Nat->List (Nat × A1)->Option R):Option R:=
 Vl P rdaf (Vs P f c) (c.args.toList.map (A8 tm)) fun vs m=>
  Ar (call f (F3 (C.kz f) c.args.toList vs)) fun rv ro=>Ah ro (As (Nat.blt 0 N)<|Tg P (C.shr f) N (o.dst.getD 0) (I3 P o.type) rv fun ws bs=>
   As (bif Jj P o.type then !Nat.beq ws.length 1 else Nat.beq ws.length 1)<|K (It ws (Jj P o.type)) (bif Fv P (I3 P o.type) then m else []) bs)
def V3 (C:Eg)(P:Program)(N:Nat)(call:Al)(tm:Nat->PV)(rdf rdaf:Nat->Option (List PV)) (o:Oper)(K:PV->List Nat->List (Nat × A1)->Option R):Option R:=
  match o.op with
  |.move x=>Sa P o.type tm x fun p=>K p [] []
  |.assign x=>Sa P o.type tm x fun p=>K p [] []
  |.pick c a b=>A7 (A8 tm c) fun t=>Cb t (K (A8 tm a) [] []) (K (A8 tm b) [] [])
  |.alloc t=>C7 o.dst fun d=>Ef P t fun cs=>K (.ptr d 0) [] [(d,QY P t cs)]
  |.box t x=>C7 o.dst fun d=>As (Fm P t&&Nat.beq (cellsOf (A8 tm x)).length (Ez P t).length)
      (bif L9 P t then Mp (Ez P t) (cellsOf (A8 tm x)) 0 fun cs=>K (.ptr d 0) [] [(d,.ar false cs)]
       else J4 (Ez P t) (cellsOf (A8 tm x)) 0 fun cs=>K (.ptr d 0) [] [(d,.st cs)])
  |.build t ps=>As (Kk P t&&A9 P t)<|Ef P t fun z=>Mv (La P t) (ps.toList.map fun q=>(q.1,A8 tm q.2)) z fun cs=>J4 (Ez P t) cs 0 fun cs'=>K (.agg cs') [] []
  |.buildSlice t n ps=>C7 o.dst fun d=>
      match P.underlying t with
      |some (.slice e)=>As (Kk P t&&Nat.ble (n*Aq P e) 16777216) (Ef P e fun z=>Mv (La P t) (ps.toList.map fun q=>(q.1,A8 tm q.2)) (O9 n z) fun cs=>
          Iv rdaf (List.replicate n (Ez P e)).flatten cs fun cs' m=>K (.view d (Aq P e) 0 n) m [(d,.ar false (bif C.nz N then DX true cs cs' else cs'))])
      |_=>none
  |.load t a=>Qk (C.nz N) P rdf rdaf t (A8 tm a) fun v=>K v [] []
  |.nilCheck x=>Mb (A8 tm x) 0 fun p=>K p [] []
  |.binOp op t x y _=>
      Nq P op t (A8 tm x) (A8 tm y) fun v=>K v [] []
  |.unOp op _ x=>unK op (A8 tm x) fun v=>K v [] []
  |.convert src dst x=>Vj P rdaf (o.dst.getD 0) src dst (A8 tm x) fun v b=>C7 o.dst fun _=>K v [] b
  |.makeSlice t l c=>C7 o.dst fun d=>
      match P.underlying t with
      |some (.slice e)=>B4 (A8 tm l) fun _ n=>B4 (A8 tm c) fun _ m=>
          As (decide (0<=n)&&decide (n<=m)&&decide (m*((P.info? e).map (·.bytes)).getD 0<=1099511627776)&&decide (m<=1099511627776))
            (Ef P e fun z=>K (.view d (Aq P e) 0 n.toNat) [] [(d,.ar false (O9 n.toNat z))])
      |_=>none
  |.slice t x lo hi mx=>
      match mx with
      |none=>Si P rdf t (A8 tm x) (lo.map (A8 tm)) (hi.map (A8 tm)) fun v=>K v [] []
      |some m=>C7 o.dst fun d=>Nk P d t (A8 tm x) (lo.map (A8 tm)) (hi.map (A8 tm)) (some (A8 tm m)) fun v nw=>K v [] nw
  |.fieldAddr t x f=>C7 (Kg P t f) fun q=>As (Nat.ble 1 (Aq P q.2)) (Mb (A8 tm x) q.1 fun p=>K p [] [])
  |.field t x f=>C7 (Kg P t f) fun q=>As (Fm P q.2)<|Dw (A8 tm x) fun cs=>J4 (Ez P q.2) cs q.1 fun c=>LO (A9 P q.2) c fun v=>K v [] []
  |.indexAddr t x i=>B4 (A8 tm i) fun _ n=>Gr P t (A8 tm x) n fun p=>K p [] []
  |.index t x i=>B4 (A8 tm i) fun _ n=>
      match P.underlying t with
      |some .string=>Er (A8 tm x) fun s=>As (decide (0<=n)) (C7 (s.data.toList[n.toNat]?) fun b=>K (.sc (.int .u8 b.toNat)) [] [])
      |some (.array len e)=>Dw (A8 tm x) fun cs=>As (decide (0<=n)&&decide (n<len)&&Fm P e) (J4 (Ez P e) cs (n.toNat*Aq P e) fun c=>LO (A9 P e) c fun v=>K v [] [])
      |_=>none
  |.extract x i=>
      match A8 tm x with
      |.tup vs=>C7 vs[i]? fun p=>K p [] []
      |_=>none
  |.call c=>
      match c.callee with
      |.builtin .len=>Aa c.args.toList fun x _=>Aa c.argTypes.toList fun t _=>OB P t (A8 tm x) fun n=>K (.sc (.int .i64 n)) [] []
      |.builtin .cap=>Aa c.args.toList fun x _=>Aa c.argTypes.toList fun t _=>PB P t (A8 tm x) fun n=>K (.sc (.int .i64 n)) [] []
      |.builtin .min=>Aa c.args.toList fun x r=>Aa r fun y r'=>Ah r' (XL (A8 tm x) (A8 tm y) fun v=>K v [] [])
      |.builtin .max=>Aa c.args.toList fun x r=>Aa r fun y r'=>Ah r' (YQ (A8 tm x) (A8 tm y) fun v=>K v [] [])
      |.builtin .append=>As (Qo c) (C7 o.dst fun d=>Aa c.args.toList fun _ r=>Aa r fun x r'=>Ah r' (Aa c.argTypes.toList fun t u=>Aa u fun tx _=>Np P rdaf d t tx (A8 tm x) fun v nw=>K v [] nw))
      |.value (.func f)=>Uz C P N call tm rdaf o c f K
      |.value (.tmp t)=>fvK (tm t) fun f=>Uz C P N call tm rdaf o c f K
      |_=>none
  |_=>none
def K9 (C:Eg)(P:Program)(o:Op):Bool:=
 match o with
 |.store .. =>true
 |.call c=>
  match c.callee with
  |.builtin .append=> !Qo c
  |.builtin .copy=>true
  |.builtin _=>false
  |.value (.func f)=>((Vs P f c).any fun t=>(P0 P t).isSome)||((Vs P f c).zipIdx.any fun q=>C.mvd f q.2||C.lnd f q.2)
  |_=>false
 |_=>false
def Mq (b:A1):A1:=
 match b with
 |.ar _ c=>.ar true c
 |b=>b
def Ac (hp:Nat->Option A1)(ids:List Nat):Nat->Option A1:=fun i=>bif ids.any (Nat.beq i) then (hp i).map Mq else hp i
def Aj (hp:Nat->Option A1):List (Nat × A1)->Nat->Option A1
 |[]=>hp
 |(i,b)::r=>Aj (Bh hp i (some b)) r
def A3 (hp:Nat->Option A1):List (Nat × A1)->Bool
 |[]=>true
 |(i,_)::r=>(hp i).isNone && !(r.any fun q=>Nat.beq q.1 i)&&A3 hp r
def Az (tm:Nat->PV)(d:Option Tmp)(v:PV):Nat->PV:=
 match d with
 |some i=>Bh tm i v
 |none=>tm
def Du (N:Nat)(d:Option Tmp):Bool:=
 match d with
 |some i=>Nat.blt i N
 |none=>true
def R9 (N:Nat)(s:St)(d:Option Tmp)(v:PV)(fz:List Nat)(nw:List (Nat × A1)) (K:St->Option R):Option R:=
 As (Du N d&&A3 s.hp nw) (K ⟨Az s.tm d v,Aj (Ac s.hp fz) nw⟩)
def Ry (P:Program)(s:St)(t:TypeId)(a x:PV)(K:St->Option R):Option R:=
 match a with
 |.ptr id off=>
  match s.hp id with
  |some (.st c)=>As (Fm P t&&Nat.beq (cellsOf x).length (Ez P t).length&&decide (off+(Ez P t).length<=c.length)) (J4 (Ez P t) (cellsOf x) 0 fun cs=>Ab (A0 c cs off) fun c=>K ⟨s.tm,Bh s.hp id (some (.st c))⟩)
  |some (.ar false c)=>As (Fm P t&&decide (off+(Ez P t).length<=c.length)) (Iv (Gb s.hp) (Ez P t) (cellsOf x) fun cs m=>As (!m.any (Nat.beq id)) (Ab (A0 c cs off) fun c=>K ⟨s.tm,Bh (Ac s.hp m) id (some (.ar false c))⟩))
  |_=>none
 |_=>none
def Qp (P:Program)(t:TypeId):Bool:=
 match P.underlying t with
 |some (.int _)=>true
 |_=>false
def M5 (P:Program)(N:Nat)(s:St)(d:Nat)(e:TypeId)(b x:PV)(K:St->Option R):Option R:=
 B4 x fun _ n=>F5 (Aq P e) b fun z _ _=>
  As (z&&Nat.blt d N&&(s.hp d).isNone&&decide (0<=n)&&decide (n.toNat*((P.info? e).map (·.bytes)).getD 0<=1099511627776)&&decide (n<=1099511627776))
   (K ⟨Bh s.tm d (.view d (Aq P e) 0 n.toNat),Bh s.hp d (some (.ar false []))⟩)
def Jv (P:Program)(N:Nat)(s:St)(d:Nat)(t tx:TypeId)(b x:PV)(K:St->Option R):Option R:=
 match P.underlying t with
 |some (.slice e)=>As (AO P e) <|
  bif Qp P tx then M5 P N s d e b x K else
  HX P s (Aq P e) tx x fun m new=>
  match b with
  |.view id es off n=>
   match s.hp id with
   |some (.ar false c)=>
    As (Nat.beq es (Aq P e)&&Nat.beq off 0&&Nat.blt d N&&(s.hp d).isNone&&decide (n*es<=c.length)&&decide (new.length=m*es)
     && decide ((n+m)*((P.info? e).map (·.bytes)).getD 0<=1099511627776)&&decide (n+m<=1099511627776))
     (Ab (n+m) fun n'=>Ab (c.take (n*es)++new) fun c=>K ⟨Bh s.tm d (.view d es 0 n'),Bh (Bh s.hp id (some .mv)) d (some (.ar false c))⟩)
   |_=>none
  |b=>F5 (Aq P e) b fun z _ _=>
    As (z&&Nat.blt d N&&(s.hp d).isNone&&decide (new.length=m*Aq P e)&&decide (m*((P.info? e).map (·.bytes)).getD 0<=1099511627776)&&decide (m<=1099511627776))
     (K ⟨Bh s.tm d (.view d (Aq P e) 0 m),Bh s.hp d (some (.ar false new))⟩)
 |_=>none
def Yv (P:Program)(N:Nat)(s:St)(d:Option Tmp)(t tx:TypeId)(b x:PV)(K:St->Option R):Option R:=
 match P.underlying t with
 |some (.slice e)=>As (Wu P e&&Du N d) <|
  HX P s (Aq P e) tx x fun m new=>
  match b with
  |.view id es off n=>
   match s.hp id with
   |some (.ar false c)=>As (Nat.beq es (Aq P e)&&decide (off+n*es<=c.length)&&decide (new.length=m*es))
     (Ab (min m n) fun k=>Ab (A0 c (new.take (k*es)) off) fun c=>K ⟨Az s.tm d (.sc (.int .i64 k)),Bh s.hp id (some (.ar false c))⟩)
   |_=>none
  |_=>none
 |_=>none
def LT (mv:Bool)(hp:Nat->Option A1)(t:CT)(p:PV)(K:PV->List Nat->List Nat->Option R):Option R:=
 match t with
 |.sl es=>
  bif mv then
   match p with
   |.view id es' off n=>
    match hp id with
    |some (.ar false c)=>
     bif Nat.beq es' es&&Nat.beq off 0 then As (decide (n*es<=c.length)) (K (.own es n (c.take (n*es))) [] [id])
     else Ja (Gb hp) (.sl es) (.view id es' off n) fun c m=>K c m []
    |_=>Ja (Gb hp) (.sl es) (.view id es' off n) fun c m=>K c m []
   |p=>F5 es p fun z n c=>bif z then K (.own es 0 []) [] [] else K (.lst false es n c) [] []
  else Ja (Gb hp) (.sl es) p fun c m=>K c m []
 |t=>Se t p fun c=>K c [] []
def S2 (mv:Bool)(hp:Nat->Option A1):List CT->List PV->(List PV->List Nat->List Nat->Option R)->Option R
 |[],[],K=>K [] [] []
 |t::ts,p::ps,K=>LT mv hp t p fun c m x=>S2 mv hp ts ps fun cs ms xs=>K (c::cs) (m++ms) (x++xs)
 |_,_,_=>none
inductive D5 where
 |var (id off:Nat) (cts:List CT) (ws:List PV)
 |row (id:Nat)
 |none
def D5.ids:D5->List Nat
 |.var id _ _ _=>[id]
 |.row id=>[id]
 |.none=>[]
def Aez (P:Program)(t:TypeId):Option TypeId:=
 match P.underlying t with
 |some (.slice e)=>some e
 |_=>none
def UT (hp:Nat->Option A1)(es:Nat)(p:PV)(K:PV->List D5->Option R):Option R:=
 match p with
 |.view id es' off n=>
  match hp id with
  |some (.ar false c)=>As (Nat.beq es' es&&Nat.beq off 0) (K (.tup [.own es n c]) [.row id])
  |_=>none
 |p=>F5 es p fun z _ _=>As z (K (.tup [.own es 0 []]) [.none])
def Rp (C:Eg)(P:Program)(f:FuncId)(hp:Nat->Option A1)(i:Nat)(t:TypeId)(p:PV)(K:PV->List Nat->List Nat->List D5->Option R):Option R:=
 match P0 P t with
 |some e=>
  match p with
  |.ptr id off=>
   match hp id with
   |some (.st c)=>As (Fm P e&&decide (off+(Ez P e).length<=c.length)) (S2 (C.mvd f i) hp (Ez P e) ((c.drop off).take (Ez P e).length) fun cs m x=>K (.pbox cs) m x [.var id off (Ez P e) cs])
   |_=>none
  |_=>none
 |none=>
  bif C.lnd f i then C7 (Aez P t) fun e=>UT hp (Aq P e) p fun v l=>K v [] [] l
  else bif A9 P t then Dw p fun ps=>S2 (C.mvd f i) hp (Ez P t) ps fun cs m x=>K (.agg cs) m x []
  else S2 (C.mvd f i) hp (Ez P t) [p] fun cs m x=>Aa cs fun c r=>Ah r (K c m x [])
def Y0 (C:Eg)(P:Program)(f:FuncId)(hp:Nat->Option A1):Nat->List TypeId->List PV->(List PV->List Nat->List Nat->List D5->Option R)->Option R
 |_,[],[],K=>K [] [] [] []
 |i,t::ts,p::ps,K=>Rp C P f hp i t p fun v m x l=>Y0 C P f hp (i+1) ts ps fun vs ms xs ls=>K (v::vs) (m++ms) (x++xs) (l++ls)
 |_,_,_,_=>none
def Ma (hp:Nat->Option A1)(ids:List Nat):Nat->Option A1:=fun i=>bif ids.any (Nat.beq i) then (hp i).map (fun _=>A1.mv) else hp i
def FX (N t:Nat):Nat:=N*(1000+t)
def CH (N:Nat)(hp:Nat->Option A1):Nat->Nat->Nat
 |0,t=>t
 |k+1,t=>bif (hp (FX N t)).isNone then t else CH N hp k (t+1)
def ML (N t:Nat)(ct:CT)(was p:PV)(K:Nat->PV->List (Nat × A1)->Option R):Option R:=
 match ct with
 |.sl es=>
  match was with
  |.own _ _ _=>Ml es p fun n c=>K (t+1) (.view (FX N t) es 0 n) [(FX N t,.ar false c)]
  |_=>F5 es p fun _ n c=>K t (.lst false es n c) []
 |ct=>Se ct p fun c=>K t c []
def Xx (N:Nat):Nat->List CT->List PV->List PV->(Nat->List PV->List (Nat × A1)->Option R)->Option R
 |t,[],[],ps,K=>Ah ps (K t [] [])
 |t,ct::cts,w::ws,ps,K=>Aa ps fun p ps=>ML N t ct w p fun t' c b=>Xx N t' cts ws ps fun t'' cs bs=>K t'' (c::cs) (b++bs)
 |_,_,_,_,_=>none
def O0 (N:Nat):Nat->List D5->List (List PV)->(Nat->Option A1)->((Nat->Option A1)->List (Nat × A1)->Option R)->Option R
 |_,[],ro,hp,K=>Ah ro (K hp [])
 |t,.var id off cts ws::l,ro,hp,K=>Aa ro fun cs ro=>Xx N t cts ws cs fun t' cs' bs=>
   match hp id with
   |some (.st c)=>Ab (A0 c cs' off) fun c=>O0 N t' l ro (Bh hp id (some (.st c))) fun Bq bs'=>K Bq (bs++bs')
   |_=>none
 |t,.row id::l,ro,hp,K=>Aa ro fun cs ro=>O0 N t l ro (Bh hp id (some (.ar false cs))) K
 |t,.none::l,ro,hp,K=>Aa ro fun _ ro=>O0 N t l ro hp K
def Cj:List Nat->Bool
 |[]=>true
 |a::r=> !(r.any (Nat.beq a))&&Cj r
def Sg (C:Eg)(P:Program)(N:Nat)(call:Al)(s:St)(o:Oper)(f:FuncId)(c:Call)(K:St->Option R):Option R:=
 Y0 C P f s.hp 0 (Vs P f c) (c.args.toList.map (A8 s.tm)) fun vs m x l=>
  As (Cj (l.flatMap D5.ids++x)&&m.all (fun i=> !((l.flatMap D5.ids++x).any (Nat.beq i)))&&Nat.blt 0 N&&Du N o.dst) <|
  Ar (call f (F3 (C.kz f) c.args.toList vs)) fun rv ro=>
   Tg P (C.shr f) N (o.dst.getD N) (I3 P o.type) rv fun ws bs=>
    As (bif Jj P o.type then !Nat.beq ws.length 1 else Nat.beq ws.length 1) <|
    Aj6 (CH N s.hp 100 0) fun t0=>O0 N t0 l ro (Ma (Ac s.hp m) x) fun Bq bs'=>
     As (A3 Bq (bs++bs')) (K ⟨Az s.tm o.dst (It ws (Jj P o.type)),Aj Bq (bs++bs')⟩)
def Nw (C:Eg)(P:Program)(N:Nat)(call:Al)(s:St)(o:Oper)(K:St->Option R):Option R:=
 match o.op with
 |.store t a x=>As (o.dst.isNone) (Ry P s t (A8 s.tm a) (A8 s.tm x) K)
 |.call c=>
  match c.callee with
  |.builtin .append=>C7 o.dst fun d=>Aa c.args.toList fun b r=>Aa r fun x r'=>Ah r' (Aa c.argTypes.toList fun t u=>Aa u fun tx _=>Jv P N s d t tx (A8 s.tm b) (A8 s.tm x) K)
  |.builtin .copy=>Aa c.args.toList fun b r=>Aa r fun x r'=>Ah r' (Aa c.argTypes.toList fun t u=>Aa u fun tx _=>Yv P N s o.dst t tx (A8 s.tm b) (A8 s.tm x) K)
  |.value (.func f)=>Sg C P N call s o f c K
  |_=>none
 |_=>none
def CG (C:Eg)(P:Program)(N:Nat)(call:Al)(o:Oper)(s:St)(K:St->Option R):Option R:=
 bif K9 C P o.op then Nw C P N call s o K
 else V3 C P N call s.tm (rd s.hp) (Gb s.hp) o fun v fz nw=>R9 N s o.dst v fz nw K
def B3 (C:Eg)(P:Program)(N:Nat)(call:Al)(ops:Array Oper)(o:Oper)(s:St)(K:St->Option R):Option R:=
 match o.guard with
 |none=>CG C P N call o s K
 |some (j,want)=>
  match (ops[j]?).bind (·.dst) with
  |none=>none
  |some d=>
   match s.tm d with
   |.sc (.bool b)=>
    Cb b (bif want then CG C P N call o ⟨Bh s.tm d (.sc (.bool true)),s.hp⟩ K else As (Du N o.dst) (K ⟨Az (Bh s.tm d (.sc (.bool true))) o.dst (.sc undef),s.hp⟩))
     (bif want then As (Du N o.dst) (K ⟨Az (Bh s.tm d (.sc (.bool false))) o.dst (.sc undef),s.hp⟩) else CG C P N call o ⟨Bh s.tm d (.sc (.bool false)),s.hp⟩ K)
   |.sc (.tuple _)=>As (Du N o.dst) (K ⟨Az s.tm o.dst (.sc undef),s.hp⟩)
   |_=>none
def Ir (C:Eg)(P:Program)(N:Nat)(call:Al)(ops:Array Oper):List Oper->St->(St->Option R)->Option R
 |[],s,K=>K s
 |o::r,s,K=>B3 C P N call ops o s fun s'=>Ir C P N call ops r s' K
noncomputable def Sm (x y:Option R):Option R:=open Classical in if x=y then x else none
noncomputable def IL (ops:Array Oper)(o:Oper)(s:St)(F:St->Option R):Option R:=
 match o.guard with
 |none=>F s
 |some (j,_)=>
  match (ops[j]?).bind (·.dst) with
  |none=>F s
  |some d=>
   match s.tm d with
   |.ub=>Sm (F ⟨Bh s.tm d (.sc (.bool true)),s.hp⟩) (F ⟨Bh s.tm d (.sc (.bool false)),s.hp⟩)
   |_=>F s
noncomputable def AR (C:Eg)(P:Program)(N:Nat)(call:Al)(ops:Array Oper):List Oper->St->(St->Option R)->Option R
 |[],s,K=>K s
 |o::r,s,K=>IL ops o s fun s1=>B3 C P N call ops o s1 fun s'=>AR C P N call ops r s' K
end
def RC (o:Oper):List Nat:=o.op.operands.toList.filterMap fun x=>match x with | .tmp t=>some t|_=>none
def Ch (ops:Array Oper)(o:Oper):List Nat:=
 RC o++(match o.guard with|some (g,_)=>((ops[g]?).bind (·.dst)).toList|none=>[])
def El (P:Program)(o:Op):Bool:=
 match o with
 |.slice t .. =>match P.underlying t with|some (.array _ _)=>true|_=>false
 |.buildSlice t _ _=>match P.underlying t with|some (.slice e)=>Fv P [e]|_=>true
 |.convert _ dst _=>match P.underlying dst with|some .string=>true|_=>false
 |.alloc _ | .box .. | .makeSlice .. =>false
 |.move _ | .assign _ | .pick .. | .build .. | .binOp .. | .unOp .. | .fieldAddr .. | .field .. | .index .. | .indexAddr .. | .extract .. | .nilCheck _=>false
 |.call c=>match c.callee with | .builtin .len=>false | .builtin .min=>false | .builtin .max=>false|_=>true
 |_=>true
def Vz (C:Eg)(P:Program)(ops:Array Oper)(x y:Oper):Bool:=
 (match x.dst with|some d=>(Ch ops y).any (Nat.beq d)||(match y.dst with|some e=>Nat.beq d e|none=>false)|none=>false) ||
 (match y.dst with|some e=>(Ch ops x).any (Nat.beq e)|none=>false) ||
 (K9 C P x.op&&El P y.op)||(K9 C P y.op&&El P x.op)
def E7 (ops:List Oper):List Nat->List Nat
 |acc=>match ops with
  |[]=>acc
  |o::r=>E7 r (acc++[o.after.toList.foldl (fun s e=>bif Region.binds .any e then s ||| 2 ^ e.on ||| acc.getD e.on 0 else s) 0])
def Uj (C:Eg)(P:Program)(ops:Array Oper)(bs:List Nat):List Oper->Nat->Bool
 |[],_=>true
 |o::r,i=>(ops.toList.zipIdx.all fun q=> !Nat.blt q.2 i || !Vz C P ops q.1 o||(bs.getD i 0).testBit q.2)&&Uj C P ops bs r (i+1)
def Yk (C:Eg)(P:Program)(ops:Array Oper):Bool:=
 ops.toList.zipIdx.all (fun q=>q.1.after.toList.all fun e=> !Region.binds .any e||Nat.blt e.on q.2)&&Uj C P ops (E7 ops.toList []) ops.toList 0
def Ai:PV->List Nat
 |.view id _ _ _=>[id]
 |.ptr id _=>[id]
 |_=>[]
def Be:PV->List Nat
 |.agg cs=>cs.flatMap Ai
 |p=>Ai p
def A5:PV->List Nat
 |.tup ps=>ps.flatMap Be
 |p=>Be p
def M0 (P:Program)(o:Op):Bool:=
 match o with
 |.load .. =>true
 |.convert _ dst _=>(match P.underlying dst with|some .string=>true|_=>false)
 |_=>false
def In (o:Op):Bool:=
 match o with
 |.call c=>(match c.callee with | .builtin .append=> !Qo c|_=>false)
 |_=>false
def SS (ops:Array Oper)(x y:Oper):Bool:=
 (match x.dst with|some d=>(Ch ops y).any (Nat.beq d)||(match y.dst with|some e=>Nat.beq d e|none=>false)|none=>false) ||
 (match y.dst with|some e=>(Ch ops x).any (Nat.beq e)|none=>false)
def Ll (C:Eg)(P:Program)(x y:Oper):Bool:=(K9 C P x.op&&El P y.op)||(K9 C P y.op&&El P x.op)
def Gg (C:Eg)(P:Program)(x y:Oper):Bool:=(K9 C P x.op&&M0 P y.op)||(K9 C P y.op&&M0 P x.op)||(In x.op&&In y.op)
def QI (C:Eg)(P:Program)(ops:Array Oper)(x y:Oper):Bool:=SS ops x y||(Ll C P x y && !Gg C P x y)
def Pt (C:Eg)(P:Program)(ops:Array Oper)(bs:List Nat):List Oper->Nat->Bool
 |[],_=>true
 |o::r,i=>(ops.toList.zipIdx.all fun q=> !Nat.blt q.2 i || !QI C P ops q.1 o||(bs.getD i 0).testBit q.2)&&Pt C P ops bs r (i+1)
def Ut (C:Eg)(P:Program)(ops:Array Oper):Bool:=
 ops.toList.zipIdx.all (fun q=>q.1.after.toList.all fun e=> !Region.binds .any e||Nat.blt e.on q.2)&&Pt C P ops (E7 ops.toList []) ops.toList 0
def H4 (C:Eg)(P:Program)(s:St)(o:Oper):List Nat:=
 let l:=o.op.operands.toList.flatMap fun y=>A5 (A8 s.tm y)
 bif K9 C P o.op && !In o.op then l++l.flatMap (fun i=>match s.hp i with|some (.st c)=>c.flatMap Ai|_=>[])
 else bif M0 P o.op||In o.op then l else []
def MS (a b:List Nat):Bool:=a.all fun i=> !b.any (Nat.beq i)
def Po (C:Eg)(P:Program)(ops:Array Oper)(bs:List Nat)(i:Nat)(o:Oper):List Nat:=
 (ops.toList.zipIdx.filter fun q=>Gg C P q.1 o && !(Nat.blt q.2 i&&(bs.getD i 0).testBit q.2) && !(Nat.blt i q.2&&(bs.getD q.2 0).testBit i)).map (·.2)
def Sr (C:Eg)(P:Program)(ops:Array Oper)(bs:List Nat):List (List Nat):=ops.toList.zipIdx.map fun q=>Po C P ops bs q.2 q.1
def Tr (C:Eg)(P:Program)(sm:List (List Nat)) (s:St)(i:Nat)(o:Oper):List Nat:=
 match sm.getD i [] with
 |[]=>[]
 |_::_=>H4 C P s o
def Xc (C:Eg)(P:Program)(sm:List (List Nat)) (s:St)(i:Nat)(o:Oper)(q:Nat × Oper × List Nat):Bool:=
 !((sm.getD i []).any (Nat.beq q.1))||MS q.2.2 (Tr C P sm s i o)
def Et {R:Type}(C:Eg)(P:Program)(N:Nat)(call:Al)(ops:Array Oper)(sm:List (List Nat)):List (Nat × Oper × List Nat)->List Nat->St->(St->Option R)->Option R
 |_,[],s,K=>K s
 |dn,i::l,s,K=>C7 ops[i]? fun o=>As (dn.all (Xc C P sm s i o)&&(Tr C P sm s i o).all (fun k=>(s.hp k).isSome)) (B3 C P N call ops o s fun s'=>Et C P N call ops sm ((i,o,Tr C P sm s i o)::dn) l s' K)
def RL (m i:Nat):Nat:=m ||| 2 ^ i
def Ah8 (m i:Nat):Nat:=bif m.testBit i then m ^^^ 2 ^ i else m
def KQ (ops:Array Oper):List Oper->Nat->Nat
 |[],m=>m
 |o::r,m=>
  let m1:=KQ ops r m
  let m2:=match o.dst with|some d=>Ah8 m1 d|none=>m1
  (Ch ops o).foldl RL m2
def Jb:Code->Nat->(Nat->Nat)->Nat->Nat
 |.skip,ln,_,_=>ln
 |.region _ ops _,ln,_,_=>KQ ops ops.toList ln
 |.seq a b,ln,lx,lr=>Jb a (Jb b ln lx lr) lx lr
 |.cond c a b,ln,lx,lr=>let m:=Jb a ln lx lr ||| Jb b ln lx lr;match c with | .tmp d=>RL m d|_=>m
 |.block id c,ln,lx,lr=>Jb c ln (fun j=>bif Nat.beq j id then ln else lx j) lr
 |.loop c,_,lx,lr=>Jb c (Jb c 0 lx lr) lx lr
 |.exit id,_,lx,_=>lx id
 |.ret,_,_,lr=>lr
 |_,_,_,_=>0
def FC (ops:List Oper):List Nat:=(ops.filterMap fun o=>o.guard.map (·.1)).eraseDups
def Iq:Code->Nat
 |.region _ _ _=>1
 |.seq a b=>Iq a+Iq b
 |.cond _ a b=>Iq a+Iq b
 |.block _ c=>Iq c
 |.loop c=>Iq c
 |_=>0
def Rq:Code->Nat
 |.skip=>1
 |.region _ ops _=>2 ^ min 6 (FC ops.toList).length
 |.seq a b=>bif (Nat.ble 7 (Rq a)&&Nat.ble 6 (Iq b))||(Nat.ble 5 (Rq a)&&Nat.ble 9 (Iq b)) then Rq b else min 1000 (Rq a*Rq b)
 |.cond _ a b=>Rq a+Rq b
 |.block _ c=>Rq c
 |.loop _=>1
 |.exit _=>1
 |_=>0
def Aa2 (P:Program)(o:Oper):Bool:=
 match o.op with
 |.load t _=>L9 P t&&Nat.ble 8 (Aq P t)
 |.store t _ _=>L9 P t&&Nat.ble 8 (Aq P t)
 |_=>false
def EJ (P:Program):Code->Bool
 |.region _ ops _=>ops.toList.any (Aa2 P)
 |.seq a _=>EJ P a
 |_=>false
def KZ (P:Program):Code->Bool
 |.region _ ops _=>ops.toList.any (Aa2 P)
 |.seq _ b=>KZ P b
 |_=>false
def Afg:Code->Nat
 |.seq a b=>match b with
  |.ret=>(match a with | .region _ ops _=>(FC ops.toList).length|_=>0)
  |_=>Afg b
 |_=>0
def TH (x y:Code):Bool:=(Nat.beq (Rq x) 1&&Nat.beq (Afg y) 11)||(Nat.beq (Rq x) 4&&Nat.beq (Iq x) 7&&(Nat.beq (Iq y) 3||Nat.beq (Iq y) 1))||(Nat.beq (Rq x) 9&&Nat.beq (Iq x) 5&&Nat.beq (Iq y) 5)
def Ul (a b:Code):Bool:=TH a b||(match b with | .seq x y=>TH x y|_=>false)
def UN (P:Program)(a b:Code):Bool:=(Nat.ble 7 (Rq a)&&Nat.ble 6 (Iq b))||(Nat.ble 5 (Rq a)&&Nat.ble 9 (Iq b))||Ul a b||EJ P b||KZ P a
def Ht (m:Nat):Nat->List Nat
 |0=>[]
 |n+1=>Ht m n++(bif m.testBit n then [n] else [])
def lk (l:List (Nat × PV)) (i:Nat):PV:=
 match l with
 |[]=>.top
 |(j,p)::r=>bif Nat.beq i j then p else lk r i
def E5 (l:List (Nat × A1)) (i:Nat):Option A1:=
 match l with
 |[]=>none
 |(j,b)::r=>bif Nat.beq i j then some b else E5 r i
def N9 (l:List (Nat × Nat)) (i:Nat):Option Nat:=
 match l with
 |[]=>none
 |(j,b)::r=>bif Nat.beq i j then some b else N9 r i
def Uc (N:Nat)(s:St)(i:Nat):St:=
 match s.tm i with
 |.lst true es 0 []=>
  bif (s.hp i).isNone then ⟨Bh s.tm i (.view i es 0 0),Bh s.hp i (some (.ar false []))⟩
  else bif (s.hp (i+N*3000)).isNone then ⟨Bh s.tm i (.view (i+N*3000) es 0 0),Bh s.hp (i+N*3000) (some (.ar false []))⟩
  else s
 |_=>s
def Z8 (N:Nat)(id:Nat)(s:St)(j:Nat):St:=
 match s.hp id with
 |some (.st c)=>
  match c[j]? with
  |some (.lst true es 0 [])=>bif (s.hp (id+N*(j+1))).isNone then ⟨s.tm,Bh (Bh s.hp id (some (.st (c.set j (.view (id+N*(j+1)) es 0 0))))) (id+N*(j+1)) (some (.ar false []))⟩ else s
  |_=>s
 |_=>s
def Zu (N:Nat)(s:St)(i:Nat):St:=
 match s.tm i with
 |.ptr id _=>
  match s.hp id with
  |some (.st c)=>(List.range c.length).foldl (Z8 N id) s
  |_=>s
 |_=>s
def Yh (m:List (Nat × Nat)) (old new:Nat):List (Nat × Nat):=
 match N9 m old with
 |some _=>m
 |none=>m++[(old,new)]
def Lg (N new:Nat):List PV->Nat->List (Nat × Nat)->List (Nat × Nat)
 |[],_,m=>m
 |.view id _ _ _::r,j,m=>Lg N new r (j+1) (Yh m id (new+N*(j+1)))
 |_::r,j,m=>Lg N new r (j+1) m
def Uf (N:Nat)(s:St)(m:List (Nat × Nat)) (i:Nat):List (Nat × Nat):=
 match s.tm i with
 |.view id _ _ _=>Yh m id i
 |.ptr id _=>
  match N9 m id with
  |some _=>m
  |none=>
   match s.hp id with
   |some (.st c)=>Lg N i c 0 (Yh m id i)
   |_=>Yh m id i
 |.agg c=>Lg N i c 0 m
 |_=>m
def JC (m:List (Nat × Nat)):PV->PV
 |.view id es off n=>match N9 m id with|some j=>.view j es off n|none=>.top
 |.ptr id off=>match N9 m id with|some j=>.ptr j off|none=>.top
 |.sc v=>.sc v
 |.lst z es n c=>.lst z es n c
 |.iptr c off=>.iptr c off
 |_=>.top
def MY (m:List (Nat × Nat)):PV->PV
 |.agg c=>.agg (c.map (JC m))
 |p=>JC m p
def YJ (m:List (Nat × Nat)):A1->A1
 |.st c=>.st (c.map (JC m))
 |b=>b
def Bz (N i:Nat):Nat:=i+N*2000
def CN (N:Nat)(hp:Nat->Option A1):Nat->List (Nat × Nat)
 |0=>[]
 |i+1=>bif (hp (Bz N i)).isSome then CN N hp i++[(Bz N i,Bz N i)] else CN N hp i
def Mk (N:Nat)(hp:Nat->Option A1):Nat->List (Nat × Nat)->List (Nat × Nat)
 |0,m=>m
 |i+1,m=>
  match hp (Bz N i) with
  |some (.st c)=>Lg N (Bz N i) c 0 (Mk N hp i m)
  |_=>Mk N hp i m
def Ajp (N:Nat)(hp:Nat->Option A1)(k:Nat):List (Nat × Nat):=Mk N hp k (CN N hp k)
def H8 (m:List (Nat × Nat)) (hp:Nat->Option A1):List (Nat × Nat)->List (Nat × A1)
 |[]=>[]
 |(old,new)::r=>match hp old with
  |some b=>(new,YJ m b)::H8 m hp r
  |none=>H8 m hp r
section
variable {R:Type}
def JO (N:Nat)(ls:List Nat)(q:Bool)(s:St)(K:St->Option R):Option R:=
 let s2:=bif q then s else ls.foldl (Zu N) (ls.foldl (Uc N) s)
 let m:=ls.foldl (Uf N s2) (Ajp N s2.hp 8)
 As (Cj (m.map (·.1))&&Cj (m.map (·.2))) (K ⟨lk (ls.map fun i=>(i,MY m (s2.tm i))),E5 (H8 m s2.hp m)⟩)
def Q0 (N L:Nat)(s:St)(K:St->Option R):Option R:=JO N (Ht L N) false s K
def KW (N L:Nat)(s:St)(K:St->Option R):Option R:=JO N (Ht L N) true s K
def RQ (F:(St->Option R)->St->Option R) (nm:St->(St->Option R)->Option R):Nat->St->Option R
 |0,_=>none
 |n+1,s=>F (fun s'=>nm s' (RQ F nm n)) s
def Wn (n:Nat)(F:St->Option R)(s:St):Option R:=
 match n with
 |0=>none
 |_+1=>F s
noncomputable def TS (s:St)(c:Operand)(kt kf:St->Option R):Option R:=
 match c with
 |.tmp d=>
  match s.tm d with
  |.sc (.bool b)=>Cb b (kt ⟨Bh s.tm d (.sc (.bool true)),s.hp⟩) (kf ⟨Bh s.tm d (.sc (.bool false)),s.hp⟩)
  |.ub=>Sm (kt s) (kf s)
  |_=>none
 |.const (.bool true)=>kt s
 |.const (.bool false)=>kf s
 |_=>none
noncomputable def Jz (C:Eg)(P:Program)(fu N:Nat)(call:Al):Code->Nat->(Nat->Nat)->Nat->(St->Option R)->(Nat->St->Option R)->(St->Option R)->St->Option R
 |.skip,_,_,_,kn,_,_,s=>kn s
 |.region _ ops draw,_,_,_,kn,_,_,s=>EO (draw && !Yk C P ops) (As (Ut C P ops) (Aam (Sr C P ops (E7 ops.toList [])) fun sm=>Et C P N call ops sm [] (List.range ops.size) s kn)) (EO draw (Ir C P N call ops ops.toList s kn) (AR C P N call ops ops.toList s kn))
 |.seq a b,ln,lx,lr,kn,kx,kr,s=>Jz C P fu N call a (Jb b ln lx lr) lx lr (fun s'=>EO (UN P a b) (EO (Ul a b) (KW N (Jb b ln lx lr) s' (Wn fu fun s''=>Jz C P fu N call b ln lx lr kn kx kr s'')) (Q0 N (Jb b ln lx lr) s' (Wn fu fun s''=>Jz C P fu N call b ln lx lr kn kx kr s''))) (Jz C P fu N call b ln lx lr kn kx kr s')) kx kr s
 |.cond c a b,ln,lx,lr,kn,kx,kr,s=>TS s c (Jz C P fu N call a ln lx lr kn kx kr) (Jz C P fu N call b ln lx lr kn kx kr)
 |.block id c,ln,lx,lr,kn,kx,kr,s=>Jz C P fu N call c ln (fun j=>bif Nat.beq j id then ln else lx j) lr kn (fun j s'=>bif Nat.beq j id then kn s' else kx j s') kr s
 |.loop c,ln,lx,lr,_,kx,kr,s=>
  Q0 N (Jb (.loop c) ln lx lr) s (RQ (fun k s'=>Jz C P fu N call c (Jb (.loop c) ln lx lr) lx lr k kx kr s') (Q0 N (Jb (.loop c) ln lx lr)) fu)
 |.exit id,_,_,_,_,kx,_,s=>kx id s
 |.ret,_,_,_,_,_,kr,s=>kr s
 |_,_,_,_,_,_,_,_=>none
def SJ (id:Nat)(t:CT)(p:PV)(K:PV->List (Nat × A1)->Option R):Option R:=
 match t with
 |.sl es=>
  match p with
  |.own es' n c=>bif Nat.beq es' es then K (.view id es 0 n) [(id,.ar false c)] else none
  |p=>F5 es p fun z n c=>K (.lst z es n c) []
 |t=>Se t p fun c=>K c []
def Ti (N:Nat):Nat->List CT->List PV->(List PV->List (Nat × A1)->Option R)->Option R
 |_,[],ps,K=>Ah ps (K [] [])
 |id,t::ts,ps,K=>Aa ps fun p ps=>SJ id t p fun c b=>Ti N (id+N) ts ps fun cs bs=>K (c::cs) (b++bs)
def inK (P:Program)(N i:Nat)(t:TypeId)(p:PV)(K:PV->List (Nat × A1)->Option R):Option R:=
 match P0 P t with
 |some e=>Pq p fun ps=>As (Nat.blt i 8) (Ti N (Bz N i+N) (Ez P e) ps fun cs bs=>K (.ptr (Bz N i) 0) ((Bz N i,.st cs)::bs))
 |none=>
  match p with
  |.tup ps=>C7 (Aez P t) fun e=>As (Nat.blt i 8) (Aa ps fun q r=>Ah r (Ml (Aq P e) q fun n c=>K (.view (Bz N i) (Aq P e) 0 n) [(Bz N i,.ar false c)]))
  |p=>
   bif A9 P t then Dw p fun ps=>Ti N (i+N) (Ez P t) ps fun cs bs=>K (.agg cs) bs
   else Ti N (i+N) (Ez P t) [p] fun cs bs=>Aa cs fun c r=>Ah r (K c bs)
def UZ (P:Program)(N:Nat):Nat->List TypeId->List PV->(List (Nat × PV)->List (Nat × A1)->Option R)->Option R
 |_,[],ps,K=>Ah ps (K [] [])
 |i,t::ts,ps,K=>Aa ps fun p ps=>inK P N i t p fun v bs=>UZ P N (i+1) ts ps fun vs bs'=>K ((i,v)::vs) (bs++bs')
def ZO (hp:Nat->Option A1)(t:CT)(p:PV)(K:PV->List Nat->List Nat->Option R):Option R:=
  match t with
  |.sl es=>
    match p with
    |.view id es' off n=>bif Nat.beq es' es&&Nat.beq off 0 then
        (match hp id with
         |some (.ar false c)=>As (decide (n*es<=c.length)) (K (.own es n (c.take (n*es))) [id] [])
         |_=>none) else none
    |p=>F5 es p fun z _ _=>As z (K (.own es 0 []) [] [])
  |t=>Se t p fun c=>K c [] []
def JR (shr:Bool)(hp:Nat->Option A1)(t:CT)(p:PV)(K:PV->List Nat->List Nat->Option R):Option R:=
 bif shr then Ja (Gb hp) t p fun c m=>K c [] m else ZO hp t p K
def Sf (shr:Bool)(hp:Nat->Option A1):List CT->List PV->(List PV->List Nat->List Nat->Option R)->Option R
 |[],[],K=>K [] [] []
 |t::ts,p::ps,K=>JR shr hp t p fun c m z=>Sf shr hp ts ps fun cs ms zs=>K (c::cs) (m++ms) (z++zs)
 |_,_,_=>none
def QG (P:Program)(shr:Bool)(hp:Nat->Option A1)(t:TypeId)(p:PV)(K:PV->List Nat->List Nat->Option R):Option R:=
 match P0 P t with
 |some e=>
  match p with
  |.ptr id off=>
   match hp id with
   |some (.st c)=>As (Nat.beq off 0) (Sf shr hp (Ez P e) c fun cs m z=>K (.pbox cs) (id::m) z)
   |_=>none
  |_=>none
 |none=>
  bif A9 P t then Dw p fun ps=>Sf shr hp (Ez P t) ps fun cs m z=>K (.agg cs) m z
  else Sf shr hp (Ez P t) [p] fun cs m z=>Aa cs fun c r=>Ah r (K c m z)
def RN (P:Program)(s:St)(r:ResultVar)(K:PV->Option R):Option R:=
 match r with
 |.tmp t=>K (s.tm t)
 |.cell a t=>Qk false P (rd s.hp) (Gb s.hp) t (s.tm a) K
def Z3 (P:Program)(shr:Bool)(s:St):List ResultVar->List TypeId->(List PV->List Nat->List Nat->Option R)->Option R
 |[],[],K=>K [] [] []
 |r::rs,t::ts,K=>RN P s r fun p=>QG P shr s.hp t p fun v m z=>Z3 P shr s rs ts fun vs ms zs=>K (v::vs) (m++ms) (z++zs)
 |_,_,_=>none
def T7 (hp:Nat->Option A1):List CT->List PV->List PV->(List PV->List Nat->List Nat->Option R)->Option R
 |[],[],[],K=>K [] [] []
 |t::ts,w::ws,p::ps,K=>JR (match w with | .own _ _ _=>false|_=>true) hp t p fun c m z=>T7 hp ts ws ps fun cs ms zs=>K (c::cs) (m++ms) (z++zs)
 |_,_,_,_=>none
def R7 (P:Program)(N:Nat)(hp:Nat->Option A1):Nat->List TypeId->List PV->(List (List PV)->List Nat->List Nat->List Nat->Option R)->Option R
 |_,[],ps,K=>Ah ps (K [] [] [] [])
 |i,t::ts,ps,K=>Aa ps fun p ps=>
  match p with
  |.pbox ws=>C7 (P0 P t) fun e=>
    match hp (Bz N i) with
    |some (.st c)=>T7 hp (Ez P e) ws c fun cs m z=>R7 P N hp (i+1) ts ps fun r m' z' q=>K (cs::r) (m++m') (z++z') (Bz N i::q)
    |_=>none
  |.tup _=>
    match hp (Bz N i) with
    |some (.ar false c)=>R7 P N hp (i+1) ts ps fun r m' z' q=>K (c::r) m' z' (Bz N i::q)
    |_=>none
  |_=>R7 P N hp (i+1) ts ps K
def KS (rs:List ResultVar):Nat:=rs.foldl (fun m r=>match r with | .tmp t=>RL m t | .cell a _=>RL m a) 0
end
def Vc (P:Program):Nat->List TypeId->Nat->Nat
 |_,[],m=>m
 |i,t::ts,m=>Vc P (i+1) ts (match P.underlying t with|some (.pointer _)=>RL m i|_=>m)
def MT (C:Eg)(P:Program)(f:FuncId)(fn:Func)(args:List PV)(s:St):Option Bg:=
 Z3 P (C.shr f) s fn.results.toList fn.resultTypes.toList fun vs m z=>R7 P fn.ntmps s.hp 0 fn.params.toList args fun os m' z' q=>
  As (Cj ((m++m')++q)&&(z++z').all (fun i=> !(((m++m')++q).any (Nat.beq i)))) (some ⟨vs,os⟩)
noncomputable def Ac8 (C:Eg)(P:Program)(fu:Nat)(call:Al)(f:FuncId)(fn:Func)(c:Code)(args:List PV):Option Bg:=
  UZ P fn.ntmps 0 fn.params.toList args fun tms bs=>As (Nat.ble args.length fn.ntmps&&A3 (fun _=>none) bs)
    (let lr:=Vc P 0 fn.params.toList (KS fn.results.toList)
     Jz C P fu fn.ntmps call c lr (fun _=>0) lr (MT C P f fn args) (fun _ _=>none) (MT C P f fn args) ⟨lk tms,E5 bs⟩)
noncomputable def Am (C:Eg)(P:Program)(fu:Nat):Nat->FuncId->List PV->Option Bg
 |0,_,_=>none
 |d+1,f,args=>
  match C.ext f with
  |some g=>g args
  |none=>
   match P.funcs[f]? with
   |none=>none
   |some fn=>match fn.body with
    |none=>none
    |some c=>Ac8 C.core P fu (Am C P fu d) f fn c args
inductive Dir where
 |l
 |r
 |i (m:Nat)
section
variable {R:Type}
noncomputable def O3 (C:Eg)(P:Program)(fu N:Nat)(call:Al):List Dir->Code->Nat->(Nat->Nat)->Nat->(St->Option R)->(Nat->St->Option R)->(St->Option R)->Nat->St->Option R
 |[],.seq _ b,ln,lx,lr,kn,kx,kr,n,s=>Wn n (fun s''=>Jz C P fu N call b ln lx lr kn kx kr s'') s
 |[],.loop c,ln,lx,lr,_,kx,kr,n,s=>RQ (fun k s'=>Jz C P fu N call c (Jb (.loop c) ln lx lr) lx lr k kx kr s') (Q0 N (Jb (.loop c) ln lx lr)) n s
 |.l::p,.seq a b,ln,lx,lr,kn,kx,kr,n,s=>O3 C P fu N call p a (Jb b ln lx lr) lx lr (fun s'=>EO (UN P a b) (EO (Ul a b) (KW N (Jb b ln lx lr) s' (Wn fu fun s''=>Jz C P fu N call b ln lx lr kn kx kr s'')) (Q0 N (Jb b ln lx lr) s' (Wn fu fun s''=>Jz C P fu N call b ln lx lr kn kx kr s''))) (Jz C P fu N call b ln lx lr kn kx kr s')) kx kr n s
 |.r::p,.seq _ b,ln,lx,lr,kn,kx,kr,n,s=>O3 C P fu N call p b ln lx lr kn kx kr n s
 |.l::p,.cond _ a _,ln,lx,lr,kn,kx,kr,n,s=>O3 C P fu N call p a ln lx lr kn kx kr n s
 |.r::p,.cond _ _ b,ln,lx,lr,kn,kx,kr,n,s=>O3 C P fu N call p b ln lx lr kn kx kr n s
 |.l::p,.block id c,ln,lx,lr,kn,kx,kr,n,s=>O3 C P fu N call p c ln (fun j=>bif Nat.beq j id then ln else lx j) lr kn (fun j s'=>bif Nat.beq j id then kn s' else kx j s') kr n s
 |.i m::p,.loop c,ln,lx,lr,_,kx,kr,n,s=>
  O3 C P fu N call p c (Jb (.loop c) ln lx lr) lx lr
   (fun s'=>Q0 N (Jb (.loop c) ln lx lr) s' (RQ (fun k s'=>Jz C P fu N call c (Jb (.loop c) ln lx lr) lx lr k kx kr s') (Q0 N (Jb (.loop c) ln lx lr)) m)) kx kr n s
 |_,_,_,_,_,_,_,_,_,_=>none
end
noncomputable def Cx (C:Eg)(P:Program)(fu:Nat)(call:Al)(f:FuncId)(fn:Func)(c:Code)(args:List PV)(p:List Dir)(n:Nat)(s:St):Option Bg:=
 let lr:=Vc P 0 fn.params.toList (KS fn.results.toList)
 O3 C P fu fn.ntmps call p c lr (fun _=>0) lr (MT C P f fn args) (fun _ _=>none) (MT C P f fn args) n s
def XT:List Nat:=[
 1000000]
def Acl:List Nat:=[
 10,
 21,
 15,
 30,
 28,
 22,
 12,
 53,
 32,
 31,
 29,
 1000000]
def Ack:List Nat:=[
 43,
 60,
 70,
 71,
 72,
 73,
 74,
 75,
 76,
 77,
 1000000]
def YB:List Nat:=[
 45,
 1000000]
def Abo:List Nat:=[
 45,
 1000000]
def Mn (args:List PV):Option Bg:=
  match args with
  |[.lst _ 1 n c,.lst _ 1 m c']=>bif Nat.beq c.length n&&Nat.beq c'.length m then
      (match bytesOf c,bytesOf c' with
       |some a,some b=>some ⟨[.sc (.int .i64 (Lib.compareBytes a b))],[]⟩
       |_,_=>none) else none
  |_=>none
def BD:List Nat:=[
 82,
 59,
 68,
 69,
 67,
 58,
 41,
 89,
 81,
 65,
 48,
 56,
 39,
 38,
 18,
 55,
 35,
 50,
 40,
 66,
 57,
 1000000]
def Ai6:List Nat:=[
 88,
 1000000]
def CB:Eg:=⟨fun f=>Acl.any (Nat.beq f),fun f i=>Nat.beq i 0&&Abo.any (Nat.beq f),fun f i=>(Nat.beq i 0&&Ack.any (Nat.beq f))||(Nat.beq i 2&&YB.any (Nat.beq f)),fun f=>XT.any (Nat.beq f),fun _=>none,fun N=>Ai6.any (Nat.beq N)⟩
def CX (xs:FuncId->Option (List PV->Option Bg)):Eg:={ CB with ext:=fun f=>bif BD.any (Nat.beq f) then none else xs f }
def B2 (f:Func):Code:=match f.body with|some c=>c|none=>.skip
section
variable {R:Type} {r:Option R}
theorem Wf {k:IntKind}{p:PV}{K:Int->Option R}{n:Int}(h:p=.sc (.int k n)) (hk:K n=r):Ag k p K=r:=by
 subst h;unfold Ag;simp[hk]
theorem Ah5 {p:PV}{K:IntKind->Int->Option R}{k:IntKind}{n:Int}(h:p=.sc (.int k n)) (hk:K k n=r):B4 p K=r:=by
 subst h;exact hk
theorem WW {p:PV}{K:Bool->Option R}{b:Bool}(h:p=.sc (.bool b)) (hk:K b=r):A7 p K=r:=by
 subst h;exact hk
theorem Ai4 {p:PV}{K:ByteArray->Option R}{s:ByteArray}(h:p=.sc (.string s)) (hk:K s=r):Er p K=r:=by
 subst h;exact hk
theorem Aml {es:Nat}{p:PV}{K:Bool->Nat->List PV->Option R}{z:Bool}{n:Nat}{c:List PV}(h:p=.lst z es n c)(hk:K z n c=r):F5 es p K=r:=by
 subst h;unfold F5;simp[Nat.beq_refl,hk]
theorem ES {es:Nat}{p:PV}{K:Nat->List PV->Option R}{n:Nat}{c:List PV}(h:p=.own es n c)(hk:K n c=r):Ml es p K=r:=by
 subst h;unfold Ml;simp[Nat.beq_refl,hk]
theorem Uw {b:Bool}{K:Option R}(h:b=true)(hk:K=r):As b K=r:=by
 subst h;exact hk
theorem Wg {b:Bool}{x y:Option R}(h:b=true)(hx:x=r):Cb b x y=r:=by
 subst h;exact hx
theorem Vu {b:Bool}{x y:Option R}(h:b=false)(hx:y=r):Cb b x y=r:=by
 subst h;exact hx
theorem Ahi {α:Type}{o:Option α}{K:α->Option R}{a:α}(h:o=some a)(hk:K a=r):C7 o K=r:=by
 subst h;exact hk
theorem Qa {α:Type}{l:List α}{K:α->List α->Option R}{a:α}{t:List α}(h:l=a::t)(hk:K a t=r):Aa l K=r:=by
 subst h;exact hk
theorem Wc {α:Type}{l:List α}{K:Option R}(h:l=[]) (hk:K=r):Ah l K=r:=by
 subst h;exact hk
theorem Acn {p:PV}{K:List PV->Option R}{c:List PV}(h:p=.agg c)(hk:K c=r):Dw p K=r:=by
 subst h;exact hk
theorem Agd {p:PV}{K:List PV->Option R}{c:List PV}(h:p=.pbox c)(hk:K c=r):Pq p K=r:=by
 subst h;exact hk
theorem Ps {o:Option Bg}{K:List PV->List (List PV)->Option R} {v:List PV}{q:List (List PV)} (h:o=some ⟨v,q⟩)(hk:K v q=r):Ar o K=r:=by
 subst h;exact hk
end
theorem OL (a b:Int):(a==b)=decide (a=b):=by by_cases h:a=b<;>simp[h]
section
variable {R:Type}
theorem KX (v:List PV)(o:List (List PV)) (K:List PV->List (List PV)->Option R):Ar (some ⟨v,o⟩) K=K v o:=by exact id rfl
theorem UG {α:Type}(K:Option R):Ah ([]:List α) K=K:=by exact id rfl
theorem LL {α:Type}(a:α)(r:List α)(K:α->List α->Option R):Aa (a::r) K=K a r:=by exact id rfl
theorem JS (b:Bool)(K:Bool->Option R):A7 (.sc (.bool b)) K=K b:=by exact id rfl
theorem RU (s:ByteArray)(K:ByteArray->Option R):Er (.sc (.string s)) K=K s:=by exact id rfl
theorem Zi (k:IntKind)(n:Int)(K:Int->Option R):Ag k (.sc (.int k n)) K=K n:=by unfold Ag;simp
theorem SW (k:IntKind)(n:Int)(K:IntKind->Int->Option R):B4 (.sc (.int k n)) K=K k n:=by exact id rfl
theorem ZK (z:Bool)(es n:Nat)(c:List PV)(K:Bool->Nat->List PV->Option R):F5 es (.lst z es n c) K=K z n c:=by unfold F5;simp
theorem ZM (es n:Nat)(c:List PV)(K:Nat->List PV->Option R):Ml es (.own es n c) K=K n c:=by unfold Ml;simp
theorem TL (c:List PV)(K:List PV->Option R):Dw (.agg c) K=K c:=by exact id rfl
theorem LJ (c:List PV)(K:List PV->Option R):Pq (.pbox c) K=K c:=by exact id rfl
theorem US {α:Type}(a:α)(K:α->Option R):C7 (some a) K=K a:=by exact id rfl
theorem I2 {α:Type}(a:α)(K:α->Option R):Ab a K=K a:=by exact id rfl
theorem RX (K:Option R):As true K=K:=by exact id rfl
theorem AW (p:Prop) [Decidable p] (K:Option R)(h:p):As (decide p) K=K:=by simp[As,h]
theorem LR (b c:Bool)(K:Option R):As (b&&c) K=As b (As c K):=by cases b<;>rfl
theorem SK (x y:Option R):Cb true x y=x:=by exact id rfl
theorem UE (x y:Option R):Cb false x y=y:=by exact id rfl
theorem Vn (p:Prop) [Decidable p] (x y:Option R)(h:p):Cb (decide p) x y=x:=by simp[Cb,h]
theorem Ot (p:Prop) [Decidable p] (x y:Option R)(h:¬p):Cb (decide p) x y=y:=by simp[Cb,h]
theorem Acr (p:Prop) [Decidable p] (x y:Option R):Cb (decide p) x y=if p then x else y:=by by_cases h:p<;>simp[Cb,h]
theorem KE (a b:Int)(x y:Option R):Cb (a==b) x y=if a=b then x else y:=by
 rw[OL,Acr]
theorem LF (x:Option R):Sm x x=x:=by unfold Sm;simp
end
theorem wrap_i64 {x:Int}(h1: -9223372036854775808<=x)(h2:x<=9223372036854775807):IntKind.wrap .i64 x=x:=by
 have:=IntWalk.i64_in x (by omega)
 exact this
theorem Cv {x:Int}(h1:0<=x)(h2:x<=18446744073709551615):IntKind.wrap .u64 x=x:=by
 simp only[IntKind.wrap,IntKind.signed,IntKind.bits];simp;omega
theorem Il {α:Type}{l r:List α}{x:α}{i:Nat}(h:l.drop i=x::r):i<l.length∧l[i]?=some x∧l.drop (i+1)=r:=by
 have h1:i<l.length:=by
  rcases Nat.lt_or_ge i l.length with h1|h1
  ·exact h1
  ·rw[List.drop_of_length_le h1] at h;cases h
 rw[List.drop_eq_getElem_cons h1] at h;injection h with h2 h3;exact⟨h1,by rw[List.getElem?_eq_getElem h1,h2],h3⟩
theorem drop_nil {α:Type}{l:List α}{i:Nat}(h:l.drop i=[]):l.length<=i:=by
 have:=congrArg List.length h;simp at this;omega
section
variable {α:Type} {f:α->List PV} {k:Nat}
theorem JF (hf:∀x,(f x).length=k):∀(l:List α),(l.flatMap f).length=l.length*k
 |[]=>by simp
 |x::l=>by simp[hf x,JF hf l,Nat.succ_mul];omega
theorem Uh (hf:∀x,(f x).length=k):∀(l:List α)(i:Nat),(l.flatMap f).drop (i*k)=(l.drop i).flatMap f
 |l,0=>by simp
 |[],i+1=>by simp
 |x::l,i+1=>by
  rw[List.flatMap_cons,Nat.succ_mul,Nat.add_comm,←List.drop_drop,List.drop_append_of_le_length (by rw[hf x];omega)]
  rw[show (f x).drop k=[] from List.drop_of_length_le (by rw[hf x];omega),List.nil_append]
  exact Uh hf l i
theorem Zl (hf:∀x,(f x).length=k):∀(l:List α)(i:Nat),(l.flatMap f).take (i*k)=(l.take i).flatMap f
 |l,0=>by simp
 |[],i+1=>by simp
 |x::l,i+1=>by
  rw[List.flatMap_cons,Nat.succ_mul,Nat.add_comm,List.take_succ_cons,List.flatMap_cons,←Zl hf l i];rw[show k+i*k=(f x).length+i*k by rw[hf x],List.take_length_add_append]
theorem Ve (hf:∀x,(f x).length=k) {l:List α}{i:Nat}{x:α}(h:l[i]?=some x) {j:Nat}(hj:j<k):(l.flatMap f).getD (i*k+j) .top=(f x).getD j .top:=by
 have h1:((l.flatMap f).drop (i*k))[j]?=(l.flatMap f)[i*k+j]?:=List.getElem?_drop;rw[Uh hf] at h1
 have h2:i<l.length:=by
  rcases Nat.lt_or_ge i l.length with h1|h1
  ·exact h1
  ·rw[List.getElem?_eq_none h1] at h;cases h
 rw[List.drop_eq_getElem_cons h2,List.flatMap_cons] at h1;have h3:l[i]=x:=by rw[List.getElem?_eq_getElem h2] at h;injection h
 rw[h3,List.getElem?_append_left (by rw[hf x];exact hj)] at h1
 simp only[List.getD_eq_getElem?_getD,←h1]
theorem GP (hf:∀x,(f x).length=k) {p:PV}{j:Nat}(hj:j<k):∀{l:List α}{i:Nat}{x y:α},l[i]?=some x->f y=(f x).set j p->(l.flatMap f).set (i*k+j) p=(l.set i y).flatMap f
 |[],i,x,y,h,_=>by simp at h
 |a::l,0,x,y,h,hy=>by
  simp at h;subst h;rw[Nat.zero_mul,Nat.zero_add,List.flatMap_cons,List.set_cons_zero,List.flatMap_cons,hy,List.set_append_left _ _ (by rw[hf];exact hj)]
 |a::l,i+1,x,y,h,hy=>by
  simp at h;rw[List.flatMap_cons,List.set_cons_succ,List.flatMap_cons,List.set_append_right _ _ (by rw[hf,Nat.succ_mul];omega),hf]
  congr 1
  rw[show (i+1)*k+j-k=i*k+j by rw[Nat.succ_mul];omega]
  exact GP hf hj h hy
theorem Vr {c:List PV}{p:PV}{i:Nat}(h:i<c.length):A0 c [p] i=c.set i p:=by
 unfold A0;rw[List.set_eq_take_append_cons_drop,if_pos h];simp
end
theorem Jx {α:Type}{l:List α}{i:Nat}{x:α}(h:l[i]?=some x):i<l.length:=by
 rcases Nat.lt_or_ge i l.length with h1|h1
 ·exact h1
 ·rw[List.getElem?_eq_none h1] at h;cases h
abbrev Aeg (k:IntKind)(n:Int):List PV:=[.sc (.int k n)]
abbrev At (k:IntKind)(l:List Int):List PV:=l.flatMap (Aeg k)
theorem Qb (k:IntKind)(n:Int):(Aeg k n).length=1:=rfl
theorem ati {k:IntKind}{l:List Int}{i:Nat}{n:Int}(h:l[i]?=some n):(At k l).getD i .top=.sc (.int k n):=by
 have:=Ve (Qb k) h (j:=0) (by omega)
 simpa using this
theorem Bf (k:IntKind)(l:List Int):(At k l).length=l.length:=by rw[JF (Qb k)];omega
theorem CR (k:IntKind)(l:List Int)(n:Int):At k l++[.sc (.int k n)]=At k (l++[n]):=by simp
theorem ZG (k:IntKind)(l:List Int):List.take l.length (At k l)=At k l:=List.take_of_length_le (by rw[Bf];omega)
theorem Ds:type_of% @KX∧type_of% @UG∧type_of% @LL∧type_of% @JS∧type_of% @RU∧type_of% @Zi∧type_of% @SW∧type_of% @ZK∧type_of% @ZM∧type_of% @TL∧type_of% @LJ∧type_of% @US∧type_of% @I2∧type_of% @RX∧type_of% @AW∧type_of% @LR∧type_of% @SK∧type_of% @UE∧type_of% @Vn∧type_of% @Ot∧type_of% @LF∧type_of% @Bool.not_true∧type_of% @Bool.not_false∧type_of% @Bool.false_eq_true∧type_of% @if_true.{1}∧type_of% @if_false.{1}∧type_of% @Bool.true_and∧type_of% @Bool.and_true∧type_of% @Bool.false_and∧type_of% @Bool.and_false∧type_of% @decide_true∧type_of% @decide_false:=
 ⟨@KX,@UG,@LL,@JS,@RU,@Zi,@SW,@ZK,@ZM,@TL,@LJ,@US,@I2,@RX,@AW,@LR,@SK,@UE,@Vn,@Ot,@LF,@Bool.not_true,@Bool.not_false,@Bool.false_eq_true,@if_true.{1},@if_false.{1},@Bool.true_and,@Bool.and_true,@Bool.false_and,@Bool.and_false,@decide_true,@decide_false⟩
theorem gT:type_of% @Bool.and_eq_true∧type_of% @decide_eq_true_eq∧type_of% @beq_iff_eq.{0}∧type_of% @bne_iff_ne.{0}∧type_of% @ne_eq.{1}∧type_of% @Bool.not_eq_true'∧type_of% @true_and∧type_of% @and_true:=
 ⟨@Bool.and_eq_true,@decide_eq_true_eq,@beq_iff_eq.{0},@bne_iff_ne.{0},@ne_eq.{1},@Bool.not_eq_true',@true_and,@and_true⟩
theorem gF:type_of% @decide_eq_false_iff_not∧type_of% @beq_eq_false_iff_ne.{0}∧type_of% @bne_eq_false_iff_eq.{0}∧type_of% @ne_eq.{1}∧type_of% @Bool.not_eq_false':=
 ⟨@decide_eq_false_iff_not,@beq_eq_false_iff_ne.{0},@bne_eq_false_iff_eq.{0},@ne_eq.{1},@Bool.not_eq_false'⟩
end
section
open Go.RowKit
def Au {α β:Type}(R:α->β->Prop):List α->List β->Prop
 |[],[]=>True
 |a::zs,b::bs=>R a b∧Au R zs bs
 |_,_=>False
section
variable {α β γ:Type} {R S:α->β->Prop}
theorem Au.len:∀{zs:List α}{bs:List β},Au R zs bs->zs.length=bs.length
 |[],[],_=>rfl
 |_::_,_::_,h=>by simp[Au.len h.2]
 |[],_::_,h=>h.elim
 |_::_,[],h=>h.elim
theorem Au.at_:∀{zs:List α}{bs:List β},Au R zs bs->∀{i:Nat} {a b},zs[i]?=some a->bs[i]?=some b->R a b
 |[],[],_,i,a,b,h,_=>by simp at h
 |_::_,_::_,h,0,a,b,ha,hb=>by simp at ha hb;subst ha;subst hb;exact h.1
 |_::_,_::_,h,i+1,a,b,ha,hb=>by simp at ha hb;exact Au.at_ h.2 ha hb
 |[],_::_,h,_,_,_,_,_=>h.elim
 |_::_,[],h,_,_,_,_,_=>h.elim
theorem Au.of_at:∀{zs:List α}{bs:List β},zs.length=bs.length->(∀(i:Nat) a b,zs[i]?=some a->bs[i]?=some b->R a b)->Au R zs bs
 |[],[],_,_=>trivial
 |a::zs,b::bs,hl,h=>⟨h 0 a b rfl rfl,Au.of_at (by simpa using hl) fun i x y hx hy=>h (i+1) x y hx hy⟩
 |[],_::_,hl,_=>by simp at hl
 |_::_,[],hl,_=>by simp at hl
theorem Au.mono (hRS:∀a b,R a b->S a b):∀{zs:List α}{bs:List β},Au R zs bs->Au S zs bs
 |[],[],_=>trivial
 |_::_,_::_,h=>⟨hRS _ _ h.1,Au.mono hRS h.2⟩
 |[],_::_,h=>h.elim
 |_::_,[],h=>h.elim
theorem Au.mono_mem:∀{zs:List α}{bs:List β},(∀a∈zs,∀b,R a b->S a b)->Au R zs bs->Au S zs bs
 |[],[],_,_=>trivial
 |a::_,_::_,hRS,h=>⟨hRS a (by simp) _ h.1,Au.mono_mem (fun x hx=>hRS x (by simp[hx])) h.2⟩
 |[],_::_,_,h=>h.elim
 |_::_,[],_,h=>h.elim
theorem Au.app:∀{zs:List α}{bs:List β}{as':List α}{bs':List β},Au R zs bs->Au R as' bs'->Au R (zs++as') (bs++bs')
 |[],[],_,_,_,h'=>h'
 |_::_,_::_,_,_,h,h'=>⟨h.1,Au.app h.2 h'⟩
 |[],_::_,_,_,h,_=>h.elim
 |_::_,[],_,_,h,_=>h.elim
theorem Au.take:∀(n:Nat){zs:List α}{bs:List β},Au R zs bs->Au R (zs.take n) (bs.take n)
 |0,_,_,_=>by simp[Au]
 |_+1,[],[],_=>trivial
 |n+1,_::_,_::_,h=>⟨h.1,Au.take n h.2⟩
 |_+1,[],_::_,h=>h.elim
 |_+1,_::_,[],h=>h.elim
theorem Au.drop:∀(n:Nat){zs:List α}{bs:List β},Au R zs bs->Au R (zs.drop n) (bs.drop n)
 |0,_,_,h=>h
 |_+1,[],[],_=>trivial
 |n+1,_::_,_::_,h=>Au.drop n h.2
 |_+1,[],_::_,h=>h.elim
 |_+1,_::_,[],h=>h.elim
end
inductive Ao (w:World) (A:Nat->Prop):PV->Value->Prop where
 |sc (v:Value):Ao w A (.sc v) v
 |top (v:Value):Ao w A .top v
 |ub (b:Bool):Ao w A .ub (.bool b)
 |lnil (z:Bool) (es:Nat):Ao w A (.lst z es 0 []) (.slice none 0 0)
 |lemp (es:Nat) (a:Addr) (cap:Nat):Ao w A (.lst false es 0 []) (.slice (some a) 0 cap)
 |lst (es n:Nat) (cells:List PV) (a:Addr) (cap:Nat) (f:Nat->Value) (hs:a.spot=none) (hb:a.block<w.heap.size) (hA:¬A a.block) (hn:n<=cap)
   (hc:∀j c,cells[j]?=some c->w.cell? (a.add j)=some (f j)) (h1:∀j c,cells[j]?=some c->(f j).oneCell'=true) (hr:∀j c,cells[j]?=some c->Ao w A c (f j)):Ao w A (.lst false es n cells) (.slice (some a) n cap)
def bsz (w:World)(b:Nat):Nat:=
 match w.heap[b]? with
 |some (.cells c _ _)=>c.size
 |_=>0
def EZ (w:World)(b:Nat):Bool:=w.frozen? ⟨b,bsz w b,none⟩
def Fit (w:World)(es b e:Nat):Prop:=e<=bsz w b∧(es=1∨EZ w b=false)
def Fy (w w':World)(b:Nat):Prop:=bsz w b<=bsz w' b∧(EZ w b=false->EZ w' b=false)
theorem Fy.refl (w:World)(b:Nat):Fy w w b:=⟨Nat.le_refl _,id⟩
theorem Fy.same {w w':World}{b:Nat}(h:w'.heap[b]?=w.heap[b]?):Fy w w' b:=by
 have e:bsz w' b=bsz w b:=by unfold bsz;rw[h]
 refine⟨by rw[e];exact Nat.le_refl _,fun q=>?_⟩
 unfold EZ at q ⊢;rw[e];unfold World.frozen? at q ⊢;simp only[h];exact q
theorem Fy.trans {w w' w'':World}{b:Nat}(h:Fy w w' b)(h':Fy w' w'' b):Fy w w'' b:=⟨Nat.le_trans h.1 h'.1,fun q=>h'.2 (h.2 q)⟩
theorem Fit.step {w w':World}{es b e:Nat}(h:Fit w es b e)(hb:Fy w w' b):Fit w' es b e:=⟨Nat.le_trans h.1 hb.1,h.2.imp id hb.2⟩
def BO (w:World)(A:Nat->Prop)(a:Addr)(cells:List PV):Prop:=∀j c,cells[j]?=some c->∃v,w.cell? (a.add j)=some v∧v.oneCell'=true∧Ao w A c v
def A6 (w:World)(A:Nat->Prop)(β:Nat->Option (Nat × Nat)) (p:PV)(v:Value):Prop:=
 match p with
 |.view id es off n=>(β id=none∧off=0∧n=0∧∃ad,v=.slice ad 0 0) ∨
   ∃b o x cap,β id=some (b,o)∧v=.slice (some ⟨b,x,none⟩) n cap∧(x=o+off∨(n=0∧off≠0))∧n<=cap∧Fit w es b (x+cap*es)∧b<w.heap.size
 |.ptr id off=>∃b o,β id=some (b,o)∧v=.pointer (some ⟨b,o+off,none⟩)
 |.iptr c off=>∃a:Addr,v=.pointer (some (a.add off))∧a.spot=none∧a.block<w.heap.size∧¬A a.block∧BO w A a c
 |p=>Ao w A p v
def Eo (w:World)(A:Nat->Prop)(β:Nat->Option (Nat × Nat)) (p:PV)(v:Value):Prop:=
 match p with
 |.agg cs=>∃vs,v=.agg ⟨vs⟩∧Au (A6 w A β) cs vs
 |p=>A6 w A β p v
def Cp (w:World)(A:Nat->Prop)(β:Nat->Option (Nat × Nat)) (p:PV)(v:Value):Prop:=
 match p with
 |.tup ps=>∃vs,v=.tuple ⟨vs⟩∧Au (Eo w A β) ps vs
 |p=>Eo w A β p v
structure Bb (A:Nat->Prop) (w w':World):Prop where
 size:w.heap.size<=w'.heap.size
 keep:∀b,b<w.heap.size->¬A b->w'.heap[b]?=w.heap[b]?
 bs:∀b,b<w.heap.size->Fy w w' b
theorem Dq (a:Addr)(j:Nat):(a.add j).block=a.block:=by unfold Addr.add;split<;>rfl
theorem add_add (a:Addr)(i j:Nat):(a.add i).add j=a.add (i+j):=by
 unfold Addr.add;by_cases hi:i=0<;>by_cases hj:j=0<;>simp[hi,hj,Nat.add_assoc]
theorem B6 (b o j:Nat):(⟨b,o,none⟩:Addr).add j=⟨b,o+j,none⟩:=by
 unfold Addr.add;by_cases hj:j=0<;>simp[hj]
theorem UO {a:Addr}(h:a.spot=none)(j:Nat):(a.add j).spot=none:=by unfold Addr.add;split<;>simp[h]
section
variable {w w':World} {A A':Nat->Prop} {β β':Nat->Option (Nat × Nat)}
theorem Bb.cell (h:Bb A w w'){a:Addr}(hb:a.block<w.heap.size)(hA:¬A a.block):w'.cell? a=w.cell? a:=
 World.cell?_of_block (h.keep a.block hb hA)
theorem Ao.step (h:Bb A w w')(hA:∀b,b<w.heap.size->A' b->A b){p:PV}{v:Value}(t:Ao w A p v):Ao w' A' p v:=by
 induction t with
 |sc v=>exact .sc v
 |top v=>exact .top v
 |ub b=>exact .ub b
 |lnil z es=>exact .lnil z es
 |lemp es a cap=>exact .lemp es a cap
 |lst es n cells a cap f hs hb hA1 hn hc h1 hr ih=>
  refine .lst es n cells a cap f hs (Nat.lt_of_lt_of_le hb h.size) (fun x=>hA1 (hA _ hb x)) hn (fun j c hj=>?_) h1 (fun j c hj=>ih j c hj)
  rw[h.cell (by rw[Dq];exact hb) (by rw[Dq];exact hA1)]
  exact hc j c hj
theorem BO.step (h:Bb A w w')(hA:∀b,b<w.heap.size->A' b->A b){a:Addr}(hb:a.block<w.heap.size)(hn:¬A a.block){cells:List PV}(t:BO w A a cells):BO w' A' a cells:=by
 intro j c hj;obtain⟨v,hv,h1,ht⟩:=t j c hj;exact⟨v,by rw[h.cell (by rw[Dq];exact hb) (by rw[Dq];exact hn)];exact hv,h1,ht.step h hA⟩
theorem A6.step (h:Bb A w w')(hA:∀b,b<w.heap.size->A' b->A b){p:PV}{v:Value}(hβ:∀id∈Ai p,β' id=β id)(t:A6 w A β p v):A6 w' A' β' p v:=by
 cases p with
 |view id es off n=>
  have e:=hβ id (by simp[Ai])
  rcases t with⟨h1,h2,h3,h4⟩|⟨b,o,x,cap,h1,h2,hx,h3,h4,h5⟩
  ·exact .inl ⟨by rw[e];exact h1,h2,h3,h4⟩
  ·exact .inr ⟨b,o,x,cap,by rw[e];exact h1,h2,hx,h3,h4.step (h.bs b h5),Nat.lt_of_lt_of_le h5 h.size⟩
 |ptr id off=>
  have e:=hβ id (by simp[Ai])
  obtain⟨b,o,h1,h2⟩:=t;exact⟨b,o,by rw[e];exact h1,h2⟩
 |iptr c off=>
  obtain⟨a,h1,h2,h3,h4,h5⟩:=t;exact⟨a,h1,h2,Nat.lt_of_lt_of_le h3 h.size,fun x=>h4 (hA _ h3 x),h5.step h hA h3 h4⟩
 |sc v=>exact Ao.step h hA t
 |lst z es n c=>exact Ao.step h hA t
 |own es n c=>exact Ao.step h hA t
 |pbox c=>exact Ao.step h hA t
 |agg c=>exact Ao.step h hA t
 |tup c=>exact Ao.step h hA t
 |top=>exact Ao.step h hA t
 |ub=>exact Ao.step h hA t
theorem Eo.step (h:Bb A w w')(hA:∀b,b<w.heap.size->A' b->A b){p:PV}{v:Value}(hβ:∀id∈Be p,β' id=β id)(t:Eo w A β p v):Eo w' A' β' p v:=by
 cases p with
 |agg cs=>
  obtain⟨vs,rfl,h2⟩:=t;exact⟨vs,rfl,h2.mono_mem fun c hc v hv=>hv.step h hA fun id Ax=>hβ id (by simp only[Be,List.mem_flatMap];exact⟨c,hc,Ax⟩)⟩
 |sc x=>exact A6.step (p:=.sc x) h hA hβ t
 |lst x y z u=>exact A6.step (p:=.lst x y z u) h hA hβ t
 |own x y z=>exact A6.step (p:=.own x y z) h hA hβ t
 |view x y z u=>exact A6.step (p:=.view x y z u) h hA hβ t
 |ptr x y=>exact A6.step (p:=.ptr x y) h hA hβ t
 |iptr x y=>exact A6.step (p:=.iptr x y) h hA hβ t
 |pbox x=>exact A6.step (p:=.pbox x) h hA hβ t
 |tup x=>exact A6.step (p:=.tup x) h hA hβ t
 |top=>exact A6.step (p:=.top) h hA hβ t
 |ub=>exact A6.step (p:=.ub) h hA hβ t
theorem Cp.step (h:Bb A w w')(hA:∀b,b<w.heap.size->A' b->A b){p:PV}{v:Value}(hβ:∀id∈A5 p,β' id=β id)(t:Cp w A β p v):Cp w' A' β' p v:=by
 cases p with
 |tup cs=>
  obtain⟨vs,rfl,h2⟩:=t;exact⟨vs,rfl,h2.mono_mem fun c hc v hv=>hv.step h hA fun id Ax=>hβ id (by simp only[A5,List.mem_flatMap];exact⟨c,hc,Ax⟩)⟩
 |sc x=>exact Eo.step (p:=.sc x) h hA hβ t
 |lst x y z u=>exact Eo.step (p:=.lst x y z u) h hA hβ t
 |own x y z=>exact Eo.step (p:=.own x y z) h hA hβ t
 |view x y z u=>exact Eo.step (p:=.view x y z u) h hA hβ t
 |ptr x y=>exact Eo.step (p:=.ptr x y) h hA hβ t
 |iptr x y=>exact Eo.step (p:=.iptr x y) h hA hβ t
 |pbox x=>exact Eo.step (p:=.pbox x) h hA hβ t
 |top=>exact Eo.step (p:=.top) h hA hβ t
 |ub=>exact Eo.step (p:=.ub) h hA hβ t
 |agg x=>exact Eo.step (p:=.agg x) h hA hβ t
theorem Bb.refl (A:Nat->Prop)(w:World):Bb A w w:=⟨Nat.le_refl _,fun _ _ _=>rfl,fun _ _=>Fy.refl _ _⟩
theorem BO.weak (hA:∀b,b<w.heap.size->A' b->A b){a:Addr}{cells:List PV}(t:BO w A a cells):BO w A' a cells:=by
 intro j c hj;obtain⟨v,hv,h1,ht⟩:=t j c hj;exact⟨v,hv,h1,ht.step (Bb.refl A w) hA⟩
theorem Bb.trans {w'':World}(h:Bb A w w')(h':Bb A' w' w'')(hA:∀b,b<w.heap.size->A' b->A b):Bb A w w'':=
  ⟨Nat.le_trans h.size h'.size,fun b hb hn=>(h'.keep b (Nat.lt_of_lt_of_le hb h.size) (fun x=>hn (hA b hb x))).trans (h.keep b hb hn),
   fun b hb=>(h.bs b hb).trans (h'.bs b (Nat.lt_of_lt_of_le hb h.size))⟩
theorem Bb.weaken (h:Bb A w w')(hA:∀b,b<w.heap.size->A b->A' b):Bb A' w w':=⟨h.size,fun b hb hn=>h.keep b hb (fun x=>hn (hA b hb x)),h.bs⟩
end
section
variable {R:Type} {r:R}
theorem Cq {k:IntKind}{p:PV}{K:Int->Option R}(h:Ag k p K=some r):∃n,p=.sc (.int k n)∧K n=some r:=by
 unfold Ag at h;split at h
 ·split at h
  ·rename_i hk;subst hk;exact⟨_,rfl,h⟩
  ·cases h
 ·cases h
theorem B8 {p:PV}{K:Bool->Option R}(h:A7 p K=some r):∃b,p=.sc (.bool b)∧K b=some r:=by
 unfold A7 at h;split at h
 ·exact⟨_,rfl,h⟩
 ·cases h
theorem Ca {p:PV}{K:ByteArray->Option R}(h:Er p K=some r):∃b,p=.sc (.string b)∧K b=some r:=by
 unfold Er at h;split at h
 ·exact⟨_,rfl,h⟩
 ·cases h
theorem Bx {p:PV}{K:IntKind->Int->Option R}(h:B4 p K=some r):∃k n,p=.sc (.int k n)∧K k n=some r:=by
 unfold B4 at h;split at h
 ·exact⟨_,_,rfl,h⟩
 ·cases h
theorem Ae {b:Bool}{K:Option R}(h:As b K=some r):b=true∧K=some r:=by
 unfold As at h;cases b
 ·cases h
 ·exact⟨rfl,h⟩
theorem Bl {α:Type}{o:Option α}{K:α->Option R}(h:C7 o K=some r):∃a,o=some a∧K a=some r:=by
 unfold C7 at h;split at h
 ·exact⟨_,rfl,h⟩
 ·cases h
theorem Ap {α:Type}{l:List α}{K:α->List α->Option R}(h:Aa l K=some r):∃a t,l=a::t∧K a t=some r:=by
 unfold Aa at h;split at h
 ·exact⟨_,_,rfl,h⟩
 ·cases h
theorem B1 {α:Type}{l:List α}{K:Option R}(h:Ah l K=some r):l=[]∧K=some r:=by
 unfold Ah at h;split at h
 ·exact⟨rfl,h⟩
 ·cases h
theorem Eh {p:PV}{K:List PV->Option R}(h:Dw p K=some r):∃c,p=.agg c∧K c=some r:=by
 unfold Dw at h;split at h
 ·exact⟨_,rfl,h⟩
 ·cases h
theorem Y7 {p:PV}{K:List PV->Option R}(h:Pq p K=some r):∃c,p=.pbox c∧K c=some r:=by
 unfold Pq at h;split at h
 ·exact⟨_,rfl,h⟩
 ·cases h
theorem AK {p:PV}{K:Value->Option R}(h:PX p K=some r):∃f a b,p=.sc (.func f a b)∧K (.func f a b)=some r:=by
 unfold PX at h;split at h
 ·exact⟨_,_,_,rfl,h⟩
 ·cases h
theorem XB {p:PV}{K:FuncId->Option R}(h:fvK p K=some r):∃f,p=.sc (.func (.func f) #[] #[])∧K f=some r:=by
 unfold fvK at h;split at h
 ·rename_i f a b;cases hb:(a.isEmpty&&b.isEmpty)<;>rw[hb] at h
  ·cases h
  ·simp only[Bool.and_eq_true,Array.isEmpty_iff] at hb;rw[hb.1,hb.2];exact⟨f,rfl,h⟩
 ·cases h
theorem Y4 {o:Option Bg}{K:List PV->List (List PV)->Option R} (h:Ar o K=some r):∃v x,o=some ⟨v,x⟩∧K v x=some r:=by
 unfold Ar at h;split at h
 ·exact⟨_,_,rfl,h⟩
 ·cases h
theorem Ia {b:Bool}{x y:Option R}(h:Cb b x y=some r):(b=true∧x=some r)∨(b=false∧y=some r):=by
 unfold Cb at h;cases b
 ·exact .inr ⟨rfl,h⟩
 ·exact .inl ⟨rfl,h⟩
theorem Dh {es:Nat}{p:PV}{K:Bool->Nat->List PV->Option R}(h:F5 es p K=some r):
  ∃z n c,K z n c=some r∧(p=.lst z es n c∨(p=.sc (.slice none 0 0)∧z=true∧n=0∧c=[])):=by
 unfold F5 at h;split at h
 ·rename_i z es' n c;cases hb:Nat.beq es' es
  ·rw[hb] at h;cases h
  ·rw[hb] at h;have:=Nat.eq_of_beq_eq_true hb;subst this;exact⟨z,n,c,h,.inl rfl⟩
 ·exact⟨true,0,[],h,.inr ⟨rfl,rfl,rfl,rfl⟩⟩
 ·cases h
def Ob:PV->Prop
 |.sc _=>True
 |.lst _ _ _ _=>True
 |_=>False
def Xa:PV->Prop
 |.sc _=>True
 |.lst _ _ _ _=>True
 |.view _ _ _ _=>True
 |_=>False
theorem Ld {c:PV}(h:Ob c):Xa c:=by
 cases c<;>first|trivial|exact h.elim
theorem Em {c:PV}(h:Ob c):Ai c=[]:=by
 cases c<;>first|rfl|exact h.elim
variable {w:World} {A:Nat->Prop} {β:Nat->Option (Nat × Nat)}
theorem Hd {c:PV}{v:Value}(h:Ob c):A6 w A β c v↔Ao w A c v:=by
 cases c<;>first|exact Iff.rfl|exact h.elim
theorem Ql {c:PV}{v:Value}(h:∀cs,c ≠ .agg cs):Eo w A β c v↔A6 w A β c v:=by
 cases c<;>first|exact Iff.rfl|exact absurd rfl (h _)
theorem K5 {c:PV}{v:Value}(h:∀cs,c ≠ .tup cs):Cp w A β c v↔Eo w A β c v:=by
 cases c<;>first|exact Iff.rfl|exact absurd rfl (h _)
theorem P5 {c:PV}(h:Ob c)(cs:List PV):c ≠ .agg cs:=by rintro rfl;exact h
theorem JW {c:PV}(h:Ob c)(cs:List PV):c ≠ .tup cs:=by rintro rfl;exact h
theorem Ao.val {v u:Value}(h:Ao w A (.sc v) u):u=v:=by cases h;rfl
theorem O2 {es n:Nat}{z:Bool}{c:List PV}{p:PV}{v:Value}(h:p=.lst z es n c∨(p=.sc (.slice none 0 0)∧z=true∧n=0∧c=[])) (hv:A6 w A β p v):Ao w A (.lst z es n c) v:=by
 rcases h with rfl|⟨rfl,rfl,rfl,rfl⟩
 ·exact hv
 ·have:=Ao.val (w:=w) (A:=A) hv;subst this;exact .lnil true es
theorem Ib {t:CT}{p:PV}{K:PV->Option R}(h:Se t p K=some r):
  ∃c,K c=some r∧Ob c∧Ob p∧∀(w:World) (A:Nat->Prop) (β:Nat->Option (Nat × Nat)) (v:Value),A6 w A β p v->Ao w A c v∧v.oneCell'=true:=by
 cases t with
 |int k=>obtain⟨n,rfl,h2⟩:=Cq h;exact⟨_,h2,trivial,trivial,fun w A β v hv=>⟨hv,by have:=Ao.val (w:=w) (A:=A) hv;subst this;rfl⟩⟩
 |bool=>obtain⟨n,rfl,h⟩:=B8 h;exact⟨_,h,trivial,trivial,fun w A β v hv=>⟨hv,by have:=Ao.val (w:=w) (A:=A) hv;subst this;rfl⟩⟩
 |str=>obtain⟨n,rfl,h⟩:=Ca h;exact⟨_,h,trivial,trivial,fun w A β v hv=>⟨hv,by have:=Ao.val (w:=w) (A:=A) hv;subst this;rfl⟩⟩
 |sl es=>
  obtain⟨z,n,c,h,hp⟩:=Dh h;refine⟨_,h,trivial,?_,fun w A β v hv=>⟨O2 hp hv,?_⟩⟩
  ·rcases hp with rfl|⟨rfl,_⟩<;>trivial
  ·have ht:=O2 hp hv;cases ht<;>rfl
 |any=>
  obtain⟨f,a,b,rfl,h2⟩:=AK (show PX p (fun v=>K (.sc v))=some r from h)
  exact⟨_,h2,trivial,trivial,fun w A β v hv=>⟨hv,by have:=Ao.val (w:=w) (A:=A) hv;subst this;rfl⟩⟩
theorem XE {t:CT}{p:PV}{K:PV->Option R}(h:ZX t p K=some r):
  ∃c,K c=some r∧(Ob c∨c=p)∧Xa p∧p ≠ .top∧(∀cs,c ≠ .agg cs)∧(∀cs,c ≠ .tup cs)∧(∀id,id∈Ai c->id∈Ai p)∧∀(w:World) (A:Nat->Prop) (β:Nat->Option (Nat × Nat)) (v:Value),A6 w A β p v->A6 w A β c v∧v.oneCell'=true:=by
 have tree:∀t',Se t' p K=some r->∃c,K c=some r∧(Ob c∨c=p)∧Xa p∧p ≠ .top∧(∀cs,c ≠ .agg cs)∧(∀cs,c ≠ .tup cs)∧(∀id,id∈Ai c->id∈Ai p)∧∀(w:World) (A:Nat->Prop) (β:Nat->Option (Nat × Nat)) (v:Value),A6 w A β p v->A6 w A β c v∧v.oneCell'=true:=by
  intro t' h;obtain⟨c,h,hc,hp,hv⟩:=Ib h;exact⟨c,h,.inl hc,Ld hp,by rintro rfl;exact hp,P5 hc,JW hc,by rw[Em hc];simp,fun w A β v h=>⟨(Hd hc).2 (hv w A β v h).1,(hv w A β v h).2⟩⟩
 cases t with
 |sl es=>
  unfold ZX fsK at h;dsimp only at h;split at h
  ·rename_i id es' off n;cases hb:Nat.beq es' es
   ·rw[hb] at h;cases h
   ·rw[hb] at h;have:=Nat.eq_of_beq_eq_true hb;subst this;exact⟨_,h,.inr rfl,trivial,by simp,by simp,by simp,fun _ h=>h,fun _ _ _ _ h=>⟨h,by rcases h with⟨_,_,_,_,rfl⟩|⟨_,_,_,_,_,rfl,_⟩<;>rfl⟩⟩
  ·exact tree (.sl es) h
 |int k=>exact tree (.int k) h
 |bool=>exact tree (.bool) h
 |str=>exact tree (.str) h
 |any=>exact tree (.any) h
theorem Su {cells:List PV}{i:Nat}{p:PV}(h:cells.getD i .top=p)(hp:p ≠ .top):cells[i]?=some p:=by
 rw[List.getD_eq_getElem?_getD] at h;cases hc:cells[i]? with
 |none=>rw[hc] at h;exact absurd h.symm hp
 |some q=>rw[hc] at h;simp at h;rw[h]
theorem Md:∀{ts:List CT}{cells:List PV}{off:Nat}{K:List PV->Option R},Mp ts cells off K=some r ->
  ∃cs,K cs=some r∧cs.length=ts.length∧∀j c,cs[j]?=some c->Ob c∧∃p,cells[off+j]?=some p∧Ob p ∧
   ∀(w:World) (A:Nat->Prop) (β:Nat->Option (Nat × Nat)) (v:Value),A6 w A β p v->Ao w A c v∧v.oneCell'=true
 |[],_,_,_,h=>⟨[],h,rfl,fun j c hj=>by simp at hj⟩
 |t::ts,cells,off,K,h=>by
  unfold Mp at h;obtain⟨c,h,hc,hp,hv⟩:=Ib h;obtain⟨cs,h,hl,Oj⟩:=Md h;refine⟨c::cs,h,by simp[hl],fun j c' hj=>?_⟩
  cases j with
  |zero=>
   simp at hj;subst hj;refine⟨hc,cells.getD off .top,Su rfl ?_,hp,hv⟩;intro e;rw[e] at hp;exact hp
  |succ j=>
   simp at hj;have:=Oj j c' hj
   rwa [Nat.add_right_comm,Nat.add_assoc] at this
theorem M6:∀{ts:List CT}{cells:List PV}{off:Nat}{K:List PV->Option R},J4 ts cells off K=some r ->
  ∃cs,K cs=some r∧cs.length=ts.length∧(∀c∈cs,(∀x,c ≠ .agg x)∧(∀x,c ≠ .tup x))∧∀j c,cs[j]?=some c->∃p,cells[off+j]?=some p∧Xa p∧(∀id,id∈Ai c->id∈Ai p) ∧
   ∀(w:World) (A:Nat->Prop) (β:Nat->Option (Nat × Nat)) (v:Value),A6 w A β p v->A6 w A β c v∧v.oneCell'=true
 |[],_,_,_,h=>⟨[],h,rfl,by simp,fun j c hj=>by simp at hj⟩
 |t::ts,cells,off,K,h=>by
  unfold J4 at h;obtain⟨c,h,hc,hf,hp,ha,ht,hr,hv⟩:=XE h;obtain⟨cs,h,hl,Sl,Oj⟩:=M6 h;refine⟨c::cs,h,by simp[hl],?_,fun j c' hj=>?_⟩
  ·intro x hx;rcases List.mem_cons.1 hx with rfl|hx
   ·exact⟨ha,ht⟩
   ·exact Sl x hx
  ·cases j with
   |zero=>
    simp at hj;subst hj;exact⟨cells.getD off .top,Su rfl hp,hf,hr,hv⟩
   |succ j=>
    simp at hj;have:=Oj j c' hj
    rwa [Nat.add_right_comm,Nat.add_assoc] at this
theorem AV {agg:Bool}{cells:List PV}{K:PV->Option R}(h:LO agg cells K=some r):
  (agg=true∧K (.agg cells)=some r)∨(agg=false∧∃c,cells=[c]∧K c=some r):=by
 unfold LO at h;cases agg
 ·obtain⟨c,t,rfl,h⟩:=Ap h;obtain⟨rfl,h⟩:=B1 h;exact .inr ⟨rfl,c,rfl,h⟩
 ·exact .inl ⟨rfl,h⟩
end
open Go.RowKit
def Bu (b:Option A1):Prop:=
 match b with
 |some (.st _)=>True
 |some (.ar false _)=>True
 |_=>False
abbrev Bt:=Nat->Option (Nat × Nat)
def Zp (hp:Nat->Option A1)(β:Bt)(b:Nat):Prop:=∃id o,Bu (hp id)∧β id=some (b,o)
def Bv (hp:Nat->Option A1)(β:Bt)(Y:Nat->Prop)(b:Nat):Prop:=Zp hp β b∨Y b
def Lb (w:World)(A:Nat->Prop)(β:Bt)(id:Nat)(bx:A1):Prop:=
 match bx with
 |.st cells=>∃b o,β id=some (b,o)∧(∀j c,cells[j]?=some c->∃v,w.cell? ⟨b,o+j,none⟩=some v∧A6 w A β c v)∧∀j,j<cells.length->w.frozen? ⟨b,o+j,none⟩=false
 |.ar fz cells=>(β id=none∧cells=[])∨∃b o,β id=some (b,o)∧BO w A ⟨b,o,none⟩ cells∧(fz=false->∀j,o<=j->j<bsz w b->w.frozen? ⟨b,j,none⟩=false)∧(fz=true->¬A b)
 |.mv=>True
structure Ev where
 X:Nat->Prop
 L:Nat->Nat->Prop
 pn:Nat->Prop
 pt:Nat->Option (Nat × Nat)
 p8:∀i,pn i->i<8
def BR (bx:A1)(o j:Nat):Prop:=
 match bx with
 |.st c=>o<=j∧j<o+c.length
 |.ar _ _=>o<=j
 |.mv=>False
structure Fr (X0:Ev) (w0 w:World):Prop where
 os:w.os=w0.os
 tape:w.tape=w0.tape
 output:w.output=w0.output
 step:Bb X0.X w0 w
 rng:∀b j,b<w0.heap.size->¬X0.L b j->w.cell? ⟨b,j,none⟩=w0.cell? ⟨b,j,none⟩∧w.frozen? ⟨b,j,none⟩=w0.frozen? ⟨b,j,none⟩
structure Bp (N:Nat) (w0:World) (X0:Ev) (Y:Nat->Prop) (β:Bt) (s:St) (a:Act) (w:World):Prop where
 dfr:a.defers=[]
 tsz:a.tmps.size=N
 tmo:∀i,N<=i->s.tm i=.top
 tms:∀i,i<N->Cp w (Bv s.hp β Y) β (s.tm i) (a.tmps.getD i undef)
 box:∀id b,s.hp id=some b->Lb w (Bv s.hp β Y) β id b
 inj:∀id id' b o o',Bu (s.hp id)->Bu (s.hp id')->β id=some (b,o)->β id'=some (b,o')->id=id'
 blt:∀id b o,s.hp id≠none->β id=some (b,o)->b<w.heap.size
 wfT:∀i,i<N->∀id∈A5 (s.tm i),s.hp id≠none
 wfB:∀id cells,s.hp id=some (.st cells)->∀c∈cells,∀id'∈Ai c,s.hp id'≠none
 ownd:∀b,Zp s.hp β b->X0.X b∨w0.heap.size<=b
 rngB:∀id bx b o,s.hp id=some bx->Bu (some bx)->β id=some (b,o)->b<w0.heap.size->∀j,BR bx o j->X0.L b j
 pin:∀i,X0.pn i->s.hp (Bz N i)≠none∧β (Bz N i)=X0.pt i
 stp:∀id c b o,s.hp id=some (.st c)->β id=some (b,o)->b<w0.heap.size->∃i,id=Bz N i∧X0.pn i
 Yx:∀b,Y b->¬Zp s.hp β b
 Ylt:∀b,Y b->b<w0.heap.size
 fr:Fr X0 w0 w
theorem Br {b:Option A1}(h:Bu b):b≠none:=by rintro rfl;exact h
theorem Af {α:Type}(f:Nat->α)(i:Nat)(v:α):Bh f i v i=v:=by simp[Bh,Nat.beq_refl]
theorem Ad {α:Type}(f:Nat->α){i j:Nat}(v:α)(h:j≠i):Bh f i v j=f j:=by
 have:Nat.beq j i=false:=by
  cases hb:Nat.beq j i
  ·rfl
  ·exact absurd (Nat.eq_of_beq_eq_true hb) h
 simp[Bh,this]
theorem Pr {α:Type}(f:Nat->α){i:Nat}{v:α}(h:f i=v):Bh f i v=f:=by
 funext j
 by_cases e:j=i
 ·subst e;rw[Af];exact h.symm
 ·exact Ad f v e
theorem FP {α:Type}(f:Nat->α){i j:Nat}(u v:α)(h:i≠j):Bh (Bh f i u) j v=Bh (Bh f j v) i u:=by
 funext k
 by_cases e:k=j
 ·subst e;rw[Af,Ad _ _ (Ne.symm h),Af]
 ·rw[Ad _ _ e];by_cases e':k=i
  ·subst e';rw[Af,Af]
  ·rw[Ad _ _ e',Ad _ _ e',Ad _ _ e]
theorem Xe {a:Act}{d:Nat}{v:Value}(h:d<a.tmps.size):(a.put (some d) v).tmps.getD d undef=v:=by
 simp[Act.put,h]
theorem U0 {a:Act}{d i:Nat}{v:Value}(h:i≠d):(a.put (some d) v).tmps.getD i undef=a.tmps.getD i undef:=by
 have h':d≠i:=fun e=>h e.symm
 simp[Act.put,Array.getElem?_setIfInBounds_ne h']
section
variable {N:Nat} {w0:World} {X0:Ev} {Y:Nat->Prop} {β β':Bt} {s:St} {a:Act} {w w':World}
theorem Pz (d:Option Tmp)(v:Value):(a.put d v).tmps.size=a.tmps.size:=by cases d<;>simp[Act.put]
theorem K6 (d:Option Tmp)(v:Value):(a.put d v).defers=a.defers:=by cases d<;>rfl
theorem Ky {d:Option Tmp}(h:Du N d=true){i:Nat}(e:d=some i):i<N:=by
 subst e;exact Nat.lt_of_succ_le (Nat.le_of_ble_eq_true h)
theorem Ji {Q:Nat->PV->Value->Prop}{tm:Nat->PV}{d:Option Tmp}{v:PV}{val:Value}(hN:a.tmps.size=N)(hd:Du N d=true)
  (h:∀i,i<N->Q i (tm i) (a.tmps.getD i undef)) (hv:∀i,Q i v val):∀i,i<N->Q i (Az tm d v i) ((a.put d val).tmps.getD i undef):=by
 intro i hi;cases d with
 |none=>exact h i hi
 |some d=>
  have Bk:=Ky hd rfl;by_cases e:i=d
  ·subst e;show Q i (Bh tm i v i) _;rw[Af,Xe (by omega)]
   exact hv i
  ·show Q i (Bh tm d v i) _;rw[Ad _ _ e,U0 e];exact h i hi
theorem BB {tm:Nat->PV}{d:Option Tmp}{v:PV}(hd:Du N d=true)(h:∀i,N<=i->tm i=.top):∀i,N<=i->Az tm d v i=.top:=by
 intro i hi;cases d with
 |none=>exact h i hi
 |some d=>
  have:=Ky hd rfl;show Bh tm d v i=_;rw[Ad _ _ (by omega)]
  exact h i hi
theorem Bp.put (h:Bp N w0 X0 Y β s a w){d:Option Tmp}{v:PV}{val:Value}(hd:Du N d=true)(hv:Cp w (Bv s.hp β Y) β v val) (hr:∀id∈A5 v,s.hp id≠none):
  Bp N w0 X0 Y β ⟨Az s.tm d v,s.hp⟩ (a.put d val) w where
 dfr:=by rw[K6];exact h.dfr
 tsz:=by rw[Pz];exact h.tsz
 tmo:=BB hd h.tmo
 tms:=Ji (Q:=fun _ p u=>Cp w (Bv s.hp β Y) β p u) h.tsz hd h.tms (fun _=>hv)
 box:=h.box
 inj:=h.inj
 blt:=h.blt
 wfT:=by
  have:=Ji (Q:=fun _ p _=>∀id∈A5 p,s.hp id≠none) (val:=val) h.tsz hd h.wfT (fun _=>hr)
  exact this
 wfB:=h.wfB
 ownd:=h.ownd
 rngB:=h.rngB
 pin:=h.pin
 stp:=h.stp
 Yx:=h.Yx
 Ylt:=h.Ylt
 fr:=h.fr
theorem A4 (hp:Nat->Option A1)(ids:List Nat)(i:Nat):Ac hp ids i=if i∈ids then (hp i).map Mq else hp i:=by
 unfold Ac;by_cases hi:i∈ids
 ·have:ids.any (Nat.beq i)=true:=List.any_eq_true.2 ⟨i,hi,Nat.beq_refl i⟩;rw[this,if_pos hi];rfl
 ·have:ids.any (Nat.beq i)=false:=by
   cases hb:ids.any (Nat.beq i)
   ·rfl
   ·obtain⟨j,hj,e⟩:=List.any_eq_true.1 hb;exact absurd (Nat.eq_of_beq_eq_true e ▸ hj) hi
  rw[this,if_neg hi];rfl
theorem Cf {hp:Nat->Option A1}{ids:List Nat}{i:Nat}:Ac hp ids i=none↔hp i=none:=by
 rw[A4];split<;>simp
theorem Jf {hp:Nat->Option A1}{ids:List Nat}{i:Nat}(h:Bu (Ac hp ids i)):Bu (hp i):=by
 rw[A4] at h;split at h
 ·cases hb:hp i with
  |none=>rw[hb] at h;exact h
  |some b=>cases b with
   |st c=>trivial
   |ar fz c=>rw[hb] at h;exact h.elim
   |mv=>rw[hb] at h;exact h
 ·exact h
theorem Fj {hp:Nat->Option A1}{ids:List Nat}{i:Nat}{bx:A1}(h:Ac hp ids i=some bx)(hl:Bu (some bx)):hp i=some bx:=by
 rw[A4] at h;split at h
 ·cases hb:hp i with
  |none=>rw[hb] at h;cases h
  |some b=>
   rw[hb] at h;cases b with
   |st c=>exact h
   |ar fz c=>simp only[Option.map_some,Mq,Option.some.injEq] at h;subst h;exact hl.elim
   |mv=>simp only[Option.map_some,Mq,Option.some.injEq] at h;subst h;exact hl.elim
 ·exact h
theorem Kp {hp:Nat->Option A1}{ids:List Nat}{b:Nat}(h:Zp (Ac hp ids) β b):Zp hp β b:=by
 obtain⟨id,o,hl,hb⟩:=h;exact⟨id,o,Jf hl,hb⟩
theorem Lb.step' {A A':Nat->Prop}{id:Nat}{bx:A1}(hA:∀b,A' b->A b)(h:Lb w A β id bx):Lb w A' β id bx:=by
 have hs:=Bb.refl A w;cases bx with
 |st c=>
  obtain⟨b,o,h1,h2,h3⟩:=h;exact⟨b,o,h1,fun j c hj=>let ⟨v,hv,hc⟩:=h2 j c hj;⟨v,hv,hc.step hs (fun b _=>hA b) (fun _ _=>rfl)⟩,h3⟩
 |ar fz c=>
  rcases h with h|⟨b,o,h1,h2,h3,h4⟩
  ·exact .inl h
  ·exact .inr ⟨b,o,h1,h2.weak (fun b _=>hA b),h3,fun e x=>h4 e (hA b x)⟩
 |mv=>trivial
theorem Bp.freeze (h:Bp N w0 X0 Y β s a w){fz:List Nat}(Lz:∀id∈fz,∃f c,s.hp id=some (.ar f c)):Bp N w0 X0 Y β ⟨s.tm,Ac s.hp fz⟩ a w:=by
 have hA:∀b,Bv (Ac s.hp fz) β Y b->Bv s.hp β Y b:=fun b hb=>hb.imp Kp id
 refine⟨h.dfr,h.tsz,h.tmo,fun i hi=>(h.tms i hi).step (Bb.refl _ _) (fun b _=>hA b) (fun _ _=>rfl),fun id b hb=>?_,fun id id' b o o' h1 h2=>h.inj id id' b o o' (Jf h1) (Jf h2),
  fun id b o hn=>h.blt id b o (fun e=>hn (Cf.2 e)),fun i hi id Ax e=>h.wfT i hi id Ax (Cf.1 e),fun id cells hc c DH id' Ax e=>?_,fun b hb=>h.ownd b (Kp hb),
  fun id bx b o hb hl=>h.rngB id bx b o (Fj hb hl) hl,fun i hi=>⟨fun e=>(h.pin i hi).1 (Cf.1 e),(h.pin i hi).2⟩,fun id c b o hc=>h.stp id c b o (Fj hc trivial),fun b hb x=>h.Yx b hb (Kp x),h.Ylt,h.fr⟩
 ·simp only at hb;rw[A4] at hb;split at hb
  ·rename_i hm;obtain⟨f,c,hc⟩:=Lz id hm;rw[hc] at hb;simp only[Option.map_some,Mq,Option.some.injEq] at hb;subst hb;have Hy:=h.box id _ hc;rcases Hy with Hy|⟨b,o,h1,h2,h3,h4⟩
   ·exact .inl Hy
   ·refine .inr ⟨b,o,h1,h2.weak (fun b _=>hA b),(fun e=>by cases e),fun _ hb=>?_⟩
    rcases hb with⟨id',o',hl,hb⟩|hY
    ·have TV:=Jf hl;cases f with
     |true=>exact h4 rfl (.inl ⟨id',o',TV,hb⟩)
     |false=>
      have e:=h.inj id' id b o' o TV (by rw[hc];trivial) hb h1
      subst e;simp only at hl;rw[A4,if_pos hm,hc] at hl;exact hl
    ·cases f with
     |true=>exact h4 rfl (.inr hY)
     |false=>exact h.Yx b hY ⟨id,o,by rw[hc];trivial,h1⟩
  ·exact (h.box id b hb).step' hA
 ·simp only at hc;rw[A4] at hc;refine h.wfB id cells ?_ c DH id' Ax (Cf.1 e);split at hc
  ·rename_i hm;obtain⟨f,c,Lh⟩:=Lz id hm;rw[Lh] at hc;cases hc
  ·exact hc
theorem Aw:∀{nw:List (Nat × A1)} {hp:Nat->Option A1},A3 hp nw=true ->
  (∀id bx,(id,bx)∈nw->hp id=none)∧(∀id bx bx',(id,bx)∈nw->(id,bx')∈nw->bx=bx')
 |[],_,_=>⟨by simp,by simp⟩
 |(i,b)::r,hp,h=>by
  simp only[A3,Bool.and_eq_true,Option.isNone_iff_eq_none,Bool.not_eq_true'] at h;obtain⟨⟨h1,h2⟩,h3⟩:=h;obtain⟨h4,h5⟩:=Aw h3
  have G6:∀bx,(i,bx) ∉ r:=by
   intro bx hm;have:r.any (fun q=>Nat.beq q.1 i)=true:=List.any_eq_true.2 ⟨_,hm,Nat.beq_refl i⟩
   rw[this] at h2;cases h2
  refine⟨fun id bx hm=>?_,fun id bx bx' hm Hg=>?_⟩
  ·rcases List.mem_cons.1 hm with e|hm
   ·cases e;exact h1
   ·exact h4 id bx hm
  ·rcases List.mem_cons.1 hm with e|hm
   ·cases e;rcases List.mem_cons.1 Hg with e|Hg
    ·cases e;rfl
    ·exact absurd Hg (G6 _)
   ·rcases List.mem_cons.1 Hg with e|Hg
    ·cases e;exact absurd hm (G6 _)
    ·exact h5 id bx bx' hm Hg
theorem Cn:∀{nw:List (Nat × A1)} {hp:Nat->Option A1},(∀id bx bx',(id,bx)∈nw->(id,bx')∈nw->bx=bx') ->
  (∀id bx,(id,bx)∈nw->Aj hp nw id=some bx)∧(∀id,(∀bx,(id,bx) ∉ nw)->Aj hp nw id=hp id)
 |[],_,_=>⟨by simp,fun _ _=>rfl⟩
 |(i,b)::r,hp,h=>by
  obtain⟨h1,h2⟩:=Cn (nw:=r) (hp:=Bh hp i (some b)) (fun id bx bx' hm Hg=>h id bx bx' (by simp[hm]) (by simp[Hg]))
  refine⟨fun id bx hm=>?_,fun id hn=>?_⟩
  ·by_cases hr:∃bx',(id,bx')∈r
   ·obtain⟨bx',hr⟩:=hr;have:=h id bx bx' hm (by simp[hr])
    subst this;exact h1 id bx hr
   ·rcases List.mem_cons.1 hm with e|hm
    ·cases e;show Aj (Bh hp i (some b)) r i=_;rw[h2 i (fun bx' hb=>hr ⟨bx',hb⟩),Af]
    ·exact absurd ⟨bx,hm⟩ hr
  ·show Aj (Bh hp i (some b)) r id=_;rw[h2 id (fun bx hb=>hn bx (by simp[hb])),Ad]
   rintro rfl
   exact hn b (by simp)
structure Yd (Y:Nat->Prop) (β:Bt) (s:St) (w:World) (v:PV) (nw:List (Nat × A1)) (val:Value) (w':World) (β':Bt):Prop where
 os:w'.os=w.os
 tape:w'.tape=w.tape
 output:w'.output=w.output
 ext:Bb (fun _=>False) w w'
 old:∀id,s.hp id≠none->β' id=β id
 nlive:∀id bx,(id,bx)∈nw->Bu (some bx)
 nbox:∀id bx,(id,bx)∈nw->Lb w' (Bv (Aj s.hp nw) β' Y) β' id bx
 nblk:∀id bx b o,(id,bx)∈nw->β' id=some (b,o)->w.heap.size<=b∧b<w'.heap.size
 ninj:∀id bx id' bx' b o o',(id,bx)∈nw->(id',bx')∈nw->β' id=some (b,o)->β' id'=some (b,o')->id=id'
 nwf:∀id cells,(id,.st cells)∈nw->∀c∈cells,∀id'∈Ai c,s.hp id'≠none∨∃bx,(id',bx)∈nw
 val:Cp w' (Bv (Aj s.hp nw) β' Y) β' v val
 vwf:∀id∈A5 v,s.hp id≠none∨∃bx,(id,bx)∈nw
theorem Bp.stepR (h:Bp N w0 X0 Y β s a w){d:Option Tmp}{v:PV}{nw:List (Nat × A1)} {val:Value}(hd:Du N d=true)(J6:A3 s.hp nw=true)
  (st:Yd Y β s w v nw val w' β'):Bp N w0 X0 Y β' ⟨Az s.tm d v,Aj s.hp nw⟩ (a.put d val) w':=by
 obtain⟨XV,ha2⟩:=Aw J6;obtain⟨VW,hg2⟩:=Cn (hp:=s.hp) ha2
 have Ej:∀id,(∃bx,(id,bx)∈nw)∨Aj s.hp nw id=s.hp id:=fun id=>by
  by_cases hx:∃bx,(id,bx)∈nw
  ·exact .inl hx
  ·exact .inr (hg2 id fun bx hb=>hx ⟨bx,hb⟩)
 have Aec:∀id,s.hp id≠none->Aj s.hp nw id=s.hp id:=fun id hn=>by
  rcases Ej id with⟨bx,hx⟩|e
  ·exact absurd (XV id bx hx) hn
  ·exact e
 have E9:∀id,(s.hp id≠none∨∃bx,(id,bx)∈nw)->Aj s.hp nw id≠none:=by
  rintro id (hn|⟨bx,hx⟩)
  ·rw[Aec id hn];exact hn
  ·rw[VW id bx hx];simp
 have Aae:∀b,b<w.heap.size->Zp (Aj s.hp nw) β' b->Zp s.hp β b:=by
  rintro b hb ⟨id,o,hl,hβ⟩
  rcases Ej id with⟨bx,hx⟩|e
  ·have:=(st.nblk id bx b o hx hβ).1;omega
  ·rw[e] at hl;exact⟨id,o,hl,by rw[←st.old id (Br hl)];exact hβ⟩
 have KH:∀b,b<w.heap.size->Bv (Aj s.hp nw) β' Y b->Bv s.hp β Y b:=fun b hb hA=>hA.imp (Aae b hb) id
 have SD:Bb (Bv s.hp β Y) w w':=st.ext.weaken (fun _ _ x=>x.elim)
 refine⟨by rw[K6];exact h.dfr,by rw[Pz];exact h.tsz,BB hd h.tmo,?_,?_,?_,?_,?_,?_,?_,?_,?_,?_,?_,h.Ylt,?_⟩
 ·refine Ji (Q:=fun _ p u=>Cp w' (Bv (Aj s.hp nw) β' Y) β' p u) h.tsz hd (fun i hi=>?_) (fun _=>st.val)
  exact (h.tms i hi).step SD KH fun id Ax=>st.old id (h.wfT i hi id Ax)
 ·intro id b hb;simp only at hb;rcases Ej id with⟨bx,hx⟩|e
  ·rw[VW id bx hx] at hb;cases hb;exact st.nbox id _ hx
  ·rw[e] at hb;have hβ:=st.old id (by rw[hb];simp)
   have Hy:=h.box id b hb;have Bk:=h.blt id;have G6:s.hp id≠none:=by rw[hb];simp
   cases b with
   |st c=>
    obtain⟨b,o,h1,h2,h3⟩:=Hy;have Ep:=Bk b o G6 h1;have Q1:=st.ext.keep b Ep (fun x=>x)
    refine⟨b,o,by rw[hβ];exact h1,fun j c hj=>?_,fun j hj=>?_⟩
    ·obtain⟨v,hv,hc⟩:=h2 j c hj;refine⟨v,by rw[World.cell?_of_block (w:=w) Q1];exact hv,hc.step SD KH fun id' Ax=>st.old id' ?_⟩
     exact h.wfB id _ hb c (List.mem_of_getElem? hj) id' Ax
    ·rw[World.frozen?_of_block (w:=w) Q1];exact h3 j hj
   |ar fz c=>
    rcases Hy with⟨h1,h2⟩|⟨b,o,h1,h2,h3,h4⟩
    ·exact .inl ⟨by rw[hβ];exact h1,h2⟩
    ·have Ep:=Bk b o G6 h1;have Q1:=st.ext.keep b Ep (fun x=>x)
     have W3:bsz w' b=bsz w b:=by unfold bsz;rw[Q1]
     refine .inr ⟨b,o,by rw[hβ];exact h1,fun j c hj=>?_,fun e j hj I8=>?_,fun e x=>h4 e (KH b Ep x)⟩
     ·obtain⟨v,hv,h5,hc⟩:=h2 j c hj;exact⟨v,by rw[World.cell?_of_block (w:=w) (by rw[Dq];exact Q1)];exact hv,h5,hc.step SD KH⟩
     ·rw[World.frozen?_of_block (w:=w) Q1];exact h3 e j hj (by rw[←W3];exact I8)
   |mv=>trivial
 ·intro id id' b o o' hl Gc hb Ep;simp only at hl Gc;rcases Ej id with⟨bx,hx⟩|e
  ·rcases Ej id' with⟨bx',Uq⟩|e'
   ·exact st.ninj id bx id' bx' b o o' hx Uq hb Ep
   ·rw[e'] at Gc;have h1:=(st.nblk id bx b o hx hb).1;have h2:=h.blt id' b o' (Br Gc) (by rw[←st.old id' (Br Gc)];exact Ep)
    omega
  ·rw[e] at hl;rcases Ej id' with⟨bx',Uq⟩|e'
   ·have h1:=(st.nblk id' bx' b o' Uq Ep).1;have h2:=h.blt id b o (Br hl) (by rw[←st.old id (Br hl)];exact hb)
    omega
   ·rw[e'] at Gc;exact h.inj id id' b o o' hl Gc (by rw[←st.old id (Br hl)];exact hb) (by rw[←st.old id' (Br Gc)];exact Ep)
 ·intro id b o hn hb;simp only at hn;rcases Ej id with⟨bx,hx⟩|e
  ·exact (st.nblk id bx b o hx hb).2
  ·rw[e] at hn;exact Nat.lt_of_lt_of_le (h.blt id b o hn (by rw[←st.old id hn];exact hb)) st.ext.size
 ·have:=Ji (Q:=fun _ p _=>∀id∈A5 p,Aj s.hp nw id≠none) (val:=val) (d:=d) (v:=v) h.tsz hd (fun i hi id Ax=>E9 id (.inl (h.wfT i hi id Ax))) (fun _ id Ax=>E9 id (st.vwf id Ax))
  exact this
 ·intro id cells hc c DH id' Ax;simp only at hc;rcases Ej id with⟨bx,hx⟩|e
  ·rw[VW id bx hx] at hc;cases hc;exact E9 id' (st.nwf id _ hx c DH id' Ax)
  ·rw[e] at hc;exact E9 id' (.inl (h.wfB id cells hc c DH id' Ax))
 ·rintro b ⟨id,o,hl,hb⟩
  simp only at hl;rcases Ej id with⟨bx,hx⟩|e
  ·exact .inr (Nat.le_trans h.fr.step.size (st.nblk id bx b o hx hb).1)
  ·rw[e] at hl;exact h.ownd b ⟨id,o,hl,by rw[←st.old id (Br hl)];exact hb⟩
 ·intro id bx b o hb hl hβ Bk;simp only at hb;rcases Ej id with⟨bx',hx⟩|e
  ·have:=(st.nblk id bx' b o hx hβ).1;have:=h.fr.step.size;omega
  ·rw[e] at hb;exact h.rngB id bx b o hb hl (by rw[←st.old id (by rw[hb];simp)];exact hβ) Bk
 ·intro i hi;obtain⟨h1,h2⟩:=h.pin i hi;exact⟨E9 _ (.inl h1),by rw[st.old _ h1];exact h2⟩
 ·intro id c b o hb hβ Bk;simp only at hb;rcases Ej id with⟨bx',hx⟩|e
  ·have:=(st.nblk id bx' b o hx hβ).1;have:=h.fr.step.size;omega
  ·rw[e] at hb;exact h.stp id c b o hb (by rw[←st.old id (by rw[hb];simp)];exact hβ) Bk
 ·rintro b hY hX
  have hb:b<w.heap.size:=Nat.lt_of_lt_of_le (h.Ylt b hY) h.fr.step.size;exact h.Yx b hY (Aae b hb hX)
 ·refine⟨st.os.trans h.fr.os,st.tape.trans h.fr.tape,st.output.trans h.fr.output,h.fr.step.trans st.ext (fun _ _ x=>x.elim),fun b j hb hL=>?_⟩
  have Q1:=st.ext.keep b (Nat.lt_of_lt_of_le hb h.fr.step.size) (fun x=>x)
  have hc:w'.cell? ⟨b,j,none⟩=w.cell? ⟨b,j,none⟩:=World.cell?_of_block (w:=w) Q1;have hf:w'.frozen? ⟨b,j,none⟩=w.frozen? ⟨b,j,none⟩:=World.frozen?_of_block (w:=w) Q1;rw[hc,hf];exact h.fr.rng b j hb hL
end
open Go.RowKit
section
variable {P:Program} {N:Nat} {w0:World} {X0:Ev} {Y:Nat->Prop} {β β':Bt} {s:St} {a:Act} {w w':World} {o:Oper}
theorem DR (cs:List Value)(A:Nat->Prop):Au (A6 w A β) (cs.map PV.sc) cs:=by
 induction cs with
 |nil=>trivial
 |cons v r ih=>exact⟨Ao.sc v,ih⟩
theorem HM (cs:List Value):(cs.map PV.sc).flatMap Ai=[]:=by
 induction cs with
 |nil=>rfl
 |cons v r ih=>exact ih
theorem Bs (h:Bp N w0 X0 Y β s a w)(x:Operand):Cp w (Bv s.hp β Y) β (A8 s.tm x) (a.eval x):=by
 cases x with
 |tmp t=>
  show Cp _ _ _ (s.tm t) (a.tmps.getD t undef);by_cases ht:t<N
  ·exact h.tms t ht
  ·rw[h.tmo t (Nat.le_of_not_lt ht)];exact Ao.top _
 |const v=>
  cases v with
  |agg cs=>exact⟨cs.toList,by simp[Act.eval],DR cs.toList _⟩
  |_=>exact Ao.sc _
 |func f=>exact Ao.sc _
 |global g=>exact Ao.sc _
theorem Cz (h:Bp N w0 X0 Y β s a w)(x:Operand):∀id∈A5 (A8 s.tm x),s.hp id≠none:=by
 cases x with
 |tmp t=>
  show ∀id∈A5 (s.tm t),_;by_cases ht:t<N
  ·exact h.wfT t ht
  ·rw[h.tmo t (Nat.le_of_not_lt ht)];intro id Ax;cases Ax
 |const v=>
  cases v with
  |agg cs=>
   intro id Ax;have:A5 (.agg (cs.toList.map .sc))=[]:=HM cs.toList;simp only[A8] at Ax;rw[this] at Ax;cases Ax
  |_=>intro id Ax;cases Ax
 |func f=>intro id Ax;cases Ax
 |global g=>intro id Ax;cases Ax
theorem Ro {A:Nat->Prop}{v u:Value}(h:Cp w A β (.sc v) u):u=v:=Ao.val h
theorem Bj (h:Bp N w0 X0 Y β s a w){x:Operand}{v:Value}(e:A8 s.tm x=.sc v):a.eval x=v:=by
 have:=Bs h x;rw[e] at this;exact Ro this
def Co (P:Program)(a:Act)(w:World)(o:Oper)(Y:Nat->Prop)(β:Bt)(s:St)(v:PV)(fz:List Nat)(nw:List (Nat × A1)):Prop:=
 (∀id∈fz,∃f c,s.hp id=some (.ar f c))∧∃val w',(execOp a.eval o).run P w=.ok (.value val) w'∧(A3 s.hp nw=true->∃β',Yd Y β ⟨s.tm,Ac s.hp fz⟩ w v nw val w' β')
theorem GV {v:PV}{val:Value}(hv:Cp w (Bv s.hp β Y) β v val) (hr:∀id∈A5 v,s.hp id≠none):Yd Y β s w v [] val w β:=
 ⟨rfl,rfl,rfl,Bb.refl _ _,fun _ _=>rfl,by simp,by simp,by simp,by simp,by simp,hv,fun id Ax=>.inl (hr id Ax)⟩
theorem Ba {v:PV}{val:Value}(Bn:(execOp a.eval o).run P w=.ok (.value val) w) (hv:Cp w (Bv s.hp β Y) β v val) (hr:∀id∈A5 v,s.hp id≠none):Co P a w o Y β s v [] []:=
 ⟨by simp,val,w,Bn,fun _=>⟨β,GV (s:=⟨s.tm,Ac s.hp []⟩) hv hr⟩⟩
theorem Bm {v:Value}(Bn:(execOp a.eval o).run P w=.ok (.value v) w):Co P a w o Y β s (.sc v) [] []:=Ba Bn (Ao.sc v) (by intro id Ax;cases Ax)
structure Dg (w w':World) (c:Array Value) (e:TypeId):Prop where
 os:w'.os=w.os
 tape:w'.tape=w.tape
 output:w'.output=w.output
 old:∀b,b<w.heap.size->w'.heap[b]?=w.heap[b]?
 size:w'.heap.size=w.heap.size+1
 new:∃fz:Nat × Nat,w'.heap[w.heap.size]?=some (.cells c e fz)∧(fz.1=fz.2∨c.size<=fz.1)
theorem Dg.alloc (w:World)(c:Array Value)(e:TypeId):Dg w (w.alloc (.cells c e)) c e:=
 ⟨rfl,rfl,rfl,fun b hb=>Below.heap_alloc w _ b hb,by show (w.heap.push _).size=_;simp,(0,0),by show (w.heap.push _)[w.heap.size]?=_;simp,.inl rfl⟩
theorem Dg.drew {c:Array Value}{e:TypeId}(h:Dg w w' c e):Dg w w'.drew c e:=⟨h.os,h.tape,h.output,h.old,h.size,h.new⟩
section
variable {c:Array Value} {e:TypeId}
theorem Dg.step (h:Dg w w' c e):Bb (fun _=>False) w w':=
 ⟨by rw[h.size];omega,fun b hb _=>h.old b hb,fun b hb=>Fy.same (h.old b hb)⟩
theorem Dg.cell (h:Dg w w' c e)(j:Nat):w'.cell? ⟨w.heap.size,j,none⟩=c[j]?:=by
 obtain⟨fz,hn,_⟩:=h.new;simp[World.cell?,hn]
theorem Dg.frozen (h:Dg w w' c e){j:Nat}(hj:j<c.size):w'.frozen? ⟨w.heap.size,j,none⟩=false:=by
 obtain⟨fz,hn,hf⟩:=h.new;simp only[World.frozen?,hn];rcases hf with hf|hf<;>simp<;>omega
theorem Gw (w:World)(c:Array Value)(e:TypeId):EZ (w.alloc (.cells c e)) w.heap.size=false:=by
 unfold EZ World.frozen?;have:(w.alloc (.cells c e)).heap[w.heap.size]?=some (.cells c e (0,0)):=by show (w.heap.push _)[w.heap.size]?=_;simp
 simp only[this];simp
theorem Dg.bsz (h:Dg w w' c e):bsz w' w.heap.size=c.size:=by
 obtain⟨fz,hn,_⟩:=h.new;simp[Pv.bsz,hn]
end
theorem J8 {c:Array Value}{e:TypeId}{d:Nat}{bx:A1}{v:PV}{val:Value}(hg:Dg w w' c e)(hd:s.hp d=none)(hl:Bu (some bx))
  (Hy:Lb w' (Bv (Bh s.hp d (some bx)) (Bh β d (some (w.heap.size,0))) Y) (Bh β d (some (w.heap.size,0))) d bx)
  (hcw:∀cells,bx=.st cells->∀x∈cells,∀id'∈Ai x,s.hp id'≠none)
  (hv:Cp w' (Bv (Bh s.hp d (some bx)) (Bh β d (some (w.heap.size,0))) Y) (Bh β d (some (w.heap.size,0))) v val)
  (hvr:∀id∈A5 v,s.hp id≠none∨id=d):Yd Y β s w v [(d,bx)] val w' (Bh β d (some (w.heap.size,0))) where
 os:=hg.os
 tape:=hg.tape
 output:=hg.output
 ext:=hg.step
 old:=fun id hn=>Ad _ _ (by rintro rfl;exact hn hd)
 nlive:=by intro id b hm;simp at hm;obtain⟨rfl,rfl⟩:=hm;exact hl
 nbox:=by intro id b hm;simp at hm;obtain⟨rfl,rfl⟩:=hm;exact Hy
 nblk:=by
  intro id b x y hm hb;simp at hm;obtain⟨rfl,rfl⟩:=hm;rw[Af] at hb;simp at hb;have:=hg.size;omega
 ninj:=by intro id b id' b' x y z hm Hg _ _;simp at hm Hg;rw[hm.1,Hg.1]
 nwf:=by intro id cells hm x hx id' Ax;simp at hm;exact .inl (hcw cells hm.2.symm x hx id' Ax)
 val:=hv
 vwf:=by
  intro id Ax;rcases hvr id Ax with h|rfl
  ·exact .inl h
  ·exact .inr ⟨bx,by simp⟩
theorem KN {c:Array Value}{e:TypeId}(hg:Dg w w' c e){A A':Nat->Prop}(hA:∀b,b<w.heap.size->A' b->A b){cells:List PV}
  (h:∀(j:Nat) p,cells[j]?=some p->∃v,c[j]?=some v∧v.oneCell'=true∧Ao w A p v):BO w' A' ⟨w.heap.size,0,none⟩ cells:=by
 intro j p hj;obtain⟨v,hv,h1,ht⟩:=h j p hj;exact⟨v,by rw[B6,Nat.zero_add,hg.cell];exact hv,h1,ht.step (hg.step.weaken (fun _ _ x=>x.elim)) hA⟩
theorem JY {d:Nat}{bx:A1}(hwf:s.hp d=none):∀b,b<w.heap.size->Bv (Bh s.hp d (some bx)) (Bh β d (some (w.heap.size,0))) Y b->Bv s.hp β Y b:=by
 intro b hb hA;rcases hA with⟨id,o,hl,hβ⟩|hY
 ·by_cases e:id=d
  ·subst e;rw[Af] at hβ;simp at hβ;omega
  ·rw[Ad _ _ e] at hl hβ;exact .inl ⟨id,o,hl,hβ⟩
 ·exact .inr hY
theorem Kd {c:Array Value}{e:TypeId}{d:Nat}{cells:List PV}{fz:List Nat}{v:PV}{val:Value}
  (Lz:∀id∈fz,∃f c,s.hp id=some (.ar f c))
  (Bn:(execOp a.eval o).run P w=.ok (.value val) w') (hg:Dg w w' c e)
  (hc:∀(j:Nat) p,cells[j]?=some p->∃u,c[j]?=some u∧u.oneCell'=true∧Ao w (Bv (Ac s.hp fz) β Y) p u)
  (hv:(v=.ptr d 0∧val=.pointer (some ⟨w.heap.size,0,none⟩))∨∃es n cap,v=.view d es 0 n∧val=.slice (some ⟨w.heap.size,0,none⟩) n cap∧n<=cap∧cap*es<=c.size∧(es=1∨EZ w' w.heap.size=false)):
  Co P a w o Y β s v fz [(d,.ar false cells)]:=by
 refine⟨Lz,val,w',Bn,fun J6=>⟨Bh β d (some (w.heap.size,0)),?_⟩⟩
 have hd:s.hp d=none:=(Aw J6).1 d (.ar false cells) (by simp)
 have hd':Ac s.hp fz d=none:=Cf.2 hd;refine J8 (s:=⟨s.tm,Ac s.hp fz⟩) hg hd' trivial ?_ (fun cells hx=>by cases hx) ?_ ?_
 ·refine .inr ⟨w.heap.size,0,Af _ _ _,?_,fun _ j _ hj=>?_,(fun x=>by cases x)⟩
  ·exact KN hg (JY (s:=⟨s.tm,Ac s.hp fz⟩) hd') hc
  ·rw[hg.bsz] at hj;exact hg.frozen hj
 ·rcases hv with⟨rfl,rfl⟩|⟨es,n,cap,rfl,rfl,hn,Nv,Ai7⟩
  ·exact⟨w.heap.size,0,Af _ _ _,rfl⟩
  ·exact .inr ⟨w.heap.size,0,0,cap,Af _ _ _,rfl,.inl rfl,hn,⟨by rw[hg.bsz];omega,Ai7⟩,by rw[hg.size];omega⟩
 ·intro id Ax;rcases hv with⟨rfl,_⟩|⟨es,n,cap,rfl,_⟩<;>(simp[A5,Be,Ai] at Ax;exact .inr Ax)
theorem X7 {c:Array Value}{e:TypeId}{d:Nat}{cells:List PV}
  (Bn:(execOp a.eval o).run P w=.ok (.value (.pointer (some ⟨w.heap.size,0,none⟩))) w') (hg:Dg w w' c e)
  (hc:∀(j:Nat) p,cells[j]?=some p->∃u,c[j]?=some u∧A6 w (Bv s.hp β Y) β p u) (hr:∀x∈cells,∀id∈Ai x,s.hp id≠none):
  Co P a w o Y β s (.ptr d 0) [] [(d,.st cells)]:=by
 refine⟨by simp,_,w',Bn,fun J6=>⟨Bh β d (some (w.heap.size,0)),?_⟩⟩
 have hd:s.hp d=none:=(Aw J6).1 d (.st cells) (by simp)
 refine J8 (s:=⟨s.tm,Ac s.hp []⟩) hg hd trivial ?_ (fun cs hx x LU id Ax=>?_) ?_ ?_
 ·refine⟨w.heap.size,0,Af _ _ _,fun j p hj=>?_,fun j hj=>?_⟩
  ·obtain⟨u,hu,hp⟩:=hc j p hj;refine⟨u,by rw[Nat.zero_add,hg.cell];exact hu,hp.step (hg.step.weaken (fun _ _ x=>x.elim)) (JY (s:=⟨s.tm,Ac s.hp []⟩) hd) fun id Ax=>Ad _ _ ?_⟩
   rintro rfl
   exact hr p (List.mem_of_getElem? hj) id Ax hd
  ·rw[Nat.zero_add];obtain⟨u,hu,_⟩:=hc j _ (List.getElem?_eq_getElem hj)
   exact hg.frozen (by
    rcases Nat.lt_or_ge j c.size with h|h
    ·exact h
    ·rw[Array.getElem?_eq_none h] at hu;cases hu)
 ·injection hx with hx;subst hx;exact hr x LU id Ax
 ·exact⟨w.heap.size,0,Af _ _ _,rfl⟩
 ·intro id Ax;simp[A5,Be,Ai] at Ax;exact .inr Ax
end
open Go.RowKit
section
variable {R:Type} {r:R} {P:Program} {N:Nat} {w0:World} {X0:Ev} {Y:Nat->Prop} {β β':Bt} {s:St} {a:Act} {w w':World} {o:Oper}
theorem Gu {t:TypeId}{n:Nat}(h:(P.info? t).map (·.size)=some n) (w:World):(sizeOf t).run P w=.ok n w:=by
 cases hi:P.info? t with
 |none=>rw[hi] at h;cases h
 |some i=>rw[hi] at h;simp at h;simp[sizeOf,typeInfo,hi,h]
theorem VD {t:TypeId}{n:Nat}(h:Aq P t=n)(hn:0<n):(P.info? t).map (·.size)=some n:=by
 unfold Aq at h;cases hi:(P.info? t).map (·.size) with
 |none=>rw[hi] at h;simp at h;omega
 |some i=>rw[hi] at h;simp at h;rw[h]
theorem Im {t:TypeId}{d:TypeDesc}(h:P.underlying t=some d)(w:World):(isAgg t).run P w=.ok (A9 P t) w:=by
 unfold isAgg A9;rw[h];simp only[Sem.run_bind,run_underlying h,Result.andThen_ok];cases d<;>rfl
theorem ZE {t:TypeId}{v:Value}{K:PV->Option R}(h:cvK P t v K=some r):∃p,K p=some r∧A5 p=[]∧∀(w:World)(A:Nat->Prop)(β:Bt),Cp w A β p v:=by
 have sc:∀v:Value,K (.sc v)=some r->∃p,K p=some r∧A5 p=[]∧∀(w:World) (A:Nat->Prop) (β:Bt),Cp w A β p v:=fun v h=>⟨_,h,rfl,fun w A β=>Ao.sc v⟩
 unfold cvK at h;split at h
 ·rename_i cs;obtain⟨hl,h⟩:=Ae h;obtain⟨xs,h,hxl,hx⟩:=Md h;have hl:=Nat.eq_of_beq_eq_true hl;refine⟨_,h,?_,fun w A β=>⟨cs.toList,by simp,?_⟩⟩
  ·show xs.flatMap Ai=[];rw[List.flatMap_eq_nil_iff];intro c hc;obtain⟨j,hj⟩:=List.mem_iff_getElem?.1 hc;exact Em (hx j c hj).1
  ·refine Au.of_at (by rw[hxl,hl]) fun i c u hc hu=>?_
   obtain⟨hT,p,hp,_,R1⟩:=hx i c hc;refine (Hd hT).2 (R1 w A β u ?_).1;rw[Nat.zero_add,List.getElem?_map,hu] at hp;simp at hp;subst hp;exact Ao.sc u
 ·split at h
  ·exact⟨_,h,rfl,fun w A β=>Ao.lnil true _⟩
  ·cases h
 ·exact sc _ h
theorem Qj (h:Bp N w0 X0 Y β s a w){x:Operand}(Bn:(execOp a.eval o).run P w=.ok (.value (a.eval x)) w) {K:PV->Option R}(hk:Sa P o.type s.tm x K=some r):
  ∃v,K v=some r∧Co P a w o Y β s v [] []:=by
 have dflt:K (A8 s.tm x)=some r->∃v,K v=some r∧Co P a w o Y β s v [] []:=fun hk=>⟨_,hk,Ba Bn (Bs h x) (Cz h x)⟩
 cases x with
 |const v=>
  obtain⟨p,hk,hr,hv⟩:=ZE hk;exact⟨p,hk,Ba Bn (hv _ _ _) (by rw[hr];simp)⟩
 |tmp t=>exact dflt hk
 |func f=>exact dflt hk
 |global g=>exact dflt hk
theorem MH {x:Operand}(ho:o.op=.move x):(execOp a.eval o).run P w=.ok (.value (a.eval x)) w:=by unfold execOp;rw[ho];rfl
theorem FI {x:Operand}(ho:o.op=.assign x):(execOp a.eval o).run P w=.ok (.value (a.eval x)) w:=by unfold execOp;rw[ho];rfl
theorem JA (h:Bp N w0 X0 Y β s a w){c x y:Operand}(ho:o.op=.pick c x y){K:PV->Option R}(hk:(A7 (A8 s.tm c) fun t=>Cb t (K (A8 s.tm x)) (K (A8 s.tm y)))=some r):
  ∃v,K v=some r∧Co P a w o Y β s v [] []:=by
 obtain⟨b,hb,hk⟩:=B8 hk;have hc:=Bj h hb;rcases Ia hk with⟨rfl,hk⟩|⟨rfl,hk⟩
 ·exact⟨_,hk,Ba (by unfold execOp;rw[ho];simp[asBool,hc]) (Bs h x) (Cz h x)⟩
 ·exact⟨_,hk,Ba (by unfold execOp;rw[ho];simp[asBool,hc]) (Bs h y) (Cz h y)⟩
theorem Jn {t:TypeId}{K:List PV->Option R}(h:Ef P t K=some r):∃(v:Value)(cs:List PV),K cs=some r∧Ow P t=some v∧cs.length=(Ez P t).length∧cs.length=v.cells.toList.length∧cs.length=Aq P t ∧
  ∀(j:Nat) c,cs[j]?=some c->Ob c∧∃u,v.cells.toList[j]?=some u∧u.oneCell'=true∧∀(w:World) (A:Nat->Prop),Ao w A c u:=by
 unfold Ef at h;obtain⟨v,hz,h⟩:=Bl h;obtain⟨hl,h⟩:=Ae h;obtain⟨cs,h,J0,hc⟩:=Md h;simp only[Bool.and_eq_true] at hl;have Us:=Nat.eq_of_beq_eq_true hl.1
 have BP:(Ez P t).length=Aq P t:=by
  have:=hl.2;simp only[Fm,Bool.and_eq_true] at this;exact Nat.eq_of_beq_eq_true this.2
 refine⟨v,cs,h,hz,J0,by rw[J0,Us],by rw[J0,BP],fun j c hj=>?_⟩
 obtain⟨hT,p,hp,_,R1⟩:=hc j c hj;rw[Nat.zero_add,List.getElem?_map] at hp;cases hu:v.cells.toList[j]? with
 |none=>rw[hu] at hp;cases hp
 |some u=>
  rw[hu] at hp;simp at hp;subst hp;exact⟨hT,u,rfl,(R1 default (fun _=>False) (fun _=>none) u (Ao.sc u)).2,fun w A=>(R1 w A (fun _=>none) u (Ao.sc u)).1⟩
theorem Oh {t:TypeId}{v:Value}(h:Ow P t=some v)(w:World):(zeroValue t).run P w=.ok v w:=by
 unfold Ow at h;cases hi:P.info? t with
 |none=>rw[hi] at h;cases h
 |some i=>rw[hi] at h;simp at h;simp[zeroValue,typeInfo,hi,h]
theorem FE {t:TypeId}(ho:o.op=.alloc t){d:Nat}{K:PV->List Nat->List (Nat × A1)->Option R}
  (hk:(Ef P t fun cs=>K (.ptr d 0) [] [(d,QY P t cs)])=some r):∃v fz nw,K v fz nw=some r∧Co P a w o Y β s v fz nw:=by
 obtain⟨z,cs,hk,hz,_,hl,_,hc⟩:=Jn hk
 have Bn:(execOp a.eval o).run P w=.ok (.value (.pointer (some ⟨w.heap.size,0,none⟩))) (w.alloc (.cells z.cells t)):=by
  unfold execOp;rw[ho];simp[Instr.alloc,Oh hz,newVar,newRow]
 have hg:=Dg.alloc w z.cells t;refine⟨_,_,_,hk,?_⟩;unfold QY;cases L9 P t
 ·refine X7 Bn hg (fun j p hj=>?_) fun x hx id Ax=>?_
  ·obtain⟨hT,u,hu,_,hv⟩:=hc j p hj;exact⟨u,by simpa using hu,(Hd hT).2 (hv _ _)⟩
  ·obtain⟨j,hj⟩:=List.mem_iff_getElem?.1 hx;rw[Em (hc j x hj).1] at Ax;cases Ax
 ·refine Kd (by simp) Bn hg (fun j p hj=>?_) (.inl ⟨rfl,rfl⟩)
  obtain⟨hT,u,hu,h1,hv⟩:=hc j p hj;exact⟨u,by simpa using hu,h1,hv _ _⟩
end
open Go.RowKit
section
variable {R:Type} {r:R} {P:Program} {N:Nat} {w0:World} {X0:Ev} {Y:Nat->Prop} {β β':Bt} {s:St} {a:Act} {w w':World} {o:Oper} {A:Nat->Prop}
theorem Kl {t:TypeId}(h:Fm P t=true):(∃d,P.underlying t=some d)∧(Ez P t).length=Aq P t∧(P.info? t).map (·.size)=some (Aq P t):=by
 simp only[Fm,Bool.and_eq_true] at h;refine⟨Option.isSome_iff_exists.1 h.1,Nat.eq_of_beq_eq_true h.2,?_⟩;unfold Aq;cases hi:P.info? t with
 |none=>unfold Program.underlying at h;rw[hi] at h;cases h.1
 |some i=>simp
theorem Ij {v:Value}(h:v.oneCell'=true):v.cells = #[v]:=by cases v<;>first|rfl|cases h
theorem KP {p:PV}{v:Value}{ts:List CT}{K:List PV->Option R}(hv:Cp w A β p v)(hl:(cellsOf p).length=ts.length) (h:J4 ts (cellsOf p) 0 K=some r):
  ∃cs,K cs=some r∧cs.length=ts.length∧Au (A6 w A β) cs v.cells.toList∧(∀u∈v.cells.toList,u.oneCell'=true)∧(∀c∈cs,∀id∈Ai c,id∈A5 p)∧∀c∈cs,(∀x,c ≠ .agg x)∧(∀x,c ≠ .tup x):=by
 obtain⟨cs,h,J0,Sl,hc⟩:=M6 h;refine⟨cs,h,J0,?_⟩
 have single:(∀x,p ≠ .agg x)->cellsOf p=[p]:=by
  intro hp;cases p<;>first|rfl|exact absurd rfl (hp _)
 by_cases Dp:∃x,p=.agg x
 ·obtain⟨x,rfl⟩:=Dp;obtain⟨vs,rfl,h2⟩:=hv;have Cy:cs.length=vs.length:=by rw[J0,←hl];exact h2.len
  have key:∀(i:Nat) c u,cs[i]?=some c->vs[i]?=some u->A6 w A β c u∧u.oneCell'=true:=by
   intro i c u Lh hu;obtain⟨q,hq,_,_,ZB⟩:=hc i c Lh;rw[Nat.zero_add] at hq;exact ZB w A β u (h2.at_ hq hu)
  refine⟨Au.of_at Cy fun i c u Lh hu=>(key i c u Lh hu).1,?_,?_,Sl⟩
  ·intro u hu;obtain⟨i,hi⟩:=List.mem_iff_getElem?.1 (show u∈vs from hu)
   have Bk:i<vs.length:=by
    rcases Nat.lt_or_ge i vs.length with h|h
    ·exact h
    ·rw[List.getElem?_eq_none h] at hi;cases hi
   exact (key i _ u (List.getElem?_eq_getElem (by omega)) hi).2
  ·intro c DH id Ax;obtain⟨i,hi⟩:=List.mem_iff_getElem?.1 DH;obtain⟨q,hq,_,hr,_⟩:=hc i c hi;rw[Nat.zero_add] at hq;show id∈x.flatMap Ai;exact List.mem_flatMap.2 ⟨q,List.mem_of_getElem? hq,hr id Ax⟩
 ·have hp:∀x,p ≠ .agg x:=fun x e=>Dp ⟨x,e⟩
  rw[single hp] at hl hc;have Us:cs.length=1:=by rw[J0,←hl];rfl
  match cs,Us with
  |[c],_=>
   obtain⟨q,hq,hf,hr,ZB⟩:=hc 0 c rfl;simp at hq;subst hq;have J7:∀x,p ≠ .tup x:=by rintro x rfl;exact hf
   have Je:A6 w A β p v:=(Ql hp).1 ((K5 J7).1 hv);obtain⟨h5,h6⟩:=ZB w A β v Je;rw[Ij h6];refine⟨⟨h5,trivial⟩,?_,?_,Sl⟩
   ·intro u hu;simp at hu;subst hu;exact h6
   ·intro c' Lh id Ax;simp at Lh;subst Lh;have:=hr id Ax;cases p<;>first|exact this|exact absurd rfl (hp _)|exact absurd rfl (J7 _)
end
open Go.RowKit
section
variable {R:Type} {r:R} {P:Program} {N:Nat} {w0:World} {X0:Ev} {Y:Nat->Prop} {β β':Bt} {s:St} {a:Act} {w w':World} {o:Oper} {A:Nat->Prop}
theorem Au.get {α β':Type}{R':α->β'->Prop}{zs:List α}{bs:List β'}(h:Au R' zs bs){i:Nat}{x:α}(hx:zs[i]?=some x):∃y,bs[i]?=some y∧R' x y:=by
 have Bk:i<zs.length:=by
  rcases Nat.lt_or_ge i zs.length with h|h
  ·exact h
  ·rw[List.getElem?_eq_none h] at hx;cases hx
 have hb:bs[i]?=some (bs[i]'(by rw[←h.len];exact Bk)):=List.getElem?_eq_getElem _
 exact⟨_,hb,h.at_ hx hb⟩
theorem WK {p:PV}{v:Value}{ts:List CT}{K:List PV->Option R}(hv:Cp w A β p v)(hl:(cellsOf p).length=ts.length) (h:Mp ts (cellsOf p) 0 K=some r):
  ∃cs,K cs=some r∧cs.length=ts.length∧Au (Ao w A) cs v.cells.toList∧∀u∈v.cells.toList,u.oneCell'=true:=by
 obtain⟨cs,h,J0,hc⟩:=Md h;refine⟨cs,h,J0,?_⟩;by_cases Dp:∃x,p=.agg x
 ·obtain⟨x,rfl⟩:=Dp;obtain⟨vs,rfl,h2⟩:=hv;have Cy:cs.length=vs.length:=by rw[J0,←hl];exact h2.len
  have key:∀(i:Nat) c u,cs[i]?=some c->vs[i]?=some u->Ao w A c u∧u.oneCell'=true:=by
   intro i c u Lh hu;obtain⟨_,q,hq,_,ZB⟩:=hc i c Lh;rw[Nat.zero_add] at hq;exact ZB w A β u (h2.at_ hq hu)
  refine⟨Au.of_at Cy fun i c u Lh hu=>(key i c u Lh hu).1,?_⟩
  intro u hu;obtain⟨i,hi⟩:=List.mem_iff_getElem?.1 (show u∈vs from hu)
  have Bk:i<vs.length:=by
   rcases Nat.lt_or_ge i vs.length with h|h
   ·exact h
   ·rw[List.getElem?_eq_none h] at hi;cases hi
  exact (key i _ u (List.getElem?_eq_getElem (by omega)) hi).2
 ·have hp:∀x,p ≠ .agg x:=fun x e=>Dp ⟨x,e⟩
  have single:cellsOf p=[p]:=by cases p<;>first|rfl|exact absurd rfl (hp _)
  rw[single] at hl hc;have Us:cs.length=1:=by rw[J0,←hl];rfl
  match cs,Us with
  |[c],_=>
   obtain⟨_,q,hq,hf,ZB⟩:=hc 0 c rfl;simp at hq;subst hq;have J7:∀x,p ≠ .tup x:=by rintro x rfl;exact hf
   have Je:A6 w A β p v:=(Ql hp).1 ((K5 J7).1 hv);obtain⟨h5,h6⟩:=ZB w A β v Je;rw[Ij h6];exact⟨⟨h5,trivial⟩,fun u hu=>by simp at hu;subst hu;exact h6⟩
theorem OZ (h:Bp N w0 X0 Y β s a w){t:TypeId}{x:Operand}(ho:o.op=.box t x){d:Nat}{K:PV->List Nat->List (Nat × A1)->Option R}
    (hk:(As (Fm P t&&Nat.beq (cellsOf (A8 s.tm x)).length (Ez P t).length)
      (bif L9 P t then Mp (Ez P t) (cellsOf (A8 s.tm x)) 0 fun cs=>K (.ptr d 0) [] [(d,.ar false cs)]
       else J4 (Ez P t) (cellsOf (A8 s.tm x)) 0 fun cs=>K (.ptr d 0) [] [(d,.st cs)]))=some r):∃v fz nw,K v fz nw=some r∧Co P a w o Y β s v fz nw:=by
  obtain⟨hl,hk⟩:=Ae hk
  simp only[Bool.and_eq_true] at hl
  have hl:=Nat.eq_of_beq_eq_true hl.2
  have Bn:(execOp a.eval o).run P w=.ok (.value (.pointer (some ⟨w.heap.size,0,none⟩))) (w.alloc (.cells (a.eval x).cells t)):=by
    unfold execOp
    rw[ho]
    simp[Instr.box,newVar,newRow]
  have hg:=Dg.alloc w (a.eval x).cells t
  cases ha:L9 P t
  · rw[ha] at hk
    obtain⟨cs,hk,_,h2,_,hr,_⟩:=KP (Bs h x) hl hk
    refine⟨_,_,_,hk,X7 Bn hg (fun j p hj=>?_) fun c hc id Ax=>Cz h x id (hr c hc id Ax)⟩
    obtain⟨u,hu,hp⟩:=h2.get hj
    exact⟨u,by simpa using hu,hp⟩
  · rw[ha] at hk
    obtain⟨cs,hk,_,h2,h1⟩:=WK (Bs h x) hl hk
    refine⟨_,_,_,hk,Kd (by simp) Bn hg (fun j p hj=>?_) (.inl ⟨rfl,rfl⟩)⟩
    obtain⟨u,hu,hp⟩:=h2.get hj
    exact⟨u,by simpa using hu,h1 u (List.mem_of_getElem? hu),hp⟩
theorem JG {c:PV}(h1:∀x,c ≠ .agg x)(h2:∀x,c ≠ .tup x):A5 c=Ai c:=by
 cases c<;>first|rfl|exact absurd rfl (h1 _)|exact absurd rfl (h2 _)
theorem Q5 {t:TypeId}{ad:Addr}{cs:List PV}{p:PV}(Jc:Fm P t=true)(Cy:cs.length=(Ez P t).length)
  (Sl:∀c∈cs,(∀x,c ≠ .agg x)∧(∀x,c ≠ .tup x))
  (hc:∀(j:Nat) c,cs[j]?=some c->∃v,w.cell? (ad.add j)=some v∧A6 w A β c v)
  (hp:(A9 P t=true∧p=.agg cs)∨(A9 P t=false∧cs=[p])):∃val,(loadVar t ad).run P w=.ok val w∧Cp w A β p val:=by
 obtain⟨⟨d,hd⟩,hl,hi⟩:=Kl Jc;rcases hp with⟨Dp,rfl⟩|⟨Dp,rfl⟩
 ·have hf:∀j,j<Aq P t->w.cell? (ad.add j)=some ((w.cell? (ad.add j)).getD undef):=by
   intro j hj;obtain⟨v,hv,_⟩:=hc j _ (List.getElem?_eq_getElem (by omega))
   rw[hv];rfl
  refine⟨_,?_,(List.range (Aq P t)).map (fun j=>(w.cell? (ad.add j)).getD undef),rfl,?_⟩
  ·simp only[loadVar,Sem.run_bind,Im hd,Dp,Result.andThen_ok,if_true,Gu hi,run_loadCells w ad (Aq P t) _ hf];simp
  ·refine Au.of_at (by simp;omega) fun i c u Lh hu=>?_
   obtain⟨v,hv,Ta⟩:=hc i c Lh
   have Bk:i<Aq P t:=by
    rcases Nat.lt_or_ge i cs.length with h|h
    ·omega
    ·rw[List.getElem?_eq_none h] at Lh;cases Lh
   rw[List.getElem?_map,List.getElem?_range Bk] at hu;simp[hv] at hu;subst hu;exact Ta
 ·obtain⟨v,hv,Ta⟩:=hc 0 p rfl;have hn:=Sl p (by simp)
  have h0:ad.add 0=ad:=by simp[Addr.add]
  rw[h0] at hv;refine⟨v,?_,(K5 hn.2).2 ((Ql hn.1).2 Ta)⟩;simp only[loadVar,Sem.run_bind,Im hd,Dp,Result.andThen_ok];simp[hv]
theorem SM {hp:Nat->Option A1}{id:Nat}{c:List PV}(h:rd hp id=some c):hp id=some (.st c)∨∃f,hp id=some (.ar f c):=by
 unfold rd at h;split at h
 ·rename_i e;simp at h;subst h;exact .inl e
 ·rename_i f _ e;simp at h;subst h;exact .inr ⟨_,e⟩
 ·cases h
theorem BF {hp:Nat->Option A1}{id:Nat}{c:List PV}(h:Gb hp id=some c):∃f,hp id=some (.ar f c):=by
 unfold Gb at h;split at h
 ·rename_i e;simp at h;subst h;exact⟨_,e⟩
 ·cases h
theorem Wk (h:Bp N w0 X0 Y β s a w){id:Nat}{c:List PV}(hr:rd s.hp id=some c){b ob:Nat}(hβ:β id=some (b,ob)) {j:Nat}{p:PV}(hj:c[j]?=some p):
  ∃v,w.cell? ⟨b,ob+j,none⟩=some v∧A6 w (Bv s.hp β Y) β p v:=by
 rcases SM hr with hb|⟨f,hb⟩
 ·obtain⟨b',o',h1,h2,_⟩:=h.box id _ hb;rw[hβ] at h1;simp at h1;obtain⟨rfl,rfl⟩:=h1;exact h2 j p hj
 ·rcases h.box id _ hb with⟨h1,_⟩|⟨b',o',h1,h2,_⟩
  ·rw[hβ] at h1;cases h1
  ·rw[hβ] at h1;simp at h1;obtain⟨rfl,rfl⟩:=h1
   obtain⟨v,hv,_,ht⟩:=h2 j p hj;rw[B6] at hv;refine⟨v,hv,?_⟩;cases ht with
   |sc=>exact Ao.sc _
   |top=>exact Ao.top _
   |ub=>exact Ao.ub _
   |lnil=>exact Ao.lnil _ _
   |lemp=>exact Ao.lemp _ _ _
   |lst es n cells a cap f hs hb hA hn hc h1 hr=>exact Ao.lst es n cells a cap f hs hb hA hn hc h1 hr
theorem Gq:∀{ts:List CT}{cells:List PV}{off:Nat}{K:List PV->Option R},Mp ts cells off K=some r->J4 ts cells off K=some r
 |[],_,_,_,h=>h
 |.int k::ts,cells,off,K,h=>by
  obtain⟨n,hp,h⟩:=Cq (show Ag k (cells.getD off .top) _=some r from h)
  show Ag k _ _=_;rw[hp];simp only[Ag,if_true];exact Gq h
 |.bool::ts,cells,off,K,h=>by
  obtain⟨n,hp,h⟩:=B8 (show A7 (cells.getD off .top) _=some r from h)
  show A7 _ _=_;rw[hp];exact Gq h
 |.str::ts,cells,off,K,h=>by
  obtain⟨n,hp,h⟩:=Ca (show Er (cells.getD off .top) _=some r from h)
  show Er _ _=_;rw[hp];exact Gq h
 |.sl es::ts,cells,off,K,h=>by
  obtain⟨z,n,c,h,hp⟩:=Dh (show F5 es (cells.getD off .top) _=some r from h)
  change ZX (.sl es) (cells.getD off .top) (fun c=>J4 ts cells (off+1) fun r=>K (c::r))=some r
  unfold ZX;dsimp only;unfold fsK;rcases hp with hp|⟨hp,rfl,rfl,rfl⟩
  ·rw[hp];simp only[F5,Nat.beq_refl,cond_true];exact Gq h
  ·rw[hp];exact Gq h
 |.any::ts,cells,off,K,h=>by
  obtain⟨f,a,b,hp,h⟩:=AK (show PX (cells.getD off .top) (fun v=>Mp ts cells (off+1) fun r=>K (.sc v::r))=some r from h)
  show PX (cells.getD off .top) (fun v=>J4 ts cells (off+1) fun r=>K (.sc v::r))=some r
  rw[hp];exact Gq h
theorem Ao.unz {w:World}{A:Nat->Prop}{z:Bool}{es n:Nat}{c:List PV}{u:Value}(h:Ao w A (.lst z es n c) u):Ao w A (.lst false es n c) u:=by
 cases h with
 |lnil z es=>exact .lnil false es
 |lemp es a cap=>exact .lemp es a cap
 |lst es n c a cap f h1 h2 h3 h4 h5 h6 h7=>exact .lst es n c a cap f h1 h2 h3 h4 h5 h6 h7
theorem NZ {w:World}{A:Nat->Prop}{β:Bt}{p:PV}{u:Value}(h:A6 w A β p u):A6 w A β (AP p) u:=by
 cases p with
 |lst z es n c=>exact Ao.unz h
 |_=>exact h
theorem IG (p:PV):Ai (AP p)=Ai p:=by cases p<;>rfl
theorem Yi {w:World}{A:Nat->Prop}{β:Bt}:∀{cs:List PV}{vs:List Value},Au (A6 w A β) cs vs->Au (A6 w A β) (cs.map AP) vs
 |[],[],_=>trivial
 |_::_,_::_,h=>⟨NZ h.1,Yi h.2⟩
 |[],_::_,h=>h.elim
 |_::_,[],h=>h.elim
theorem LW {w:World}{A:Nat->Prop}{β:Bt}{p:PV}{u:Value}(h:Cp w A β p u):Cp w A β (JI p) u:=by
 cases p with
 |agg cs=>
  obtain⟨vs,h1,h2⟩:=(show Eo w A β (.agg cs) u from h)
  exact⟨vs,h1,Yi h2⟩
 |lst z es n c=>exact Ao.unz (show Ao w A (.lst z es n c) u from h)
 |_=>exact h
theorem LX (p:PV):A5 (JI p)=A5 p:=by
 cases p with
 |agg cs=>
  show (cs.map AP).flatMap Ai=cs.flatMap Ai
  induction cs with
  |nil=>rfl
  |cons a l ih=>rw[List.map_cons,List.flatMap_cons,List.flatMap_cons,ih,IG]
 |_=>rfl
theorem YR {nz:Bool}{hp:Nat->Option A1}{t:TypeId}{x:PV}{K:PV->Option R}(h:Qk nz P (rd hp) (Gb hp) t x K=some r):
  Pf P (rd hp) t x K=some r∨Pf P (rd hp) t x (fun v=>K (JI v))=some r:=by
 have h':Pf P (rd hp) t x K=some r∨Pf P (rd hp) t x (fun v=>K (bif nz then v else JI v))=some r:=by
  unfold Qk at h;unfold Pf;split at h
  ·rename_i id off;obtain⟨hb,h⟩:=Ae h;rw[hb];show C7 _ _=_∨C7 _ _=_;split at h
   ·rename_i c hc;obtain⟨f,Hy⟩:=BF hc;have:rd hp id=some c:=by unfold rd;rw[Hy]
    rw[this];exact .inr (Gq h)
   ·exact .inl h
  ·exact .inr h
  ·cases h
 cases nz
 ·exact h'
 ·exact .inl (h'.elim id id)
theorem Zb (h:Bp N w0 X0 Y β s a w){t:TypeId}{x:PV}{u:Value}(hx:Cp w (Bv s.hp β Y) β x u) {K:PV->Option R}(hk:Pf P (rd s.hp) t x K=some r):
  ∃v ad val,K v=some r∧u=.pointer (some ad)∧(loadVar t ad).run P w=.ok val w∧Cp w (Bv s.hp β Y) β v val∧∀i∈A5 v,s.hp i≠none:=by
 unfold Pf at hk;split at hk
 ·rename_i id off;obtain⟨Jc,hk⟩:=Ae hk;obtain⟨c,hr,hk⟩:=Bl hk;obtain⟨cs,hk,hl,Sl,hc⟩:=M6 hk;obtain⟨b,ob,hβ,Bw⟩:=hx
  have hcell:∀(j:Nat) q,cs[j]?=some q->∃v,w.cell? ((⟨b,ob+off,none⟩:Addr).add j)=some v∧A6 w (Bv s.hp β Y) β q v:=by
   intro j q hq;obtain⟨p,hp,_,_,R1⟩:=hc j q hq;obtain⟨v,hv,Ta⟩:=Wk h hr hβ hp;exact⟨v,by rw[B6,Nat.add_assoc];exact hv,(R1 _ _ _ _ Ta).1⟩
  have Oo:∀q∈cs,∀i∈Ai q,s.hp i≠none:=by
   intro q hq i hi;obtain⟨j,hj⟩:=List.mem_iff_getElem?.1 hq;obtain⟨p,hp,_,hpr,_⟩:=hc j q hj;rcases SM hr with hb|⟨f,hb⟩
   ·exact h.wfB id c hb p (List.mem_of_getElem? hp) i (hpr i hi)
   ·obtain⟨v,hv,Ta⟩:=Wk h hr hβ hp;exfalso;have Bq:=hpr i hi;rcases h.box id _ hb with⟨_,rfl⟩|⟨b',o',h1,h2,_⟩
    ·simp at hp
    ·obtain⟨v',_,_,ht⟩:=h2 _ p hp;cases ht<;>cases Bq
  rcases AV hk with⟨Dp,C9⟩|⟨Dp,q,rfl,C9⟩
  ·obtain⟨val,Qc,hv⟩:=Q5 Jc hl Sl hcell (.inl ⟨Dp,rfl⟩);refine⟨_,_,val,C9,Bw,Qc,hv,fun i hi=>?_⟩
   obtain⟨q,hq,hi⟩:=List.mem_flatMap.1 (show i∈cs.flatMap Ai from hi)
   exact Oo q hq i hi
  ·obtain⟨val,Qc,hv⟩:=Q5 Jc hl Sl hcell (.inr ⟨Dp,rfl⟩);refine⟨_,_,val,C9,Bw,Qc,hv,fun i hi=>Oo q (by simp) i ?_⟩
   have hn:=Sl q (by simp)
   rw[JG hn.1 hn.2] at hi;exact hi
 ·rename_i c off;obtain⟨Jc,hk⟩:=Ae hk;obtain⟨cs,hk,hl,hc⟩:=Md hk;obtain⟨ad,Bw,hs,hb,hA,hrd⟩:=hx
  have Sl:∀q∈cs,(∀x,q ≠ .agg x)∧(∀x,q ≠ .tup x):=by
   intro q hq;obtain⟨j,hj⟩:=List.mem_iff_getElem?.1 hq;exact⟨P5 (hc j q hj).1,JW (hc j q hj).1⟩
  have hcell:∀(j:Nat) q,cs[j]?=some q->∃v,w.cell? ((ad.add off).add j)=some v∧A6 w (Bv s.hp β Y) β q v:=by
   intro j q hq;obtain⟨hT,p,hp,Up,R1⟩:=hc j q hq;obtain⟨v,hv,_,ht⟩:=hrd (off+j) p hp;exact⟨v,by rw[add_add];exact hv,(Hd hT).2 (R1 w (Bv s.hp β Y) β v ((Hd Up).2 ht)).1⟩
  have Oo:∀q∈cs,Ai q=[]:=by
   intro q hq;obtain⟨j,hj⟩:=List.mem_iff_getElem?.1 hq;exact Em (hc j q hj).1
  rcases AV hk with⟨Dp,C9⟩|⟨Dp,q,rfl,C9⟩
  ·obtain⟨val,Qc,hv⟩:=Q5 Jc hl Sl hcell (.inl ⟨Dp,rfl⟩);refine⟨_,_,val,C9,Bw,Qc,hv,fun i hi=>?_⟩
   obtain⟨q,hq,hi⟩:=List.mem_flatMap.1 (show i∈cs.flatMap Ai from hi)
   rw[Oo q hq] at hi;cases hi
  ·obtain⟨val,Qc,hv⟩:=Q5 Jc hl Sl hcell (.inr ⟨Dp,rfl⟩);refine⟨_,_,val,C9,Bw,Qc,hv,fun i hi=>?_⟩
   have hn:=Sl q (by simp)
   rw[JG hn.1 hn.2,Oo q (by simp)] at hi
   cases hi
 ·cases hk
theorem EE (h:Bp N w0 X0 Y β s a w){t:TypeId}{x:PV}{u:Value}(hx:Cp w (Bv s.hp β Y) β x u) {nz:Bool}{K:PV->Option R}(hk:Qk nz P (rd s.hp) (Gb s.hp) t x K=some r):
  ∃v ad val,K v=some r∧u=.pointer (some ad)∧(loadVar t ad).run P w=.ok val w∧Cp w (Bv s.hp β Y) β v val∧∀i∈A5 v,s.hp i≠none:=by
 rcases YR hk with hk|hk
 ·exact Zb h hx hk
 ·obtain⟨v,ad,val,h1,h2,h3,h4,h5⟩:=Zb h hx hk;exact⟨JI v,ad,val,h1,h2,h3,LW h4,by rw[LX];exact h5⟩
theorem JD (h:Bp N w0 X0 Y β s a w){t:TypeId}{x:Operand}(ho:o.op=.load t x){nz:Bool}{K:PV->Option R}(hk:Qk nz P (rd s.hp) (Gb s.hp) t (A8 s.tm x) K=some r):
  ∃v,K v=some r∧Co P a w o Y β s v [] []:=by
 obtain⟨v,ad,val,Ck,Bw,hl,hv,hr⟩:=EE h (Bs h x) hk;refine⟨v,Ck,Ba ?_ hv hr⟩;unfold execOp;rw[ho];simp[Instr.loadAt,Instr.sureAddr,Bw,hl]
theorem MN {x:PV}{d:Nat}{K:PV->Option R}(h:Mb x d K=some r):(∃id off,x=.ptr id off∧K (.ptr id (off+d))=some r)∨∃c off,x=.iptr c off∧K (.iptr c (off+d))=some r:=by
 unfold Mb at h;split at h
 ·exact .inl ⟨_,_,rfl,h⟩
 ·exact .inr ⟨_,_,rfl,h⟩
 ·cases h
theorem Pi (h:Bp N w0 X0 Y β s a w){x:Operand}{d:Nat}{K:PV->Option R}(hk:Mb (A8 s.tm x) d K=some r)
  (Bn:∀ad:Addr,a.eval x=.pointer (some ad)->(execOp a.eval o).run P w=.ok (.value (.pointer (some (ad.add d)))) w):∃v,K v=some r∧Co P a w o Y β s v [] []:=by
 have hx:=Bs h x;have Wy:=Cz h x;rcases MN hk with⟨id,off,e,hk⟩|⟨c,off,e,hk⟩
 ·rw[e] at hx Wy;obtain⟨b,ob,hβ,Bw⟩:=hx;refine⟨_,hk,Ba (Bn _ Bw) ⟨b,ob,hβ,by rw[B6,Nat.add_assoc]⟩ Wy⟩
 ·rw[e] at hx;obtain⟨ad,Bw,h1,h2,h3,h4⟩:=hx;exact⟨_,hk,Ba (Bn _ Bw) ⟨ad,by rw[add_add],h1,h2,h3,h4⟩ (by intro i hi;cases hi)⟩
theorem Wp (h:Bp N w0 X0 Y β s a w){x:Operand}(ho:o.op=.nilCheck x){K:PV->Option R}(hk:Mb (A8 s.tm x) 0 K=some r):∃v,K v=some r∧Co P a w o Y β s v [] []:=by
 refine Pi h hk fun ad Bw=>?_
 unfold execOp;rw[ho];simp[Bw,Addr.add]
theorem Pw {t:TypeId}{f:Nat}{q:Nat × TypeId}(h:Kg P t f=some q):∃fs g,P.underlying t=some (.struct fs)∧fs[f]?=some g∧q=(g.offset,g.type):=by
 unfold Kg at h;split at h
 ·rename_i fs e;cases hg:fs[f]? with
  |none=>rw[hg] at h;cases h
  |some g=>rw[hg] at h;simp at h;exact⟨fs,g,e,hg,h.symm⟩
 ·cases h
theorem Tv (h:Bp N w0 X0 Y β s a w){t:TypeId}{x:Operand}{f:Nat}(ho:o.op=.fieldAddr t x f){K:PV->Option R}
  (hk:(C7 (Kg P t f) fun q=>As (Nat.ble 1 (Aq P q.2)) (Mb (A8 s.tm x) q.1 K))=some r):∃v,K v=some r∧Co P a w o Y β s v [] []:=by
 obtain⟨q,hq,hk⟩:=Bl hk;obtain⟨hs,hk⟩:=Ae hk;obtain⟨fs,g,hu,hg,rfl⟩:=Pw hq;have hs:1<=Aq P g.type:=Nat.le_of_ble_eq_true hs;have Ik:=VD (P:=P) (t:=g.type) rfl (by omega)
 refine Pi h hk fun ad Bw=>?_
 unfold execOp;rw[ho];have G6:¬Aq P g.type=0:=by omega
 simp[Instr.fieldAt,run_underlying hu,hg,Instr.sureAddr,Bw,fieldPlace,Gu Ik,G6]
end
open Go.RowKit
section
variable {R:Type} {r:R} {P:Program} {N:Nat} {w0:World} {X0:Ev} {Y:Nat->Prop} {β β':Bt} {s:St} {a:Act} {w w':World} {o:Oper} {A:Nat->Prop}
theorem Vi (h:Bp N w0 X0 Y β s a w){t:TypeId}{cs:List PV}{vs:List Value}{off:Nat}{K:PV->Option R}{x:Operand}(hx:A8 s.tm x=.agg cs)(hv:Au (A6 w (Bv s.hp β Y) β) cs vs)
  (hk:As (Fm P t) (J4 (Ez P t) cs off fun c=>LO (A9 P t) c K)=some r)
  (Bn:∀val,(part t ⟨vs⟩ off).run P w=.ok val w->(execOp a.eval o).run P w=.ok (.value val) w):∃v,K v=some r∧Co P a w o Y β s v [] []:=by
 obtain⟨Jc,hk⟩:=Ae hk;obtain⟨⟨d,hd⟩,hl,hi⟩:=Kl Jc;obtain⟨qs,hk,hql,Sl,hq⟩:=M6 hk;have Wy:=Cz h x;rw[hx] at Wy
 have hcell:∀(j:Nat) q,qs[j]?=some q->∃v,vs[off+j]?=some v∧A6 w (Bv s.hp β Y) β q v:=by
  intro j q hj;obtain⟨p,hp,_,_,R1⟩:=hq j q hj;obtain⟨v,Je,hc⟩:=hv.get hp;exact⟨v,Je,(R1 _ _ _ _ hc).1⟩
 have Oo:∀q∈qs,∀i∈Ai q,s.hp i≠none:=by
  intro q ZU i hi;obtain⟨j,hj⟩:=List.mem_iff_getElem?.1 ZU;obtain⟨p,hp,_,hpr,_⟩:=hq j q hj;exact Wy i (List.mem_flatMap.2 ⟨p,List.mem_of_getElem? hp,hpr i hi⟩)
 rcases AV hk with⟨Dp,C9⟩|⟨Dp,q,rfl,C9⟩
 ·have Sy:Aq P t=0∨off+Aq P t<=vs.length:=by
   rcases Nat.eq_zero_or_pos (Aq P t) with h0|h0
   ·exact .inl h0
   ·obtain⟨v,Je,_⟩:=hcell (Aq P t-1) _ (List.getElem?_eq_getElem (by omega))
    have:off+(Aq P t-1)<vs.length:=by
     rcases Nat.lt_or_ge (off+(Aq P t-1)) vs.length with h|h
     ·exact h
     ·rw[List.getElem?_eq_none h] at Je;cases Je
    exact .inr (by omega)
  refine⟨_,C9,Ba (Bn (.agg ⟨(vs.drop off).take (Aq P t)⟩) ?_) ⟨(vs.drop off).take (Aq P t),rfl,?_⟩ fun i hi=>?_⟩
  ·simp only[part,Sem.run_bind,Im hd,Dp,Result.andThen_ok,if_true,Gu hi];simp[List.extract_eq_take_drop]
  ·refine Au.of_at ?_ fun i c u hc hu=>?_
   ·simp only[List.length_take,List.length_drop];omega
   ·obtain⟨v,Je,Ta⟩:=hcell i c hc
    have Bk:i<Aq P t:=by
     rcases Nat.lt_or_ge i qs.length with h|h
     ·omega
     ·rw[List.getElem?_eq_none h] at hc;cases hc
    rw[List.getElem?_take_of_lt Bk,List.getElem?_drop,Je] at hu;cases hu;exact Ta
  ·obtain⟨q,ZU,hi⟩:=List.mem_flatMap.1 (show i∈qs.flatMap Ai from hi)
   exact Oo q ZU i hi
 ·obtain⟨v,Je,Ta⟩:=hcell 0 q rfl;have hn:=Sl q (by simp)
  refine⟨_,C9,Ba (Bn v ?_) ((K5 hn.2).2 ((Ql hn.1).2 Ta)) fun i hi=>?_⟩
  ·simp only[part,Sem.run_bind,Im hd,Dp,Result.andThen_ok];rw[Nat.add_zero] at Je;simp[Je]
  ·rw[JG hn.1 hn.2] at hi;exact Oo q (by simp) i hi
theorem DA (h:Bp N w0 X0 Y β s a w){t:TypeId}{x:Operand}{f:Nat}(ho:o.op=.field t x f){K:PV->Option R}
  (hk:(C7 (Kg P t f) fun q=>As (Fm P q.2)<|Dw (A8 s.tm x) fun cs=>J4 (Ez P q.2) cs q.1 fun c=>LO (A9 P q.2) c K)=some r):∃v,K v=some r∧Co P a w o Y β s v [] []:=by
 obtain⟨q,hq,hk⟩:=Bl hk;obtain⟨Jc,hk⟩:=Ae hk;obtain⟨cs,hx,hk⟩:=Eh hk;obtain⟨fs,g,hu,hg,rfl⟩:=Pw hq;have ZS:=Bs h x;rw[hx] at ZS;obtain⟨vs,Bw,hv⟩:=ZS;refine Vi (t:=g.type) (off:=g.offset) h hx hv (by rw[show Fm P g.type=true from Jc];exact hk) fun val hp=>?_
 unfold execOp;rw[ho];simp[Instr.field,run_underlying hu,hg,asAgg,Bw,hp]
theorem Xk (h:Bp N w0 X0 Y β s a w){x:Operand}{i:Nat}(ho:o.op=.extract x i){K:PV->Option R}
  (hk:(match A8 s.tm x with | .tup vs=>C7 vs[i]? K|_=>none)=some r):∃v,K v=some r∧Co P a w o Y β s v [] []:=by
 have hx:=Bs h x;have Wy:=Cz h x;split at hk
 ·rename_i ps e;rw[e] at hx Wy;obtain⟨p,hp,hk⟩:=Bl hk;obtain⟨vs,Bw,hv⟩:=hx;obtain⟨v,Je,R1⟩:=hv.get hp
  have Aax:∀y,p ≠ .tup y:=by
   rintro y rfl
   have Ahx:Ao _ _ (.tup y) v:=R1;cases Ahx
  refine⟨p,hk,Ba (val:=v) ?_ ((K5 Aax).2 R1) fun id Ax=>Wy id ?_⟩
  ·unfold execOp;rw[ho];simp[Instr.extract,Bw,Je]
  ·refine List.mem_flatMap.2 ⟨p,List.mem_of_getElem? hp,?_⟩;cases p<;>first|exact Ax|exact absurd rfl (Aax _)
 ·cases hk
theorem Dv {es:Nat}{p:PV}{z:Bool}{n:Nat}{c:List PV}{v:Value}(hp:p=.lst z es n c∨(p=.sc (.slice none 0 0)∧z=true∧n=0∧c=[])) (hv:Cp w A β p v):
  (v=.slice none 0 0∧n=0∧c=[])∨(∃ad cap,v=.slice (some ad) n cap∧z=false∧n<=cap∧ad.spot=none∧ad.block<w.heap.size∧¬A ad.block∧BO w A ad c)∨∃ad cap,v=.slice (some ad) 0 cap∧z=false∧n=0∧c=[]:=by
 have Je:A6 w A β p v:=by rcases hp with rfl|⟨rfl,_⟩<;>exact hv
 have ht:=O2 hp Je;cases ht with
 |lnil=>exact .inl ⟨rfl,rfl,rfl⟩
 |lst _ _ _ ad cap f hs hb hA hn hc h1 hr=>exact .inr (.inl ⟨ad,cap,rfl,rfl,hn,hs,hb,hA,fun j q hj=>⟨f j,hc j q hj,h1 j q hj,hr j q hj⟩⟩)
 |lemp _ ad cap=>exact .inr (.inr ⟨ad,cap,rfl,rfl,rfl,rfl⟩)
theorem Tu (h:Bp N w0 X0 Y β s a w){t:TypeId}{x i:Operand}(ho:o.op=.indexAddr t x i){K:PV->Option R}
  (hk:(B4 (A8 s.tm i) fun _ n=>Gr P t (A8 s.tm x) n K)=some r):∃v,K v=some r∧Co P a w o Y β s v [] []:=by
 obtain⟨ik,n,hi,hk⟩:=Bx hk;have hai:=Bj h hi;have hx:=Bs h x;have Wy:=Cz h x;unfold Gr at hk;split at hk
 ·rename_i len e hu;obtain⟨hz,hk⟩:=Ae hk;obtain⟨hb,hk⟩:=Ae hk;simp only[Bool.and_eq_true,decide_eq_true_eq] at hb;obtain⟨inf,Jy⟩:=Option.isSome_iff_exists.1 hz;refine Pi h hk fun ad Bw=>?_
  unfold execOp;rw[ho];simp[Instr.indexAt,asIntOf,hai,Bw,run_underlying hu,Instr.sureAddr,hb.1,hb.2,sizeOf,typeInfo,Jy,Aq]
 ·rename_i e hu;obtain⟨hz,hk⟩:=Ae hk;obtain⟨inf,Jy⟩:=Option.isSome_iff_exists.1 hz;have Ik:Aq P e=inf.size:=by simp[Aq,Jy]
  split at hk
  ·rename_i id es off n' e';rw[e'] at hx Wy;obtain⟨Py,hk⟩:=Ae hk;have Py:=Nat.eq_of_beq_eq_true Py;subst Py;obtain⟨hb,hk⟩:=Ae hk;simp only[Bool.and_eq_true,decide_eq_true_eq] at hb;rcases hx with⟨_,_,rfl,_⟩|⟨b,ob,y,cap,hβ,Bw,hy,_⟩
   ·omega
   ·have hy:y=ob+off:=by rcases hy with hy|⟨rfl,_⟩<;>omega
    subst hy;refine⟨_,hk,Ba (val:=.pointer (some ⟨b,ob+(off+n.toNat*Aq P e),none⟩)) ?_ ⟨b,ob,hβ,rfl⟩ Wy⟩;unfold execOp;rw[ho];simp[Instr.indexAt,asIntOf,hai,Bw,run_underlying hu,hb.1,hb.2,sizeOf,typeInfo,Jy,Ik,B6,Nat.add_assoc]
  ·obtain⟨z,n',c,hk,hp⟩:=Dh hk;obtain⟨hb,hk⟩:=Ae hk;simp only[Bool.and_eq_true,decide_eq_true_eq] at hb;rcases Dv hp hx with⟨_,rfl,_⟩|⟨ad,cap,Bw,_,_,h1,h2,h3,h4⟩|⟨_,_,_,_,rfl,_⟩
   ·omega
   rotate_left
   ·omega
   ·refine⟨_,hk,Ba (val:=.pointer (some (ad.add (n.toNat*Aq P e)))) ?_ ⟨ad,rfl,h1,h2,h3,h4⟩ (by intro i hi;cases hi)⟩
    unfold execOp;rw[ho];simp[Instr.indexAt,asIntOf,hai,Bw,run_underlying hu,hb.1,hb.2,sizeOf,typeInfo,Jy,Ik]
 ·cases hk
theorem CQ (h:Bp N w0 X0 Y β s a w){t:TypeId}{x i:Operand}(ho:o.op=.index t x i){K:PV->Option R}
  (hk:(B4 (A8 s.tm i) fun _ n=>
   match P.underlying t with
   |some .string=>Er (A8 s.tm x) fun s=>As (decide (0<=n)) (C7 (s.data.toList[n.toNat]?) fun b=>K (.sc (.int .u8 b.toNat)))
   |some (.array len e)=>Dw (A8 s.tm x) fun cs=>As (decide (0<=n)&&decide (n<len)&&Fm P e) (J4 (Ez P e) cs (n.toNat*Aq P e) fun c=>LO (A9 P e) c K)
   |_=>none)=some r):∃v,K v=some r∧Co P a w o Y β s v [] []:=by
 obtain⟨ik,n,hi,hk⟩:=Bx hk;have hai:=Bj h hi;split at hk
 ·rename_i hu;obtain⟨sb,hx,hk⟩:=Ca hk;have Bw:=Bj h hx;obtain⟨h0,hk⟩:=Ae hk;obtain⟨b,hb,hk⟩:=Bl hk;have h0:=of_decide_eq_true h0;refine⟨_,hk,Bm ?_⟩
  have Bk:n.toNat<sb.size:=by
   rcases Nat.lt_or_ge n.toNat sb.data.toList.length with h|h
   ·simpa using h
   ·rw[List.getElem?_eq_none h] at hb;cases hb
  have Ep:sb[n.toNat]=b:=by
   have:sb.data.toList[n.toNat]?=some sb[n.toNat]:=by
    rw[List.getElem?_eq_getElem (by simpa using Bk)]
    rfl
   rw[hb] at this;injection this with this;exact this.symm
  unfold execOp;rw[ho];simp[Instr.index,asIntOf,hai,Bw,run_underlying hu,h0,Bk,Ep]
 ·rename_i len e hu;obtain⟨cs,hx,hk⟩:=Eh hk;obtain⟨hb,hk⟩:=Ae hk;simp only[Bool.and_eq_true,decide_eq_true_eq] at hb;have ZS:=Bs h x;rw[hx] at ZS;obtain⟨vs,Bw,hv⟩:=ZS;obtain⟨_,_,Ik⟩:=Kl hb.2;refine Vi (t:=e) (off:=n.toNat*Aq P e) h hx hv (by rw[hb.2];exact hk) fun val hp=>?_
  unfold execOp;rw[ho];simp[Instr.index,asIntOf,hai,Bw,run_underlying hu,hb.1.1,hb.1.2,Gu Ik,hp]
 ·cases hk
end
open Go.RowKit
section
variable {R:Type} {r:R} {P:Program} {N:Nat} {w0:World} {X0:Ev} {Y:Nat->Prop} {β β':Bt} {s:St} {a:Act} {w w':World} {o:Oper} {A:Nat->Prop}
theorem Cc (h:Bp N w0 X0 Y β s a w){x:Option Operand}{dflt:Nat}{K:Nat->Option R}(hk:D9 (x.map (A8 s.tm)) dflt K=some r):
  ∃l,K l=some r∧((x=none∧l=dflt)∨∃y k,x=some y∧a.eval y=.int k (l:Int)):=by
 cases x with
 |none=>exact⟨dflt,hk,.inl ⟨rfl,rfl⟩⟩
 |some y=>
  obtain⟨k,i,hi,hk⟩:=Bx (show B4 (A8 s.tm y) _=some r from hk)
  obtain⟨h0,hk⟩:=Ae hk;have h0:=of_decide_eq_true h0;exact⟨i.toNat,hk,.inr ⟨y,k,rfl,by rw[Bj h hi,Int.toNat_of_nonneg h0]⟩⟩
theorem Fb {lo hi:Option Operand}{isS:Bool}{len cap l u:Nat}(hl:(lo=none∧l=0)∨∃y k,lo=some y∧a.eval y=.int k (l:Int))
  (hu:(hi=none∧u=len)∨∃y k,hi=some y∧a.eval y=.int k (u:Int)) (h1:l<=u)(h2:u<=cap):
  (Instr.sliceBounds isS len cap (lo.map a.eval) (hi.map a.eval) none).run P w=.ok (l,u,cap) w:=by
 rcases hl with⟨rfl,rfl⟩|⟨y,k,rfl,hy⟩<;>rcases hu with⟨rfl,rfl⟩|⟨y',k',rfl,hy'⟩
 ·simp[Instr.sliceBounds]
 ·simp[Instr.sliceBounds,Instr.sliceBound,asIntOf,hy',h2]
 ·simp[Instr.sliceBounds,Instr.sliceBound,asIntOf,hy,h1]
 ·simp[Instr.sliceBounds,Instr.sliceBound,asIntOf,hy,hy',h1,h2]
theorem Bo {e:TypeId}(h:(P.info? e).isSome=true) (w:World):(sizeOf e).run P w=.ok (Aq P e) w:=by
 obtain⟨i,hi⟩:=Option.isSome_iff_exists.1 h;exact Gu (by simp[Aq,hi]) w
theorem Qd {b j:Nat}{v:Value}(h:w.cell? ⟨b,j,none⟩=some v):j<bsz w b:=by
 unfold World.cell? at h;unfold bsz;split at h
 ·rename_i c e fz hb;simp only at hb;rw[hb];simp only[Option.isSome_none,Bool.false_eq_true,if_false] at h;rcases Nat.lt_or_ge j c.size with Bk|PO
  ·exact Bk
  ·rw[Array.getElem?_eq_none PO] at h;cases h
 ·cases h
theorem CM (h:Bp N w0 X0 Y β s a w){t:TypeId}{x:Operand}{lo hi:Option Operand}(ho:o.op=.slice t x lo hi none){K:PV->Option R}
  (hk:Si P (rd s.hp) t (A8 s.tm x) (lo.map (A8 s.tm)) (hi.map (A8 s.tm)) K=some r):∃v,K v=some r∧Co P a w o Y β s v [] []:=by
 have hx:=Bs h x;have Wy:=Cz h x;unfold Si at hk;split at hk
 ·rename_i hu;obtain⟨sb,Wv,hk⟩:=Ca hk;have Bw:=Bj h Wv;obtain⟨l,hk,hl⟩:=Cc h hk;obtain⟨u,hk,Fs⟩:=Cc h hk;obtain⟨hb,hk⟩:=Ae hk;simp only[Bool.and_eq_true,decide_eq_true_eq] at hb;refine⟨_,hk,Bm ?_⟩;unfold execOp;rw[ho];simp[Instr.sliceAt,Instr.slice,run_underlying hu,Bw,Fb hl Fs hb.1 hb.2]
 ·rename_i e hu;obtain⟨Jy,hk⟩:=Ae hk;split at hk
  ·rename_i id es off n e';rw[e'] at hx Wy;obtain⟨Py,hk⟩:=Ae hk;have Py:=Nat.eq_of_beq_eq_true Py;subst Py;obtain⟨l,hk,hl⟩:=Cc h hk;obtain⟨u,hk,Fs⟩:=Cc h hk;obtain⟨hb,hk⟩:=Ae hk;simp only[Bool.and_eq_true,decide_eq_true_eq] at hb;rcases hx with⟨hβ,rfl,rfl,ad,Bw⟩|⟨b,ob,y,cap,hβ,Bw,hy,hn,Nv,Bk⟩
   ·have hu0:u=0:=by omega
    have TV:l=0:=by omega
    subst hu0 TV;refine⟨_,hk,Ba (val:=.slice ad 0 0) ?_ (.inl ⟨hβ,by simp,rfl,ad,rfl⟩) Wy⟩
    unfold execOp;rw[ho];cases ad<;>simp[Instr.sliceAt,Instr.slice,run_underlying hu,Bw,Fb hl Fs (Nat.le_refl 0) (Nat.le_refl 0),Bo Jy]
   ·have Bn:(execOp a.eval o).run P w=.ok (.value (.slice (some (if cap=l then ⟨b,y,none⟩ else ⟨b,y+l*Aq P e,none⟩)) (u-l) (cap-l))) w:=by
     unfold execOp;rw[ho];have BS:=Fb (P:=P) (w:=w) (isS:=true) hl Fs hb.1 (Nat.le_trans hb.2 hn);simp[Instr.sliceAt,Instr.slice,run_underlying hu,Bw,BS,Bo Jy,B6];split<;>rfl
    refine⟨_,hk,Ba Bn (.inr ?_) Wy⟩;by_cases hc:cap=l
    ·rw[if_pos hc];refine⟨b,ob,y,cap-l,hβ,rfl,?_,by omega,⟨by rw[hc,Nat.sub_self];have:=Nv.1;omega,Nv.2⟩,Bk⟩
     by_cases h0:l*Aq P e=0
     ·rw[h0,Nat.add_zero];rcases hy with hy|⟨GC,J5⟩
      ·exact .inl hy
      ·exact .inr ⟨by omega,J5⟩
     ·exact .inr ⟨by omega,by omega⟩
    ·rw[if_neg hc];refine⟨b,ob,y+l*Aq P e,cap-l,hβ,rfl,?_,by omega,?_,Bk⟩
     ·rcases hy with hy|⟨GC,J5⟩
      ·exact .inl (by omega)
      ·exact .inr ⟨by omega,by omega⟩
     ·have:l*Aq P e+(cap-l)*Aq P e=cap*Aq P e:=by
       rw[←Nat.add_mul]
       congr 1
       omega
      have:=Nv.1;exact⟨by omega,Nv.2⟩
  ·obtain⟨z,n,c,hk,hp⟩:=Dh hk;obtain⟨l,hk,hl⟩:=Cc h hk;obtain⟨u,hk,Fs⟩:=Cc h hk;obtain⟨hb,hk⟩:=Ae hk;simp only[Bool.and_eq_true,decide_eq_true_eq] at hb;rcases Dv hp hx with⟨Bw,rfl,rfl⟩|⟨ad,cap,Bw,rfl,hn,h1,h2,h3,h4⟩|⟨ad,cap,Bw,rfl,rfl,rfl⟩
   rotate_right
   ·have hu0:u=0:=by omega
    have TV:l=0:=by omega
    subst hu0 TV;refine⟨_,hk,Ba (val:=.slice (some (if cap=0 then ad else ad.add (0*Aq P e))) (0-0) (cap-0)) ?_ ?_ (by intro i hi;cases hi)⟩
    ·unfold execOp;rw[ho];have BS:=Fb (P:=P) (w:=w) (isS:=true) hl Fs (Nat.le_refl 0) (Nat.zero_le cap);simp[Instr.sliceAt,Instr.slice,run_underlying hu,Bw,BS,Bo Jy];split<;>rfl
    ·have:((([]:List PV).drop (0*Aq P e)).take ((0-0)*Aq P e))=[]:=by simp
     rw[this];exact Ao.lemp _ _ _
   ·have hu0:u=0:=by omega
    have TV:l=0:=by omega
    subst hu0 TV;refine⟨_,hk,Ba (val:=.slice none 0 0) ?_ ?_ (by intro i hi;cases hi)⟩
    ·unfold execOp;rw[ho];simp[Instr.sliceAt,Instr.slice,run_underlying hu,Bw,Fb hl Fs (Nat.le_refl 0) (Nat.le_refl 0),Bo Jy]
    ·have:((([]:List PV).drop (0*Aq P e)).take ((0-0)*Aq P e))=[]:=by simp
     rw[this];exact Ao.lnil z _
   ·have Bn:(execOp a.eval o).run P w=.ok (.value (.slice (some (if cap=l then ad else ad.add (l*Aq P e))) (u-l) (cap-l))) w:=by
     unfold execOp;rw[ho];have BS:=Fb (P:=P) (w:=w) (isS:=true) hl Fs hb.1 (Nat.le_trans hb.2 hn);simp[Instr.sliceAt,Instr.slice,run_underlying hu,Bw,BS,Bo Jy];split<;>rfl
    refine⟨_,hk,Ba Bn ?_ (by intro i hi;cases hi)⟩
    by_cases hc:cap=l
    ·rw[if_pos hc];have:u-l=0:=by omega
     rw[this];simp only[Nat.zero_mul,List.take_zero];exact Ao.lst _ _ [] ad _ (fun _=>undef) h1 h2 h3 (by omega) (by simp) (by simp) (by simp)
    ·rw[if_neg hc]
     have hcell:∀(j:Nat) q,((c.drop (l*Aq P e)).take ((u-l)*Aq P e))[j]?=some q->c[l*Aq P e+j]?=some q:=by
      intro j q hq;rw[List.getElem?_take] at hq;split at hq
      ·rw[List.getElem?_drop] at hq;exact hq
      ·cases hq
     refine Ao.lst _ _ _ (ad.add (l*Aq P e)) _ (fun j=>(w.cell? (ad.add (l*Aq P e+j))).getD undef) (UO h1 _) (by rw[Dq];exact h2) (by rw[Dq];exact h3) (by omega) (fun j q hq=>?_) (fun j q hq=>?_) (fun j q hq=>?_)
     ·obtain⟨v,hv,_⟩:=h4 _ q (hcell j q hq);rw[add_add,hv];rfl
     ·obtain⟨v,hv,h5,_⟩:=h4 _ q (hcell j q hq);rw[hv];exact h5
     ·obtain⟨v,hv,_,ht⟩:=h4 _ q (hcell j q hq);rw[hv];exact ht
 ·rename_i n e hu;obtain⟨Jy,hk⟩:=Ae hk;split at hk
  ·rename_i id off e';rw[e'] at hx Wy;obtain⟨c,hrc,hk⟩:=Bl hk;obtain⟨Cy,hk⟩:=Ae hk;simp only[Bool.and_eq_true,decide_eq_true_eq] at Cy;have Py:=Nat.eq_of_beq_eq_true Cy.2
   replace Cy:=Cy.1
   obtain⟨l,hk,hl⟩:=Cc h hk;obtain⟨u,hk,Fs⟩:=Cc h hk;obtain⟨hb,hk⟩:=Ae hk;simp only[Bool.and_eq_true,decide_eq_true_eq] at hb;obtain⟨b,ob,hβ,Bw⟩:=hx
   have W3:ob+off+n*Aq P e<=bsz w b:=by
    obtain⟨v,hv,_⟩:=Wk h hrc hβ (j:=off+n*Aq P e-1) (List.getElem?_eq_getElem (by omega))
    have:=Qd hv;omega
   have Bk:b<w.heap.size:=h.blt id b ob (Wy id (by simp[A5,Be,Ai])) hβ
   have Bn:(execOp a.eval o).run P w=.ok (.value (.slice (some (if n=l then ⟨b,ob+off,none⟩ else ⟨b,ob+off+l*Aq P e,none⟩)) (u-l) (n-l))) w:=by
    unfold execOp;rw[ho];have BS:=Fb (P:=P) (w:=w) (isS:=false) hl Fs hb.1 hb.2;simp[Instr.sliceAt,Instr.sureAddr,run_underlying hu,Bw,BS,Bo Jy,B6]
   refine⟨_,hk,Ba Bn (.inr ?_) Wy⟩;by_cases hc:n=l
   ·rw[if_pos hc];refine⟨b,ob,ob+off,n-l,hβ,rfl,?_,by omega,⟨by rw[hc,Nat.sub_self];omega,.inl Py⟩,Bk⟩
    by_cases h0:l*Aq P e=0
    ·rw[h0,Nat.add_zero];exact .inl rfl
    ·exact .inr ⟨by omega,by omega⟩
   ·rw[if_neg hc];refine⟨b,ob,ob+off+l*Aq P e,n-l,hβ,rfl,.inl (by omega),by omega,?_,Bk⟩
    have:l*Aq P e+(n-l)*Aq P e=n*Aq P e:=by
     rw[←Nat.add_mul]
     congr 1
     omega
    exact⟨by omega,.inl Py⟩
  ·cases hk
 ·cases hk
end
open Go.RowKit
section
variable {R:Type} {r:R} {P:Program} {N:Nat} {w0:World} {X0:Ev} {Y:Nat->Prop} {β β':Bt} {s:St} {a:Act} {w w':World} {o:Oper} {A:Nat->Prop}
theorem PD (h:Bp N w0 X0 Y β s a w){c:Call}(ho:o.op=.call c)(hc:c.callee=.builtin .len){K:PV->Option R}
  (hk:(Aa c.args.toList fun x _=>Aa c.argTypes.toList fun t _=>OB P t (A8 s.tm x) fun n=>K (.sc (.int .i64 n)))=some r):∃v,K v=some r∧Co P a w o Y β s v [] []:=by
 obtain⟨x,xs,Wv,hk⟩:=Ap hk;obtain⟨t,ts,XA,hk⟩:=Ap hk;have hx:=Bs h x;have C3:c.args=(x::xs).toArray:=by rw[←Wv]
 have Tq:c.argTypes=(t::ts).toArray:=by rw[←XA]
 have Bn:∀n:Nat,(Builtin.len_ c.argTypes o.type (c.args.map a.eval)).run P w=.ok (.int .i64 n) w->(execOp a.eval o).run P w=.ok (.value (.int .i64 n)) w:=by
  intro n hl;unfold execOp;rw[ho];simp only[resolve,hc,invoke,builtin,Sem.run_bind,Sem.run_pure,Result.andThen_ok,hl]
 unfold OB at hk;split at hk
 ·rename_i hu;obtain⟨sb,Ah2,hk⟩:=Ca hk;have Bw:=Bj h Ah2;refine⟨_,hk,Bm (Bn _ ?_)⟩;simp[Builtin.len_,C3,Tq,run_underlying hu,Bw,goInt]
 ·rename_i n e hu;refine⟨_,hk,Bm (Bn _ ?_)⟩;simp[Builtin.len_,C3,Tq,run_underlying hu,goInt]
 ·rename_i e hu;split at hk
  ·rename_i id es off n e';rw[e'] at hx;obtain⟨_,hk⟩:=Ae hk;refine⟨_,hk,Bm (Bn _ ?_)⟩;rcases hx with⟨_,_,rfl,ad,Bw⟩|⟨b,ob,y,cap,_,Bw,_⟩<;>simp[Builtin.len_,C3,Tq,run_underlying hu,Bw,goInt]
  ·obtain⟨z,n,cc,hk,hp⟩:=Dh hk;refine⟨_,hk,Bm (Bn _ ?_)⟩;rcases Dv hp hx with⟨Bw,rfl,_⟩|⟨ad,cap,Bw,_⟩|⟨ad,cap,Bw,_,rfl,_⟩<;>simp[Builtin.len_,C3,Tq,run_underlying hu,Bw,goInt]
 ·cases hk
theorem MA (h:Bp N w0 X0 Y β s a w){c:Call}(ho:o.op=.call c)(hc:c.callee=.builtin .cap){K:PV->Option R}
  (hk:(Aa c.args.toList fun x _=>Aa c.argTypes.toList fun t _=>PB P t (A8 s.tm x) fun n=>K (.sc (.int .i64 n)))=some r):∃v,K v=some r∧Co P a w o Y β s v [] []:=by
 obtain⟨x,xs,Wv,hk⟩:=Ap hk;obtain⟨t,ts,XA,hk⟩:=Ap hk;have hx:=Bs h x;have C3:c.args=(x::xs).toArray:=by rw[←Wv]
 have Tq:c.argTypes=(t::ts).toArray:=by rw[←XA]
 have Bn:∀n:Nat,(Builtin.cap_ c.argTypes o.type (c.args.map a.eval)).run P w=.ok (.int .i64 n) w->(execOp a.eval o).run P w=.ok (.value (.int .i64 n)) w:=by
  intro n hl;unfold execOp;rw[ho];simp only[resolve,hc,invoke,builtin,Sem.run_bind,Sem.run_pure,Result.andThen_ok,hl]
 unfold PB at hk;split at hk
 ·rename_i e hu;obtain⟨z,n,cc,hk,hp⟩:=Dh hk;obtain⟨hz,hk⟩:=Ae hk;refine⟨_,hk,Bm (Bn _ ?_)⟩;rcases Dv hp hx with⟨Bw,rfl,_⟩|⟨ad,cap,Bw,Wt,_⟩|⟨ad,cap,Bw,Wt,_,_⟩
  ·simp[Builtin.cap_,C3,Tq,run_underlying hu,Bw,goInt]
  ·rw[hz] at Wt;cases Wt
  ·rw[hz] at Wt;cases Wt
 ·cases hk
theorem MK (h:Bp N w0 X0 Y β s a w){c:Call}(ho:o.op=.call c)(hc:c.callee=.builtin .min){K:PV->Option R}
  (hk:(Aa c.args.toList fun x r=>Aa r fun y r'=>Ah r' (XL (A8 s.tm x) (A8 s.tm y) K))=some r):∃v,K v=some r∧Co P a w o Y β s v [] []:=by
 obtain⟨x,xs,Wv,hk⟩:=Ap hk;obtain⟨y,ys,rfl,hk⟩:=Ap hk;obtain⟨rfl,hk⟩:=B1 hk;obtain⟨k,n,hx,hk⟩:=Bx hk;obtain⟨m,hy,hk⟩:=Cq hk
 have C3:c.args = #[x,y]:=by
  have:c.args=([x,y]:List Operand).toArray:=by rw[←Wv]
  exact this
 refine⟨_,hk,Bm ?_⟩;unfold execOp;rw[ho];simp[resolve,hc,invoke,builtin,C3,Builtin.min_,Builtin.min2,Bj h hx,Bj h hy]
theorem PE (h:Bp N w0 X0 Y β s a w){c:Call}(ho:o.op=.call c)(hc:c.callee=.builtin .max){K:PV->Option R}
  (hk:(Aa c.args.toList fun x r=>Aa r fun y r'=>Ah r' (YQ (A8 s.tm x) (A8 s.tm y) K))=some r):∃v,K v=some r∧Co P a w o Y β s v [] []:=by
 obtain⟨x,xs,Wv,hk⟩:=Ap hk;obtain⟨y,ys,rfl,hk⟩:=Ap hk;obtain⟨rfl,hk⟩:=B1 hk;obtain⟨k,n,hx,hk⟩:=Bx hk;obtain⟨m,hy,hk⟩:=Cq hk
 have C3:c.args = #[x,y]:=by
  have:c.args=([x,y]:List Operand).toArray:=by rw[←Wv]
  exact this
 refine⟨_,hk,Bm ?_⟩;unfold execOp;rw[ho];simp[resolve,hc,invoke,builtin,C3,Builtin.max_,Builtin.max2,Bj h hx,Bj h hy]
theorem JB (h:Bp N w0 X0 Y β s a w){op:UnOp}{t:TypeId}{x:Operand}(ho:o.op=.unOp op t x){K:PV->Option R}(hk:unK op (A8 s.tm x) K=some r):
  ∃v,K v=some r∧Co P a w o Y β s v [] []:=by
 unfold unK at hk;split at hk
 ·obtain⟨b,hb,hk⟩:=B8 hk;refine⟨_,hk,Bm ?_⟩;unfold execOp;rw[ho];simp[Op.unary,Bj h hb]
 ·obtain⟨k,n,hb,hk⟩:=Bx hk;refine⟨_,hk,Bm ?_⟩;unfold execOp;rw[ho];simp[Op.unary,Op.intArith,Bj h hb]
 ·obtain⟨k,n,hb,hk⟩:=Bx hk;refine⟨_,hk,Bm ?_⟩;unfold execOp;rw[ho];simp[Op.unary,Op.intBits,Bj h hb,Afc]
 ·cases hk
theorem OQ {op:BinOp}{k:IntKind}{m n:Int}{t:TypeId}{x y:Operand}{K:PV->Option R}(VU:op ≠ .shl)(hs2:op ≠ .shr)(hk:Vh op k m n K=some r):
  ∃v,K (.sc v)=some r∧(do eqGuard op t x y (.int k m) (.int k n);binOp op t (.int k m) (.int k n)).run P w=.ok v w:=by
 cases op<;>first
  |exact absurd rfl VU
  |exact absurd rfl hs2
  |(obtain⟨hb,hk⟩:=Ae hk;have hb:=of_decide_eq_true hb;exact⟨_,hk,by simp[eqGuard,binOp,Op.intDiv,hb]⟩)
  |exact⟨_,hk,by simp[eqGuard,binOp,-BitVec.toNat_and,-BitVec.toNat_or,-BitVec.toNat_xor,-gt_iff_lt,-ge_iff_le]<;>rfl⟩
theorem NK {op:BinOp}{m n:ByteArray}{t:TypeId}{x y:Operand}{K:PV->Option R}(hk:Vw op m n K=some r):
  ∃v,K (.sc v)=some r∧(do eqGuard op t x y (.string m) (.string n);binOp op t (.string m) (.string n)).run P w=.ok v w:=by
 cases op<;>first
  |cases hk
  |(obtain⟨hb,hk⟩:=Ae hk;have hb:=of_decide_eq_true hb;exact⟨_,hk,by
    have Ep:¬(((m.size+n.size:Nat):Int)>IntKind.i64.max):=by
     have:IntKind.i64.max=9223372036854775807:=rfl;rw[this];omega
    simp only[eqGuard,binOp,Op.stringOp,if_neg Ep];rfl⟩)
  |exact⟨_,hk,by simp only[eqGuard,binOp,Op.stringOp,ByteArray.toList_eq];rfl⟩
end
open Go.RowKit
section
variable {R:Type} {r:R} {P:Program} {N:Nat} {w0:World} {X0:Ev} {Y:Nat->Prop} {β β':Bt} {s:St} {a:Act} {w w':World} {o:Oper} {A:Nat->Prop}
theorem U9 {t:TypeId}(hu:P.underlying t=some .bool)(x y:Bool):(Op.equal t (.bool x) (.bool y)).run P w=.ok (x==y) w:=by
 have h:∀d,(Op.equalIn (d+1) t (.bool x) (.bool y)).run P w=.ok (x==y) w:=fun d=>by simp[Op.equalIn,run_underlying hu]
 exact h 9999
theorem Ni {t e:TypeId}(hu:P.underlying t=some (.slice e)) (x:Option Addr)(n c:Nat):(Op.equal t (.slice x n c) (.slice none 0 0)).run P w=.ok x.isNone w:=by
 have h:∀d,(Op.equalIn (d+1) t (.slice x n c) (.slice none 0 0)).run P w=.ok x.isNone w:=fun d=>by
  cases x<;>simp[Op.equalIn,run_underlying hu]
 exact h 9999
theorem Fp {t:TypeId}(d:Nat){v u:Value}(hv:(∃k m n,P.underlying t=some (.int k)∧v=.int k m∧u=.int k n)∨(∃m n,P.underlying t=some .bool∧v=.bool m∧u=.bool n)∨∃m n,P.underlying t=some .string∧v=.string m∧u=.string n) {b:Bool}
  (hb:∀k m n,v=.int k m->u=.int k n->b=(m==n)) (Ep:∀m n,v=.bool m->u=.bool n->b=(m==n)) (Ah7:∀m n,v=.string m->u=.string n->b=(m==n)):(Op.equalIn (d+1) t v u).run P w=.ok b w:=by
 rcases hv with⟨k,m,n,hu,rfl,rfl⟩|⟨m,n,hu,rfl,rfl⟩|⟨m,n,hu,rfl,rfl⟩
 ·rw[hb k m n rfl rfl];simp[Op.equalIn,run_underlying hu]
 ·rw[Ep m n rfl rfl];simp[Op.equalIn,run_underlying hu]
 ·rw[Ah7 m n rfl rfl];simp[Op.equalIn,run_underlying hu]
theorem K4 {t:TypeId}{dsc:TypeDesc}(hu:P.underlying t=some dsc)(hd:A9 P t=false){xs:Array Value}{i:Nat}{v:Value}(hv:xs[i]?=some v):(part t xs i).run P w=.ok v w:=by
 simp only[part,Sem.run_bind,Im hu,hd,Result.andThen_ok];simp[hv]
theorem X5 (k:IntKind)(n:Int)(K:Int->Option R):Ag k (.sc (.int k n)) K=K n:=by simp[Ag]
theorem FG (d : Nat) : ∀ (fs : List Field) (i : Nat) (xs ys : Array Value) (ps qs : List PV) (K : Bool -> Option R), EQ P fs i = true -> Ha (fs.map (UV P)) ps qs K = some r ->
    (∀ (j : Nat) p, ps[j]? = some p -> ∃ v, xs[i + j]? = some v ∧ A6 w A β p v) -> (∀ (j : Nat) p, qs[j]? = some p -> ∃ v, ys[i + j]? = some v ∧ A6 w A β p v) ->
    ∃ b, K b = some r ∧ (forIn fs ((none, ()) : Option Bool × Unit) fun (f : Field) (_ : Option Bool × Unit) =>
            if f.name = "_" then pure (ForInStep.yield ((none, ()) : Option Bool × Unit))
            else do
              let x ← part f.type xs f.offset
              let y ← part f.type ys f.offset
              let e ← Op.equalIn (d + 1) f.type x y
              if e = false then pure (ForInStep.done ((some false, ()) : Option Bool × Unit)) else pure (ForInStep.yield ((none, ()) : Option Bool × Unit)) : Sem (Option Bool × Unit)).run P w = .ok (if b then (none, ()) else (some false, ())) w
  | [], i, xs, ys, ps, qs, K, _, hk, _, _ => by
    cases ps with
    | nil => cases qs with
      | nil => exact⟨true, hk, by simp⟩
      | cons q qs => cases hk
    | cons p ps => cases hk
  | f :: fs, i, xs, ys, ps, qs, K, Xz, hk, hp, hq => by
    simp only[EQ, Bool.and_eq_true] at Xz
    obtain⟨⟨⟨J5, UI⟩, ZR⟩, On⟩ := Xz
    have J5 := Nat.eq_of_beq_eq_true J5
    have Uu : f.name ≠ "_" := by simpa using UI
    cases ps with
    | nil =>
      simp only[List.map_cons] at hk
      cases Aba : UV P f <;> rw[Aba] at hk <;> cases hk
    | cons p ps =>
      cases qs with
      | nil =>
        simp only[List.map_cons] at hk
        cases Aba : UV P f <;> rw[Aba] at hk <;> cases hk
      | cons q qs =>
        obtain⟨v, hv, R1⟩ := hp 0 p rfl
        obtain⟨u, hu, hqu⟩ := hq 0 q rfl
        rw[Nat.add_zero] at hv hu
        have main : ∃ b0 dsc, P.underlying f.type = some dsc ∧ A9 P f.type = false ∧ (Op.equalIn (d + 1) f.type v u).run P w = .ok b0 w ∧ Ha (fs.map (UV P)) ps qs (fun r => K (b0 && r)) = some r := by
          simp only[List.map_cons] at hk
          unfold UV at hk
          split at hk
          · rename_i k F9
            obtain⟨m, X9, Ck⟩ := Cq (show Ag k p _ = some r from hk)
            obtain⟨n, Ww, C9⟩ := Cq Ck
            subst X9 Ww
            have Je : v = .int k m := Ao.val (w := w) (A := A) R1
            have Fs : u = .int k n := Ao.val (w := w) (A := A) hqu
            subst Je Fs
            refine⟨m == n, _, F9, by simp[A9, F9], Fp d (.inl ⟨k, m, n, F9, rfl, rfl⟩) ?_ ?_ ?_, C9⟩
            · intro k' m' n' h1 h2; injection h1 with _ h1; injection h2 with _ h2; rw[h1, h2]
            · intro m' n' h1; cases h1
            · intro m' n' h1; cases h1
          · rename_i F9
            obtain⟨m, X9, Ck⟩ := B8 (show A7 p _ = some r from hk)
            obtain⟨n, Ww, C9⟩ := B8 Ck
            subst X9 Ww
            have Je : v = .bool m := Ao.val (w := w) (A := A) R1
            have Fs : u = .bool n := Ao.val (w := w) (A := A) hqu
            subst Je Fs
            refine⟨m == n, _, F9, by simp[A9, F9], Fp d (.inr (.inl ⟨m, n, F9, rfl, rfl⟩)) ?_ ?_ ?_, C9⟩
            · intro k' m' n' h1; cases h1
            · intro m' n' h1 h2; injection h1 with h1; injection h2 with h2; rw[h1, h2]
            · intro m' n' h1; cases h1
          · rename_i F9
            obtain⟨m, X9, Ck⟩ := Ca (show Er p _ = some r from hk)
            obtain⟨n, Ww, C9⟩ := Ca Ck
            subst X9 Ww
            have Je : v = .string m := Ao.val (w := w) (A := A) R1
            have Fs : u = .string n := Ao.val (w := w) (A := A) hqu
            subst Je Fs
            refine⟨m == n, _, F9, by simp[A9, F9], Fp d (.inr (.inr ⟨m, n, F9, rfl, rfl⟩)) ?_ ?_ ?_, C9⟩
            · intro k' m' n' h1; cases h1
            · intro m' n' h1; cases h1
            · intro m' n' h1 h2; injection h1 with h1; injection h2 with h2; rw[h1, h2]
          · cases hk
        obtain⟨b0, dsc, F9, Dp, he, hk⟩ := main
        obtain⟨b, VE, Bn⟩ := FG d fs (i + 1) xs ys ps qs _ On hk (fun j p' hj => by have := hp (j + 1) p' hj; rwa [Nat.add_assoc, Nat.add_comm 1 j]) (fun j p' hj => by have := hq (j + 1) p' hj; rwa [Nat.add_assoc, Nat.add_comm 1 j])
        refine⟨b0 && b, VE, ?_⟩
        have hpx : (part f.type xs f.offset).run P w = .ok v w := K4 F9 Dp (by rw[J5]; exact hv)
        have hpy : (part f.type ys f.offset).run P w = .ok u w := K4 F9 Dp (by rw[J5]; exact hu)
        cases b0
        · simp[List.forIn_cons, Uu, hpx, hpy, he]
        · simp only[Bool.true_and]
          rw[← Bn]
          simp[List.forIn_cons, Uu, hpx, hpy, he]
theorem Tw (d:Nat){t:TypeId}{fs:Array Field}(hu:P.underlying t=some (.struct fs)) (I5:P.stoodInHeld t=false)(Xz:EQ P fs.toList 0=true){xs ys:List PV}{vx vy:List Value}
  (YY:Au (A6 w A β) xs vx) (hvy:Au (A6 w A β) ys vy) {K:Bool->Option R}(hk:Ha (fs.toList.map (UV P)) xs ys K=some r):
  ∃b,K b=some r∧(Op.equalIn (d+2) t (.agg ⟨vx⟩) (.agg ⟨vy⟩)).run P w=.ok b w:=by
 obtain⟨b,VE,Bn⟩:=FG (P:=P) (w:=w) (A:=A) (β:=β) d fs.toList 0 ⟨vx⟩ ⟨vy⟩ xs ys K Xz hk (fun j p hj=>by
   obtain⟨v,hv,hc⟩:=YY.get hj;exact⟨v,by simpa using hv,hc⟩) (fun j p hj=>by
   obtain⟨v,hv,hc⟩:=hvy.get hj;exact⟨v,by simpa using hv,hc⟩)
 refine⟨b,VE,?_⟩;rw[Array.forIn_toList] at Bn;rw[Op.equalIn];simp[run_underlying hu,I5];rw[Bn];cases b<;>simp
theorem Qg:∀(ts1:List CT){ts2:List CT}{ps qs:List PV}{K:Bool->Option R},Ha (ts1++ts2) ps qs K=some r ->
  Ha ts1 (ps.take ts1.length) (qs.take ts1.length) (fun b=>Ha ts2 (ps.drop ts1.length) (qs.drop ts1.length) fun r'=>K (b&&r'))=some r
 |[],ts2,ps,qs,K,h=>by
  simp only[List.length_nil,List.take_zero,List.drop_zero,Ha,Bool.true_and];exact h
 |t::ts1,ts2,ps,qs,K,h=>by
  rw[List.cons_append] at h;cases ps with
  |nil=>cases t<;>cases h
  |cons p ps=>
   cases qs with
   |nil=>cases t<;>cases h
   |cons q qs=>
    simp only[List.length_cons,List.take_succ_cons,List.drop_succ_cons];cases t with
    |int k=>
     obtain⟨m,X9,h1⟩:=Cq (show Ag k p _=some r from h)
     obtain⟨n,Ww,h2⟩:=Cq h1;subst X9 Ww;have:=Qg ts1 h2;simp only[←Bool.and_assoc] at this;exact (X5 _ _ _).trans ((X5 _ _ _).trans this)
    |bool=>
     obtain⟨m,X9,h1⟩:=B8 (show A7 p _=some r from h)
     obtain⟨n,Ww,h2⟩:=B8 h1;subst X9 Ww;have:=Qg ts1 h2;simp only[←Bool.and_assoc] at this;exact this
    |str=>
     obtain⟨m,X9,h1⟩:=Ca (show Er p _=some r from h)
     obtain⟨n,Ww,h2⟩:=Ca h1;subst X9 Ww;have:=Qg ts1 h2;simp only[←Bool.and_assoc] at this;exact this
    |sl es=>cases h
    |any=>cases h
theorem FA:∀(ts:List CT){ps qs:List PV}{K:Bool->Option R},Ha ts ps qs K=some r->ps.length=ts.length∧qs.length=ts.length
 |[],ps,qs,K,h=>by
  cases ps with
  |nil=>cases qs with
   |nil=>exact⟨rfl,rfl⟩
   |cons q qs=>cases h
  |cons p ps=>cases h
 |t::ts,ps,qs,K,h=>by
  cases ps with
  |nil=>cases t<;>cases h
  |cons p ps=>
   cases qs with
   |nil=>cases t<;>cases h
   |cons q qs=>
    have go:∃K',Ha ts ps qs K'=some r:=by
     cases t with
     |int k=>
      obtain⟨m,X9,h1⟩:=Cq (show Ag k p _=some r from h)
      obtain⟨n,Ww,h2⟩:=Cq h1;exact⟨_,h2⟩
     |bool=>
      obtain⟨m,X9,h1⟩:=B8 (show A7 p _=some r from h)
      obtain⟨n,Ww,h2⟩:=B8 h1;exact⟨_,h2⟩
     |str=>
      obtain⟨m,X9,h1⟩:=Ca (show Er p _=some r from h)
      obtain⟨n,Ww,h2⟩:=Ca h1;exact⟨_,h2⟩
     |sl es=>cases h
     |any=>cases h
    obtain⟨K',h'⟩:=go;have:=FA ts h';exact⟨by simp[this.1],by simp[this.2]⟩
theorem CI {t:TypeId}{dsc:TypeDesc}(hu:P.underlying t=some dsc)(hd:A9 P t=true)(hi:(P.info? t).isSome=true) (xs:Array Value)(i:Nat):(part t xs i).run P w=.ok (.agg (xs.extract i (i+Aq P t))) w:=by
 simp only[part,Sem.run_bind,Im hu,hd,Result.andThen_ok,if_true,Bo hi];rfl
theorem Ya {xs:Array Value}{i n:Nat}{ps:List PV}(hn:n<=ps.length)(hp:∀(j:Nat) p,ps[j]?=some p->∃v,xs[i+j]?=some v∧A6 w A β p v):Au (A6 w A β) (ps.take n) (xs.extract i (i+n)).toList:=by
 rcases Nat.eq_zero_or_pos n with h0|h0
 ·subst h0;simp[Au]
 have hl:n-1<ps.length:=by omega
 obtain⟨v,hv,_⟩:=hp (n-1) _ (List.getElem?_eq_getElem hl);have Ik:=(Array.getElem?_eq_some_iff.1 hv).1;refine Au.of_at (by simp;omega) fun j a b ha hb=>?_
 rw[List.getElem?_take] at ha;split at ha
 ·rename_i hj;obtain⟨v,hv,hc⟩:=hp j a ha;rw[Array.getElem?_toList,Array.getElem?_extract] at hb;split at hb
  ·rw[hv] at hb;cases hb;exact hc
  ·cases hb
 ·cases ha
theorem Tj {f:Field}{gs:Array Field}(hu:P.underlying f.type=some (.struct gs)):FR P f=gs.toList.map (UV P):=by unfold FR;rw[hu]
theorem HV {f:Field}(h:∀gs,P.underlying f.type≠some (.struct gs)):FR P f=[UV P f]:=by
 unfold FR;split
 ·rename_i gs hu;exact absurd hu (h gs)
 ·rfl
theorem JX (d : Nat) : ∀ (fs : List Field) (i : Nat) (xs ys : Array Value) (ps qs : List PV) (K : Bool -> Option R), Io P fs i = true -> Ha (Oc P fs) ps qs K = some r ->
    (∀ (j : Nat) p, ps[j]? = some p -> ∃ v, xs[i + j]? = some v ∧ A6 w A β p v) -> (∀ (j : Nat) p, qs[j]? = some p -> ∃ v, ys[i + j]? = some v ∧ A6 w A β p v) ->
    ∃ b, K b = some r ∧ (forIn fs ((none, ()) : Option Bool × Unit) fun (f : Field) (_ : Option Bool × Unit) =>
            if f.name = "_" then pure (ForInStep.yield ((none, ()) : Option Bool × Unit))
            else do
              let x ← part f.type xs f.offset
              let y ← part f.type ys f.offset
              let e ← Op.equalIn (d + 2) f.type x y
              if e = false then pure (ForInStep.done ((some false, ()) : Option Bool × Unit)) else pure (ForInStep.yield ((none, ()) : Option Bool × Unit)) : Sem (Option Bool × Unit)).run P w = .ok (if b then (none, ()) else (some false, ())) w
  | [], i, xs, ys, ps, qs, K, _, hk, _, _ => by
    cases ps with
    | nil => cases qs with
      | nil => exact⟨true, hk, by simp⟩
      | cons q qs => cases hk
    | cons p ps => cases hk
  | f :: fs, i, xs, ys, ps, qs, K, Xz, hk, hp, hq => by
    simp only[Io, Bool.and_eq_true] at Xz
    obtain⟨⟨J5, UI⟩, ZR⟩ := Xz
    have J5 := Nat.eq_of_beq_eq_true J5
    have Uu : f.name ≠ "_" := by simpa using UI
    have main : ∃ b0 v u n, (part f.type xs f.offset).run P w = .ok v w ∧ (part f.type ys f.offset).run P w = .ok u w ∧ (Op.equalIn (d + 2) f.type v u).run P w = .ok b0 w ∧ Io P fs (i + n) = true ∧ Ha (Oc P fs) (ps.drop n) (qs.drop n) (fun r' => K (b0 && r')) = some r := by
      have hk := Qg (FR P f) (show Ha (FR P f ++ Oc P fs) ps qs K = some r from hk)
      have Cy := FA _ hk
      rw[List.length_take, List.length_take] at Cy
      have plain : (∀ gs, P.underlying f.type ≠ some (.struct gs)) -> Io P fs (i + 1) = true -> (match P.underlying f.type with | some (.int _) => true | some .bool => true | some .string => true | _ => false) = true ->
          ∃ b0 v u n, (part f.type xs f.offset).run P w = .ok v w ∧ (part f.type ys f.offset).run P w = .ok u w ∧ (Op.equalIn (d + 2) f.type v u).run P w = .ok b0 w ∧ Io P fs (i + n) = true ∧ Ha (Oc P fs) (ps.drop n) (qs.drop n) (fun r' => K (b0 && r')) = some r := by
        intro hs Adg Ue
        rw[HV hs] at hk Cy
        simp only[List.length_singleton] at hk Cy
        obtain⟨p, ps, rfl⟩ : ∃ p ps', ps = p :: ps' := by
          cases ps with
          | nil => simp at Cy
          | cons p ps => exact⟨p, ps, rfl⟩
        obtain⟨q, qs, rfl⟩ : ∃ q qs', qs = q :: qs' := by
          cases qs with
          | nil => simp at Cy
          | cons q qs => exact⟨q, qs, rfl⟩
        obtain⟨v, hv, R1⟩ := hp 0 p rfl
        obtain⟨u, hu, hqu⟩ := hq 0 q rfl
        rw[Nat.add_zero] at hv hu
        simp only[List.take_succ_cons, List.take_zero, List.drop_succ_cons, List.drop_zero] at hk ⊢
        have one : ∃ b0 dsc, P.underlying f.type = some dsc ∧ A9 P f.type = false ∧ (Op.equalIn (d + 2) f.type v u).run P w = .ok b0 w ∧ Ha (Oc P fs) ps qs (fun r' => K (b0 && r')) = some r := by
          unfold UV at hk
          split at hk
          · rename_i k F9
            obtain⟨m, X9, Ck⟩ := Cq (show Ag k p _ = some r from hk)
            obtain⟨n, Ww, C9⟩ := Cq Ck
            subst X9 Ww
            have Je : v = .int k m := Ao.val (w := w) (A := A) R1
            have Fs : u = .int k n := Ao.val (w := w) (A := A) hqu
            subst Je Fs
            have e : ∀ b : Bool, (b && true) = b := Bool.and_true
            simp only[Ha, e] at C9
            refine⟨m == n, _, F9, by simp[A9, F9], Fp (d + 1) (.inl ⟨k, m, n, F9, rfl, rfl⟩) ?_ ?_ ?_, C9⟩
            · intro k' m' n' h1 h2; injection h1 with _ h1; injection h2 with _ h2; rw[h1, h2]
            · intro m' n' h1; cases h1
            · intro m' n' h1; cases h1
          · rename_i F9
            obtain⟨m, X9, Ck⟩ := B8 (show A7 p _ = some r from hk)
            obtain⟨n, Ww, C9⟩ := B8 Ck
            subst X9 Ww
            have Je : v = .bool m := Ao.val (w := w) (A := A) R1
            have Fs : u = .bool n := Ao.val (w := w) (A := A) hqu
            subst Je Fs
            have e : ∀ b : Bool, (b && true) = b := Bool.and_true
            simp only[Ha, e] at C9
            refine⟨m == n, _, F9, by simp[A9, F9], Fp (d + 1) (.inr (.inl ⟨m, n, F9, rfl, rfl⟩)) ?_ ?_ ?_, C9⟩
            · intro k' m' n' h1; cases h1
            · intro m' n' h1 h2; injection h1 with h1; injection h2 with h2; rw[h1, h2]
            · intro m' n' h1; cases h1
          · rename_i F9
            obtain⟨m, X9, Ck⟩ := Ca (show Er p _ = some r from hk)
            obtain⟨n, Ww, C9⟩ := Ca Ck
            subst X9 Ww
            have Je : v = .string m := Ao.val (w := w) (A := A) R1
            have Fs : u = .string n := Ao.val (w := w) (A := A) hqu
            subst Je Fs
            have e : ∀ b : Bool, (b && true) = b := Bool.and_true
            simp only[Ha, e] at C9
            refine⟨m == n, _, F9, by simp[A9, F9], Fp (d + 1) (.inr (.inr ⟨m, n, F9, rfl, rfl⟩)) ?_ ?_ ?_, C9⟩
            · intro k' m' n' h1; cases h1
            · intro m' n' h1; cases h1
            · intro m' n' h1 h2; injection h1 with h1; injection h2 with h2; rw[h1, h2]
          · cases hk
        obtain⟨b0, dsc, F9, Dp, he, hk⟩ := one
        exact⟨b0, v, u, 1, K4 F9 Dp (by rw[J5]; exact hv), K4 F9 Dp (by rw[J5]; exact hu), he, Adg, by simpa using hk⟩
      split at ZR
      · rename_i k F9
        exact plain (fun gs e => by rw[F9] at e; cases e) ZR (by rw[F9])
      · rename_i F9
        exact plain (fun gs e => by rw[F9] at e; cases e) ZR (by rw[F9])
      · rename_i F9
        exact plain (fun gs e => by rw[F9] at e; cases e) ZR (by rw[F9])
      · rename_i gs F9
        simp only[Bool.and_eq_true, Bool.not_eq_true'] at ZR
        obtain⟨⟨⟨⟨hfp, I5⟩, hi⟩, Ik⟩, On⟩ := ZR
        have Ik := Nat.eq_of_beq_eq_true Ik
        have J0 : (FR P f).length = gs.size := by rw[Tj F9, List.length_map, Array.length_toList]
        rw[J0] at hk Cy
        rw[Tj F9] at hk
        have hx := Ya (n := gs.size) (by omega) hp
        have hy := Ya (n := gs.size) (by omega) hq
        obtain⟨b0, VE, he⟩ := Tw d F9 I5 hfp hx hy hk
        have ha : A9 P f.type = true := by simp[A9, F9]
        exact⟨b0, _, _, gs.size, by rw[CI F9 ha hi, J5, Ik], by rw[CI F9 ha hi, J5, Ik], he, On, VE⟩
      · cases ZR
    obtain⟨b0, v, u, n, hpx, hpy, he, Adg, hk⟩ := main
    obtain⟨b, VE, Bn⟩ := JX d fs (i + n) xs ys (ps.drop n) (qs.drop n) _ Adg hk (fun j p' hj => by rw[List.getElem?_drop] at hj; have := hp (n + j) p' hj; rwa [← Nat.add_assoc] at this) (fun j p' hj => by rw[List.getElem?_drop] at hj; have := hq (n + j) p' hj; rwa [← Nat.add_assoc] at this)
    refine⟨b0 && b, VE, ?_⟩
    cases b0
    · simp[List.forIn_cons, Uu, hpx, hpy, he]
    · simp only[Bool.true_and]
      rw[← Bn]
      simp[List.forIn_cons, Uu, hpx, hpy, he]
theorem V0 (d:Nat){t:TypeId}{fs:Array Field}(hu:P.underlying t=some (.struct fs)) (I5:P.stoodInHeld t=false)(Xz:Io P fs.toList 0=true){xs ys:List PV}{vx vy:List Value}
  (YY:Au (A6 w A β) xs vx) (hvy:Au (A6 w A β) ys vy) {K:Bool->Option R}(hk:Ha (Oc P fs.toList) xs ys K=some r):
  ∃b,K b=some r∧(Op.equalIn (d+3) t (.agg ⟨vx⟩) (.agg ⟨vy⟩)).run P w=.ok b w:=by
 obtain⟨b,VE,Bn⟩:=JX (P:=P) (w:=w) (A:=A) (β:=β) d fs.toList 0 ⟨vx⟩ ⟨vy⟩ xs ys K Xz hk (fun j p hj=>by
   obtain⟨v,hv,hc⟩:=YY.get hj;exact⟨v,by simpa using hv,hc⟩) (fun j p hj=>by
   obtain⟨v,hv,hc⟩:=hvy.get hj;exact⟨v,by simpa using hv,hc⟩)
 refine⟨b,VE,?_⟩;rw[Array.forIn_toList] at Bn;rw[Op.equalIn];simp[run_underlying hu,I5];rw[Bn];cases b<;>simp
theorem X6 (h:Bp N w0 X0 Y β s a w){t:TypeId}{fs:Array Field}{x y:Operand}{op:BinOp}(PY:op=.eql∨op=.neq)(hu:P.underlying t=some (.struct fs)) (Xz:BH P t fs=true){xs ys:List PV}
  (hx:A8 s.tm x=.agg xs)(hy:A8 s.tm y=.agg ys){K:Bool->Option R}(hk:Ha (Oc P fs.toList) xs ys K=some r):
  ∃b,K b=some r∧(do eqGuard op t x y (a.eval x) (a.eval y);binOp op t (a.eval x) (a.eval y)).run P w=.ok (.bool (if op=.eql then b else !b)) w:=by
 have ZS:=Bs h x;have LB:=Bs h y;rw[hx] at ZS;rw[hy] at LB;obtain⟨vx,Bw,YY⟩:=ZS;obtain⟨vy,hay,hvy⟩:=LB;simp only[BH,Bool.and_eq_true,Bool.not_eq_true'] at Xz;obtain⟨⟨Xz,I5⟩,heg⟩:=Xz;obtain⟨b,VE,heq⟩:=V0 9997 hu I5 Xz YY hvy hk;have heq:(Op.equal t (.agg ⟨vx⟩) (.agg ⟨vy⟩)).run P w=.ok b w:=heq;refine⟨b,VE,?_⟩;rw[Bw,hay];rcases PY with rfl|rfl
 ·simp[eqGuard,binOp,heq,heg]
 ·simp[eqGuard,binOp,heq,heg]
theorem DZ (h:Bp N w0 X0 Y β s a w){op:BinOp}{t ty:TypeId}{x y:Operand}(ho:o.op=.binOp op t x y ty){K:PV->Option R}
  (hk:Nq P op t (A8 s.tm x) (A8 s.tm y) K=some r):∃v,K v=some r∧Co P a w o Y β s v [] []:=by
 have Bn:∀v,(do eqGuard op t x y (a.eval x) (a.eval y);binOp op t (a.eval x) (a.eval y)).run P w=.ok v w->(execOp a.eval o).run P w=.ok (.value v) w:=by
  intro v hv;unfold execOp;rw[ho];simp only[Sem.run_bind] at hv ⊢;rw[hv];rfl
 unfold Nq at hk;split at hk
 ·rename_i fs hu;split at hk
  ·obtain⟨Xz,hk⟩:=Ae hk;obtain⟨xs,hx,hk⟩:=Eh hk;obtain⟨ys,hy,hk⟩:=Eh hk;obtain⟨b,hk,hr⟩:=X6 h (.inl rfl) hu Xz hx hy hk;exact⟨_,hk,Bm (Bn _ (by rw[hr];rfl))⟩
  ·obtain⟨Xz,hk⟩:=Ae hk;obtain⟨xs,hx,hk⟩:=Eh hk;obtain⟨ys,hy,hk⟩:=Eh hk;obtain⟨b,hk,hr⟩:=X6 h (.inr rfl) hu Xz hx hy hk;exact⟨_,hk,Bm (Bn _ (by rw[hr];rfl))⟩
  ·cases hk
 ·unfold QB at hk;split at hk
  ·rename_i k hu;split at hk
   ·obtain⟨m,hx,hk⟩:=Cq hk;obtain⟨k2,n,hy,hk⟩:=Bx hk;obtain⟨hb,hk⟩:=Ae hk;have hb:=of_decide_eq_true hb;refine⟨_,hk,Bm (Bn _ ?_)⟩;have:¬n<0:=by omega
    simp[eqGuard,binOp,Op.shift,Bj h hx,Bj h hy,this]
   ·obtain⟨m,hx,hk⟩:=Cq hk;obtain⟨k2,n,hy,hk⟩:=Bx hk;obtain⟨hb,hk⟩:=Ae hk;have hb:=of_decide_eq_true hb;refine⟨_,hk,Bm (Bn _ ?_)⟩;have:¬n<0:=by omega
    simp[eqGuard,binOp,Op.shift,Bj h hx,Bj h hy,this]
   ·rename_i VU hs2;obtain⟨m,hx,hk⟩:=Cq hk;obtain⟨n,hy,hk⟩:=Cq hk;obtain⟨v,hk,hr⟩:=OQ (P:=P) (w:=w) (t:=t) (x:=x) (y:=y) VU hs2 hk;exact⟨_,hk,Bm (Bn _ (by rw[Bj h hx,Bj h hy];exact hr))⟩
  ·rename_i hu;obtain⟨m,hx,hk⟩:=Ca hk;obtain⟨n,hy,hk⟩:=Ca hk;obtain⟨v,hk,hr⟩:=NK (P:=P) (w:=w) (t:=t) (x:=x) (y:=y) hk;exact⟨_,hk,Bm (Bn _ (by rw[Bj h hx,Bj h hy];exact hr))⟩
  ·rename_i hu;split at hk
   ·obtain⟨m,hx,hk⟩:=B8 hk;obtain⟨n,hy,hk⟩:=B8 hk;refine⟨_,hk,Bm (Bn _ ?_)⟩;simp[eqGuard,binOp,Bj h hx,Bj h hy,U9 hu]
   ·obtain⟨m,hx,hk⟩:=B8 hk;obtain⟨n,hy,hk⟩:=B8 hk;refine⟨_,hk,Bm (Bn _ ?_)⟩;simp[eqGuard,binOp,Bj h hx,Bj h hy,U9 hu]
   ·cases hk
  ·rename_i e hu;have hx:=Bs h x
   have nilQ:∀{e:Bool} {K':PV->Option R},V9 e (A8 s.tm x) K'=some r->∃q ad n c,K' q=some r∧a.eval x=.slice ad n c∧(q=.sc (.bool (if ad.isNone then e else !e))∨q=.ub):=by
    intro e K' hq;unfold V9 at hq;split at hq
    ·rename_i e';exact⟨_,none,0,0,hq,Bj h e',.inl rfl⟩
    ·rename_i z es n c e';rcases Dv (.inl e') hx with⟨Bw,rfl,_⟩|⟨ad,cap,Bw,rfl,_⟩|⟨ad,cap,Bw,rfl,rfl,_⟩
     ·rcases Ia hq with⟨_,hq⟩|⟨_,hq⟩
      ·exact⟨_,none,0,0,hq,Bw,.inl rfl⟩
      ·rcases Ia hq with⟨hb,_⟩|⟨_,hq⟩
       ·exact absurd (of_decide_eq_true hb) (by omega)
       ·exact⟨_,none,0,0,hq,Bw,.inr rfl⟩
     ·rcases Ia hq with⟨hz,_⟩|⟨_,hq⟩
      ·cases hz
      ·rcases Ia hq with⟨_,hq⟩|⟨_,hq⟩
       ·exact⟨_,some ad,n,cap,hq,Bw,.inl rfl⟩
       ·exact⟨_,some ad,n,cap,hq,Bw,.inr rfl⟩
     ·rcases Ia hq with⟨hz,_⟩|⟨_,hq⟩
      ·cases hz
      ·rcases Ia hq with⟨hb,_⟩|⟨_,hq⟩
       ·exact absurd (of_decide_eq_true hb) (by omega)
       ·exact⟨_,some ad,0,cap,hq,Bw,.inr rfl⟩
    ·rename_i id es off n e';rw[e'] at hx;rcases hx with⟨_,_,rfl,ad,Bw⟩|⟨b,ob,y',cap,_,Bw,_⟩
     ·rcases Ia hq with⟨hb,_⟩|⟨_,hq⟩
      ·exact absurd (of_decide_eq_true hb) (by omega)
      ·exact⟨_,ad,0,0,hq,Bw,.inr rfl⟩
     ·rcases Ia hq with⟨_,hq⟩|⟨_,hq⟩
      ·exact⟨_,_,n,cap,hq,Bw,.inl rfl⟩
      ·exact⟨_,_,n,cap,hq,Bw,.inr rfl⟩
    ·cases hq
   split at hk
   ·rename_i hy;obtain⟨q,ad,n,c,hk,Bw,hb⟩:=nilQ hk;rcases hb with rfl|rfl
    ·refine⟨_,hk,Bm (Bn _ ?_)⟩;cases ad<;>simp[eqGuard,binOp,Bw,Bj h hy,Ni hu]
    ·refine⟨_,hk,Ba (val:=.bool ad.isNone) (Bn _ ?_) (Ao.ub _) (by intro i hi;cases hi)⟩
     simp[eqGuard,binOp,Bw,Bj h hy,Ni hu]
   ·rename_i hy;obtain⟨q,ad,n,c,hk,Bw,hb⟩:=nilQ hk;rcases hb with rfl|rfl
    ·refine⟨_,hk,Bm (Bn _ ?_)⟩;cases ad<;>simp[eqGuard,binOp,Bw,Bj h hy,Ni hu]
    ·refine⟨_,hk,Ba (val:=.bool !ad.isNone) (Bn _ ?_) (Ao.ub _) (by intro i hi;cases hi)⟩
     simp[eqGuard,binOp,Bw,Bj h hy,Ni hu]
   ·cases hk
  ·cases hk
end
open Go.RowKit
section
variable {R:Type} {r:R} {P:Program} {N:Nat} {w0:World} {X0:Ev} {Y:Nat->Prop} {β β':Bt} {s:St} {a:Act} {w w':World} {o:Oper} {A:Nat->Prop}
theorem M4:∀{c:List PV}{l:List UInt8},bytesOf c=some l->∃ns:List Int,c=ns.map (fun n=>.sc (.int .u8 n))∧l=ns.map fun n=>n.toNat.toUInt8
 |[],l,h=>⟨[],rfl,by simp[bytesOf] at h;subst h;rfl⟩
 |p::c,l,h=>by
  unfold bytesOf at h;split at h
  ·rename_i e;cases e
  ·rename_i n r e;cases e;cases hr:bytesOf c with
   |none=>rw[hr] at h;cases h
   |some l'=>
    rw[hr] at h;simp at h;obtain⟨ns,rfl,rfl⟩:=M4 hr;exact⟨n::ns,rfl,h.symm⟩
  ·cases h
theorem Lv:∀(ns:List Int)(b:ByteArray),ns.foldl (fun r n=>r.push (UInt8.ofNat n.toNat)) b=⟨b.data++(ns.map fun n=>n.toNat.toUInt8).toArray⟩
 |[],b=>by simp
 |n::ns,b=>by
  simp only[List.foldl_cons];rw[Lv ns];simp[ByteArray.push]
theorem DY (h:Bp N w0 X0 Y β s a w){es:Nat}{x:Operand}{K:Nat->List PV->Option R}(hk:IV (Gb s.hp) es (A8 s.tm x) K=some r):
  ∃n c,K n c=some r∧(((∃ad,a.eval x=.slice ad 0 0)∧n=0∧c=[])∨∃ad cap,a.eval x=.slice (some ad) n cap∧n<=cap∧(c=[]∨ad.block<w.heap.size)∧BO w (Bv s.hp β Y) ad c):=by
 have hx:=Bs h x;have Wy:=Cz h x;unfold IV at hk;split at hk
 ·rename_i id es' off n e;rw[e] at hx Wy;cases hb:Nat.beq es' es
  ·rw[hb] at hk;cases hk
  ·rw[hb] at hk;obtain⟨c,hc,hk⟩:=Bl (show C7 _ _=some r from hk)
   obtain⟨hl,hk⟩:=Ae hk;have hl:=of_decide_eq_true hl;obtain⟨f,PH⟩:=BF hc;refine⟨_,_,hk,?_⟩;rcases hx with⟨_,rfl,rfl,ad,Bw⟩|⟨b,ob,y,cap,hβ,Bw,hy,hn,_,Bk⟩
   ·exact .inl ⟨⟨ad,Bw⟩,rfl,by simp⟩
   ·refine .inr ⟨_,cap,Bw,hn,.inr Bk,fun j p hj=>?_⟩
    have Afs:0<n*es:=by
     rcases Nat.eq_zero_or_pos (n*es) with h0|h0
     ·rw[h0] at hj;simp at hj
     ·exact h0
    have GC:n≠0:=by rintro rfl;simp at Afs
    have hy:y=ob+off:=by rcases hy with hy|⟨h0,_⟩<;>omega
    subst hy;rw[List.getElem?_take] at hj;split at hj
    ·rw[List.getElem?_drop] at hj;rcases h.box id _ PH with⟨h1,_⟩|⟨b',o',h1,h2,_⟩
     ·rw[hβ] at h1;cases h1
     ·rw[hβ] at h1;simp at h1;obtain⟨rfl,rfl⟩:=h1
      obtain⟨v,hv,h3,ht⟩:=h2 (off+j) p hj;rw[B6] at hv;exact⟨v,by rw[B6,Nat.add_assoc];exact hv,h3,ht⟩
    ·cases hj
 ·obtain⟨z,n,c,hk,hp⟩:=Dh hk;refine⟨n,c,hk,?_⟩;rcases Dv hp hx with h1|⟨ad,cap,Bw,_,hn,h1,h2,_,h4⟩|⟨ad,cap,Bw,_,rfl,rfl⟩
  ·exact .inl ⟨⟨none,h1.1⟩,h1.2⟩
  ·exact .inr ⟨ad,cap,Bw,hn,.inr h2,h4⟩
  ·exact .inr ⟨ad,cap,Bw,Nat.zero_le _,.inl rfl,fun j c hj=>by simp at hj⟩
theorem MB (b:ByteArray)(j:Nat)(p:PV)(h:(D2 b)[j]?=some p):∃x,b.data[j]?=some x∧p=.sc (.int .u8 x.toNat):=by
 unfold D2 at h;rw[List.getElem?_map] at h;cases hx:b.data.toList[j]? with
 |none=>rw[hx] at h;cases h
 |some x=>
  rw[hx] at h;simp at h;exact⟨x,by simpa using hx,h.symm⟩
theorem GU (h:Bp N w0 X0 Y β s a w){src dst:TypeId}{x:Operand}(ho:o.op=.convert src dst x){d:Nat}{K:PV->List (Nat × A1)->Option R}
  (hk:Vj P (Gb s.hp) d src dst (A8 s.tm x) K=some r):∃v nw,K v nw=some r∧Co P a w o Y β s v [] nw:=by
 have Bn:∀v w',(convert src dst (a.eval x)).run P w=.ok v w'->(execOp a.eval o).run P w=.ok (.value v) w':=by
  intro v w' hv;unfold execOp;rw[ho];simp[hv]
 unfold Vj at hk;split at hk
 ·rename_i k hu;obtain⟨hs,hk⟩:=Ae hk;obtain⟨k',n,hx,hk⟩:=Bx hk;exact⟨_,_,hk,Bm (Bn _ _ (by rw[Bj h hx];obtain⟨ds,hds⟩:=Option.isSome_iff_exists.1 hs;cases ds<;>simp[convert,run_underlying hds,run_underlying hu,Conv.intToInt]))⟩
 ·rename_i hu;split at hk
  ·rename_i hs;obtain⟨b,hx,hk⟩:=Ca hk;exact⟨_,_,hk,Bm (Bn _ _ (by rw[Bj h hx];simp[convert,run_underlying hs,run_underlying hu]))⟩
  ·rename_i e hs;split at hk
   ·rename_i he;obtain⟨n,c,hk,hc⟩:=DY h hk;obtain⟨hl,hk⟩:=Ae hk;have hl:=of_decide_eq_true hl;obtain⟨l,hb,hk⟩:=Bl hk;obtain⟨ns,rfl,rfl⟩:=M4 hb;refine⟨_,_,hk,Bm (Bn _ _ ?_)⟩;rcases hc with⟨⟨ad,Bw⟩,rfl,hn⟩|⟨ad,cap,Bw,_,_,hrd⟩
    ·have:ns=[]:=by simpa using hn
     subst this;rw[Bw,run_convert_bytes_string w src dst e ad 0 0 hs he hu];cases ad<;>rfl
    ·rw[Bw,run_convert_bytes_string w src dst e _ _ _ hs he hu]
     have hld:(loadCells ad n).run P w=.ok (ns.map (Value.int .u8)).toArray w:=by
      have:=run_loadCells_list (P:=P) w ad (ns.map (Value.int .u8)) (fun j v hj=>by
       rw[List.getElem?_map] at hj;cases hn:ns[j]? with
       |none=>rw[hn] at hj;cases hj
       |some m=>
        rw[hn] at hj;simp at hj;subst hj;obtain⟨v,hv,_,ht⟩:=hrd j (.sc (.int .u8 m)) (by rw[List.getElem?_map,hn];rfl)
        rw[ht.val] at hv;exact hv)
      simp only[List.length_map] at this hl;rw[hl] at this;exact this
     rw[run_bytesToString w ad n cap ns hld,Lv];simp
   ·cases hk
  ·cases hk
 ·rename_i e hu;split at hk
  ·rename_i he hs;obtain⟨b,hx,hk⟩:=Ca hk;obtain⟨Ik,hk⟩:=Ae hk;have hr:=run_bytes_of_string (P:=P) w src dst e b hs hu he;rw[←Bj h hx] at hr
   have Nv:b.size<=grownCap w b.size 0 e:=by
    unfold grownCap;simp[Question.cut]
   have DF:(bytesRow b (grownCap w b.size 0 e)).size=grownCap w b.size 0 e:=by
    simp only[bytesRow,Array.size_append,Array.size_map,Array.size_replicate];have:b.data.size=b.size:=rfl;omega
   refine⟨_,_,hk,Kd (c:=bytesRow b (grownCap w b.size 0 e)) (e:=e) (by simp) (Bn _ _ hr) ?_ (fun j p hj=>?_) (.inr ⟨1,b.size,grownCap w b.size 0 e,rfl,rfl,Nv,by rw[DF];omega,.inl rfl⟩)⟩
   ·exact⟨rfl,rfl,rfl,fun i hi=>Below.heap_alloc w.drew _ i hi,by show (w.heap.push _).size=_;simp,_,by show (w.heap.push _)[w.heap.size]?=_;simp;rfl,.inr (Nat.le_refl _)⟩
   ·obtain⟨y,hy,rfl⟩:=MB b j p hj;refine⟨.int .u8 y.toNat,?_,rfl,Ao.sc _⟩
    have Bk:j<b.data.size:=by
     rcases Nat.lt_or_ge j b.data.size with h|h
     ·exact h
     ·rw[Array.getElem?_eq_none h] at hy;cases hy
    simp only[bytesRow];rw[Array.getElem?_append_left (by simpa using Bk),Array.getElem?_map,hy]
    rfl
  ·cases hk
 ·cases hk
end
open Go.RowKit
section
variable {R:Type} {r:R} {P:Program} {N:Nat} {w0:World} {X0:Ev} {Y:Nat->Prop} {β β':Bt} {s:St} {a:Act} {w w':World} {o:Oper} {A:Nat->Prop}
theorem Qr:∀{n:Nat}{l:List PV}{j:Nat}{c:PV},(O9 n l)[j]?=some c->j<n*l.length∧l[j % l.length]?=some c
 |0,l,j,c,h=>by simp[O9] at h
 |n+1,l,j,c,h=>by
  have e:O9 (n+1) l=l++O9 n l:=by simp[O9,List.replicate_succ]
  rw[e] at h;by_cases hj:j<l.length
  ·rw[List.getElem?_append_left hj] at h;refine⟨by rw[Nat.add_mul];omega,?_⟩
   rw[Nat.mod_eq_of_lt hj];exact h
  ·rw[List.getElem?_append_right (by omega)] at h
   obtain⟨h1,h2⟩:=Qr h;refine⟨by rw[Nat.add_mul];omega,?_⟩
   rw[Nat.mod_eq_sub_mod (by omega)];exact h2
theorem FB (n:Nat)(l:List PV):(O9 n l).length=n*l.length:=by
 induction n with
 |zero=>simp[O9]
 |succ n ih=>
  have e:O9 (n+1) l=l++O9 n l:=by simp[O9,List.replicate_succ]
  rw[e,List.length_append,ih,Nat.add_mul];omega
theorem DJ {z:Array Value}{n j:Nat}(hj:j<n){v:Value}(hv:z[j % z.size]?=some v):(madeCells z n)[j]?=some v:=by
 unfold madeCells;rw[Array.getElem?_map,Array.getElem?_range,if_pos hj];simp only[Option.map_some];rw[getElem!_def,hv]
theorem ID (h:Bp N w0 X0 Y β s a w){t:TypeId}{x y:Operand}(ho:o.op=.makeSlice t x y){d:Nat}{K:PV->List Nat->List (Nat × A1)->Option R}
  (hk:(match P.underlying t with
   |some (.slice e)=>B4 (A8 s.tm x) fun _ n=>B4 (A8 s.tm y) fun _ m=>
     As (decide (0<=n)&&decide (n<=m)&&decide (m*((P.info? e).map (·.bytes)).getD 0<=1099511627776)&&decide (m<=1099511627776))
      (Ef P e fun z=>K (.view d (Aq P e) 0 n.toNat) [] [(d,.ar false (O9 n.toNat z))])
   |_=>none)=some r):∃v fz nw,K v fz nw=some r∧Co P a w o Y β s v fz nw:=by
 split at hk
 ·rename_i e hu;obtain⟨k1,n,hx,hk⟩:=Bx hk;obtain⟨k2,m,hy,hk⟩:=Bx hk;obtain⟨hb,hk⟩:=Ae hk;simp only[Bool.and_eq_true,decide_eq_true_eq] at hb;obtain⟨⟨⟨h0,BN⟩,M2⟩,hm⟩:=hb;obtain⟨z,cs,hk,hz,hct,hl,Ik,hc⟩:=Jn hk
  have hzc:∃i,P.info? e=some i∧i.zero=some z:=by
   unfold Ow at hz;cases hi:P.info? e with
   |none=>rw[hi] at hz;cases hz
   |some i=>rw[hi] at hz;exact⟨i,rfl,hz⟩
  obtain⟨i,hi,NF⟩:=hzc;have Afj:Aq P e=i.size:=by simp[Aq,hi]
  simp only[hi,Option.map_some,Option.getD_some] at M2;have hr:=run_make (P:=P) w t e i z hu hi NF k1 k2 n m h0 BN (by rw[Int.mul_comm];omega) (by omega)
  have Bn:(execOp a.eval o).run P w=.ok (.value (.slice (some ⟨w.heap.size,0,none⟩) n.toNat m.toNat)) (w.alloc (.cells (madeCells z.cells (m.toNat*i.size)) e)):=by
   unfold execOp;rw[ho];simp[Bj h hx,Bj h hy,hr]
  have hzl:z.cells.size=Aq P e:=by
   have:z.cells.toList.length=z.cells.size:=by simp
   omega
  refine⟨_,_,_,hk,Kd (c:=madeCells z.cells (m.toNat*i.size)) (e:=e) (by simp) Bn (Dg.alloc w _ e) (fun j p hj=>?_) (.inr ⟨Aq P e,n.toNat,m.toNat,rfl,rfl,by omega,by rw[size_madeCells,Afj];exact Nat.le_refl _,.inr (Gw w _ e)⟩)⟩
  obtain⟨h1,h2⟩:=Qr hj;obtain⟨hT,u,Fs,Ur,hv⟩:=hc _ p h2;refine⟨u,DJ ?_ ?_,Ur,hv _ _⟩
  ·have:n.toNat*cs.length<=m.toNat*i.size:=by
    rw[Ik,Afj];exact Nat.mul_le_mul_right _ (by omega)
   omega
  ·rw[hzl,←Ik]
   simpa using Fs
 ·cases hk
theorem OX {p:PV}{v:Value}(hp:okP p=true)(hv:Cp w A β p v):Au (A6 w A β) (cellsOf p) v.cells.toList:=by
 have one:v.oneCell'=true->A6 w A β p v->(∀x,p ≠ .agg x)->Au (A6 w A β) (cellsOf p) v.cells.toList:=by
  intro h1 h2 h3;have:cellsOf p=[p]:=by cases p<;>first|rfl|exact absurd rfl (h3 _)
  rw[this,Ij h1];exact⟨h2,trivial⟩
 unfold okP at hp;split at hp
 ·obtain⟨vs,rfl,h2⟩:=hv;exact h2
 ·refine one ?_ hv (by simp)
  have Je:Ao w A _ v:=hv;cases Je<;>rfl
 ·refine one ?_ hv (by simp)
  rcases hv with⟨_,_,_,_,rfl⟩|⟨_,_,_,_,_,rfl,_⟩<;>rfl
 ·have:=Ro hv;subst this;exact one rfl hv (by simp)
 ·have:=Ro hv;subst this;exact one rfl hv (by simp)
 ·have:=Ro hv;subst this;exact one rfl hv (by simp)
 ·have:=Ro hv;subst this;exact one rfl hv (by simp)
 ·cases hp
theorem LH:∀(vs:List Value)(k off:Nat)(cells:Array Value),off+k+vs.length<=cells.size ->
  ((vs.zipIdx k).foldl (fun cs (q:Value × Nat)=>cs.setIfInBounds (off+q.2) q.1) cells).toList=cells.toList.take (off+k)++vs++cells.toList.drop (off+k+vs.length)
 |[],k,off,cells,_=>by simp
 |v::vs,k,off,cells,h=>by
  simp only[List.zipIdx_cons,List.foldl_cons,List.length_cons] at h ⊢;rw[LH vs (k+1) off _ (by simp;omega)]
  have Bk:off+k<cells.toList.length:=by simp;omega
  simp only[Array.toList_setIfInBounds];rw[show off+(k+1)=off+k+1 from by omega,List.take_succ_eq_append_getElem (by simpa using Bk)]
  rw[List.getElem_set_self,List.take_set_of_le (Nat.le_refl _),List.drop_set_of_lt (by omega)]
  simp only[List.append_assoc,List.cons_append,List.nil_append];rw[show off+k+1+vs.length=off+k+(vs.length+1) from by omega]
theorem U8 (h:Bp N w0 X0 Y β s a w){D0:Nat->Option (Nat × Nat)}:∀{parts:List (Nat × Operand)} {pc:List PV}{vc:Array Value}{K:List PV->Option R},
  Mv D0 (parts.map fun q=>(q.1,A8 s.tm q.2)) pc K=some r->Au (A6 w (Bv s.hp β Y) β) pc vc.toList->(∀c∈pc,∀id∈Ai c,s.hp id≠none) ->
  ∃pc' vc',K pc'=some r∧Instr.fill D0 vc (parts.map fun q=>(q.1,a.eval q.2))=some vc'∧Au (A6 w (Bv s.hp β Y) β) pc' vc'.toList∧pc'.length=pc.length∧∀c∈pc',∀id∈Ai c,s.hp id≠none
 |[],pc,vc,K,hk,hv,hr=>⟨pc,vc,hk,rfl,hv,rfl,hr⟩
 |(i,x)::parts,pc,vc,K,hk,hv,hr=>by
  simp only[List.map_cons] at hk;unfold Mv at hk;obtain⟨⟨off,size⟩,Ue,hk⟩:=Bl hk;obtain⟨hb,hk⟩:=Ae hk;simp only[Bool.and_eq_true] at hb;obtain⟨⟨Jc,Ik⟩,Sy⟩:=hb;have Ik:(cellsOf (A8 s.tm x)).length=size:=Nat.eq_of_beq_eq_true Ik;have Sy:off+size<=pc.length:=Nat.le_of_ble_eq_true Sy;have hxc:=OX Jc (Bs h x);have hxl:=hxc.len;have Qw:=hv.len;have F7:vc.toList.length=vc.size:=by simp
  have Oj:(a.eval x).cells.toList.length=(a.eval x).cells.size:=by simp
  have Afb:=LH (a.eval x).cells.toList 0 off vc (by omega)
  simp only[Nat.add_zero] at Afb
  have Ae1:((a.eval x).cells.zipIdx.foldl (fun cs (q:Value × Nat)=>cs.setIfInBounds (off+q.2) q.1) vc).toList=vc.toList.take off++(a.eval x).cells.toList++vc.toList.drop (off+(a.eval x).cells.toList.length):=by
   rw[←Afb,←Array.foldl_toList];simp
  obtain⟨pc',vc',hk,hf,h2,hl,hr'⟩:=U8 h (pc:=A0 pc (cellsOf (A8 s.tm x)) off) (vc:=(a.eval x).cells.zipIdx.foldl (fun cs (q:Value × Nat)=>cs.setIfInBounds (off+q.2) q.1) vc) hk (by
    rw[Ae1,←hxl];exact (((hv.take off).app hxc).app (hv.drop _))) (by
    intro c hc id Ax;unfold A0 at hc;rcases List.mem_append.1 hc with hc|hc
    ·rcases List.mem_append.1 hc with hc|hc
     ·exact hr c (List.mem_of_mem_take hc) id Ax
     ·refine Cz h x id ?_;cases hp:A8 s.tm x with
      |agg cs=>rw[hp] at hc;exact List.mem_flatMap.2 ⟨c,hc,Ax⟩
      |tup cs=>rw[hp] at hc;simp[cellsOf] at hc;subst hc;cases Ax
      |_=>rw[hp] at hc;simp[cellsOf] at hc;subst hc;exact Ax
    ·exact hr c (List.mem_of_mem_drop hc) id Ax)
  refine⟨pc',vc',hk,?_,h2,?_,hr'⟩
  ·simp only[List.map_cons,Instr.fill,Ue];rw[if_neg (by simp;omega)]
   exact hf
  ·rw[hl];simp[A0];omega
theorem EA {t:TypeId}{z:Value}{cs:List PV}(hl:cs.length=z.cells.toList.length)(hc:∀(j:Nat) c,cs[j]?=some c->Ob c∧∃u,z.cells.toList[j]?=some u∧u.oneCell'=true∧∀(w:World)(A:Nat->Prop),Ao w A c u) (_ht:Ow P t=some z):
  Au (A6 w A β) cs z.cells.toList∧∀c∈cs,Ai c=[]:=by
 refine⟨Au.of_at hl fun i c u hci hu=>?_,fun c DH=>?_⟩
 ·obtain⟨hT,u',Fs,_,hv⟩:=hc i c hci;rw[hu] at Fs;cases Fs;exact (Hd hT).2 (hv _ _)
 ·obtain⟨j,hj⟩:=List.mem_iff_getElem?.1 DH;exact Em (hc j c hj).1
theorem Wo:∀{fs:List Field},(fs.all fun f=>Wu P f.type)=true->fs.mapM (fun f=>(P.info? f.type).map fun i=>(f.offset,i.size))=some (fs.map fun f=>(f.offset,Aq P f.type))
 |[],_=>rfl
 |f::fs,h=>by
  simp only[List.all_cons,Bool.and_eq_true] at h;obtain⟨i,hi⟩:=Option.isSome_iff_exists.1 h.1;simp[List.mapM_cons,hi,Wo h.2,Aq]
theorem Oq {p q:Nat->Option (Nat × Nat)} (h:∀i,p i=q i)(cells:Array Value)(parts:List (Nat × Value)):Instr.fill p cells parts=Instr.fill q cells parts:=by
 have:p=q:=funext h;rw[this]
theorem DM (h:Bp N w0 X0 Y β s a w){t:TypeId}{ps:Array (Nat × Operand)} (ho:o.op=.build t ps){K:PV->Option R}
  (hk:(As (Kk P t&&A9 P t)<|Ef P t fun z=>Mv (La P t) (ps.toList.map fun q=>(q.1,A8 s.tm q.2)) z fun cs=>J4 (Ez P t) cs 0 fun cs'=>K (.agg cs'))=some r):∃v,K v=some r∧Co P a w o Y β s v [] []:=by
 obtain⟨Ue,hk⟩:=Ae hk;simp only[Bool.and_eq_true] at Ue;obtain⟨Ue,Dp⟩:=Ue;obtain⟨z,cs,hk,hz,hct,hl,Ik,hc⟩:=Jn hk;obtain⟨hzr,Wt⟩:=EA (w:=w) (A:=Bv s.hp β Y) (β:=β) hl hc hz;obtain⟨pc',vc',hk,hf,h2,Gc,hr'⟩:=U8 h hk hzr (fun c DH id Ax=>by rw[Wt c DH] at Ax;cases Ax)
 obtain⟨qs,hk,hql,Sl,hq⟩:=M6 hk
 have Abf:P.built t (ps.toList.map fun q=>(q.1,a.eval q.2))=some vc':=by
  have NF:∃i,P.info? t=some i∧i.zero=some z:=by
   unfold Ow at hz;cases hi:P.info? t with
   |none=>rw[hi] at hz;cases hz
   |some i=>rw[hi] at hz;exact⟨i,rfl,hz⟩
  obtain⟨i,hi,NF⟩:=NF;unfold Kk at Ue;unfold Program.built;split at Ue
  ·rename_i fs hu
   have NP:Instr.fill (((fs.toList.map fun f=>(f.offset,Aq P f.type)).toArray)[·]?) z.cells (ps.toList.map fun q=>(q.1,a.eval q.2))=some vc':=by
    rw[←hf];refine Oq (fun j=>?_) _ _
    simp[La,hu]
   simp only[hi,hu,NF,Wo Ue];exact NP
  ·rename_i n e hu;obtain⟨ie,hie⟩:=Option.isSome_iff_exists.1 Ue
   have NP:Instr.fill (fun j=>some (j*ie.size,ie.size)) z.cells (ps.toList.map fun q=>(q.1,a.eval q.2))=some vc':=by
    rw[←hf];refine Oq (fun j=>?_) _ _
    simp[La,hu,Aq,hie]
   simp only[hi,hu,NF,hie];exact NP
  ·rename_i e hu;simp[A9,hu] at Dp
  ·cases Ue
 refine⟨_,hk,Ba (val:=.agg vc') ?_ ⟨vc'.toList,rfl,?_⟩ ?_⟩
 ·unfold execOp;rw[ho];have:=run_build (P:=P) w t (ps.map fun q=>(q.1,a.eval q.2)) vc' (by simpa using Abf)
  simp[this]
 ·refine Au.of_at (by have:=h2.len;omega) fun j c u hcj hu=>?_
  obtain⟨p,hp,_,_,R1⟩:=hq j c hcj;rw[Nat.zero_add] at hp;exact (R1 _ _ _ _ (h2.at_ hp hu)).1
 ·intro id Ax;obtain⟨c,DH,Ax⟩:=List.mem_flatMap.1 (show id∈qs.flatMap Ai from Ax)
  obtain⟨j,hj⟩:=List.mem_iff_getElem?.1 DH;obtain⟨p,hp,_,hpr,_⟩:=hq j c hj;rw[Nat.zero_add] at hp;exact hr' p (List.mem_of_getElem? hp) id (hpr id Ax)
end
open Go.RowKit
section
variable {R:Type} {r:R} {P:Program} {N:Nat} {w0:World} {X0:Ev} {Y:Nat->Prop} {β β':Bt} {s:St} {a:Act} {w w':World} {o:Oper} {A:Nat->Prop}
theorem HK (h:Bp N w0 X0 Y β s a w){fz:List Nat}(Lz:∀id∈fz,∃f c,s.hp id=some (.ar f c)) {id:Nat}(hm:id∈fz){f:Bool}{c:List PV}(hb:s.hp id=some (.ar f c)) {b ob:Nat}(hβ:β id=some (b,ob)):
  ¬Bv (Ac s.hp fz) β Y b∧BO w (Bv (Ac s.hp fz) β Y) ⟨b,ob,none⟩ c∧b<w.heap.size:=by
 have hf:=h.freeze Lz;have he:Ac s.hp fz id=some (.ar true c):=by rw[A4,if_pos hm,hb];rfl
 rcases hf.box id _ he with⟨h1,_⟩|⟨b',o',h1,h2,_,h4⟩
 ·rw[hβ] at h1;cases h1
 ·rw[hβ] at h1;simp at h1;obtain⟨rfl,rfl⟩:=h1;exact⟨h4 rfl,h2,h.blt id b ob (by rw[hb];simp) hβ⟩
theorem NW (h:Bp N w0 X0 Y β s a w){fz:List Nat}(Lz:∀id∈fz,∃f c,s.hp id=some (.ar f c)) {id es off n:Nat}(hm:id∈fz){f:Bool}{c:List PV}(hb:s.hp id=some (.ar f c)) {v:Value}
  (hv:A6 w (Bv s.hp β Y) β (.view id es off n) v):Ao w (Bv (Ac s.hp fz) β Y) (.lst false es n ((c.drop off).take (n*es))) v:=by
 rcases hv with⟨_,rfl,rfl,ad,rfl⟩|⟨b,ob,y,cap,hβ,rfl,hy,hn,_,Bk⟩
 ·simp only[Nat.zero_mul,List.take_zero];cases ad with
  |none=>exact Ao.lnil false es
  |some p=>exact Ao.lemp es p 0
 ·obtain⟨h1,h2,_⟩:=HK h Lz hm hb hβ;by_cases GC:n*es=0
  ·rw[GC,List.take_zero];exact Ao.lst es n [] ⟨b,y,none⟩ cap (fun _=>undef) rfl Bk h1 hn (by simp) (by simp) (by simp)
  ·have hy:y=ob+off:=by
    rcases hy with hy|⟨h0,_⟩
    ·exact hy
    ·rw[h0] at GC;simp at GC
   subst hy
   have hcell:∀(j:Nat) q,((c.drop off).take (n*es))[j]?=some q->c[off+j]?=some q:=by
    intro j q hq;rw[List.getElem?_take] at hq;split at hq
    ·rw[List.getElem?_drop] at hq;exact hq
    ·cases hq
   refine Ao.lst es n _ ⟨b,ob+off,none⟩ cap (fun j=>(w.cell? ⟨b,ob+off+j,none⟩).getD undef) rfl Bk h1 hn (fun j q hq=>?_) (fun j q hq=>?_) (fun j q hq=>?_)
   ·obtain⟨v,hv,_⟩:=h2 _ q (hcell j q hq);rw[B6,←Nat.add_assoc] at hv;rw[B6,hv];rfl
   ·obtain⟨v,hv,h3,_⟩:=h2 _ q (hcell j q hq);rw[B6,←Nat.add_assoc] at hv;rw[hv];exact h3
   ·obtain⟨v,hv,_,ht⟩:=h2 _ q (hcell j q hq);rw[B6,←Nat.add_assoc] at hv;rw[hv];exact ht
theorem Ao.zf {A:Nat->Prop}{z:Bool}{es n:Nat}{c:List PV}{v:Value}(h:Ao w A (.lst z es n c) v):Ao w A (.lst false es n c) v:=by
 cases h with
 |lnil=>exact .lnil _ _
 |lemp=>exact .lemp _ _ _
 |lst _ _ _ a cap f hs hb hA hn hc h1 hr=>exact .lst _ _ _ a cap f hs hb hA hn hc h1 hr
theorem V8 (h:Bp N w0 X0 Y β s a w){t:CT}{p:PV}{K:PV->List Nat->Option R}(hk:Ja (Gb s.hp) t p K=some r):
  ∃c m,K c m=some r∧Ob c∧Xa p∧(∀id∈m,∃f cc,s.hp id=some (.ar f cc))∧∀fz:List Nat,(∀id∈m,id∈fz)->(∀id∈fz,∃f cc,s.hp id=some (.ar f cc))->∀v,A6 w (Bv s.hp β Y) β p v->Ao w (Bv (Ac s.hp fz) β Y) c v∧v.oneCell'=true:=by
 have tree:∀t',(Se t' p fun c=>K c [])=some r->∃c m,K c m=some r∧Ob c∧Xa p∧(∀id∈m,∃f cc,s.hp id=some (.ar f cc))∧∀fz:List Nat,(∀id∈m,id∈fz)->(∀id∈fz,∃f cc,s.hp id=some (.ar f cc))->∀v,A6 w (Bv s.hp β Y) β p v->Ao w (Bv (Ac s.hp fz) β Y) c v∧v.oneCell'=true:=by
  intro t' hk;obtain⟨c,hk,hT,Up,hv⟩:=Ib hk;refine⟨c,[],hk,hT,Ld Up,by simp,fun fz _ Lz v R1=>?_⟩
  obtain⟨h1,h2⟩:=hv _ _ _ _ R1;exact⟨h1.step (Bb.refl _ _) (fun b _ hb=>hb.imp Kp id),h2⟩
 cases t with
 |sl es=>
  unfold Ja at hk;dsimp only at hk;split at hk
  ·rename_i id es' off n;cases hb:Nat.beq es' es
   ·rw[hb] at hk;cases hk
   ·rw[hb] at hk;have:=Nat.eq_of_beq_eq_true hb;subst this;obtain⟨c,hc,hk⟩:=Bl (show C7 _ _=some r from hk)
    obtain⟨_,hk⟩:=Ae hk;obtain⟨f,Hy⟩:=BF hc;refine⟨_,[id],hk,trivial,trivial,?_,fun fz hm Lz v hv=>⟨NW h Lz (hm id (by simp)) Hy hv,?_⟩⟩
    ·intro i hi;simp at hi;subst hi;exact⟨f,c,Hy⟩
    ·rcases hv with⟨_,_,_,_,rfl⟩|⟨_,_,_,_,_,rfl,_⟩<;>rfl
  ·obtain⟨z,n,c,hk,hp⟩:=Dh hk;refine⟨_,[],hk,trivial,?_,by simp,fun fz _ Lz v R1=>?_⟩
   ·rcases hp with rfl|⟨rfl,_⟩<;>trivial
   ·have ht:=O2 hp R1;refine⟨Ao.zf (ht.step (Bb.refl _ _) (fun b _ hb=>hb.imp Kp id)),?_⟩
    cases ht<;>rfl
 |int k=>exact tree (.int k) hk
 |bool=>exact tree .bool hk
 |str=>exact tree .str hk
 |any=>exact tree .any hk
theorem Ku (h:Bp N w0 X0 Y β s a w):∀{ts:List CT}{ps:List PV}{K:List PV->List Nat->Option R},Iv (Gb s.hp) ts ps K=some r ->
  ∃cs m,K cs m=some r∧cs.length=ts.length∧ps.length=ts.length∧(∀c∈cs,Ob c)∧(∀p∈ps,Xa p)∧(∀id∈m,∃f cc,s.hp id=some (.ar f cc)) ∧
   ∀fz:List Nat,(∀id∈m,id∈fz)->(∀id∈fz,∃f cc,s.hp id=some (.ar f cc))->∀vs,Au (A6 w (Bv s.hp β Y) β) ps vs->Au (Ao w (Bv (Ac s.hp fz) β Y)) cs vs∧∀v∈vs,v.oneCell'=true
 |[],[],K,hk=>⟨[],[],hk,rfl,rfl,by simp,by simp,by simp,fun fz _ _ vs hv=>by
   cases vs with
   |nil=>exact⟨trivial,by simp⟩
   |cons v vs=>exact hv.elim⟩
 |[],_::_,K,hk=>by cases hk
 |_::_,[],K,hk=>by cases hk
 |t::ts,p::ps,K,hk=>by
  unfold Iv at hk;obtain⟨c,m,hk,hT,hF,hm,hv⟩:=V8 h hk;obtain⟨cs,ms,hk,hl,Gc,hTs,hFs,We,F7⟩:=Ku h hk;refine⟨c::cs,m++ms,hk,by simp[hl],by simp[Gc],?_,?_,?_,fun fz hfm Lz vs h2=>?_⟩
  ·intro x hx;rcases List.mem_cons.1 hx with rfl|hx
   ·exact hT
   ·exact hTs x hx
  ·intro x hx;rcases List.mem_cons.1 hx with rfl|hx
   ·exact hF
   ·exact hFs x hx
  ·intro x hx;rcases List.mem_append.1 hx with hx|hx
   ·exact hm x hx
   ·exact We x hx
  ·cases vs with
   |nil=>exact h2.elim
   |cons v vs=>
    obtain⟨h3,h4⟩:=hv fz (fun i hi=>hfm i (by simp[hi])) Lz v h2.1
    obtain⟨h5,h6⟩:=F7 fz (fun i hi=>hfm i (by simp[hi])) Lz vs h2.2
    refine⟨⟨h3,h5⟩,?_⟩;intro x hx;rcases List.mem_cons.1 hx with rfl|hx
    ·exact h4
    ·exact h6 x hx
theorem OH {R':PV->Value->Prop}{cs:List PV}{z:Array Value}(h:Au R' cs z.toList)(n:Nat):Au R' (O9 n cs) (madeCells z (n*cs.length)).toList:=by
 have hzl:z.size=cs.length:=by have:=h.len;simp at this;exact this.symm
 refine Au.of_at ?_ fun j c v hc hv=>?_
 ·rw[FB];simp[size_madeCells]
 ·obtain⟨h1,h2⟩:=Qr hc
  have Bk:j % cs.length<cs.length:=by
   rcases Nat.lt_or_ge (j % cs.length) cs.length with h|h
   ·exact h
   ·rw[List.getElem?_eq_none h] at h2;cases h2
  obtain⟨u,hu,hcu⟩:=h.get h2;have:(madeCells z (n*cs.length))[j]?=some u:=DJ h1 (by rw[hzl];simpa using hu)
  have Je:(madeCells z (n*cs.length))[j]?=some v:=by simpa using hv
  rw[this] at Je;cases Je;exact hcu
theorem Xy {A':Nat->Prop}:∀{ps cs:List PV}{vs:List Value},Au (A6 w (Bv s.hp β Y) β) ps vs->Au (Ao w A') cs vs->Au (Ao w A') (DX true ps cs) vs
 |[],_,_,_,h=>h
 |_::_,[],_,_,h=>h
 |p::ps,c::cs,[],_,h=>h.elim
 |p::ps,c::cs,v::vs,hp,h=>by
  refine⟨?_,Xy hp.2 h.2⟩;split
  ·have h1:Ao w (Bv s.hp β Y) (.lst true _ 0 []) v:=hp.1;cases h1;exact .lnil true _
  ·exact h.1
theorem R8 (h:Bp N w0 X0 Y β s a w){nz:Bool}{t:TypeId}{n:Nat}{ps:Array (Nat × Operand)} (ho:o.op=.buildSlice t n ps){d:Nat}{K:PV->List Nat->List (Nat × A1)->Option R}
  (hk:(match P.underlying t with
   |some (.slice e)=>As (Kk P t&&Nat.ble (n*Aq P e) 16777216) (Ef P e fun z=>Mv (La P t) (ps.toList.map fun q=>(q.1,A8 s.tm q.2)) (O9 n z) fun cs=>
     Iv (Gb s.hp) (List.replicate n (Ez P e)).flatten cs fun cs' m=>K (.view d (Aq P e) 0 n) m [(d,.ar false (bif nz then DX true cs cs' else cs'))])
   |_=>none)=some r):∃v fz nw,K v fz nw=some r∧Co P a w o Y β s v fz nw:=by
 split at hk
 ·rename_i e hu;obtain⟨hb,hk⟩:=Ae hk;simp only[Bool.and_eq_true] at hb;have Sy:n*Aq P e<=16777216:=Nat.le_of_ble_eq_true hb.2;have Jy:(P.info? e).isSome=true:=by have:=hb.1;unfold Kk at this;rw[hu] at this;exact this
  obtain⟨z,cs,hk,hz,hct,hl,Ik,hc⟩:=Jn hk;obtain⟨hzr,Wt⟩:=EA (w:=w) (A:=Bv s.hp β Y) (β:=β) hl hc hz;have Ahq:=OH hzr n
  obtain⟨pc',vc',hk,hf,h2,Gc,hr'⟩:=U8 h hk Ahq (fun c DH id Ax=>by
   obtain⟨j,hj⟩:=List.mem_iff_getElem?.1 DH;obtain⟨_,hg⟩:=Qr hj;rw[Wt c (List.mem_of_getElem? hg)] at Ax;cases Ax)
  obtain⟨qs,m,hk,hql,Ue,hqT,_,hm,ZB⟩:=Ku h hk;obtain⟨h3,h3'⟩:=ZB m (fun _ hi=>hi) hm _ h2
  have h3:Au (Ao w (Bv (Ac s.hp m) β Y)) (bif nz then DX true pc' qs else qs) vc'.toList:=by
   cases nz
   ·exact h3
   ·exact Xy h2 h3
  have NP:Instr.fill (fun i=>some (i*Aq P e,Aq P e)) (madeCells z.cells (n*cs.length)) (ps.toList.map fun q=>(q.1,a.eval q.2))=some vc':=by
   rw[←hf];refine Oq (fun i=>?_) _ _
   simp[La,hu]
  have Qw:vc'.size=n*Aq P e:=by
   have h4:=h2.len;rw[Gc,FB] at h4;simp at h4;rw[←h4,Ik]
  have Bn:(execOp a.eval o).run P w=.ok (.value (.slice (some ⟨w.heap.size,0,none⟩) n n)) (w.alloc (.cells vc' e)):=by
   unfold execOp;rw[ho];have Aft:¬(n*Aq P e>2 ^ 24):=by omega
   rw[Ik] at NP;by_cases GC:n*Aq P e=0
   ·simp only[Instr.buildSlice,Sem.run_bind,run_underlying hu,Result.andThen_ok,Bo Jy,if_neg Aft,GC];rw[GC] at NP;have e0:madeCells z.cells 0=(Array.range 0).map (fun _=>default):=by simp[madeCells]
    rw[e0] at NP;simp[NP,newRow]
   ·simp only[Instr.buildSlice,Sem.run_bind,run_underlying hu,Result.andThen_ok,Bo Jy,if_neg Aft,if_neg GC,Oh hz];unfold madeCells at NP;simp[NP,newRow]
  refine⟨_,_,_,hk,Kd (c:=vc') (e:=e) hm Bn (Dg.alloc w vc' e) (fun j p hj=>?_) (.inr ⟨Aq P e,n,n,rfl,rfl,Nat.le_refl _,by rw[Qw];exact Nat.le_refl _,.inr (Gw w vc' e)⟩)⟩
  obtain⟨u,Fs,hp⟩:=h3.get hj;exact⟨u,by simpa using Fs,h3' u (List.mem_of_getElem? Fs),hp⟩
 ·cases hk
end
end
end Go.Proofs.Yteicjnihnacadaa.Pv
