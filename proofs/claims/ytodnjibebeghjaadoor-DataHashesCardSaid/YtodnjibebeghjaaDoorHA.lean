/-
  The proof of DataHashes, part 1.
-/
import Derived.Orders
import Derived.LoopN
import Derived.Below
import Derived.Laws.Cover4
import Derived.Lib.ValidU
import Derived.Lib.Bytealg
import Derived.IntWalk
import Derived.WalkKit
import Derived.WalkLawsBesides
import Derived.Laws.IdiomStrings
import Derived.Laws.MakeOwn
import Derived.Laws.Tables
set_option linter.unusedSimpArgs false
set_option linter.unusedVariables false
namespace Go.Proofs.YtodnjibebeghjaaDoor.Pv
section
inductive PV where
 |sc (v:Value)
 |lst (z:Bool) (es n:Nat) (cells:List PV)
 |own (es n:Nat) (cells:List PV)
 |view (id es off n:Nat)
 |ptr (id off:Nat)
 |iptr (cells:List PV) (off:Nat)
 |pbox (cells:List PV)
 |agg (cells:List PV)
 |tup (vs:List PV)
 |top
 |ub
inductive Bk where
 |st (cells:List PV)
 |ar (fz:Bool) (cells:List PV)
 |mv
structure St where
 tm:Nat->PV
 hp:Nat->Option Bk
structure Ay where
 vals:List PV
 outs:List (List PV)
structure Ft where
 shr:FuncId->Bool
 mvd:FuncId->Nat->Bool
 lnd:FuncId->Nat->Bool
 kz:FuncId->Bool
 ext:FuncId->Option (List PV->Option Ay)
 nz:Nat->Bool
def Ft.core (C:Ft):Ft:={ C with ext:=fun _=>none }
def Ch {α:Type}(f:Nat->α)(i:Nat)(v:α):Nat->α:=fun j=>bif Nat.beq j i then v else f j
def rd (hp:Nat->Option Bk)(id:Nat):Option (List PV):=
 match hp id with
 |some (.st c)=>some c
 |some (.ar _ c)=>some c
 |_=>none
def Hm (hp:Nat->Option Bk)(id:Nat):Option (List PV):=
 match hp id with
 |some (.ar _ c)=>some c
 |_=>none
inductive CT where
 |int (k:IntKind)
 |bool
 |str
 |sl (es:Nat)
 |any
def A7 (P:Program)(t:TypeId):Nat:=((P.info? t).map (·.size)).getD 0
def B1 (P:Program)(t:TypeId):Bool:=
 match P.underlying t with
 |some (.struct _)=>true
 |some (.array _ _)=>true
 |_=>false
def Aix (P:Program):Nat->TypeId->List CT
 |0,_=>[]
 |d+1,t=>
  match P.underlying t with
  |some (.int k)=>[.int k]
  |some .bool=>[.bool]
  |some .string=>[.str]
  |some (.slice e)=>[.sl (A7 P e)]
  |some (.struct fs)=>fs.toList.flatMap fun f=>Aix P d f.type
  |some (.array n e)=>(List.replicate n (Aix P d e)).flatten
  |_=>[.any]
abbrev Gr (P:Program)(t:TypeId):List CT:=Aix P 9 t
def Ha (P:Program)(t:TypeId):Bool:=(P.underlying t).isSome&&Nat.beq (Gr P t).length (A7 P t)
abbrev Aqw (k:IntKind)(a b:Int):Int:=k.wrap (BitVec.ofInt k.bits a &&& BitVec.ofInt k.bits b).toNat
abbrev JL (k:IntKind)(a b:Int):Int:=k.wrap (BitVec.ofInt k.bits a ||| BitVec.ofInt k.bits b).toNat
abbrev Do (k:IntKind)(a b:Int):Int:=k.wrap (BitVec.ofInt k.bits a ^^^ BitVec.ofInt k.bits b).toNat
abbrev Age (k:IntKind)(a b:Int):Int:=k.wrap (BitVec.ofInt k.bits a &&& ~~~BitVec.ofInt k.bits b).toNat
abbrev Gz (k:IntKind)(a b:Int):Int:=k.wrap (a*2 ^ (min b.toNat k.bits))
abbrev ME (k:IntKind)(a b:Int):Int:=a.fdiv (2 ^ (min b.toNat k.bits))
abbrev Aqu (k:IntKind)(n:Int):Int:=k.wrap (BitVec.ofInt k.bits (if k.signed then -1 else k.max) ^^^ BitVec.ofInt k.bits n).toNat
section
variable {R:Type}
def Ak (k:IntKind)(p:PV)(K:Int->Option R):Option R:=
 match p with
 |.sc (.int k' n)=>if k'=k then K n else none
 |_=>none
def Aq (p:PV)(K:Bool->Option R):Option R:=
 match p with
 |.sc (.bool b)=>K b
 |_=>none
def Az (p:PV)(K:ByteArray->Option R):Option R:=
 match p with
 |.sc (.string s)=>K s
 |_=>none
def Sa (es:Nat)(p:PV)(K:Bool->Nat->List PV->Option R):Option R:=
 match p with
 |.lst z es' n c=>bif Nat.beq es' es then K z n c else none
 |.sc (.slice none 0 0)=>K true 0 []
 |_=>none
def fsK (es:Nat)(p:PV)(K:PV->Option R):Option R:=
 match p with
 |.view id es' off n=>bif Nat.beq es' es then K (.view id es off n) else none
 |p=>Sa es p fun z n c=>K (.lst z es n c)
def NY (es:Nat)(p:PV)(K:Nat->List PV->Option R):Option R:=
 match p with
 |.own es' n c=>bif Nat.beq es' es then K n c else none
 |_=>none
def Bi (b:Bool)(K:Option R):Option R:=bif b then K else none
abbrev Ab {α:Type}(x:α)(K:α->Option R):Option R:=K x
def LE (b:Bool)(x y:Option R):Option R:=bif b then x else y
abbrev Awu (x:Nat)(K:Nat->Option R):Option R:=K x
def Ag4 (x:List (List Nat)) (K:List (List Nat)->Option R):Option R:=K x
def Bh (b:Bool)(x y:Option R):Option R:=bif b then x else y
def Dk {α:Type}(o:Option α)(K:α->Option R):Option R:=
 match o with
 |some a=>K a
 |none=>none
def Aa {α:Type}(l:List α)(K:α->List α->Option R):Option R:=
 match l with
 |a::r=>K a r
 |[]=>none
def Ad {α:Type}(l:List α)(K:Option R):Option R:=
 match l with
 |[]=>K
 |_::_=>none
def Fq (p:PV)(K:List PV->Option R):Option R:=
 match p with
 |.agg c=>K c
 |_=>none
def Tm (p:PV)(K:List PV->Option R):Option R:=
 match p with
 |.pbox c=>K c
 |_=>none
def Ah (r:Option Ay)(K:List PV->List (List PV)->Option R):Option R:=
 match r with
 |some ⟨v,o⟩=>K v o
 |none=>none
def WN (p:PV)(K:Value->Option R):Option R:=
 match p with
 |.sc (.func f a b)=>K (.func f a b)
 |.sc (.map none)=>K (.map none)
 |_=>none
def fvK (p:PV)(K:FuncId->Option R):Option R:=
 match p with
 |.sc (.func (.func f) a b)=>bif a.isEmpty&&b.isEmpty then K f else none
 |_=>none
def Uz (t:CT)(p:PV)(K:PV->Option R):Option R:=
 match t with
 |.int k=>Ak k p fun n=>K (.sc (.int k n))
 |.bool=>Aq p fun b=>K (.sc (.bool b))
 |.str=>Az p fun s=>K (.sc (.string s))
 |.sl es=>Sa es p fun z n c=>K (.lst z es n c)
 |.any=>WN p fun v=>K (.sc v)
def fcK (t:CT)(p:PV)(K:PV->Option R):Option R:=
 match t with
 |.sl es=>fsK es p K
 |t=>Uz t p K
def Of:List CT->List PV->Nat->(List PV->Option R)->Option R
 |[],_,_,K=>K []
 |t::ts,cells,off,K=>Uz t (cells.getD off .top) fun c=>Of ts cells (off+1) fun r=>K (c::r)
def K9:List CT->List PV->Nat->(List PV->Option R)->Option R
 |[],_,_,K=>K []
 |t::ts,cells,off,K=>fcK t (cells.getD off .top) fun c=>K9 ts cells (off+1) fun r=>K (c::r)
def TS (agg:Bool)(cells:List PV)(K:PV->Option R):Option R:=
 bif agg then K (.agg cells) else Aa cells fun c r=>Ad r (K c)
def cellsOf:PV->List PV
 |.agg c=>c
 |p=>[p]
def cvK (P:Program)(t:TypeId)(v:Value)(K:PV->Option R):Option R:=
 match v with
 |.agg cs=>Bi (Nat.beq cs.toList.length (Gr P t).length) (Of (Gr P t) (cs.toList.map .sc) 0 fun c=>K (.agg c))
 |.slice none 0 0=>
  match P.underlying t with
  |some (.slice e)=>K (.lst true (A7 P e) 0 [])
  |_=>none
 |v=>K (.sc v)
end
def Bv (tm:Nat->PV):Operand->PV
 |.tmp t=>tm t
 |.const (.agg cs)=>.agg (cs.toList.map .sc)
 |.const v=>.sc v
 |.func f=>.sc (.func (.func f) #[] #[])
 |.global g=>.sc (.pointer (some ⟨g,0,none⟩))
section
variable {R:Type}
def Da (p:PV)(K:IntKind->Int->Option R):Option R:=
 match p with
 |.sc (.int k n)=>K k n
 |_=>none
def MR (rdf:Nat->Option (List PV)) (es:Nat)(p:PV)(K:Nat->List PV->Option R):Option R:=
 match p with
 |.view id es' off n=>bif Nat.beq es' es then Dk (rdf id) fun c=>Bi (decide (off+n*es<=c.length)) (K n ((c.drop off).take (n*es))) else none
 |p=>Sa es p fun _ n c=>K n c
def K6 (rdf:Nat->Option (List PV)) (t:CT)(p:PV)(K:PV->List Nat->Option R):Option R:=
 match t with
 |.sl es=>
  match p with
  |.view id es' off n=>bif Nat.beq es' es then Dk (rdf id) fun c=>Bi (decide (off+n*es<=c.length)) (K (.lst false es n ((c.drop off).take (n*es))) [id]) else none
  |p=>Sa es p fun _ n c=>K (.lst false es n c) []
 |t=>Uz t p fun c=>K c []
def Kd (rdf:Nat->Option (List PV)):List CT->List PV->(List PV->List Nat->Option R)->Option R
 |[],[],K=>K [] []
 |t::ts,p::ps,K=>K6 rdf t p fun c m=>Kd rdf ts ps fun cs ms=>K (c::cs) (m++ms)
 |_,_,_=>none
def MV (k:Bool):List PV->List PV->List PV
  |p::ps,c::cs=>
    (match k,p with
     |true,.lst true es 0 []=>.lst true es 0 []
     |_,_=>c)::MV k ps cs
  |_,cs=>cs
def OV (P:Program)(rdf:Nat->Option (List PV)) (t:TypeId)(p:PV)(K:PV->List Nat->Option R):Option R:=
 bif B1 P t then Fq p fun ps=>Kd rdf (Gr P t) ps fun cs m=>K (.agg cs) m
 else Kd rdf (Gr P t) [p] fun cs m=>Aa cs fun c r=>Ad r (K c m)
def Yw (P:Program)(rdf:Nat->Option (List PV)):List TypeId->List PV->(List PV->List Nat->Option R)->Option R
 |[],[],K=>K [] []
 |t::ts,p::ps,K=>OV P rdf t p fun v m=>Yw P rdf ts ps fun vs ms=>K (v::vs) (m++ms)
 |_,_,_=>none
def Aax (shr:Bool)(id:Nat)(t:CT)(p:PV)(K:PV->List (Nat × Bk)->Option R):Option R:=
 match t with
 |.sl es=>bif shr then Sa es p fun _ n c=>K (.lst false es n c) [] else NY es p fun n c=>K (.view id es 0 n) [(id,.ar false c)]
 |t=>Uz t p fun c=>K c []
def L9 (shr:Bool)(N:Nat):Nat->List CT->List PV->(List PV->List (Nat × Bk)->Option R)->Option R
 |_,[],ps,K=>Ad ps (K [] [])
 |id,t::ts,ps,K=>Aa ps fun p ps=>Aax shr id t p fun c b=>L9 shr N (id+N) ts ps fun cs bs=>K (c::cs) (b++bs)
def Ss (P:Program)(t:TypeId):Option TypeId:=
 match P.underlying t with
 |some (.pointer e)=>some e
 |_=>none
def LL (P:Program)(t:TypeId):Nat:=
 match Ss P t with
 |some e=>1+(Gr P e).length
 |none=>(Gr P t).length
def WK (P:Program)(shr:Bool)(N:Nat)(id:Nat)(t:TypeId)(p:PV)(K:PV->List (Nat × Bk)->Option R):Option R:=
 match Ss P t with
 |some e=>Tm p fun ps=>L9 shr N (id+N) (Gr P e) ps fun cs bs=>K (.ptr id 0) ((id,.st cs)::bs)
 |none=>
 bif B1 P t then Fq p fun ps=>L9 shr N id (Gr P t) ps fun cs bs=>K (.agg cs) bs
 else L9 shr N id (Gr P t) [p] fun cs bs=>Aa cs fun c r=>Ad r (K c bs)
def V4 (P:Program)(shr:Bool)(N:Nat):Nat->List TypeId->List PV->(List PV->List (Nat × Bk)->Option R)->Option R
 |_,[],ps,K=>Ad ps (K [] [])
 |id,t::ts,ps,K=>Aa ps fun p ps=>WK P shr N id t p fun v bs=>V4 P shr N (id+N*LL P t) ts ps fun vs bs'=>K (v::vs) (bs++bs')
def Kl (P:Program)(t:TypeId):List TypeId:=
 match P.underlying t with
 |some (.tuple ts)=>ts.toList
 |_=>[t]
def Ko (vs:List PV)(t:Bool):PV:=bif t then .tup vs else vs.headD .top
def Lh (P:Program)(t:TypeId):Bool:=
 match P.underlying t with
 |some (.tuple _)=>true
 |_=>false
def Adw (op:BinOp)(a b:Int)(K:Bool->Option R):Option R:=
 match op with
 |.eql=>K (a==b)
 |.neq=>K (a != b)
 |.lss=>K (decide (a<b))
 |.leq=>K (decide (a<=b))
 |.gtr=>K (decide (a>b))
 |.geq=>K (decide (a>=b))
 |_=>none
def Y7 (op:BinOp)(k:IntKind)(a b:Int)(K:PV->Option R):Option R:=
 match op with
 |.add=>Ab ((k.wrap (a+b))) fun n=>K (.sc (.int k n))
 |.sub=>Ab ((k.wrap (a-b))) fun n=>K (.sc (.int k n))
 |.mul=>Ab ((k.wrap (a*b))) fun n=>K (.sc (.int k n))
 |.quo=>Bi (decide (b≠0)) (Ab ((k.wrap (a.tdiv b))) fun n=>K (.sc (.int k n)))
 |.rem=>Bi (decide (b≠0)) (Ab ((a.tmod b)) fun n=>K (.sc (.int k n)))
 |.and=>Ab (Aqw k a b) fun n=>K (.sc (.int k n))
 |.or=>Ab (JL k a b) fun n=>K (.sc (.int k n))
 |.xor=>Ab (Do k a b) fun n=>K (.sc (.int k n))
 |.andNot=>Ab (Age k a b) fun n=>K (.sc (.int k n))
 |op=>Adw op a b fun r=>K (.sc (.bool r))
def Zw (op:BinOp)(x y:ByteArray)(K:PV->Option R):Option R:=
 match op with
 |.add=>Bi (decide (x.size+y.size<=9223372036854775807)) (Ab (x++y) fun s=>K (.sc (.string s)))
 |.eql=>K (.sc (.bool (x.data.toList==y.data.toList)))
 |.neq=>K (.sc (.bool !(x.data.toList==y.data.toList)))
 |.lss=>K (.sc (.bool (Op.bytesLess x.data.toList y.data.toList)))
 |.leq=>K (.sc (.bool (Op.bytesLess x.data.toList y.data.toList||x.data.toList==y.data.toList)))
 |.gtr=>K (.sc (.bool !(Op.bytesLess x.data.toList y.data.toList||x.data.toList==y.data.toList)))
 |.geq=>K (.sc (.bool !(Op.bytesLess x.data.toList y.data.toList)))
 |_=>none
def Y8 (e:Bool)(p:PV)(K:PV->Option R):Option R:=
 match p with
 |.sc (.slice none 0 0)=>K (.sc (.bool e))
 |.lst z _ n _=>Bh z (K (.sc (.bool e))) (Bh (decide (0<n)) (K (.sc (.bool !e))) (K .ub))
 |.view _ _ _ n=>Bh (decide (0<n)) (K (.sc (.bool !e))) (K .ub)
 |_=>none
def LM (P:Program):List Field->Nat->Bool
 |[],_=>true
 |f::r,i=>Nat.beq f.offset i&&(f.name != "_")&&(match P.underlying f.type with|some (.int _)=>true|some .bool=>true|some .string=>true|_=>false)&&LM P r (i+1)
def Ka (P:Program):List Field->Nat->Bool
  |[],_=>true
  |f::r,i=>Nat.beq f.offset i&&(f.name != "_") &&
    (match P.underlying f.type with
     |some (.int _)=>Ka P r (i+1)
     |some .bool=>Ka P r (i+1)
     |some .string=>Ka P r (i+1)
     |some (.struct gs)=>LM P gs.toList 0 && !P.stoodInHeld f.type&&(P.info? f.type).isSome&&Nat.beq (A7 P f.type) gs.size&&Ka P r (i+gs.size)
     |_=>false)
def IY (P:Program)(t:TypeId)(fs:Array Field):Bool:=Ka P fs.toList 0 && !P.stoodInHeld t && !P.eqGuardType P.depth t
def fty (P:Program)(f:Field):CT:=
 match P.underlying f.type with
 |some (.int k)=>.int k
 |some .bool=>.bool
 |some .string=>.str
 |_=>.any
def MO (P:Program)(f:Field):List CT:=
 match P.underlying f.type with
 |some (.struct gs)=>gs.toList.map (fty P)
 |_=>[fty P f]
def Q5 (P:Program):List Field->List CT
 |[]=>[]
 |f::r=>MO P f++Q5 P r
def Ip:List CT->List PV->List PV->(Bool->Option R)->Option R
 |[],[],[],K=>K true
 |.int k::ts,p::ps,q::qs,K=>Ak k p fun a=>Ak k q fun b=>Ip ts ps qs fun r=>K ((a==b)&&r)
 |.bool::ts,p::ps,q::qs,K=>Aq p fun a=>Aq q fun b=>Ip ts ps qs fun r=>K ((a==b)&&r)
 |.str::ts,p::ps,q::qs,K=>Az p fun a=>Az q fun b=>Ip ts ps qs fun r=>K ((a==b)&&r)
 |_,_,_,_=>none
def Abq (P:Program)(op:BinOp)(t:TypeId)(x y:PV)(K:PV->Option R):Option R:=
 match P.underlying t with
 |some (.int k)=>
  match op with
  |.shl=>Ak k x fun a=>Da y fun _ b=>Bi (decide (0<=b)) (Ab (Gz k a b) fun n=>K (.sc (.int k n)))
  |.shr=>Ak k x fun a=>Da y fun _ b=>Bi (decide (0<=b)) (Ab (ME k a b) fun n=>K (.sc (.int k n)))
  |op=>Ak k x fun a=>Ak k y fun b=>Y7 op k a b K
 |some .string=>Az x fun a=>Az y fun b=>Zw op a b K
 |some .bool=>
  match op with
  |.eql=>Aq x fun a=>Aq y fun b=>K (.sc (.bool (a==b)))
  |.neq=>Aq x fun a=>Aq y fun b=>K (.sc (.bool !(a==b)))
  |_=>none
 |some (.slice _)=>
  match op,y with
  |.eql,.sc (.slice none 0 0)=>Y8 true x K
  |.neq,.sc (.slice none 0 0)=>Y8 false x K
  |_,_=>none
 |some (.map _ _)=>
  match op,x,y with
  |.eql,.sc (.map none),.sc (.map none)=>K (.sc (.bool true))
  |.neq,.sc (.map none),.sc (.map none)=>K (.sc (.bool false))
  |_,_,_=>none
 |_=>none
def Px (P:Program)(op:BinOp)(t:TypeId)(x y:PV)(K:PV->Option R):Option R:=
 match P.underlying t with
 |some (.struct fs)=>
  match op with
  |.eql=>Bi (IY P t fs) (Fq x fun xs=>Fq y fun ys=>Ip (Q5 P fs.toList) xs ys fun b=>K (.sc (.bool b)))
  |.neq=>Bi (IY P t fs) (Fq x fun xs=>Fq y fun ys=>Ip (Q5 P fs.toList) xs ys fun b=>K (.sc (.bool !b)))
  |_=>none
 |_=>Abq P op t x y K
def unK (op:UnOp)(x:PV)(K:PV->Option R):Option R:=
 match op with
 |.not=>Aq x fun b=>K (.sc (.bool !b))
 |.neg=>Da x fun k n=>Ab (k.wrap (0-n)) fun n=>K (.sc (.int k n))
 |.xor=>Da x fun k n=>Ab (Aqu k n) fun n=>K (.sc (.int k n))
 |_=>none
def Lf:List PV->Option (List UInt8)
 |[]=>some []
 |.sc (.int .u8 n)::r=>(Lf r).map (n.toNat.toUInt8 :: ·)
 |_::_=>none
def P3:List PV->Option (List Int)
 |[]=>some []
 |.sc (.int .i32 n)::r=>(P3 r).map (n :: ·)
 |_::_=>none
def Eu (s:ByteArray):List PV:=s.data.toList.map fun b=>.sc (.int .u8 b.toNat)
def Zz (P:Program)(rdf:Nat->Option (List PV)) (d:Nat)(src dst:TypeId)(x:PV)(K:PV->List (Nat × Bk)->Option R):Option R:=
 match P.underlying dst with
 |some (.int k)=>Bi (P.underlying src).isSome (Da x fun _ n=>Ab (k.wrap n) fun n=>K (.sc (.int k n)) [])
 |some .string=>
  match P.underlying src with
  |some .string=>Az x fun s=>K (.sc (.string s)) []
  |some (.slice e)=>
   match P.underlying e with
   |some (.int .u8)=>MR rdf 1 x fun n c=>Bi (decide (c.length=n)) (Dk (Lf c) fun b=>K (.sc (.string ⟨b.toArray⟩)) [])
   |some (.int .i32)=>MR rdf 1 x fun n c=>Bi (decide (c.length=n)) (Dk (P3 c) fun ns=>Ab (runesBytes ns) fun s=>K (.sc (.string s)) [])
   |_=>none
  |_=>none
 |some (.slice e)=>
  match P.underlying e,P.underlying src with
  |some (.int .u8),some .string=>Az x fun s=>Bi (decide (s.size<=1099511627776)) (K (.view d 1 0 s.size) [(d,.ar false (Eu s))])
  |_,_=>none
 |_=>none
def Fp (p:Option PV)(dflt:Nat)(K:Nat->Option R):Option R:=
 match p with
 |none=>K dflt
 |some p=>Da p fun _ i=>Bi (decide (0<=i)) (K i.toNat)
def Ve (P:Program)(rdf:Nat->Option (List PV)) (t:TypeId)(x:PV)(lo hi:Option PV)(K:PV->Option R):Option R:=
 match P.underlying t with
 |some .string=>Az x fun s=>Fp lo 0 fun l=>Fp hi s.size fun h=>Bi (decide (l<=h)&&decide (h<=s.size)) (Ab (s.extract l h) fun s=>K (.sc (.string s)))
 |some (.slice e)=>Bi (P.info? e).isSome (
  match x with
  |.view id es off n=>Bi (Nat.beq es (A7 P e)) (Fp lo 0 fun l=>Fp hi n fun h=>Bi (decide (l<=h)&&decide (h<=n)) (Ab (off+l*es) fun o=>Ab (h-l) fun n=>K (.view id es o n)))
  |x=>Sa (A7 P e) x fun z n c=>Fp lo 0 fun l=>Fp hi n fun h=>Bi (decide (l<=h)&&decide (h<=n)) (Ab (h-l) fun n=>Ab ((c.drop (l*A7 P e)).take (n*A7 P e)) fun c=>K (.lst z (A7 P e) n c)))
 |some (.array n e)=>Bi (P.info? e).isSome (
  match x with
  |.ptr id off=>Dk (rdf id) fun c=>Bi (decide (1<=n*A7 P e)&&decide (off+n*A7 P e<=c.length)&&Nat.beq (A7 P e) 1)<|Fp lo 0 fun l=>Fp hi n fun h=>Bi (decide (l<=h)&&decide (h<=n)) (Ab (off+l*A7 P e) fun o=>Ab (h-l) fun n=>K (.view id (A7 P e) o n))
  |_=>none)
 |_=>none
def Qf (P:Program)(d:Nat)(t:TypeId)(x:PV)(lo hi mx:Option PV)(K:PV->List (Nat × Bk)->Option R):Option R:=
 match P.underlying t with
 |some (.slice e)=>Bi ((P.info? e).isSome&&hi.isSome) (
  match x with
  |.view _ es _ n=>Bi (Nat.beq es (A7 P e)) (Fp lo 0 fun l=>Fp hi n fun h=>Fp mx n fun m=>Bi (Nat.beq l m&&Nat.beq h m&&decide (m<=n)) (K (.view d (A7 P e) 0 0) [(d,.ar false [])]))
  |x=>Sa (A7 P e) x fun _ n _=>Fp lo 0 fun l=>Fp hi n fun h=>Fp mx n fun m=>Bi (Nat.beq l m&&Nat.beq h m&&decide (m<=n)) (K (.view d (A7 P e) 0 0) [(d,.ar false [])]))
 |_=>none
def Pd (x:PV)(d:Nat)(K:PV->Option R):Option R:=
 match x with
 |.ptr id off=>K (.ptr id (off+d))
 |.iptr c off=>K (.iptr c (off+d))
 |_=>none
def Y5 (P:Program)(e:TypeId):Bool:=(P.info? e).isSome
def L7 (P:Program)(t:TypeId)(f:Nat):Option (Nat × TypeId):=
 match P.underlying t with
 |some (.struct fs)=>(fs[f]?).map fun g=>(g.offset,g.type)
 |_=>none
def Id (P:Program)(t:TypeId)(x:PV)(i:Int)(K:PV->Option R):Option R:=
 match P.underlying t with
 |some (.array n e)=>Bi (Y5 P e) (Bi (decide (0<=i)&&decide (i<n)) (Pd x (i.toNat*A7 P e) K))
 |some (.slice e)=>Bi (Y5 P e) (
  match x with
  |.view id es off n=>Bi (Nat.beq es (A7 P e)) (Bi (decide (0<=i)&&decide (i<n)) (K (.ptr id (off+i.toNat*es))))
  |x=>Sa (A7 P e) x fun _ n c=>Bi (decide (0<=i)&&decide (i<n)) (K (.iptr c (i.toNat*A7 P e))))
 |_=>none
def R5 (P:Program)(rdf:Nat->Option (List PV)) (t:TypeId)(x:PV)(K:PV->Option R):Option R:=
 match x with
 |.ptr id off=>Bi (Ha P t) (Dk (rdf id) fun c=>K9 (Gr P t) c off fun cs=>TS (B1 P t) cs K)
 |.iptr c off=>Bi (Ha P t) (Of (Gr P t) c off fun cs=>TS (B1 P t) cs K)
 |_=>none
def GD:PV->PV
 |.lst _ es n c=>.lst false es n c
 |p=>p
def RL:PV->PV
 |.agg cs=>.agg (cs.map GD)
 |p=>GD p
def Sz (nz:Bool)(P:Program)(rdf rdaf:Nat->Option (List PV)) (t:TypeId)(x:PV)(K:PV->Option R):Option R:=
 match x with
 |.ptr id off=>Bi (Ha P t) (
  match rdaf id with
  |some c=>Of (Gr P t) c off fun cs=>TS (B1 P t) cs fun v=>K (bif nz then v else RL v)
  |none=>Dk (rdf id) fun c=>K9 (Gr P t) c off fun cs=>TS (B1 P t) cs K)
 |.iptr c off=>Bi (Ha P t) (Of (Gr P t) c off fun cs=>TS (B1 P t) cs fun v=>K (bif nz then v else RL v))
 |_=>none
def B8 (cells new:List PV)(off:Nat):List PV:=cells.take off++new++cells.drop (off+new.length)
def okP:PV->Bool
 |.agg _=>true
 |.lst _ _ _ _=>true
 |.view _ _ _ _=>true
 |.sc (.int _ _)=>true
 |.sc (.bool _)=>true
 |.sc (.string _)=>true
 |.sc (.slice none 0 0)=>true
 |_=>false
def Ps (Fs:Nat->Option (Nat × Nat)):List (Nat × PV)->List PV->(List PV->Option R)->Option R
 |[],cells,K=>K cells
 |(i,p)::r,cells,K=>Dk (Fs i) fun q=>Bi (okP p&&Nat.beq (cellsOf p).length q.2&&Nat.ble (q.1+q.2) cells.length) (Ab (B8 cells (cellsOf p) q.1) fun cells=>Ps Fs r cells K)
def Nf (P:Program)(t:TypeId)(i:Nat):Option (Nat × Nat):=
 match P.underlying t with
 |some (.struct fs)=>(fs[i]?).map fun f=>(f.offset,A7 P f.type)
 |some (.array _ e)=>some (i*A7 P e,A7 P e)
 |some (.slice e)=>some (i*A7 P e,A7 P e)
 |_=>none
def Mf (P:Program)(t:TypeId):Bool:=
 match P.underlying t with
 |some (.struct fs)=>fs.toList.all fun f=>Y5 P f.type
 |some (.array _ e)=>Y5 P e
 |some (.slice e)=>Y5 P e
 |_=>false
def L2 (P:Program)(t:TypeId):Option Value:=(P.info? t).bind (·.zero)
def Fy (P:Program)(t:TypeId)(K:List PV->Option R):Option R:=
 Dk (L2 P t) fun v=>Bi (Nat.beq v.cells.toList.length (Gr P t).length&&Ha P t) (Of (Gr P t) (v.cells.toList.map .sc) 0 K)
def Pi (P:Program)(t:TypeId):Bool:=
 match P.underlying t with
 |some (.array _ _)=>true
 |_=>false
def Aau (P:Program)(t:TypeId)(cells:List PV):Bk:=bif Pi P t then .ar false cells else .st cells
def Nh (n:Nat)(l:List PV):List PV:=(List.replicate n l).flatten
def Aee (a b:PV)(K:PV->Option R):Option R:=Da a fun k x=>Ak k b fun y=>Ab (if y<x then y else x) fun n=>K (.sc (.int k n))
def Af5 (a b:PV)(K:PV->Option R):Option R:=Da a fun k x=>Ak k b fun y=>Ab (if x<y then y else x) fun n=>K (.sc (.int k n))
def VH (P:Program)(t:TypeId)(x:PV)(K:Nat->Option R):Option R:=
 match P.underlying t with
 |some .string=>Az x fun s=>K s.size
 |some (.array n _)=>K n
 |some (.slice e)=>
  match x with
  |.view _ es _ n=>Bi (Nat.beq es (A7 P e)) (K n)
  |x=>Sa (A7 P e) x fun _ n _=>K n
 |_=>none
end
abbrev Ax:=FuncId->List PV->Option Ay
section
variable {R:Type}
def Hk (P:Program)(ts:List TypeId):Bool:=ts.any fun t=>(Ss P t).isSome||(Gr P t).any fun c=>match c with | .sl _=>true|_=>false
def Ug (P:Program)(t:TypeId)(tm:Nat->PV)(x:Operand)(K:PV->Option R):Option R:=
 match x with
 |.const v=>cvK P t v K
 |x=>K (Bv tm x)
def GE (P:Program)(e:TypeId):Bool:=
 match P.info? e with
 |some i=>(match i.zero with|some z=>Nat.beq z.cells.size i.size|none=>false)
 |none=>false
def QK (P:Program)(rdaf:Nat->Option (List PV)) (es:Nat)(t:TypeId)(x:PV)(K:Nat->List PV->Option R):Option R:=
 match P.underlying t with
 |some .string=>Bi (Nat.beq es 1) (Az x fun b=>K b.size (Eu b))
 |some (.slice _)=>MR rdaf es x K
 |_=>none
abbrev PM (P:Program)(s:St)(es:Nat)(t:TypeId)(x:PV)(K:Nat->List PV->Option R):Option R:=QK P (Hm s.hp) es t x K
def S9 (c:Call):Bool:=
 match c.args.toList with
 |.const (.slice none 0 0)::_=>true
 |_=>false
def P6 (P:Program)(rdaf:Nat->Option (List PV)) (d:Nat)(t tx:TypeId)(x:PV)(K:PV->List (Nat × Bk)->Option R):Option R:=
 match P.underlying t with
 |some (.slice e)=>Bi (GE P e) <|
  QK P rdaf (A7 P e) tx x fun m new=>
   Bi (decide (new.length=m*A7 P e)&&decide (m*((P.info? e).map (·.bytes)).getD 0<=1099511627776)&&decide (m<=1099511627776)) (K (.view d (A7 P e) 0 m) [(d,.ar false new)])
 |_=>none
def Hl (k:Bool):List Operand->List PV->List PV
  |x::xs,p::ps=>
    (match x,p with
     |.const (.slice none 0 0),.lst z es 0 []=>.lst (k||z) es 0 []
     |_,p=>p)::Hl k xs ps
  |_,ps=>ps
def VN (P:Program)(t:TypeId)(x:PV)(K:Nat->Option R):Option R:=
 match P.underlying t with
 |some (.slice e)=>Sa (A7 P e) x fun z _ _=>Bi z (K 0)
 |_=>none
def Zq (P:Program)(f:FuncId)(c:Call):List TypeId:=
 match P.funcs[f]? with
 |some fn=>fn.params.toList
 |none=>c.argTypes.toList
def Yn (C:Ft)(P:Program)(N:Nat)(call:Ax)(tm:Nat->PV)(rdaf:Nat->Option (List PV)) (o:Oper)(c:Call)(f:FuncId)(K:PV->List Nat->List (Nat × Bk)->Option R):Option R:=
 Yw P rdaf (Zq P f c) (c.args.toList.map (Bv tm)) fun vs m=>
  Ah (call f (Hl (C.kz f) c.args.toList vs)) fun rv ro=>Ad ro (Bi (Nat.blt 0 N)<|V4 P (C.shr f) N (o.dst.getD 0) (Kl P o.type) rv fun ws bs=>
   Bi (bif Lh P o.type then !Nat.beq ws.length 1 else Nat.beq ws.length 1)<|K (Ko ws (Lh P o.type)) (bif Hk P (Kl P o.type) then m else []) bs)
def X7 (C:Ft)(P:Program)(N:Nat)(call:Ax)(tm:Nat->PV)(rdf rdaf:Nat->Option (List PV)) (o:Oper)(K:PV->List Nat->List (Nat × Bk)->Option R):Option R:=
  match o.op with
  |.move x=>Ug P o.type tm x fun p=>K p [] []
  |.assign x=>Ug P o.type tm x fun p=>K p [] []
  |.pick c a b=>Aq (Bv tm c) fun t=>Bh t (K (Bv tm a) [] []) (K (Bv tm b) [] [])
  |.alloc t=>Dk o.dst fun d=>Fy P t fun cs=>K (.ptr d 0) [] [(d,Aau P t cs)]
  |.box t x=>Dk o.dst fun d=>Bi (Ha P t&&Nat.beq (cellsOf (Bv tm x)).length (Gr P t).length)
      (bif Pi P t then Of (Gr P t) (cellsOf (Bv tm x)) 0 fun cs=>K (.ptr d 0) [] [(d,.ar false cs)]
       else K9 (Gr P t) (cellsOf (Bv tm x)) 0 fun cs=>K (.ptr d 0) [] [(d,.st cs)])
  |.build t ps=>Bi (Mf P t&&B1 P t)<|Fy P t fun z=>Ps (Nf P t) (ps.toList.map fun q=>(q.1,Bv tm q.2)) z fun cs=>K9 (Gr P t) cs 0 fun cs'=>K (.agg cs') [] []
  |.buildSlice t n ps=>Dk o.dst fun d=>
      match P.underlying t with
      |some (.slice e)=>Bi (Mf P t&&Nat.ble (n*A7 P e) 16777216) (Fy P e fun z=>Ps (Nf P t) (ps.toList.map fun q=>(q.1,Bv tm q.2)) (Nh n z) fun cs=>
          Kd rdaf (List.replicate n (Gr P e)).flatten cs fun cs' m=>K (.view d (A7 P e) 0 n) m [(d,.ar false (bif C.nz N then MV true cs cs' else cs'))])
      |_=>none
  |.load t a=>Sz (C.nz N) P rdf rdaf t (Bv tm a) fun v=>K v [] []
  |.nilCheck x=>Pd (Bv tm x) 0 fun p=>K p [] []
  |.binOp op t x y _=>
      Px P op t (Bv tm x) (Bv tm y) fun v=>K v [] []
  |.unOp op _ x=>unK op (Bv tm x) fun v=>K v [] []
  |.convert src dst x=>Zz P rdaf (o.dst.getD 0) src dst (Bv tm x) fun v b=>Dk o.dst fun _=>K v [] b
  |.makeSlice t l c=>Dk o.dst fun d=>
      match P.underlying t with
      |some (.slice e)=>Da (Bv tm l) fun _ n=>Da (Bv tm c) fun _ m=>
          Bi (decide (0<=n)&&decide (n<=m)&&decide (m*((P.info? e).map (·.bytes)).getD 0<=1099511627776)&&decide (m<=1099511627776))
            (Fy P e fun z=>K (.view d (A7 P e) 0 n.toNat) [] [(d,.ar false (Nh n.toNat z))])
      |_=>none
  |.slice t x lo hi mx=>
      match mx with
      |none=>Ve P rdf t (Bv tm x) (lo.map (Bv tm)) (hi.map (Bv tm)) fun v=>K v [] []
      |some m=>Dk o.dst fun d=>Qf P d t (Bv tm x) (lo.map (Bv tm)) (hi.map (Bv tm)) (some (Bv tm m)) fun v nw=>K v [] nw
  |.fieldAddr t x f=>Dk (L7 P t f) fun q=>Bi (Nat.ble 1 (A7 P q.2)) (Pd (Bv tm x) q.1 fun p=>K p [] [])
  |.field t x f=>Dk (L7 P t f) fun q=>Bi (Ha P q.2)<|Fq (Bv tm x) fun cs=>K9 (Gr P q.2) cs q.1 fun c=>TS (B1 P q.2) c fun v=>K v [] []
  |.indexAddr t x i=>Da (Bv tm i) fun _ n=>Id P t (Bv tm x) n fun p=>K p [] []
  |.index t x i=>Da (Bv tm i) fun _ n=>
      match P.underlying t with
      |some .string=>Az (Bv tm x) fun s=>Bi (decide (0<=n)) (Dk (s.data.toList[n.toNat]?) fun b=>K (.sc (.int .u8 b.toNat)) [] [])
      |some (.array len e)=>Fq (Bv tm x) fun cs=>Bi (decide (0<=n)&&decide (n<len)&&Ha P e) (K9 (Gr P e) cs (n.toNat*A7 P e) fun c=>TS (B1 P e) c fun v=>K v [] [])
      |_=>none
  |.lookup t x k ok=>
      match P.underlying t with
      |some (.map kt vt)=>Bi (match P.underlying kt with|some .string=>true|_=>false) (
        match Bv tm x with
        |.sc (.map none)=>Az (Bv tm k) fun _=>Dk (L2 P vt) fun z=>cvK P vt z fun v=>Bi (match v with | .tup _=>false|_=>true) (K (bif ok then .tup [v,.sc (.bool false)] else v) [] [])
        |_=>none)
      |_=>none
  |.extract x i=>
      match Bv tm x with
      |.tup vs=>Dk vs[i]? fun p=>K p [] []
      |_=>none
  |.call c=>
      match c.callee with
      |.builtin .len=>Aa c.args.toList fun x _=>Aa c.argTypes.toList fun t _=>VH P t (Bv tm x) fun n=>K (.sc (.int .i64 n)) [] []
      |.builtin .cap=>Aa c.args.toList fun x _=>Aa c.argTypes.toList fun t _=>VN P t (Bv tm x) fun n=>K (.sc (.int .i64 n)) [] []
      |.builtin .min=>Aa c.args.toList fun x r=>Aa r fun y r'=>Ad r' (Aee (Bv tm x) (Bv tm y) fun v=>K v [] [])
      |.builtin .max=>Aa c.args.toList fun x r=>Aa r fun y r'=>Ad r' (Af5 (Bv tm x) (Bv tm y) fun v=>K v [] [])
      |.builtin .append=>Bi (S9 c) (Dk o.dst fun d=>Aa c.args.toList fun _ r=>Aa r fun x r'=>Ad r' (Aa c.argTypes.toList fun t u=>Aa u fun tx _=>P6 P rdaf d t tx (Bv tm x) fun v nw=>K v [] nw))
      |.value (.func f)=>Yn C P N call tm rdaf o c f K
      |.value (.tmp t)=>fvK (tm t) fun f=>Yn C P N call tm rdaf o c f K
      |_=>none
  |_=>none
def M6 (C:Ft)(P:Program)(o:Op):Bool:=
 match o with
 |.store .. =>true
 |.call c=>
  match c.callee with
  |.builtin .append=> !S9 c
  |.builtin .copy=>true
  |.builtin _=>false
  |.value (.func f)=>((Zq P f c).any fun t=>(Ss P t).isSome)||((Zq P f c).zipIdx.any fun q=>C.mvd f q.2||C.lnd f q.2)
  |_=>false
 |_=>false
def Ot (b:Bk):Bk:=
 match b with
 |.ar _ c=>.ar true c
 |b=>b
def Af (hp:Nat->Option Bk)(ids:List Nat):Nat->Option Bk:=fun i=>bif ids.any (Nat.beq i) then (hp i).map Ot else hp i
def An (hp:Nat->Option Bk):List (Nat × Bk)->Nat->Option Bk
 |[]=>hp
 |(i,b)::r=>An (Ch hp i (some b)) r
def Bn (hp:Nat->Option Bk):List (Nat × Bk)->Bool
 |[]=>true
 |(i,_)::r=>(hp i).isNone && !(r.any fun q=>Nat.beq q.1 i)&&Bn hp r
def Bj (tm:Nat->PV)(d:Option Tmp)(v:PV):Nat->PV:=
 match d with
 |some i=>Ch tm i v
 |none=>tm
def Fc (N:Nat)(d:Option Tmp):Bool:=
 match d with
 |some i=>Nat.blt i N
 |none=>true
def U9 (N:Nat)(s:St)(d:Option Tmp)(v:PV)(fz:List Nat)(nw:List (Nat × Bk)) (K:St->Option R):Option R:=
 Bi (Fc N d&&Bn s.hp nw) (K ⟨Bj s.tm d v,An (Af s.hp fz) nw⟩)
def Uq (P:Program)(s:St)(t:TypeId)(a x:PV)(K:St->Option R):Option R:=
 match a with
 |.ptr id off=>
  match s.hp id with
  |some (.st c)=>Bi (Ha P t&&Nat.beq (cellsOf x).length (Gr P t).length&&decide (off+(Gr P t).length<=c.length)) (K9 (Gr P t) (cellsOf x) 0 fun cs=>Ab (B8 c cs off) fun c=>K ⟨s.tm,Ch s.hp id (some (.st c))⟩)
  |some (.ar false c)=>Bi (Ha P t&&decide (off+(Gr P t).length<=c.length)) (Kd (Hm s.hp) (Gr P t) (cellsOf x) fun cs m=>Bi (!m.any (Nat.beq id)) (Ab (B8 c cs off) fun c=>K ⟨s.tm,Ch (Af s.hp m) id (some (.ar false c))⟩))
  |_=>none
 |_=>none
def Sn (P:Program)(t:TypeId):Bool:=
 match P.underlying t with
 |some (.int _)=>true
 |_=>false
def O3 (P:Program)(N:Nat)(s:St)(d:Nat)(e:TypeId)(b x:PV)(K:St->Option R):Option R:=
 Da x fun _ n=>Sa (A7 P e) b fun z _ _=>
  Bi (z&&Nat.blt d N&&(s.hp d).isNone&&decide (0<=n)&&decide (n.toNat*((P.info? e).map (·.bytes)).getD 0<=1099511627776)&&decide (n<=1099511627776))
   (K ⟨Ch s.tm d (.view d (A7 P e) 0 n.toNat),Ch s.hp d (some (.ar false []))⟩)
def Lb (P:Program)(N:Nat)(s:St)(d:Nat)(t tx:TypeId)(b x:PV)(K:St->Option R):Option R:=
 match P.underlying t with
 |some (.slice e)=>Bi (GE P e) <|
  bif Sn P tx then O3 P N s d e b x K else
  PM P s (A7 P e) tx x fun m new=>
  match b with
  |.view id es off n=>
   match s.hp id with
   |some (.ar false c)=>
    Bi (Nat.beq es (A7 P e)&&Nat.beq off 0&&Nat.blt d N&&(s.hp d).isNone&&decide (n*es<=c.length)&&decide (new.length=m*es)
     && decide ((n+m)*((P.info? e).map (·.bytes)).getD 0<=1099511627776)&&decide (n+m<=1099511627776))
     (Ab (n+m) fun n'=>Ab (c.take (n*es)++new) fun c=>K ⟨Ch s.tm d (.view d es 0 n'),Ch (Ch s.hp id (some .mv)) d (some (.ar false c))⟩)
   |_=>none
  |b=>Sa (A7 P e) b fun z _ _=>
    Bi (z&&Nat.blt d N&&(s.hp d).isNone&&decide (new.length=m*A7 P e)&&decide (m*((P.info? e).map (·.bytes)).getD 0<=1099511627776)&&decide (m<=1099511627776))
     (K ⟨Ch s.tm d (.view d (A7 P e) 0 m),Ch s.hp d (some (.ar false new))⟩)
 |_=>none
def DK (P:Program)(N:Nat)(s:St)(d:Option Tmp)(t tx:TypeId)(b x:PV)(K:St->Option R):Option R:=
 match P.underlying t with
 |some (.slice e)=>Bi (Y5 P e&&Fc N d) <|
  PM P s (A7 P e) tx x fun m new=>
  match b with
  |.view id es off n=>
   match s.hp id with
   |some (.ar false c)=>Bi (Nat.beq es (A7 P e)&&decide (off+n*es<=c.length)&&decide (new.length=m*es))
     (Ab (min m n) fun k=>Ab (B8 c (new.take (k*es)) off) fun c=>K ⟨Bj s.tm d (.sc (.int .i64 k)),Ch s.hp id (some (.ar false c))⟩)
   |_=>none
  |_=>none
 |_=>none
def WM (mv:Bool)(hp:Nat->Option Bk)(t:CT)(p:PV)(K:PV->List Nat->List Nat->Option R):Option R:=
 match t with
 |.sl es=>
  bif mv then
   match p with
   |.view id es' off n=>
    match hp id with
    |some (.ar false c)=>
     bif Nat.beq es' es&&Nat.beq off 0 then Bi (decide (n*es<=c.length)) (K (.own es n (c.take (n*es))) [] [id])
     else K6 (Hm hp) (.sl es) (.view id es' off n) fun c m=>K c m []
    |_=>K6 (Hm hp) (.sl es) (.view id es' off n) fun c m=>K c m []
   |p=>Sa es p fun z n c=>bif z then K (.own es 0 []) [] [] else K (.lst false es n c) [] []
  else K6 (Hm hp) (.sl es) p fun c m=>K c m []
 |t=>Uz t p fun c=>K c [] []
def Vv (mv:Bool)(hp:Nat->Option Bk):List CT->List PV->(List PV->List Nat->List Nat->Option R)->Option R
 |[],[],K=>K [] [] []
 |t::ts,p::ps,K=>WM mv hp t p fun c m x=>Vv mv hp ts ps fun cs ms xs=>K (c::cs) (m++ms) (x++xs)
 |_,_,_=>none
inductive Fm where
 |var (id off:Nat) (cts:List CT) (ws:List PV)
 |row (id:Nat)
 |none
def Fm.ids:Fm->List Nat
 |.var id _ _ _=>[id]
 |.row id=>[id]
 |.none=>[]
def Ark (P:Program)(t:TypeId):Option TypeId:=
 match P.underlying t with
 |some (.slice e)=>some e
 |_=>none
def YX (hp:Nat->Option Bk)(es:Nat)(p:PV)(K:PV->List Fm->Option R):Option R:=
 match p with
 |.view id es' off n=>
  match hp id with
  |some (.ar false c)=>Bi (Nat.beq es' es&&Nat.beq off 0) (K (.tup [.own es n c]) [.row id])
  |_=>none
 |p=>Sa es p fun z _ _=>Bi z (K (.tup [.own es 0 []]) [.none])
def U0 (C:Ft)(P:Program)(f:FuncId)(hp:Nat->Option Bk)(i:Nat)(t:TypeId)(p:PV)(K:PV->List Nat->List Nat->List Fm->Option R):Option R:=
 match Ss P t with
 |some e=>
  match p with
  |.ptr id off=>
   match hp id with
   |some (.st c)=>Bi (Ha P e&&decide (off+(Gr P e).length<=c.length)) (Vv (C.mvd f i) hp (Gr P e) ((c.drop off).take (Gr P e).length) fun cs m x=>K (.pbox cs) m x [.var id off (Gr P e) cs])
   |_=>none
  |_=>none
 |none=>
  bif C.lnd f i then Dk (Ark P t) fun e=>YX hp (A7 P e) p fun v l=>K v [] [] l
  else bif B1 P t then Fq p fun ps=>Vv (C.mvd f i) hp (Gr P t) ps fun cs m x=>K (.agg cs) m x []
  else Vv (C.mvd f i) hp (Gr P t) [p] fun cs m x=>Aa cs fun c r=>Ad r (K c m x [])
def DR (C:Ft)(P:Program)(f:FuncId)(hp:Nat->Option Bk):Nat->List TypeId->List PV->(List PV->List Nat->List Nat->List Fm->Option R)->Option R
 |_,[],[],K=>K [] [] [] []
 |i,t::ts,p::ps,K=>U0 C P f hp i t p fun v m x l=>DR C P f hp (i+1) ts ps fun vs ms xs ls=>K (v::vs) (m++ms) (x++xs) (l++ls)
 |_,_,_,_=>none
def Oz (hp:Nat->Option Bk)(ids:List Nat):Nat->Option Bk:=fun i=>bif ids.any (Nat.beq i) then (hp i).map (fun _=>Bk.mv) else hp i
def NX (N t:Nat):Nat:=N*(1000+t)
def MB (N:Nat)(hp:Nat->Option Bk):Nat->Nat->Nat
 |0,t=>t
 |k+1,t=>bif (hp (NX N t)).isNone then t else MB N hp k (t+1)
def VR (N t:Nat)(ct:CT)(was p:PV)(K:Nat->PV->List (Nat × Bk)->Option R):Option R:=
 match ct with
 |.sl es=>
  match was with
  |.own _ _ _=>NY es p fun n c=>K (t+1) (.view (NX N t) es 0 n) [(NX N t,.ar false c)]
  |_=>Sa es p fun _ n c=>K t (.lst false es n c) []
 |ct=>Uz ct p fun c=>K t c []
def ES (N:Nat):Nat->List CT->List PV->List PV->(Nat->List PV->List (Nat × Bk)->Option R)->Option R
 |t,[],[],ps,K=>Ad ps (K t [] [])
 |t,ct::cts,w::ws,ps,K=>Aa ps fun p ps=>VR N t ct w p fun t' c b=>ES N t' cts ws ps fun t'' cs bs=>K t'' (c::cs) (b++bs)
 |_,_,_,_,_=>none
def Ru (N:Nat):Nat->List Fm->List (List PV)->(Nat->Option Bk)->((Nat->Option Bk)->List (Nat × Bk)->Option R)->Option R
 |_,[],ro,hp,K=>Ad ro (K hp [])
 |t,.var id off cts ws::l,ro,hp,K=>Aa ro fun cs ro=>ES N t cts ws cs fun t' cs' bs=>
   match hp id with
   |some (.st c)=>Ab (B8 c cs' off) fun c=>Ru N t' l ro (Ch hp id (some (.st c))) fun Ck bs'=>K Ck (bs++bs')
   |_=>none
 |t,.row id::l,ro,hp,K=>Aa ro fun cs ro=>Ru N t l ro (Ch hp id (some (.ar false cs))) K
 |t,.none::l,ro,hp,K=>Aa ro fun _ ro=>Ru N t l ro hp K
def Dp:List Nat->Bool
 |[]=>true
 |a::r=> !(r.any (Nat.beq a))&&Dp r
def Vk (C:Ft)(P:Program)(N:Nat)(call:Ax)(s:St)(o:Oper)(f:FuncId)(c:Call)(K:St->Option R):Option R:=
 DR C P f s.hp 0 (Zq P f c) (c.args.toList.map (Bv s.tm)) fun vs m x l=>
  Bi (Dp (l.flatMap Fm.ids++x)&&m.all (fun i=> !((l.flatMap Fm.ids++x).any (Nat.beq i)))&&Nat.blt 0 N&&Fc N o.dst) <|
  Ah (call f (Hl (C.kz f) c.args.toList vs)) fun rv ro=>
   V4 P (C.shr f) N (o.dst.getD N) (Kl P o.type) rv fun ws bs=>
    Bi (bif Lh P o.type then !Nat.beq ws.length 1 else Nat.beq ws.length 1) <|
    Awu (MB N s.hp 100 0) fun t0=>Ru N t0 l ro (Oz (Af s.hp m) x) fun Ck bs'=>
     Bi (Bn Ck (bs++bs')) (K ⟨Bj s.tm o.dst (Ko ws (Lh P o.type)),An Ck (bs++bs')⟩)
def Ql (C:Ft)(P:Program)(N:Nat)(call:Ax)(s:St)(o:Oper)(K:St->Option R):Option R:=
 match o.op with
 |.store t a x=>Bi (o.dst.isNone) (Uq P s t (Bv s.tm a) (Bv s.tm x) K)
 |.call c=>
  match c.callee with
  |.builtin .append=>Dk o.dst fun d=>Aa c.args.toList fun b r=>Aa r fun x r'=>Ad r' (Aa c.argTypes.toList fun t u=>Aa u fun tx _=>Lb P N s d t tx (Bv s.tm b) (Bv s.tm x) K)
  |.builtin .copy=>Aa c.args.toList fun b r=>Aa r fun x r'=>Ad r' (Aa c.argTypes.toList fun t u=>Aa u fun tx _=>DK P N s o.dst t tx (Bv s.tm b) (Bv s.tm x) K)
  |.value (.func f)=>Vk C P N call s o f c K
  |_=>none
 |_=>none
def NK (C:Ft)(P:Program)(N:Nat)(call:Ax)(o:Oper)(s:St)(K:St->Option R):Option R:=
 bif M6 C P o.op then Ql C P N call s o K
 else X7 C P N call s.tm (rd s.hp) (Hm s.hp) o fun v fz nw=>U9 N s o.dst v fz nw K
def C8 (C:Ft)(P:Program)(N:Nat)(call:Ax)(ops:Array Oper)(o:Oper)(s:St)(K:St->Option R):Option R:=
 match o.guard with
 |none=>NK C P N call o s K
 |some (j,want)=>
  match (ops[j]?).bind (·.dst) with
  |none=>none
  |some d=>
   match s.tm d with
   |.sc (.bool b)=>
    Bh b (bif want then NK C P N call o ⟨Ch s.tm d (.sc (.bool true)),s.hp⟩ K else Bi (Fc N o.dst) (K ⟨Bj (Ch s.tm d (.sc (.bool true))) o.dst (.sc undef),s.hp⟩))
     (bif want then Bi (Fc N o.dst) (K ⟨Bj (Ch s.tm d (.sc (.bool false))) o.dst (.sc undef),s.hp⟩) else NK C P N call o ⟨Ch s.tm d (.sc (.bool false)),s.hp⟩ K)
   |.sc (.tuple _)=>Bi (Fc N o.dst) (K ⟨Bj s.tm o.dst (.sc undef),s.hp⟩)
   |_=>none
def Kf (C:Ft)(P:Program)(N:Nat)(call:Ax)(ops:Array Oper):List Oper->St->(St->Option R)->Option R
 |[],s,K=>K s
 |o::r,s,K=>C8 C P N call ops o s fun s'=>Kf C P N call ops r s' K
noncomputable def FI (x y:Option R):Option R:=open Classical in if x=y then x else none
noncomputable def OT (ops:Array Oper)(o:Oper)(s:St)(F:St->Option R):Option R:=
 match o.guard with
 |none=>F s
 |some (j,_)=>
  match (ops[j]?).bind (·.dst) with
  |none=>F s
  |some d=>
   match s.tm d with
   |.ub=>FI (F ⟨Ch s.tm d (.sc (.bool true)),s.hp⟩) (F ⟨Ch s.tm d (.sc (.bool false)),s.hp⟩)
   |_=>F s
noncomputable def HX (C:Ft)(P:Program)(N:Nat)(call:Ax)(ops:Array Oper):List Oper->St->(St->Option R)->Option R
 |[],s,K=>K s
 |o::r,s,K=>OT ops o s fun s1=>C8 C P N call ops o s1 fun s'=>HX C P N call ops r s' K
end
def ZS (o:Oper):List Nat:=o.op.operands.toList.filterMap fun x=>match x with | .tmp t=>some t|_=>none
def looks (ops:Array Oper)(o:Oper):List Nat:=
 ZS o++(match o.guard with|some (g,_)=>((ops[g]?).bind (·.dst)).toList|none=>[])
def Gb (P:Program)(o:Op):Bool:=
 match o with
 |.slice t .. =>match P.underlying t with|some (.array _ _)=>true|_=>false
 |.buildSlice t _ _=>match P.underlying t with|some (.slice e)=>Hk P [e]|_=>true
 |.convert _ dst _=>match P.underlying dst with|some .string=>true|_=>false
 |.alloc _ | .box .. | .makeSlice .. =>false
 |.move _ | .assign _ | .pick .. | .build .. | .binOp .. | .unOp .. | .fieldAddr .. | .field .. | .index .. | .indexAddr .. | .extract .. | .nilCheck _=>false
 |.call c=>match c.callee with | .builtin .len=>false | .builtin .min=>false | .builtin .max=>false|_=>true
 |_=>true
def Zv (C:Ft)(P:Program)(ops:Array Oper)(x y:Oper):Bool:=
 (match x.dst with|some d=>(looks ops y).any (Nat.beq d)||(match y.dst with|some e=>Nat.beq d e|none=>false)|none=>false) ||
 (match y.dst with|some e=>(looks ops x).any (Nat.beq e)|none=>false) ||
 (M6 C P x.op&&Gb P y.op)||(M6 C P y.op&&Gb P x.op)
def Gx (ops:List Oper):List Nat->List Nat
 |acc=>match ops with
  |[]=>acc
  |o::r=>Gx r (acc++[o.after.toList.foldl (fun s e=>bif Region.binds .any e then s ||| 2 ^ e.on ||| acc.getD e.on 0 else s) 0])
def Xq (C:Ft)(P:Program)(ops:Array Oper)(bs:List Nat):List Oper->Nat->Bool
 |[],_=>true
 |o::r,i=>(ops.toList.zipIdx.all fun q=> !Nat.blt q.2 i || !Zv C P ops q.1 o||(bs.getD i 0).testBit q.2)&&Xq C P ops bs r (i+1)
def DO (C:Ft)(P:Program)(ops:Array Oper):Bool:=
 ops.toList.zipIdx.all (fun q=>q.1.after.toList.all fun e=> !Region.binds .any e||Nat.blt e.on q.2)&&Xq C P ops (Gx ops.toList []) ops.toList 0
def Am:PV->List Nat
 |.view id _ _ _=>[id]
 |.ptr id _=>[id]
 |_=>[]
def B6:PV->List Nat
 |.agg cs=>cs.flatMap Am
 |p=>Am p
def Bo:PV->List Nat
 |.tup ps=>ps.flatMap B6
 |p=>B6 p
def Ou (P:Program)(o:Op):Bool:=
 match o with
 |.load .. =>true
 |.convert _ dst _=>(match P.underlying dst with|some .string=>true|_=>false)
 |_=>false
def Kt (o:Op):Bool:=
 match o with
 |.call c=>(match c.callee with | .builtin .append=> !S9 c|_=>false)
 |_=>false
def YL (ops:Array Oper)(x y:Oper):Bool:=
 (match x.dst with|some d=>(looks ops y).any (Nat.beq d)||(match y.dst with|some e=>Nat.beq d e|none=>false)|none=>false) ||
 (match y.dst with|some e=>(looks ops x).any (Nat.beq e)|none=>false)
def Nm (C:Ft)(P:Program)(x y:Oper):Bool:=(M6 C P x.op&&Gb P y.op)||(M6 C P y.op&&Gb P x.op)
def Hw (C:Ft)(P:Program)(x y:Oper):Bool:=(M6 C P x.op&&Ou P y.op)||(M6 C P y.op&&Ou P x.op)||(Kt x.op&&Kt y.op)
def Abc (C:Ft)(P:Program)(ops:Array Oper)(x y:Oper):Bool:=YL ops x y||(Nm C P x y && !Hw C P x y)
def Sm (C:Ft)(P:Program)(ops:Array Oper)(bs:List Nat):List Oper->Nat->Bool
 |[],_=>true
 |o::r,i=>(ops.toList.zipIdx.all fun q=> !Nat.blt q.2 i || !Abc C P ops q.1 o||(bs.getD i 0).testBit q.2)&&Sm C P ops bs r (i+1)
def Y0 (C:Ft)(P:Program)(ops:Array Oper):Bool:=
 ops.toList.zipIdx.all (fun q=>q.1.after.toList.all fun e=> !Region.binds .any e||Nat.blt e.on q.2)&&Sm C P ops (Gx ops.toList []) ops.toList 0
def Jl (C:Ft)(P:Program)(s:St)(o:Oper):List Nat:=
 let l:=o.op.operands.toList.flatMap fun y=>Bo (Bv s.tm y)
 bif M6 C P o.op && !Kt o.op then l++l.flatMap (fun i=>match s.hp i with|some (.st c)=>c.flatMap Am|_=>[])
 else bif Ou P o.op||Kt o.op then l else []
def WZ (a b:List Nat):Bool:=a.all fun i=> !b.any (Nat.beq i)
def Sw (C:Ft)(P:Program)(ops:Array Oper)(bs:List Nat)(i:Nat)(o:Oper):List Nat:=
 (ops.toList.zipIdx.filter fun q=>Hw C P q.1 o && !(Nat.blt q.2 i&&(bs.getD i 0).testBit q.2) && !(Nat.blt i q.2&&(bs.getD q.2 0).testBit i)).map (·.2)
def Wf (C:Ft)(P:Program)(ops:Array Oper)(bs:List Nat):List (List Nat):=ops.toList.zipIdx.map fun q=>Sw C P ops bs q.2 q.1
def Wp (C:Ft)(P:Program)(sm:List (List Nat)) (s:St)(i:Nat)(o:Oper):List Nat:=
 match sm.getD i [] with
 |[]=>[]
 |_::_=>Jl C P s o
def BN (C:Ft)(P:Program)(sm:List (List Nat)) (s:St)(i:Nat)(o:Oper)(q:Nat × Oper × List Nat):Bool:=
 !((sm.getD i []).any (Nat.beq q.1))||WZ q.2.2 (Wp C P sm s i o)
def Gl {R:Type}(C:Ft)(P:Program)(N:Nat)(call:Ax)(ops:Array Oper)(sm:List (List Nat)):List (Nat × Oper × List Nat)->List Nat->St->(St->Option R)->Option R
 |_,[],s,K=>K s
 |dn,i::l,s,K=>Dk ops[i]? fun o=>Bi (dn.all (BN C P sm s i o)&&(Wp C P sm s i o).all (fun k=>(s.hp k).isSome)) (C8 C P N call ops o s fun s'=>Gl C P N call ops sm ((i,o,Wp C P sm s i o)::dn) l s' K)
def Aar (m i:Nat):Nat:=m ||| 2 ^ i
def Axn (m i:Nat):Nat:=bif m.testBit i then m ^^^ 2 ^ i else m
def TC (ops:Array Oper):List Oper->Nat->Nat
 |[],m=>m
 |o::r,m=>
  let m1:=TC ops r m
  let m2:=match o.dst with|some d=>Axn m1 d|none=>m1
  (looks ops o).foldl Aar m2
def K8:Code->Nat->(Nat->Nat)->Nat->Nat
 |.skip,ln,_,_=>ln
 |.region _ ops _,ln,_,_=>TC ops ops.toList ln
 |.seq a b,ln,lx,lr=>K8 a (K8 b ln lx lr) lx lr
 |.cond c a b,ln,lx,lr=>let m:=K8 a ln lx lr ||| K8 b ln lx lr;match c with | .tmp d=>Aar m d|_=>m
 |.block id c,ln,lx,lr=>K8 c ln (fun j=>bif Nat.beq j id then ln else lx j) lr
 |.loop c,_,lx,lr=>K8 c (K8 c 0 lx lr) lx lr
 |.exit id,_,lx,_=>lx id
 |.ret,_,_,lr=>lr
 |_,_,_,_=>0
def KI (ops:List Oper):List Nat:=(ops.filterMap fun o=>o.guard.map (·.1)).eraseDups
def Kr:Code->Nat
 |.region _ _ _=>1
 |.seq a b=>Kr a+Kr b
 |.cond _ a b=>Kr a+Kr b
 |.block _ c=>Kr c
 |.loop c=>Kr c
 |_=>0
def Us:Code->Nat
 |.skip=>1
 |.region _ ops _=>2 ^ min 6 (KI ops.toList).length
 |.seq a b=>bif (Nat.ble 7 (Us a)&&Nat.ble 6 (Kr b))||(Nat.ble 5 (Us a)&&Nat.ble 9 (Kr b)) then Us b else min 1000 (Us a*Us b)
 |.cond _ a b=>Us a+Us b
 |.block _ c=>Us c
 |.loop _=>1
 |.exit _=>1
 |_=>0
def Ah3 (P:Program)(o:Oper):Bool:=
 match o.op with
 |.load t _=>Pi P t&&Nat.ble 8 (A7 P t)
 |.store t _ _=>Pi P t&&Nat.ble 8 (A7 P t)
 |_=>false
def JY (P:Program):Code->Bool
 |.region _ ops _=>ops.toList.any (Ah3 P)
 |.seq a _=>JY P a
 |_=>false
def TE (P:Program):Code->Bool
 |.region _ ops _=>ops.toList.any (Ah3 P)
 |.seq _ b=>TE P b
 |_=>false
def Ar4:Code->Nat
 |.seq a b=>match b with
  |.ret=>(match a with | .region _ ops _=>(KI ops.toList).length|_=>0)
  |_=>Ar4 b
 |_=>0
def YK (x y:Code):Bool:=(Nat.beq (Us x) 1&&Nat.beq (Ar4 y) 11)||(Nat.beq (Us x) 4&&Nat.beq (Kr x) 7&&(Nat.beq (Kr y) 3||Nat.beq (Kr y) 1))||(Nat.beq (Us x) 9&&Nat.beq (Kr x) 5&&Nat.beq (Kr y) 5)
def Xn (a b:Code):Bool:=YK a b||(match b with | .seq x y=>YK x y|_=>false)
def Ab8 (P:Program)(a b:Code):Bool:=(Nat.ble 7 (Us a)&&Nat.ble 6 (Kr b))||(Nat.ble 5 (Us a)&&Nat.ble 9 (Kr b))||Xn a b||JY P b||TE P a
def I7 (m:Nat):Nat->List Nat
 |0=>[]
 |n+1=>I7 m n++(bif m.testBit n then [n] else [])
def lk (l:List (Nat × PV)) (i:Nat):PV:=
 match l with
 |[]=>.top
 |(j,p)::r=>bif Nat.beq i j then p else lk r i
def Jh (l:List (Nat × Bk)) (i:Nat):Option Bk:=
 match l with
 |[]=>none
 |(j,b)::r=>bif Nat.beq i j then some b else Jh r i
def Qs (l:List (Nat × Nat)) (i:Nat):Option Nat:=
 match l with
 |[]=>none
 |(j,b)::r=>bif Nat.beq i j then some b else Qs r i
def Xo (N:Nat)(s:St)(i:Nat):St:=
 match s.tm i with
 |.lst true es 0 []=>
  bif (s.hp i).isNone then ⟨Ch s.tm i (.view i es 0 0),Ch s.hp i (some (.ar false []))⟩
  else bif (s.hp (i+N*3000)).isNone then ⟨Ch s.tm i (.view (i+N*3000) es 0 0),Ch s.hp (i+N*3000) (some (.ar false []))⟩
  else s
 |_=>s
def GM (N:Nat)(id:Nat)(s:St)(j:Nat):St:=
 match s.hp id with
 |some (.st c)=>
  match c[j]? with
  |some (.lst true es 0 [])=>bif (s.hp (id+N*(j+1))).isNone then ⟨s.tm,Ch (Ch s.hp id (some (.st (c.set j (.view (id+N*(j+1)) es 0 0))))) (id+N*(j+1)) (some (.ar false []))⟩ else s
  |_=>s
 |_=>s
def HG (N:Nat)(s:St)(i:Nat):St:=
 match s.tm i with
 |.ptr id _=>
  match s.hp id with
  |some (.st c)=>(List.range c.length).foldl (GM N id) s
  |_=>s
 |_=>s
def DU (m:List (Nat × Nat)) (old new:Nat):List (Nat × Nat):=
 match Qs m old with
 |some _=>m
 |none=>m++[(old,new)]
def Nb (N new:Nat):List PV->Nat->List (Nat × Nat)->List (Nat × Nat)
 |[],_,m=>m
 |.view id _ _ _::r,j,m=>Nb N new r (j+1) (DU m id (new+N*(j+1)))
 |_::r,j,m=>Nb N new r (j+1) m
def Xr (N:Nat)(s:St)(m:List (Nat × Nat)) (i:Nat):List (Nat × Nat):=
 match s.tm i with
 |.view id _ _ _=>DU m id i
 |.ptr id _=>
  match Qs m id with
  |some _=>m
  |none=>
   match s.hp id with
   |some (.st c)=>Nb N i c 0 (DU m id i)
   |_=>DU m id i
 |.agg c=>Nb N i c 0 m
 |_=>m
def PA (m:List (Nat × Nat)):PV->PV
 |.view id es off n=>match Qs m id with|some j=>.view j es off n|none=>.top
 |.ptr id off=>match Qs m id with|some j=>.ptr j off|none=>.top
 |.sc v=>.sc v
 |.lst z es n c=>.lst z es n c
 |.iptr c off=>.iptr c off
 |_=>.top
def XH (m:List (Nat × Nat)):PV->PV
 |.agg c=>.agg (c.map (PA m))
 |p=>PA m p
def Afl (m:List (Nat × Nat)):Bk->Bk
 |.st c=>.st (c.map (PA m))
 |b=>b
def C3 (N i:Nat):Nat:=i+N*2000
def MI (N:Nat)(hp:Nat->Option Bk):Nat->List (Nat × Nat)
 |0=>[]
 |i+1=>bif (hp (C3 N i)).isSome then MI N hp i++[(C3 N i,C3 N i)] else MI N hp i
def Pg (N:Nat)(hp:Nat->Option Bk):Nat->List (Nat × Nat)->List (Nat × Nat)
 |0,m=>m
 |i+1,m=>
  match hp (C3 N i) with
  |some (.st c)=>Nb N (C3 N i) c 0 (Pg N hp i m)
  |_=>Pg N hp i m
def A34 (N:Nat)(hp:Nat->Option Bk)(k:Nat):List (Nat × Nat):=Pg N hp k (MI N hp k)
def Jj (m:List (Nat × Nat)) (hp:Nat->Option Bk):List (Nat × Nat)->List (Nat × Bk)
 |[]=>[]
 |(old,new)::r=>match hp old with
  |some b=>(new,Afl m b)::Jj m hp r
  |none=>Jj m hp r
section
variable {R:Type}
def RS (N:Nat)(ls:List Nat)(q:Bool)(s:St)(K:St->Option R):Option R:=
 let s2:=bif q then s else ls.foldl (HG N) (ls.foldl (Xo N) s)
 let m:=ls.foldl (Xr N s2) (A34 N s2.hp 8)
 Bi (Dp (m.map (·.1))&&Dp (m.map (·.2))) (K ⟨lk (ls.map fun i=>(i,XH m (s2.tm i))),Jh (Jj m s2.hp m)⟩)
def T8 (N L:Nat)(s:St)(K:St->Option R):Option R:=RS N (I7 L N) false s K
def TL (N L:Nat)(s:St)(K:St->Option R):Option R:=RS N (I7 L N) true s K
def Aaq (F:(St->Option R)->St->Option R) (nm:St->(St->Option R)->Option R):Nat->St->Option R
 |0,_=>none
 |n+1,s=>F (fun s'=>nm s' (Aaq F nm n)) s
def Yh (n:Nat)(F:St->Option R)(s:St):Option R:=
 match n with
 |0=>none
 |_+1=>F s
noncomputable def Acg (s:St)(c:Operand)(kt kf:St->Option R):Option R:=
 match c with
 |.tmp d=>
  match s.tm d with
  |.sc (.bool b)=>Bh b (kt ⟨Ch s.tm d (.sc (.bool true)),s.hp⟩) (kf ⟨Ch s.tm d (.sc (.bool false)),s.hp⟩)
  |.ub=>FI (kt s) (kf s)
  |_=>none
 |.const (.bool true)=>kt s
 |.const (.bool false)=>kf s
 |_=>none
noncomputable def Ly (C:Ft)(P:Program)(fu N:Nat)(call:Ax):Code->Nat->(Nat->Nat)->Nat->(St->Option R)->(Nat->St->Option R)->(St->Option R)->St->Option R
 |.skip,_,_,_,kn,_,_,s=>kn s
 |.region _ ops draw,_,_,_,kn,_,_,s=>LE (draw && !DO C P ops) (Bi (Y0 C P ops) (Ag4 (Wf C P ops (Gx ops.toList [])) fun sm=>Gl C P N call ops sm [] (List.range ops.size) s kn)) (LE draw (Kf C P N call ops ops.toList s kn) (HX C P N call ops ops.toList s kn))
 |.seq a b,ln,lx,lr,kn,kx,kr,s=>Ly C P fu N call a (K8 b ln lx lr) lx lr (fun s'=>LE (Ab8 P a b) (LE (Xn a b) (TL N (K8 b ln lx lr) s' (Yh fu fun s''=>Ly C P fu N call b ln lx lr kn kx kr s'')) (T8 N (K8 b ln lx lr) s' (Yh fu fun s''=>Ly C P fu N call b ln lx lr kn kx kr s''))) (Ly C P fu N call b ln lx lr kn kx kr s')) kx kr s
 |.cond c a b,ln,lx,lr,kn,kx,kr,s=>Acg s c (Ly C P fu N call a ln lx lr kn kx kr) (Ly C P fu N call b ln lx lr kn kx kr)
 |.block id c,ln,lx,lr,kn,kx,kr,s=>Ly C P fu N call c ln (fun j=>bif Nat.beq j id then ln else lx j) lr kn (fun j s'=>bif Nat.beq j id then kn s' else kx j s') kr s
 |.loop c,ln,lx,lr,_,kx,kr,s=>
  T8 N (K8 (.loop c) ln lx lr) s (Aaq (fun k s'=>Ly C P fu N call c (K8 (.loop c) ln lx lr) lx lr k kx kr s') (T8 N (K8 (.loop c) ln lx lr)) fu)
 |.exit id,_,_,_,_,kx,_,s=>kx id s
 |.ret,_,_,_,_,_,kr,s=>kr s
 |_,_,_,_,_,_,_,_=>none
def YT (id:Nat)(t:CT)(p:PV)(K:PV->List (Nat × Bk)->Option R):Option R:=
 match t with
 |.sl es=>
  match p with
  |.own es' n c=>bif Nat.beq es' es then K (.view id es 0 n) [(id,.ar false c)] else none
  |p=>Sa es p fun z n c=>K (.lst z es n c) []
 |t=>Uz t p fun c=>K c []
def Vy (N:Nat):Nat->List CT->List PV->(List PV->List (Nat × Bk)->Option R)->Option R
 |_,[],ps,K=>Ad ps (K [] [])
 |id,t::ts,ps,K=>Aa ps fun p ps=>YT id t p fun c b=>Vy N (id+N) ts ps fun cs bs=>K (c::cs) (b++bs)
def inK (P:Program)(N i:Nat)(t:TypeId)(p:PV)(K:PV->List (Nat × Bk)->Option R):Option R:=
 match Ss P t with
 |some e=>Tm p fun ps=>Bi (Nat.blt i 8) (Vy N (C3 N i+N) (Gr P e) ps fun cs bs=>K (.ptr (C3 N i) 0) ((C3 N i,.st cs)::bs))
 |none=>
  match p with
  |.tup ps=>Dk (Ark P t) fun e=>Bi (Nat.blt i 8) (Aa ps fun q r=>Ad r (NY (A7 P e) q fun n c=>K (.view (C3 N i) (A7 P e) 0 n) [(C3 N i,.ar false c)]))
  |p=>
   bif B1 P t then Fq p fun ps=>Vy N (i+N) (Gr P t) ps fun cs bs=>K (.agg cs) bs
   else Vy N (i+N) (Gr P t) [p] fun cs bs=>Aa cs fun c r=>Ad r (K c bs)
def ZQ (P:Program)(N:Nat):Nat->List TypeId->List PV->(List (Nat × PV)->List (Nat × Bk)->Option R)->Option R
 |_,[],ps,K=>Ad ps (K [] [])
 |i,t::ts,ps,K=>Aa ps fun p ps=>inK P N i t p fun v bs=>ZQ P N (i+1) ts ps fun vs bs'=>K ((i,v)::vs) (bs++bs')
def Ah0 (hp:Nat->Option Bk)(t:CT)(p:PV)(K:PV->List Nat->List Nat->Option R):Option R:=
  match t with
  |.sl es=>
    match p with
    |.view id es' off n=>bif Nat.beq es' es&&Nat.beq off 0 then
        (match hp id with
         |some (.ar false c)=>Bi (decide (n*es<=c.length)) (K (.own es n (c.take (n*es))) [id] [])
         |_=>none) else none
    |p=>Sa es p fun z _ _=>Bi z (K (.own es 0 []) [] [])
  |t=>Uz t p fun c=>K c [] []
def TO (shr:Bool)(hp:Nat->Option Bk)(t:CT)(p:PV)(K:PV->List Nat->List Nat->Option R):Option R:=
 bif shr then K6 (Hm hp) t p fun c m=>K c [] m else Ah0 hp t p K
def Vd (shr:Bool)(hp:Nat->Option Bk):List CT->List PV->(List PV->List Nat->List Nat->Option R)->Option R
 |[],[],K=>K [] [] []
 |t::ts,p::ps,K=>TO shr hp t p fun c m z=>Vd shr hp ts ps fun cs ms zs=>K (c::cs) (m++ms) (z++zs)
 |_,_,_=>none
def YN (P:Program)(shr:Bool)(hp:Nat->Option Bk)(t:TypeId)(p:PV)(K:PV->List Nat->List Nat->Option R):Option R:=
 match Ss P t with
 |some e=>
  match p with
  |.ptr id off=>
   match hp id with
   |some (.st c)=>Bi (Nat.beq off 0) (Vd shr hp (Gr P e) c fun cs m z=>K (.pbox cs) (id::m) z)
   |_=>none
  |_=>none
 |none=>
  bif B1 P t then Fq p fun ps=>Vd shr hp (Gr P t) ps fun cs m z=>K (.agg cs) m z
  else Vd shr hp (Gr P t) [p] fun cs m z=>Aa cs fun c r=>Ad r (K c m z)
def Aa6 (P:Program)(s:St)(r:ResultVar)(K:PV->Option R):Option R:=
 match r with
 |.tmp t=>K (s.tm t)
 |.cell a t=>Sz false P (rd s.hp) (Hm s.hp) t (s.tm a) K
def HZ (P:Program)(shr:Bool)(s:St):List ResultVar->List TypeId->(List PV->List Nat->List Nat->Option R)->Option R
 |[],[],K=>K [] [] []
 |r::rs,t::ts,K=>Aa6 P s r fun p=>YN P shr s.hp t p fun v m z=>HZ P shr s rs ts fun vs ms zs=>K (v::vs) (m++ms) (z++zs)
 |_,_,_=>none
def Xk (hp:Nat->Option Bk):List CT->List PV->List PV->(List PV->List Nat->List Nat->Option R)->Option R
 |[],[],[],K=>K [] [] []
 |t::ts,w::ws,p::ps,K=>TO (match w with | .own _ _ _=>false|_=>true) hp t p fun c m z=>Xk hp ts ws ps fun cs ms zs=>K (c::cs) (m++ms) (z++zs)
 |_,_,_,_=>none
def Ui (P:Program)(N:Nat)(hp:Nat->Option Bk):Nat->List TypeId->List PV->(List (List PV)->List Nat->List Nat->List Nat->Option R)->Option R
 |_,[],ps,K=>Ad ps (K [] [] [] [])
 |i,t::ts,ps,K=>Aa ps fun p ps=>
  match p with
  |.pbox ws=>Dk (Ss P t) fun e=>
    match hp (C3 N i) with
    |some (.st c)=>Xk hp (Gr P e) ws c fun cs m z=>Ui P N hp (i+1) ts ps fun r m' z' q=>K (cs::r) (m++m') (z++z') (C3 N i::q)
    |_=>none
  |.tup _=>
    match hp (C3 N i) with
    |some (.ar false c)=>Ui P N hp (i+1) ts ps fun r m' z' q=>K (c::r) m' z' (C3 N i::q)
    |_=>none
  |_=>Ui P N hp (i+1) ts ps K
def RQ (rs:List ResultVar):Nat:=rs.foldl (fun m r=>match r with | .tmp t=>Aar m t | .cell a _=>Aar m a) 0
end
def Zs (P:Program):Nat->List TypeId->Nat->Nat
 |_,[],m=>m
 |i,t::ts,m=>Zs P (i+1) ts (match P.underlying t with|some (.pointer _)=>Aar m i|_=>m)
def UO (C:Ft)(P:Program)(f:FuncId)(fn:Func)(args:List PV)(s:St):Option Ay:=
 HZ P (C.shr f) s fn.results.toList fn.resultTypes.toList fun vs m z=>Ui P fn.ntmps s.hp 0 fn.params.toList args fun os m' z' q=>
  Bi (Dp ((m++m')++q)&&(z++z').all (fun i=> !(((m++m')++q).any (Nat.beq i)))) (some ⟨vs,os⟩)
noncomputable def Aik (C:Ft)(P:Program)(fu:Nat)(call:Ax)(f:FuncId)(fn:Func)(c:Code)(args:List PV):Option Ay:=
  ZQ P fn.ntmps 0 fn.params.toList args fun tms bs=>Bi (Nat.ble args.length fn.ntmps&&Bn (fun _=>none) bs)
    (let lr:=Zs P 0 fn.params.toList (RQ fn.results.toList)
     Ly C P fu fn.ntmps call c lr (fun _=>0) lr (UO C P f fn args) (fun _ _=>none) (UO C P f fn args) ⟨lk tms,Jh bs⟩)
noncomputable def Ae (C:Ft)(P:Program)(fu:Nat):Nat->FuncId->List PV->Option Ay
 |0,_,_=>none
 |d+1,f,args=>
  match C.ext f with
  |some g=>g args
  |none=>
   match P.funcs[f]? with
   |none=>none
   |some fn=>match fn.body with
    |none=>none
    |some c=>Aik C.core P fu (Ae C P fu d) f fn c args
inductive Dir where
 |l
 |r
 |i (m:Nat)
section
variable {R:Type}
noncomputable def R6 (C:Ft)(P:Program)(fu N:Nat)(call:Ax):List Dir->Code->Nat->(Nat->Nat)->Nat->(St->Option R)->(Nat->St->Option R)->(St->Option R)->Nat->St->Option R
 |[],.seq _ b,ln,lx,lr,kn,kx,kr,n,s=>Yh n (fun s''=>Ly C P fu N call b ln lx lr kn kx kr s'') s
 |[],.loop c,ln,lx,lr,_,kx,kr,n,s=>Aaq (fun k s'=>Ly C P fu N call c (K8 (.loop c) ln lx lr) lx lr k kx kr s') (T8 N (K8 (.loop c) ln lx lr)) n s
 |.l::p,.seq a b,ln,lx,lr,kn,kx,kr,n,s=>R6 C P fu N call p a (K8 b ln lx lr) lx lr (fun s'=>LE (Ab8 P a b) (LE (Xn a b) (TL N (K8 b ln lx lr) s' (Yh fu fun s''=>Ly C P fu N call b ln lx lr kn kx kr s'')) (T8 N (K8 b ln lx lr) s' (Yh fu fun s''=>Ly C P fu N call b ln lx lr kn kx kr s''))) (Ly C P fu N call b ln lx lr kn kx kr s')) kx kr n s
 |.r::p,.seq _ b,ln,lx,lr,kn,kx,kr,n,s=>R6 C P fu N call p b ln lx lr kn kx kr n s
 |.l::p,.cond _ a _,ln,lx,lr,kn,kx,kr,n,s=>R6 C P fu N call p a ln lx lr kn kx kr n s
 |.r::p,.cond _ _ b,ln,lx,lr,kn,kx,kr,n,s=>R6 C P fu N call p b ln lx lr kn kx kr n s
 |.l::p,.block id c,ln,lx,lr,kn,kx,kr,n,s=>R6 C P fu N call p c ln (fun j=>bif Nat.beq j id then ln else lx j) lr kn (fun j s'=>bif Nat.beq j id then kn s' else kx j s') kr n s
 |.i m::p,.loop c,ln,lx,lr,_,kx,kr,n,s=>
  R6 C P fu N call p c (K8 (.loop c) ln lx lr) lx lr
   (fun s'=>T8 N (K8 (.loop c) ln lx lr) s' (Aaq (fun k s'=>Ly C P fu N call c (K8 (.loop c) ln lx lr) lx lr k kx kr s') (T8 N (K8 (.loop c) ln lx lr)) m)) kx kr n s
 |_,_,_,_,_,_,_,_,_,_=>none
end
noncomputable def Is (C:Ft)(P:Program)(fu:Nat)(call:Ax)(f:FuncId)(fn:Func)(c:Code)(args:List PV)(p:List Dir)(n:Nat)(s:St):Option Ay:=
 let lr:=Zs P 0 fn.params.toList (RQ fn.results.toList)
 R6 C P fu fn.ntmps call p c lr (fun _=>0) lr (UO C P f fn args) (fun _ _=>none) (UO C P f fn args) n s
def Af7:List Nat:=[
 1000000]
def Ah9:List Nat:=[
 19,
 9,
 1000000]
def Ajb:List Nat:=[
 1000000]
def Ae2:List Nat:=[
 1000000]
def Ai2:List Nat:=[
 1000000]
def OR (args:List PV):Option Ay:=
 match args with
 |[.sc (.string s)]=>bif decide (s.size<=9223372036854775807) then some ⟨[.sc (.bool (Lib.validD s.data.toList))],[]⟩ else none
 |_=>none
def T7:List Nat:=[
 93,
 77,
 87,
 67,
 90,
 88,
 105,
 114,
 115,
 71,
 72,
 70,
 52,
 36,
 94,
 73,
 53,
 37,
 61,
 60,
 1000000]
def Axd:List Nat:=[
 1000000]
def CB:Ft:=⟨fun f=>Ah9.any (Nat.beq f),fun f i=>Nat.beq i 0&&Ai2.any (Nat.beq f),fun f i=>(Nat.beq i 0&&Ajb.any (Nat.beq f))||(Nat.beq i 2&&Ae2.any (Nat.beq f)),fun f=>Af7.any (Nat.beq f),fun _=>none,fun N=>Axd.any (Nat.beq N)⟩
def CX (xs:FuncId->Option (List PV->Option Ay)):Ft:={ CB with ext:=fun f=>bif T7.any (Nat.beq f) then none else xs f }
def F4 (f:Func):Code:=match f.body with|some c=>c|none=>.skip
section
variable {R:Type} {r:Option R}
theorem A2 {k:IntKind}{p:PV}{K:Int->Option R}{n:Int}(h:p=.sc (.int k n)) (hk:K n=r):Ak k p K=r:=by
 subst h;unfold Ak;simp[hk]
theorem Av7 {p:PV}{K:IntKind->Int->Option R}{k:IntKind}{n:Int}(h:p=.sc (.int k n)) (hk:K k n=r):Da p K=r:=by
 subst h;exact hk
theorem At {p:PV}{K:Bool->Option R}{b:Bool}(h:p=.sc (.bool b)) (hk:K b=r):Aq p K=r:=by
 subst h;exact hk
theorem A0 {p:PV}{K:ByteArray->Option R}{s:ByteArray}(h:p=.sc (.string s)) (hk:K s=r):Az p K=r:=by
 subst h;exact hk
theorem A5k {es:Nat}{p:PV}{K:Bool->Nat->List PV->Option R}{z:Bool}{n:Nat}{c:List PV}(h:p=.lst z es n c)(hk:K z n c=r):Sa es p K=r:=by
 subst h;unfold Sa;simp[Nat.beq_refl,hk]
theorem A58 {es:Nat}{p:PV}{K:Nat->List PV->Option R}{n:Nat}{c:List PV}(h:p=.own es n c)(hk:K n c=r):NY es p K=r:=by
 subst h;unfold NY;simp[Nat.beq_refl,hk]
theorem A3 {b:Bool}{K:Option R}(h:b=true)(hk:K=r):Bi b K=r:=by
 subst h;exact hk
theorem A1 {b:Bool}{x y:Option R}(h:b=true)(hx:x=r):Bh b x y=r:=by
 subst h;exact hx
theorem A4 {b:Bool}{x y:Option R}(h:b=false)(hx:y=r):Bh b x y=r:=by
 subst h;exact hx
theorem Dr {α:Type}{o:Option α}{K:α->Option R}{a:α}(h:o=some a)(hk:K a=r):Dk o K=r:=by
 subst h;exact hk
theorem As {α:Type}{l:List α}{K:α->List α->Option R}{a:α}{t:List α}(h:l=a::t)(hk:K a t=r):Aa l K=r:=by
 subst h;exact hk
theorem A5 {α:Type}{l:List α}{K:Option R}(h:l=[]) (hk:K=r):Ad l K=r:=by
 subst h;exact hk
theorem I5 {p:PV}{K:List PV->Option R}{c:List PV}(h:p=.agg c)(hk:K c=r):Fq p K=r:=by
 subst h;exact hk
theorem As4 {p:PV}{K:List PV->Option R}{c:List PV}(h:p=.pbox c)(hk:K c=r):Tm p K=r:=by
 subst h;exact hk
theorem Au {o:Option Ay}{K:List PV->List (List PV)->Option R} {v:List PV}{q:List (List PV)} (h:o=some ⟨v,q⟩)(hk:K v q=r):Ah o K=r:=by
 subst h;exact hk
end
theorem WI (a b:Int):(a==b)=decide (a=b):=by by_cases h:a=b<;>simp[h]
section
variable {R:Type}
theorem Xw (v:List PV)(o:List (List PV)) (K:List PV->List (List PV)->Option R):Ah (some ⟨v,o⟩) K=K v o:=by exact id rfl
theorem GZ {α:Type}(K:Option R):Ad ([]:List α) K=K:=by exact id rfl
theorem Xu {α:Type}(a:α)(r:List α)(K:α->List α->Option R):Aa (a::r) K=K a r:=by exact id rfl
theorem Xs (b:Bool)(K:Bool->Option R):Aq (.sc (.bool b)) K=K b:=by exact id rfl
theorem IB (s:ByteArray)(K:ByteArray->Option R):Az (.sc (.string s)) K=K s:=by exact id rfl
theorem IC (k:IntKind)(n:Int)(K:Int->Option R):Ak k (.sc (.int k n)) K=K n:=by unfold Ak;simp
theorem ZR (k:IntKind)(n:Int)(K:IntKind->Int->Option R):Da (.sc (.int k n)) K=K k n:=by exact id rfl
theorem Ahz (z:Bool)(es n:Nat)(c:List PV)(K:Bool->Nat->List PV->Option R):Sa es (.lst z es n c) K=K z n c:=by unfold Sa;simp
theorem Aha (es n:Nat)(c:List PV)(K:Nat->List PV->Option R):NY es (.own es n c) K=K n c:=by unfold NY;simp
theorem YO (c:List PV)(K:List PV->Option R):Fq (.agg c) K=K c:=by exact id rfl
theorem SP (c:List PV)(K:List PV->Option R):Tm (.pbox c) K=K c:=by exact id rfl
theorem Aby {α:Type}(a:α)(K:α->Option R):Dk (some a) K=K a:=by exact id rfl
theorem Mu {α:Type}(a:α)(K:α->Option R):Ab a K=K a:=by exact id rfl
theorem Aas (K:Option R):Bi true K=K:=by exact id rfl
theorem SG (p:Prop) [Decidable p] (K:Option R)(h:p):Bi (decide p) K=K:=by simp[Bi,h]
theorem SV (b c:Bool)(K:Option R):Bi (b&&c) K=Bi b (Bi c K):=by cases b<;>rfl
theorem IJ (x y:Option R):Bh true x y=x:=by exact id rfl
theorem HA (x y:Option R):Bh false x y=y:=by exact id rfl
theorem Zb (p:Prop) [Decidable p] (x y:Option R)(h:p):Bh (decide p) x y=x:=by simp[Bh,h]
theorem Rr (p:Prop) [Decidable p] (x y:Option R)(h:¬p):Bh (decide p) x y=y:=by simp[Bh,h]
theorem Aiw (p:Prop) [Decidable p] (x y:Option R):Bh (decide p) x y=if p then x else y:=by by_cases h:p<;>simp[Bh,h]
theorem TK (a b:Int)(x y:Option R):Bh (a==b) x y=if a=b then x else y:=by
 rw[WI,Aiw]
theorem SR (x:Option R):FI x x=x:=by unfold FI;simp
end
theorem Bc {x:Int}(h1: -9223372036854775808<=x)(h2:x<=9223372036854775807):IntKind.wrap .i64 x=x:=by
 have:=IntWalk.i64_in x (by omega)
 exact this
theorem M4 {x:Int}(h1:0<=x)(h2:x<=18446744073709551615):IntKind.wrap .u64 x=x:=by
 simp only[IntKind.wrap,IntKind.signed,IntKind.bits];simp;omega
theorem Xj {x:Int}(h1:0<=x)(h2:x<=255):IntKind.wrap .u8 x=x:=by
 simp only[IntKind.wrap,IntKind.signed,IntKind.bits];simp;omega
theorem P8 {α:Type}{l r:List α}{x:α}{i:Nat}(h:l.drop i=x::r):i<l.length∧l[i]?=some x∧l.drop (i+1)=r:=by
 have h1:i<l.length:=by
  rcases Nat.lt_or_ge i l.length with h1|h1
  ·exact h1
  ·rw[List.drop_of_length_le h1] at h;cases h
 rw[List.drop_eq_getElem_cons h1] at h;injection h with h2 h3;exact⟨h1,by rw[List.getElem?_eq_getElem h1,h2],h3⟩
theorem drop_nil {α:Type}{l:List α}{i:Nat}(h:l.drop i=[]):l.length<=i:=by
 have:=congrArg List.length h;simp at this;omega
section
variable {α:Type} {f:α->List PV} {k:Nat}
theorem Aco (hf:∀x,(f x).length=k):∀(l:List α),(l.flatMap f).length=l.length*k
 |[]=>by simp
 |x::l=>by simp[hf x,Aco hf l,Nat.succ_mul];omega
theorem HE (hf:∀x,(f x).length=k):∀(l:List α)(i:Nat),(l.flatMap f).drop (i*k)=(l.drop i).flatMap f
 |l,0=>by simp
 |[],i+1=>by simp
 |x::l,i+1=>by
  rw[List.flatMap_cons,Nat.succ_mul,Nat.add_comm,←List.drop_drop,List.drop_append_of_le_length (by rw[hf x];omega)]
  rw[show (f x).drop k=[] from List.drop_of_length_le (by rw[hf x];omega),List.nil_append]
  exact HE hf l i
theorem TI (hf:∀x,(f x).length=k):∀(l:List α)(i:Nat),(l.flatMap f).take (i*k)=(l.take i).flatMap f
 |l,0=>by simp
 |[],i+1=>by simp
 |x::l,i+1=>by
  rw[List.flatMap_cons,Nat.succ_mul,Nat.add_comm,List.take_succ_cons,List.flatMap_cons,←TI hf l i];rw[show k+i*k=(f x).length+i*k by rw[hf x],List.take_length_add_append]
theorem Ao3 (hf:∀x,(f x).length=k) {l:List α}{i:Nat}{x:α}(h:l[i]?=some x) {j:Nat}(hj:j<k):(l.flatMap f).getD (i*k+j) .top=(f x).getD j .top:=by
 have h1:((l.flatMap f).drop (i*k))[j]?=(l.flatMap f)[i*k+j]?:=List.getElem?_drop;rw[HE hf] at h1
 have h2:i<l.length:=by
  rcases Nat.lt_or_ge i l.length with h1|h1
  ·exact h1
  ·rw[List.getElem?_eq_none h1] at h;cases h
 rw[List.drop_eq_getElem_cons h2,List.flatMap_cons] at h1;have h3:l[i]=x:=by rw[List.getElem?_eq_getElem h2] at h;injection h
 rw[h3,List.getElem?_append_left (by rw[hf x];exact hj)] at h1
 simp only[List.getD_eq_getElem?_getD,←h1]
theorem Y3 {c:List PV}{p:PV}{i:Nat}(h:i<c.length):B8 c [p] i=c.set i p:=by
 unfold B8;rw[List.set_eq_take_append_cons_drop,if_pos h];simp
end
abbrev Arr (k:IntKind)(n:Int):List PV:=[.sc (.int k n)]
abbrev Dv (k:IntKind)(l:List Int):List PV:=l.flatMap (Arr k)
theorem Ts (k:IntKind)(n:Int):(Arr k n).length=1:=rfl
theorem ati {k:IntKind}{l:List Int}{i:Nat}{n:Int}(h:l[i]?=some n):(Dv k l).getD i .top=.sc (.int k n):=by
 have:=Ao3 (Ts k) h (j:=0) (by omega)
 simpa using this
theorem Ky (k:IntKind)(l:List Int):(Dv k l).length=l.length:=by rw[Aco (Ts k)];omega
theorem Ej:type_of% @Xw∧type_of% @GZ∧type_of% @Xu∧type_of% @Xs∧type_of% @IB∧type_of% @IC∧type_of% @ZR∧type_of% @Ahz∧type_of% @Aha∧type_of% @YO∧type_of% @SP∧type_of% @Aby∧type_of% @Mu∧type_of% @Aas∧type_of% @SG∧type_of% @SV∧type_of% @IJ∧type_of% @HA∧type_of% @Zb∧type_of% @Rr∧type_of% @SR∧type_of% @Bool.not_true∧type_of% @Bool.not_false∧type_of% @Bool.false_eq_true∧type_of% @if_true.{1}∧type_of% @if_false.{1}∧type_of% @Bool.true_and∧type_of% @Bool.and_true∧type_of% @Bool.false_and∧type_of% @Bool.and_false∧type_of% @decide_true∧type_of% @decide_false:=
 ⟨@Xw,@GZ,@Xu,@Xs,@IB,@IC,@ZR,@Ahz,@Aha,@YO,@SP,@Aby,@Mu,@Aas,@SG,@SV,@IJ,@HA,@Zb,@Rr,@SR,@Bool.not_true,@Bool.not_false,@Bool.false_eq_true,@if_true.{1},@if_false.{1},@Bool.true_and,@Bool.and_true,@Bool.false_and,@Bool.and_false,@decide_true,@decide_false⟩
theorem gT:type_of% @Bool.and_eq_true∧type_of% @decide_eq_true_eq∧type_of% @beq_iff_eq.{0}∧type_of% @bne_iff_ne.{0}∧type_of% @ne_eq.{1}∧type_of% @Bool.not_eq_true'∧type_of% @true_and∧type_of% @and_true:=
 ⟨@Bool.and_eq_true,@decide_eq_true_eq,@beq_iff_eq.{0},@bne_iff_ne.{0},@ne_eq.{1},@Bool.not_eq_true',@true_and,@and_true⟩
theorem gF:type_of% @decide_eq_false_iff_not∧type_of% @beq_eq_false_iff_ne.{0}∧type_of% @bne_eq_false_iff_eq.{0}∧type_of% @ne_eq.{1}∧type_of% @Bool.not_eq_false':=
 ⟨@decide_eq_false_iff_not,@beq_eq_false_iff_ne.{0},@bne_eq_false_iff_eq.{0},@ne_eq.{1},@Bool.not_eq_false'⟩
end
section
open Go.RowKit
def Bb {α β:Type}(R:α->β->Prop):List α->List β->Prop
 |[],[]=>True
 |a::zs,b::bs=>R a b∧Bb R zs bs
 |_,_=>False
section
variable {α β γ:Type} {R S:α->β->Prop}
theorem Bb.len:∀{zs:List α}{bs:List β},Bb R zs bs->zs.length=bs.length
 |[],[],_=>rfl
 |_::_,_::_,h=>by simp[Bb.len h.2]
 |[],_::_,h=>h.elim
 |_::_,[],h=>h.elim
theorem Bb.at_:∀{zs:List α}{bs:List β},Bb R zs bs->∀{i:Nat} {a b},zs[i]?=some a->bs[i]?=some b->R a b
 |[],[],_,i,a,b,h,_=>by simp at h
 |_::_,_::_,h,0,a,b,ha,hb=>by simp at ha hb;subst ha;subst hb;exact h.1
 |_::_,_::_,h,i+1,a,b,ha,hb=>by simp at ha hb;exact Bb.at_ h.2 ha hb
 |[],_::_,h,_,_,_,_,_=>h.elim
 |_::_,[],h,_,_,_,_,_=>h.elim
theorem Bb.of_at:∀{zs:List α}{bs:List β},zs.length=bs.length->(∀(i:Nat) a b,zs[i]?=some a->bs[i]?=some b->R a b)->Bb R zs bs
 |[],[],_,_=>trivial
 |a::zs,b::bs,hl,h=>⟨h 0 a b rfl rfl,Bb.of_at (by simpa using hl) fun i x y hx hy=>h (i+1) x y hx hy⟩
 |[],_::_,hl,_=>by simp at hl
 |_::_,[],hl,_=>by simp at hl
theorem Bb.mono (hRS:∀a b,R a b->S a b):∀{zs:List α}{bs:List β},Bb R zs bs->Bb S zs bs
 |[],[],_=>trivial
 |_::_,_::_,h=>⟨hRS _ _ h.1,Bb.mono hRS h.2⟩
 |[],_::_,h=>h.elim
 |_::_,[],h=>h.elim
theorem Bb.mono_mem:∀{zs:List α}{bs:List β},(∀a∈zs,∀b,R a b->S a b)->Bb R zs bs->Bb S zs bs
 |[],[],_,_=>trivial
 |a::_,_::_,hRS,h=>⟨hRS a (by simp) _ h.1,Bb.mono_mem (fun x hx=>hRS x (by simp[hx])) h.2⟩
 |[],_::_,_,h=>h.elim
 |_::_,[],_,h=>h.elim
theorem Bb.app:∀{zs:List α}{bs:List β}{as':List α}{bs':List β},Bb R zs bs->Bb R as' bs'->Bb R (zs++as') (bs++bs')
 |[],[],_,_,_,h'=>h'
 |_::_,_::_,_,_,h,h'=>⟨h.1,Bb.app h.2 h'⟩
 |[],_::_,_,_,h,_=>h.elim
 |_::_,[],_,_,h,_=>h.elim
theorem Bb.take:∀(n:Nat){zs:List α}{bs:List β},Bb R zs bs->Bb R (zs.take n) (bs.take n)
 |0,_,_,_=>by simp[Bb]
 |_+1,[],[],_=>trivial
 |n+1,_::_,_::_,h=>⟨h.1,Bb.take n h.2⟩
 |_+1,[],_::_,h=>h.elim
 |_+1,_::_,[],h=>h.elim
theorem Bb.drop:∀(n:Nat){zs:List α}{bs:List β},Bb R zs bs->Bb R (zs.drop n) (bs.drop n)
 |0,_,_,h=>h
 |_+1,[],[],_=>trivial
 |n+1,_::_,_::_,h=>Bb.drop n h.2
 |_+1,[],_::_,h=>h.elim
 |_+1,_::_,[],h=>h.elim
end
inductive Ar (w:World) (A:Nat->Prop):PV->Value->Prop where
 |sc (v:Value):Ar w A (.sc v) v
 |top (v:Value):Ar w A .top v
 |ub (b:Bool):Ar w A .ub (.bool b)
 |lnil (z:Bool) (es:Nat):Ar w A (.lst z es 0 []) (.slice none 0 0)
 |lemp (es:Nat) (a:Addr) (cap:Nat):Ar w A (.lst false es 0 []) (.slice (some a) 0 cap)
 |lst (es n:Nat) (cells:List PV) (a:Addr) (cap:Nat) (f:Nat->Value) (hs:a.spot=none) (hb:a.block<w.heap.size) (hA:¬A a.block) (hn:n<=cap)
   (hc:∀j c,cells[j]?=some c->w.cell? (a.add j)=some (f j)) (h1:∀j c,cells[j]?=some c->(f j).oneCell'=true) (hr:∀j c,cells[j]?=some c->Ar w A c (f j)):Ar w A (.lst false es n cells) (.slice (some a) n cap)
def bsz (w:World)(b:Nat):Nat:=
 match w.heap[b]? with
 |some (.cells c _ _)=>c.size
 |_=>0
def KT (w:World)(b:Nat):Bool:=w.frozen? ⟨b,bsz w b,none⟩
def Fit (w:World)(es b e:Nat):Prop:=e<=bsz w b∧(es=1∨KT w b=false)
def Fz (w w':World)(b:Nat):Prop:=bsz w b<=bsz w' b∧(KT w b=false->KT w' b=false)
theorem Fz.refl (w:World)(b:Nat):Fz w w b:=⟨Nat.le_refl _,id⟩
theorem Fz.same {w w':World}{b:Nat}(h:w'.heap[b]?=w.heap[b]?):Fz w w' b:=by
 have e:bsz w' b=bsz w b:=by unfold bsz;rw[h]
 refine⟨by rw[e];exact Nat.le_refl _,fun q=>?_⟩
 unfold KT at q ⊢;rw[e];unfold World.frozen? at q ⊢;simp only[h];exact q
theorem Fz.trans {w w' w'':World}{b:Nat}(h:Fz w w' b)(h':Fz w' w'' b):Fz w w'' b:=⟨Nat.le_trans h.1 h'.1,fun q=>h'.2 (h.2 q)⟩
theorem Fit.step {w w':World}{es b e:Nat}(h:Fit w es b e)(hb:Fz w w' b):Fit w' es b e:=⟨Nat.le_trans h.1 hb.1,h.2.imp id hb.2⟩
def OC (w:World)(A:Nat->Prop)(a:Addr)(cells:List PV):Prop:=∀j c,cells[j]?=some c->∃v,w.cell? (a.add j)=some v∧v.oneCell'=true∧Ar w A c v
def Bu (w:World)(A:Nat->Prop)(β:Nat->Option (Nat × Nat)) (p:PV)(v:Value):Prop:=
 match p with
 |.view id es off n=>(β id=none∧off=0∧n=0∧∃ad,v=.slice ad 0 0) ∨
   ∃b o x cap,β id=some (b,o)∧v=.slice (some ⟨b,x,none⟩) n cap∧(x=o+off∨(n=0∧off≠0))∧n<=cap∧Fit w es b (x+cap*es)∧b<w.heap.size
 |.ptr id off=>∃b o,β id=some (b,o)∧v=.pointer (some ⟨b,o+off,none⟩)
 |.iptr c off=>∃a:Addr,v=.pointer (some (a.add off))∧a.spot=none∧a.block<w.heap.size∧¬A a.block∧OC w A a c
 |p=>Ar w A p v
def Gj (w:World)(A:Nat->Prop)(β:Nat->Option (Nat × Nat)) (p:PV)(v:Value):Prop:=
 match p with
 |.agg cs=>∃vs,v=.agg ⟨vs⟩∧Bb (Bu w A β) cs vs
 |p=>Bu w A β p v
def Dx (w:World)(A:Nat->Prop)(β:Nat->Option (Nat × Nat)) (p:PV)(v:Value):Prop:=
 match p with
 |.tup ps=>∃vs,v=.tuple ⟨vs⟩∧Bb (Gj w A β) ps vs
 |p=>Gj w A β p v
structure B2 (A:Nat->Prop) (w w':World):Prop where
 size:w.heap.size<=w'.heap.size
 keep:∀b,b<w.heap.size->¬A b->w'.heap[b]?=w.heap[b]?
 bs:∀b,b<w.heap.size->Fz w w' b
theorem Ea (a:Addr)(j:Nat):(a.add j).block=a.block:=by unfold Addr.add;split<;>rfl
theorem add_add (a:Addr)(i j:Nat):(a.add i).add j=a.add (i+j):=by
 unfold Addr.add;by_cases hi:i=0<;>by_cases hj:j=0<;>simp[hi,hj,Nat.add_assoc]
theorem D3 (b o j:Nat):(⟨b,o,none⟩:Addr).add j=⟨b,o+j,none⟩:=by
 unfold Addr.add;by_cases hj:j=0<;>simp[hj]
theorem Abr {a:Addr}(h:a.spot=none)(j:Nat):(a.add j).spot=none:=by unfold Addr.add;split<;>simp[h]
section
variable {w w':World} {A A':Nat->Prop} {β β':Nat->Option (Nat × Nat)}
theorem B2.cell (h:B2 A w w'){a:Addr}(hb:a.block<w.heap.size)(hA:¬A a.block):w'.cell? a=w.cell? a:=
 World.cell?_of_block (h.keep a.block hb hA)
theorem Ar.step (h:B2 A w w')(hA:∀b,b<w.heap.size->A' b->A b){p:PV}{v:Value}(t:Ar w A p v):Ar w' A' p v:=by
 induction t with
 |sc v=>exact .sc v
 |top v=>exact .top v
 |ub b=>exact .ub b
 |lnil z es=>exact .lnil z es
 |lemp es a cap=>exact .lemp es a cap
 |lst es n cells a cap f hs hb hA1 hn hc h1 hr ih=>
  refine .lst es n cells a cap f hs (Nat.lt_of_lt_of_le hb h.size) (fun x=>hA1 (hA _ hb x)) hn (fun j c hj=>?_) h1 (fun j c hj=>ih j c hj)
  rw[h.cell (by rw[Ea];exact hb) (by rw[Ea];exact hA1)]
  exact hc j c hj
theorem OC.step (h:B2 A w w')(hA:∀b,b<w.heap.size->A' b->A b){a:Addr}(hb:a.block<w.heap.size)(hn:¬A a.block){cells:List PV}(t:OC w A a cells):OC w' A' a cells:=by
 intro j c hj;obtain⟨v,hv,h1,ht⟩:=t j c hj;exact⟨v,by rw[h.cell (by rw[Ea];exact hb) (by rw[Ea];exact hn)];exact hv,h1,ht.step h hA⟩
theorem Bu.step (h:B2 A w w')(hA:∀b,b<w.heap.size->A' b->A b){p:PV}{v:Value}(hβ:∀id∈Am p,β' id=β id)(t:Bu w A β p v):Bu w' A' β' p v:=by
 cases p with
 |view id es off n=>
  have e:=hβ id (by simp[Am])
  rcases t with⟨h1,h2,h3,h4⟩|⟨b,o,x,cap,h1,h2,hx,h3,h4,h5⟩
  ·exact .inl ⟨by rw[e];exact h1,h2,h3,h4⟩
  ·exact .inr ⟨b,o,x,cap,by rw[e];exact h1,h2,hx,h3,h4.step (h.bs b h5),Nat.lt_of_lt_of_le h5 h.size⟩
 |ptr id off=>
  have e:=hβ id (by simp[Am])
  obtain⟨b,o,h1,h2⟩:=t;exact⟨b,o,by rw[e];exact h1,h2⟩
 |iptr c off=>
  obtain⟨a,h1,h2,h3,h4,h5⟩:=t;exact⟨a,h1,h2,Nat.lt_of_lt_of_le h3 h.size,fun x=>h4 (hA _ h3 x),h5.step h hA h3 h4⟩
 |sc v=>exact Ar.step h hA t
 |lst z es n c=>exact Ar.step h hA t
 |own es n c=>exact Ar.step h hA t
 |pbox c=>exact Ar.step h hA t
 |agg c=>exact Ar.step h hA t
 |tup c=>exact Ar.step h hA t
 |top=>exact Ar.step h hA t
 |ub=>exact Ar.step h hA t
theorem Gj.step (h:B2 A w w')(hA:∀b,b<w.heap.size->A' b->A b){p:PV}{v:Value}(hβ:∀id∈B6 p,β' id=β id)(t:Gj w A β p v):Gj w' A' β' p v:=by
 cases p with
 |agg cs=>
  obtain⟨vs,rfl,h2⟩:=t;exact⟨vs,rfl,h2.mono_mem fun c hc v hv=>hv.step h hA fun id Bf=>hβ id (by simp only[B6,List.mem_flatMap];exact⟨c,hc,Bf⟩)⟩
 |sc x=>exact Bu.step (p:=.sc x) h hA hβ t
 |lst x y z u=>exact Bu.step (p:=.lst x y z u) h hA hβ t
 |own x y z=>exact Bu.step (p:=.own x y z) h hA hβ t
 |view x y z u=>exact Bu.step (p:=.view x y z u) h hA hβ t
 |ptr x y=>exact Bu.step (p:=.ptr x y) h hA hβ t
 |iptr x y=>exact Bu.step (p:=.iptr x y) h hA hβ t
 |pbox x=>exact Bu.step (p:=.pbox x) h hA hβ t
 |tup x=>exact Bu.step (p:=.tup x) h hA hβ t
 |top=>exact Bu.step (p:=.top) h hA hβ t
 |ub=>exact Bu.step (p:=.ub) h hA hβ t
theorem Dx.step (h:B2 A w w')(hA:∀b,b<w.heap.size->A' b->A b){p:PV}{v:Value}(hβ:∀id∈Bo p,β' id=β id)(t:Dx w A β p v):Dx w' A' β' p v:=by
 cases p with
 |tup cs=>
  obtain⟨vs,rfl,h2⟩:=t;exact⟨vs,rfl,h2.mono_mem fun c hc v hv=>hv.step h hA fun id Bf=>hβ id (by simp only[Bo,List.mem_flatMap];exact⟨c,hc,Bf⟩)⟩
 |sc x=>exact Gj.step (p:=.sc x) h hA hβ t
 |lst x y z u=>exact Gj.step (p:=.lst x y z u) h hA hβ t
 |own x y z=>exact Gj.step (p:=.own x y z) h hA hβ t
 |view x y z u=>exact Gj.step (p:=.view x y z u) h hA hβ t
 |ptr x y=>exact Gj.step (p:=.ptr x y) h hA hβ t
 |iptr x y=>exact Gj.step (p:=.iptr x y) h hA hβ t
 |pbox x=>exact Gj.step (p:=.pbox x) h hA hβ t
 |top=>exact Gj.step (p:=.top) h hA hβ t
 |ub=>exact Gj.step (p:=.ub) h hA hβ t
 |agg x=>exact Gj.step (p:=.agg x) h hA hβ t
theorem B2.refl (A:Nat->Prop)(w:World):B2 A w w:=⟨Nat.le_refl _,fun _ _ _=>rfl,fun _ _=>Fz.refl _ _⟩
theorem OC.weak (hA:∀b,b<w.heap.size->A' b->A b){a:Addr}{cells:List PV}(t:OC w A a cells):OC w A' a cells:=by
 intro j c hj;obtain⟨v,hv,h1,ht⟩:=t j c hj;exact⟨v,hv,h1,ht.step (B2.refl A w) hA⟩
theorem B2.trans {w'':World}(h:B2 A w w')(h':B2 A' w' w'')(hA:∀b,b<w.heap.size->A' b->A b):B2 A w w'':=
  ⟨Nat.le_trans h.size h'.size,fun b hb hn=>(h'.keep b (Nat.lt_of_lt_of_le hb h.size) (fun x=>hn (hA b hb x))).trans (h.keep b hb hn),
   fun b hb=>(h.bs b hb).trans (h'.bs b (Nat.lt_of_lt_of_le hb h.size))⟩
theorem B2.weaken (h:B2 A w w')(hA:∀b,b<w.heap.size->A b->A' b):B2 A' w w':=⟨h.size,fun b hb hn=>h.keep b hb (fun x=>hn (hA b hb x)),h.bs⟩
end
section
variable {R:Type} {r:R}
theorem Dy {k:IntKind}{p:PV}{K:Int->Option R}(h:Ak k p K=some r):∃n,p=.sc (.int k n)∧K n=some r:=by
 unfold Ak at h;split at h
 ·split at h
  ·rename_i hk;subst hk;exact⟨_,rfl,h⟩
  ·cases h
 ·cases h
theorem Dc {p:PV}{K:Bool->Option R}(h:Aq p K=some r):∃b,p=.sc (.bool b)∧K b=some r:=by
 unfold Aq at h;split at h
 ·exact⟨_,rfl,h⟩
 ·cases h
theorem C5 {p:PV}{K:ByteArray->Option R}(h:Az p K=some r):∃b,p=.sc (.string b)∧K b=some r:=by
 unfold Az at h;split at h
 ·exact⟨_,rfl,h⟩
 ·cases h
theorem C4 {p:PV}{K:IntKind->Int->Option R}(h:Da p K=some r):∃k n,p=.sc (.int k n)∧K k n=some r:=by
 unfold Da at h;split at h
 ·exact⟨_,_,rfl,h⟩
 ·cases h
theorem Aj {b:Bool}{K:Option R}(h:Bi b K=some r):b=true∧K=some r:=by
 unfold Bi at h;cases b
 ·cases h
 ·exact⟨rfl,h⟩
theorem B3 {α:Type}{o:Option α}{K:α->Option R}(h:Dk o K=some r):∃a,o=some a∧K a=some r:=by
 unfold Dk at h;split at h
 ·exact⟨_,rfl,h⟩
 ·cases h
theorem A6 {α:Type}{l:List α}{K:α->List α->Option R}(h:Aa l K=some r):∃a t,l=a::t∧K a t=some r:=by
 unfold Aa at h;split at h
 ·exact⟨_,_,rfl,h⟩
 ·cases h
theorem C6 {α:Type}{l:List α}{K:Option R}(h:Ad l K=some r):l=[]∧K=some r:=by
 unfold Ad at h;split at h
 ·exact⟨rfl,h⟩
 ·cases h
theorem F3 {p:PV}{K:List PV->Option R}(h:Fq p K=some r):∃c,p=.agg c∧K c=some r:=by
 unfold Fq at h;split at h
 ·exact⟨_,rfl,h⟩
 ·cases h
theorem FM {p:PV}{K:List PV->Option R}(h:Tm p K=some r):∃c,p=.pbox c∧K c=some r:=by
 unfold Tm at h;split at h
 ·exact⟨_,rfl,h⟩
 ·cases h
theorem RX {p:PV}{K:Value->Option R}(h:WN p K=some r):∃v,p=.sc v∧v.oneCell'=true∧K v=some r:=by
 unfold WN at h;split at h
 ·exact⟨_,rfl,rfl,h⟩
 ·exact⟨_,rfl,rfl,h⟩
 ·cases h
theorem Aer {p:PV}{K:FuncId->Option R}(h:fvK p K=some r):∃f,p=.sc (.func (.func f) #[] #[])∧K f=some r:=by
 unfold fvK at h;split at h
 ·rename_i f a b;cases hb:(a.isEmpty&&b.isEmpty)<;>rw[hb] at h
  ·cases h
  ·simp only[Bool.and_eq_true,Array.isEmpty_iff] at hb;rw[hb.1,hb.2];exact⟨f,rfl,h⟩
 ·cases h
theorem DQ {o:Option Ay}{K:List PV->List (List PV)->Option R} (h:Ah o K=some r):∃v x,o=some ⟨v,x⟩∧K v x=some r:=by
 unfold Ah at h;split at h
 ·exact⟨_,_,rfl,h⟩
 ·cases h
theorem Jy {b:Bool}{x y:Option R}(h:Bh b x y=some r):(b=true∧x=some r)∨(b=false∧y=some r):=by
 unfold Bh at h;cases b
 ·exact .inr ⟨rfl,h⟩
 ·exact .inl ⟨rfl,h⟩
theorem Et {es:Nat}{p:PV}{K:Bool->Nat->List PV->Option R}(h:Sa es p K=some r):
  ∃z n c,K z n c=some r∧(p=.lst z es n c∨(p=.sc (.slice none 0 0)∧z=true∧n=0∧c=[])):=by
 unfold Sa at h;split at h
 ·rename_i z es' n c;cases hb:Nat.beq es' es
  ·rw[hb] at h;cases h
  ·rw[hb] at h;have:=Nat.eq_of_beq_eq_true hb;subst this;exact⟨z,n,c,h,.inl rfl⟩
 ·exact⟨true,0,[],h,.inr ⟨rfl,rfl,rfl,rfl⟩⟩
 ·cases h
def Rb:PV->Prop
 |.sc _=>True
 |.lst _ _ _ _=>True
 |_=>False
def BV:PV->Prop
 |.sc _=>True
 |.lst _ _ _ _=>True
 |.view _ _ _ _=>True
 |_=>False
theorem M8 {c:PV}(h:Rb c):BV c:=by
 cases c<;>first|trivial|exact h.elim
theorem Gd {c:PV}(h:Rb c):Am c=[]:=by
 cases c<;>first|rfl|exact h.elim
variable {w:World} {A:Nat->Prop} {β:Nat->Option (Nat × Nat)}
theorem Iz {c:PV}{v:Value}(h:Rb c):Bu w A β c v↔Ar w A c v:=by
 cases c<;>first|exact Iff.rfl|exact h.elim
theorem Tq {c:PV}{v:Value}(h:∀cs,c ≠ .agg cs):Gj w A β c v↔Bu w A β c v:=by
 cases c<;>first|exact Iff.rfl|exact absurd rfl (h _)
theorem Lg {c:PV}{v:Value}(h:∀cs,c ≠ .tup cs):Dx w A β c v↔Gj w A β c v:=by
 cases c<;>first|exact Iff.rfl|exact absurd rfl (h _)
theorem Tf {c:PV}(h:Rb c)(cs:List PV):c ≠ .agg cs:=by rintro rfl;exact h
theorem TH {c:PV}(h:Rb c)(cs:List PV):c ≠ .tup cs:=by rintro rfl;exact h
theorem Ar.val {v u:Value}(h:Ar w A (.sc v) u):u=v:=by cases h;rfl
theorem Rn {es n:Nat}{z:Bool}{c:List PV}{p:PV}{v:Value}(h:p=.lst z es n c∨(p=.sc (.slice none 0 0)∧z=true∧n=0∧c=[])) (hv:Bu w A β p v):Ar w A (.lst z es n c) v:=by
 rcases h with rfl|⟨rfl,rfl,rfl,rfl⟩
 ·exact hv
 ·have:=Ar.val (w:=w) (A:=A) hv;subst this;exact .lnil true es
theorem Ju {t:CT}{p:PV}{K:PV->Option R}(h:Uz t p K=some r):
  ∃c,K c=some r∧Rb c∧Rb p∧∀(w:World) (A:Nat->Prop) (β:Nat->Option (Nat × Nat)) (v:Value),Bu w A β p v->Ar w A c v∧v.oneCell'=true:=by
 cases t with
 |int k=>obtain⟨n,rfl,h2⟩:=Dy h;exact⟨_,h2,trivial,trivial,fun w A β v hv=>⟨hv,by have:=Ar.val (w:=w) (A:=A) hv;subst this;rfl⟩⟩
 |bool=>obtain⟨n,rfl,h⟩:=Dc h;exact⟨_,h,trivial,trivial,fun w A β v hv=>⟨hv,by have:=Ar.val (w:=w) (A:=A) hv;subst this;rfl⟩⟩
 |str=>obtain⟨n,rfl,h⟩:=C5 h;exact⟨_,h,trivial,trivial,fun w A β v hv=>⟨hv,by have:=Ar.val (w:=w) (A:=A) hv;subst this;rfl⟩⟩
 |sl es=>
  obtain⟨z,n,c,h,hp⟩:=Et h;refine⟨_,h,trivial,?_,fun w A β v hv=>⟨Rn hp hv,?_⟩⟩
  ·rcases hp with rfl|⟨rfl,_⟩<;>trivial
  ·have ht:=Rn hp hv;cases ht<;>rfl
 |any=>
  obtain⟨u,rfl,h1,h2⟩:=RX (show WN p (fun v=>K (.sc v))=some r from h)
  exact⟨_,h2,trivial,trivial,fun w A β v hv=>⟨hv,by have:=Ar.val (w:=w) (A:=A) hv;subst this;exact h1⟩⟩
theorem Adg {t:CT}{p:PV}{K:PV->Option R}(h:fcK t p K=some r):
  ∃c,K c=some r∧(Rb c∨c=p)∧BV p∧p ≠ .top∧(∀cs,c ≠ .agg cs)∧(∀cs,c ≠ .tup cs)∧(∀id,id∈Am c->id∈Am p)∧∀(w:World) (A:Nat->Prop) (β:Nat->Option (Nat × Nat)) (v:Value),Bu w A β p v->Bu w A β c v∧v.oneCell'=true:=by
 have tree:∀t',Uz t' p K=some r->∃c,K c=some r∧(Rb c∨c=p)∧BV p∧p ≠ .top∧(∀cs,c ≠ .agg cs)∧(∀cs,c ≠ .tup cs)∧(∀id,id∈Am c->id∈Am p)∧∀(w:World) (A:Nat->Prop) (β:Nat->Option (Nat × Nat)) (v:Value),Bu w A β p v->Bu w A β c v∧v.oneCell'=true:=by
  intro t' h;obtain⟨c,h,hc,hp,hv⟩:=Ju h;exact⟨c,h,.inl hc,M8 hp,by rintro rfl;exact hp,Tf hc,TH hc,by rw[Gd hc];simp,fun w A β v h=>⟨(Iz hc).2 (hv w A β v h).1,(hv w A β v h).2⟩⟩
 cases t with
 |sl es=>
  unfold fcK fsK at h;dsimp only at h;split at h
  ·rename_i id es' off n;cases hb:Nat.beq es' es
   ·rw[hb] at h;cases h
   ·rw[hb] at h;have:=Nat.eq_of_beq_eq_true hb;subst this;exact⟨_,h,.inr rfl,trivial,by simp,by simp,by simp,fun _ h=>h,fun _ _ _ _ h=>⟨h,by rcases h with⟨_,_,_,_,rfl⟩|⟨_,_,_,_,_,rfl,_⟩<;>rfl⟩⟩
  ·exact tree (.sl es) h
 |int k=>exact tree (.int k) h
 |bool=>exact tree (.bool) h
 |str=>exact tree (.str) h
 |any=>exact tree (.any) h
theorem Wb {cells:List PV}{i:Nat}{p:PV}(h:cells.getD i .top=p)(hp:p ≠ .top):cells[i]?=some p:=by
 rw[List.getD_eq_getElem?_getD] at h;cases hc:cells[i]? with
 |none=>rw[hc] at h;exact absurd h.symm hp
 |some q=>rw[hc] at h;simp at h;rw[h]
theorem Pc:∀{ts:List CT}{cells:List PV}{off:Nat}{K:List PV->Option R},Of ts cells off K=some r ->
  ∃cs,K cs=some r∧cs.length=ts.length∧∀j c,cs[j]?=some c->Rb c∧∃p,cells[off+j]?=some p∧Rb p ∧
   ∀(w:World) (A:Nat->Prop) (β:Nat->Option (Nat × Nat)) (v:Value),Bu w A β p v->Ar w A c v∧v.oneCell'=true
 |[],_,_,_,h=>⟨[],h,rfl,fun j c hj=>by simp at hj⟩
 |t::ts,cells,off,K,h=>by
  unfold Of at h;obtain⟨c,h,hc,hp,hv⟩:=Ju h;obtain⟨cs,h,hl,Xx⟩:=Pc h;refine⟨c::cs,h,by simp[hl],fun j c' hj=>?_⟩
  cases j with
  |zero=>
   simp at hj;subst hj;refine⟨hc,cells.getD off .top,Wb rfl ?_,hp,hv⟩;intro e;rw[e] at hp;exact hp
  |succ j=>
   simp at hj;have:=Xx j c' hj
   rwa [Nat.add_right_comm,Nat.add_assoc] at this
theorem Ow:∀{ts:List CT}{cells:List PV}{off:Nat}{K:List PV->Option R},K9 ts cells off K=some r ->
  ∃cs,K cs=some r∧cs.length=ts.length∧(∀c∈cs,(∀x,c ≠ .agg x)∧(∀x,c ≠ .tup x))∧∀j c,cs[j]?=some c->∃p,cells[off+j]?=some p∧BV p∧(∀id,id∈Am c->id∈Am p) ∧
   ∀(w:World) (A:Nat->Prop) (β:Nat->Option (Nat × Nat)) (v:Value),Bu w A β p v->Bu w A β c v∧v.oneCell'=true
 |[],_,_,_,h=>⟨[],h,rfl,by simp,fun j c hj=>by simp at hj⟩
 |t::ts,cells,off,K,h=>by
  unfold K9 at h;obtain⟨c,h,hc,hf,hp,ha,ht,hr,hv⟩:=Adg h;obtain⟨cs,h,hl,Vc,Xx⟩:=Ow h;refine⟨c::cs,h,by simp[hl],?_,fun j c' hj=>?_⟩
  ·intro x hx;rcases List.mem_cons.1 hx with rfl|hx
   ·exact⟨ha,ht⟩
   ·exact Vc x hx
  ·cases j with
   |zero=>
    simp at hj;subst hj;exact⟨cells.getD off .top,Wb rfl hp,hf,hr,hv⟩
   |succ j=>
    simp at hj;have:=Xx j c' hj
    rwa [Nat.add_right_comm,Nat.add_assoc] at this
theorem HL {agg:Bool}{cells:List PV}{K:PV->Option R}(h:TS agg cells K=some r):
  (agg=true∧K (.agg cells)=some r)∨(agg=false∧∃c,cells=[c]∧K c=some r):=by
 unfold TS at h;cases agg
 ·obtain⟨c,t,rfl,h⟩:=A6 h;obtain⟨rfl,h⟩:=C6 h;exact .inr ⟨rfl,c,rfl,h⟩
 ·exact .inl ⟨rfl,h⟩
end
open Go.RowKit
def Cu (b:Option Bk):Prop:=
 match b with
 |some (.st _)=>True
 |some (.ar false _)=>True
 |_=>False
abbrev Bt:=Nat->Option (Nat × Nat)
def IF (hp:Nat->Option Bk)(β:Bt)(b:Nat):Prop:=∃id o,Cu (hp id)∧β id=some (b,o)
def Cs (hp:Nat->Option Bk)(β:Bt)(Y:Nat->Prop)(b:Nat):Prop:=IF hp β b∨Y b
def N0 (w:World)(A:Nat->Prop)(β:Bt)(id:Nat)(bx:Bk):Prop:=
 match bx with
 |.st cells=>∃b o,β id=some (b,o)∧(∀j c,cells[j]?=some c->∃v,w.cell? ⟨b,o+j,none⟩=some v∧Bu w A β c v)∧∀j,j<cells.length->w.frozen? ⟨b,o+j,none⟩=false
 |.ar fz cells=>(β id=none∧cells=[])∨∃b o,β id=some (b,o)∧OC w A ⟨b,o,none⟩ cells∧(fz=false->∀j,o<=j->j<bsz w b->w.frozen? ⟨b,j,none⟩=false)∧(fz=true->¬A b)
 |.mv=>True
structure Gm where
 X:Nat->Prop
 L:Nat->Nat->Prop
 pn:Nat->Prop
 pt:Nat->Option (Nat × Nat)
 p8:∀i,pn i->i<8
def BR (bx:Bk)(o j:Nat):Prop:=
 match bx with
 |.st c=>o<=j∧j<o+c.length
 |.ar _ _=>o<=j
 |.mv=>False
structure Fr (X0:Gm) (w0 w:World):Prop where
 os:w.os=w0.os
 tape:w.tape=w0.tape
 output:w.output=w0.output
 step:B2 X0.X w0 w
 rng:∀b j,b<w0.heap.size->¬X0.L b j->w.cell? ⟨b,j,none⟩=w0.cell? ⟨b,j,none⟩∧w.frozen? ⟨b,j,none⟩=w0.frozen? ⟨b,j,none⟩
structure Ci (N:Nat) (w0:World) (X0:Gm) (Y:Nat->Prop) (β:Bt) (s:St) (a:Act) (w:World):Prop where
 dfr:a.defers=[]
 tsz:a.tmps.size=N
 tmo:∀i,N<=i->s.tm i=.top
 tms:∀i,i<N->Dx w (Cs s.hp β Y) β (s.tm i) (a.tmps.getD i undef)
 box:∀id b,s.hp id=some b->N0 w (Cs s.hp β Y) β id b
 inj:∀id id' b o o',Cu (s.hp id)->Cu (s.hp id')->β id=some (b,o)->β id'=some (b,o')->id=id'
 blt:∀id b o,s.hp id≠none->β id=some (b,o)->b<w.heap.size
 wfT:∀i,i<N->∀id∈Bo (s.tm i),s.hp id≠none
 wfB:∀id cells,s.hp id=some (.st cells)->∀c∈cells,∀id'∈Am c,s.hp id'≠none
 ownd:∀b,IF s.hp β b->X0.X b∨w0.heap.size<=b
 rngB:∀id bx b o,s.hp id=some bx->Cu (some bx)->β id=some (b,o)->b<w0.heap.size->∀j,BR bx o j->X0.L b j
 pin:∀i,X0.pn i->s.hp (C3 N i)≠none∧β (C3 N i)=X0.pt i
 stp:∀id c b o,s.hp id=some (.st c)->β id=some (b,o)->b<w0.heap.size->∃i,id=C3 N i∧X0.pn i
 Yx:∀b,Y b->¬IF s.hp β b
 Ylt:∀b,Y b->b<w0.heap.size
 fr:Fr X0 w0 w
theorem Cl {b:Option Bk}(h:Cu b):b≠none:=by rintro rfl;exact h
theorem Al {α:Type}(f:Nat->α)(i:Nat)(v:α):Ch f i v i=v:=by simp[Ch,Nat.beq_refl]
theorem Ai {α:Type}(f:Nat->α){i j:Nat}(v:α)(h:j≠i):Ch f i v j=f j:=by
 have:Nat.beq j i=false:=by
  cases hb:Nat.beq j i
  ·rfl
  ·exact absurd (Nat.eq_of_beq_eq_true hb) h
 simp[Ch,this]
theorem Sx {α:Type}(f:Nat->α){i:Nat}{v:α}(h:f i=v):Ch f i v=f:=by
 funext j
 by_cases e:j=i
 ·subst e;rw[Al];exact h.symm
 ·exact Ai f v e
theorem ND {α:Type}(f:Nat->α){i j:Nat}(u v:α)(h:i≠j):Ch (Ch f i u) j v=Ch (Ch f j v) i u:=by
 funext k
 by_cases e:k=j
 ·subst e;rw[Al,Ai _ _ (Ne.symm h),Al]
 ·rw[Ai _ _ e];by_cases e':k=i
  ·subst e';rw[Al,Al]
  ·rw[Ai _ _ e',Ai _ _ e',Ai _ _ e]
theorem CN {a:Act}{d:Nat}{v:Value}(h:d<a.tmps.size):(a.put (some d) v).tmps.getD d undef=v:=by
 simp[Act.put,h]
theorem Yl {a:Act}{d i:Nat}{v:Value}(h:i≠d):(a.put (some d) v).tmps.getD i undef=a.tmps.getD i undef:=by
 have h':d≠i:=fun e=>h e.symm
 simp[Act.put,Array.getElem?_setIfInBounds_ne h']
section
variable {N:Nat} {w0:World} {X0:Gm} {Y:Nat->Prop} {β β':Bt} {s:St} {a:Act} {w w':World}
theorem Td (d:Option Tmp)(v:Value):(a.put d v).tmps.size=a.tmps.size:=by cases d<;>simp[Act.put]
theorem Ny (d:Option Tmp)(v:Value):(a.put d v).defers=a.defers:=by cases d<;>rfl
theorem M1 {d:Option Tmp}(h:Fc N d=true){i:Nat}(e:d=some i):i<N:=by
 subst e;exact Nat.lt_of_succ_le (Nat.le_of_ble_eq_true h)
theorem Ld {Q:Nat->PV->Value->Prop}{tm:Nat->PV}{d:Option Tmp}{v:PV}{val:Value}(hN:a.tmps.size=N)(hd:Fc N d=true)
  (h:∀i,i<N->Q i (tm i) (a.tmps.getD i undef)) (hv:∀i,Q i v val):∀i,i<N->Q i (Bj tm d v i) ((a.put d val).tmps.getD i undef):=by
 intro i hi;cases d with
 |none=>exact h i hi
 |some d=>
  have B4:=M1 hd rfl;by_cases e:i=d
  ·subst e;show Q i (Ch tm i v i) _;rw[Al,CN (by omega)]
   exact hv i
  ·show Q i (Ch tm d v i) _;rw[Ai _ _ e,Yl e];exact h i hi
theorem GY {tm:Nat->PV}{d:Option Tmp}{v:PV}(hd:Fc N d=true)(h:∀i,N<=i->tm i=.top):∀i,N<=i->Bj tm d v i=.top:=by
 intro i hi;cases d with
 |none=>exact h i hi
 |some d=>
  have:=M1 hd rfl;show Ch tm d v i=_;rw[Ai _ _ (by omega)]
  exact h i hi
theorem Ci.put (h:Ci N w0 X0 Y β s a w){d:Option Tmp}{v:PV}{val:Value}(hd:Fc N d=true)(hv:Dx w (Cs s.hp β Y) β v val) (hr:∀id∈Bo v,s.hp id≠none):
  Ci N w0 X0 Y β ⟨Bj s.tm d v,s.hp⟩ (a.put d val) w where
 dfr:=by rw[Ny];exact h.dfr
 tsz:=by rw[Td];exact h.tsz
 tmo:=GY hd h.tmo
 tms:=Ld (Q:=fun _ p u=>Dx w (Cs s.hp β Y) β p u) h.tsz hd h.tms (fun _=>hv)
 box:=h.box
 inj:=h.inj
 blt:=h.blt
 wfT:=by
  have:=Ld (Q:=fun _ p _=>∀id∈Bo p,s.hp id≠none) (val:=val) h.tsz hd h.wfT (fun _=>hr)
  exact this
 wfB:=h.wfB
 ownd:=h.ownd
 rngB:=h.rngB
 pin:=h.pin
 stp:=h.stp
 Yx:=h.Yx
 Ylt:=h.Ylt
 fr:=h.fr
theorem Bq (hp:Nat->Option Bk)(ids:List Nat)(i:Nat):Af hp ids i=if i∈ids then (hp i).map Ot else hp i:=by
 unfold Af;by_cases hi:i∈ids
 ·have:ids.any (Nat.beq i)=true:=List.any_eq_true.2 ⟨i,hi,Nat.beq_refl i⟩;rw[this,if_pos hi];rfl
 ·have:ids.any (Nat.beq i)=false:=by
   cases hb:ids.any (Nat.beq i)
   ·rfl
   ·obtain⟨j,hj,e⟩:=List.any_eq_true.1 hb;exact absurd (Nat.eq_of_beq_eq_true e ▸ hj) hi
  rw[this,if_neg hi];rfl
theorem Dl {hp:Nat->Option Bk}{ids:List Nat}{i:Nat}:Af hp ids i=none↔hp i=none:=by
 rw[Bq];split<;>simp
theorem Lm {hp:Nat->Option Bk}{ids:List Nat}{i:Nat}(h:Cu (Af hp ids i)):Cu (hp i):=by
 rw[Bq] at h;split at h
 ·cases hb:hp i with
  |none=>rw[hb] at h;exact h
  |some b=>cases b with
   |st c=>trivial
   |ar fz c=>rw[hb] at h;exact h.elim
   |mv=>rw[hb] at h;exact h
 ·exact h
theorem G5 {hp:Nat->Option Bk}{ids:List Nat}{i:Nat}{bx:Bk}(h:Af hp ids i=some bx)(hl:Cu (some bx)):hp i=some bx:=by
 rw[Bq] at h;split at h
 ·cases hb:hp i with
  |none=>rw[hb] at h;cases h
  |some b=>
   rw[hb] at h;cases b with
   |st c=>exact h
   |ar fz c=>simp only[Option.map_some,Ot,Option.some.injEq] at h;subst h;exact hl.elim
   |mv=>simp only[Option.map_some,Ot,Option.some.injEq] at h;subst h;exact hl.elim
 ·exact h
theorem Mx {hp:Nat->Option Bk}{ids:List Nat}{b:Nat}(h:IF (Af hp ids) β b):IF hp β b:=by
 obtain⟨id,o,hl,hb⟩:=h;exact⟨id,o,Lm hl,hb⟩
theorem N0.step' {A A':Nat->Prop}{id:Nat}{bx:Bk}(hA:∀b,A' b->A b)(h:N0 w A β id bx):N0 w A' β id bx:=by
 have hs:=B2.refl A w;cases bx with
 |st c=>
  obtain⟨b,o,h1,h2,h3⟩:=h;exact⟨b,o,h1,fun j c hj=>let ⟨v,hv,hc⟩:=h2 j c hj;⟨v,hv,hc.step hs (fun b _=>hA b) (fun _ _=>rfl)⟩,h3⟩
 |ar fz c=>
  rcases h with h|⟨b,o,h1,h2,h3,h4⟩
  ·exact .inl h
  ·exact .inr ⟨b,o,h1,h2.weak (fun b _=>hA b),h3,fun e x=>h4 e (hA b x)⟩
 |mv=>trivial
theorem Ci.freeze (h:Ci N w0 X0 Y β s a w){fz:List Nat}(Um:∀id∈fz,∃f c,s.hp id=some (.ar f c)):Ci N w0 X0 Y β ⟨s.tm,Af s.hp fz⟩ a w:=by
 have hA:∀b,Cs (Af s.hp fz) β Y b->Cs s.hp β Y b:=fun b hb=>hb.imp Mx id
 refine⟨h.dfr,h.tsz,h.tmo,fun i hi=>(h.tms i hi).step (B2.refl _ _) (fun b _=>hA b) (fun _ _=>rfl),fun id b hb=>?_,fun id id' b o o' h1 h2=>h.inj id id' b o o' (Lm h1) (Lm h2),
  fun id b o hn=>h.blt id b o (fun e=>hn (Dl.2 e)),fun i hi id Bf e=>h.wfT i hi id Bf (Dl.1 e),fun id cells hc c NF id' Bf e=>?_,fun b hb=>h.ownd b (Mx hb),
  fun id bx b o hb hl=>h.rngB id bx b o (G5 hb hl) hl,fun i hi=>⟨fun e=>(h.pin i hi).1 (Dl.1 e),(h.pin i hi).2⟩,fun id c b o hc=>h.stp id c b o (G5 hc trivial),fun b hb x=>h.Yx b hb (Mx x),h.Ylt,h.fr⟩
 ·simp only at hb;rw[Bq] at hb;split at hb
  ·rename_i hm;obtain⟨f,c,hc⟩:=Um id hm;rw[hc] at hb;simp only[Option.map_some,Ot,Option.some.injEq] at hb;subst hb;have I3:=h.box id _ hc;rcases I3 with I3|⟨b,o,h1,h2,h3,h4⟩
   ·exact .inl I3
   ·refine .inr ⟨b,o,h1,h2.weak (fun b _=>hA b),(fun e=>by cases e),fun _ hb=>?_⟩
    rcases hb with⟨id',o',hl,hb⟩|hY
    ·have hl0:=Lm hl;cases f with
     |true=>exact h4 rfl (.inl ⟨id',o',hl0,hb⟩)
     |false=>
      have e:=h.inj id' id b o' o hl0 (by rw[hc];trivial) hb h1
      subst e;simp only at hl;rw[Bq,if_pos hm,hc] at hl;exact hl
    ·cases f with
     |true=>exact h4 rfl (.inr hY)
     |false=>exact h.Yx b hY ⟨id,o,by rw[hc];trivial,h1⟩
  ·exact (h.box id b hb).step' hA
 ·simp only at hc;rw[Bq] at hc;refine h.wfB id cells ?_ c NF id' Bf (Dl.1 e);split at hc
  ·rename_i hm;obtain⟨f,c,Nv⟩:=Um id hm;rw[Nv] at hc;cases hc
  ·exact hc
theorem Bg:∀{nw:List (Nat × Bk)} {hp:Nat->Option Bk},Bn hp nw=true ->
  (∀id bx,(id,bx)∈nw->hp id=none)∧(∀id bx bx',(id,bx)∈nw->(id,bx')∈nw->bx=bx')
 |[],_,_=>⟨by simp,by simp⟩
 |(i,b)::r,hp,h=>by
  simp only[Bn,Bool.and_eq_true,Option.isNone_iff_eq_none,Bool.not_eq_true'] at h;obtain⟨⟨h1,h2⟩,h3⟩:=h;obtain⟨h4,h5⟩:=Bg h3
  have Ee:∀bx,(i,bx) ∉ r:=by
   intro bx hm;have:r.any (fun q=>Nat.beq q.1 i)=true:=List.any_eq_true.2 ⟨_,hm,Nat.beq_refl i⟩
   rw[this] at h2;cases h2
  refine⟨fun id bx hm=>?_,fun id bx bx' hm Hv=>?_⟩
  ·rcases List.mem_cons.1 hm with e|hm
   ·cases e;exact h1
   ·exact h4 id bx hm
  ·rcases List.mem_cons.1 hm with e|hm
   ·cases e;rcases List.mem_cons.1 Hv with e|Hv
    ·cases e;rfl
    ·exact absurd Hv (Ee _)
   ·rcases List.mem_cons.1 Hv with e|Hv
    ·cases e;exact absurd hm (Ee _)
    ·exact h5 id bx bx' hm Hv
theorem Du:∀{nw:List (Nat × Bk)} {hp:Nat->Option Bk},(∀id bx bx',(id,bx)∈nw->(id,bx')∈nw->bx=bx') ->
  (∀id bx,(id,bx)∈nw->An hp nw id=some bx)∧(∀id,(∀bx,(id,bx) ∉ nw)->An hp nw id=hp id)
 |[],_,_=>⟨by simp,fun _ _=>rfl⟩
 |(i,b)::r,hp,h=>by
  obtain⟨h1,h2⟩:=Du (nw:=r) (hp:=Ch hp i (some b)) (fun id bx bx' hm Hv=>h id bx bx' (by simp[hm]) (by simp[Hv]))
  refine⟨fun id bx hm=>?_,fun id hn=>?_⟩
  ·by_cases hr:∃bx',(id,bx')∈r
   ·obtain⟨bx',hr⟩:=hr;have:=h id bx bx' hm (by simp[hr])
    subst this;exact h1 id bx hr
   ·rcases List.mem_cons.1 hm with e|hm
    ·cases e;show An (Ch hp i (some b)) r i=_;rw[h2 i (fun bx' hb=>hr ⟨bx',hb⟩),Al]
    ·exact absurd ⟨bx,hm⟩ hr
  ·show An (Ch hp i (some b)) r id=_;rw[h2 id (fun bx hb=>hn bx (by simp[hb])),Ai]
   rintro rfl
   exact hn b (by simp)
structure EY (Y:Nat->Prop) (β:Bt) (s:St) (w:World) (v:PV) (nw:List (Nat × Bk)) (val:Value) (w':World) (β':Bt):Prop where
 os:w'.os=w.os
 tape:w'.tape=w.tape
 output:w'.output=w.output
 ext:B2 (fun _=>False) w w'
 old:∀id,s.hp id≠none->β' id=β id
 nlive:∀id bx,(id,bx)∈nw->Cu (some bx)
 nbox:∀id bx,(id,bx)∈nw->N0 w' (Cs (An s.hp nw) β' Y) β' id bx
 nblk:∀id bx b o,(id,bx)∈nw->β' id=some (b,o)->w.heap.size<=b∧b<w'.heap.size
 ninj:∀id bx id' bx' b o o',(id,bx)∈nw->(id',bx')∈nw->β' id=some (b,o)->β' id'=some (b,o')->id=id'
 nwf:∀id cells,(id,.st cells)∈nw->∀c∈cells,∀id'∈Am c,s.hp id'≠none∨∃bx,(id',bx)∈nw
 val:Dx w' (Cs (An s.hp nw) β' Y) β' v val
 vwf:∀id∈Bo v,s.hp id≠none∨∃bx,(id,bx)∈nw
theorem Ci.stepR (h:Ci N w0 X0 Y β s a w){d:Option Tmp}{v:PV}{nw:List (Nat × Bk)} {val:Value}(hd:Fc N d=true)(Lq:Bn s.hp nw=true)
  (st:EY Y β s w v nw val w' β'):Ci N w0 X0 Y β' ⟨Bj s.tm d v,An s.hp nw⟩ (a.put d val) w':=by
 obtain⟨ha1,H8⟩:=Bg Lq;obtain⟨XV,hg2⟩:=Du (hp:=s.hp) H8
 have F8:∀id,(∃bx,(id,bx)∈nw)∨An s.hp nw id=s.hp id:=fun id=>by
  by_cases hx:∃bx,(id,bx)∈nw
  ·exact .inl hx
  ·exact .inr (hg2 id fun bx hb=>hx ⟨bx,hb⟩)
 have Asm:∀id,s.hp id≠none->An s.hp nw id=s.hp id:=fun id hn=>by
  rcases F8 id with⟨bx,hx⟩|e
  ·exact absurd (ha1 id bx hx) hn
  ·exact e
 have Q8:∀id,(s.hp id≠none∨∃bx,(id,bx)∈nw)->An s.hp nw id≠none:=by
  rintro id (hn|⟨bx,hx⟩)
  ·rw[Asm id hn];exact hn
  ·rw[XV id bx hx];simp
 have Ahj:∀b,b<w.heap.size->IF (An s.hp nw) β' b->IF s.hp β b:=by
  rintro b hb ⟨id,o,hl,hβ⟩
  rcases F8 id with⟨bx,hx⟩|e
  ·have:=(st.nblk id bx b o hx hβ).1;omega
  ·rw[e] at hl;exact⟨id,o,hl,by rw[←st.old id (Cl hl)];exact hβ⟩
 have SW:∀b,b<w.heap.size->Cs (An s.hp nw) β' Y b->Cs s.hp β Y b:=fun b hb hA=>hA.imp (Ahj b hb) id
 have SI:B2 (Cs s.hp β Y) w w':=st.ext.weaken (fun _ _ x=>x.elim)
 refine⟨by rw[Ny];exact h.dfr,by rw[Td];exact h.tsz,GY hd h.tmo,?_,?_,?_,?_,?_,?_,?_,?_,?_,?_,?_,h.Ylt,?_⟩
 ·refine Ld (Q:=fun _ p u=>Dx w' (Cs (An s.hp nw) β' Y) β' p u) h.tsz hd (fun i hi=>?_) (fun _=>st.val)
  exact (h.tms i hi).step SI SW fun id Bf=>st.old id (h.wfT i hi id Bf)
 ·intro id b hb;simp only at hb;rcases F8 id with⟨bx,hx⟩|e
  ·rw[XV id bx hx] at hb;cases hb;exact st.nbox id _ hx
  ·rw[e] at hb;have hβ:=st.old id (by rw[hb];simp)
   have I3:=h.box id b hb;have B4:=h.blt id;have Ee:s.hp id≠none:=by rw[hb];simp
   cases b with
   |st c=>
    obtain⟨b,o,h1,h2,h3⟩:=I3;have Gi:=B4 b o Ee h1;have Nt:=st.ext.keep b Gi (fun x=>x)
    refine⟨b,o,by rw[hβ];exact h1,fun j c hj=>?_,fun j hj=>?_⟩
    ·obtain⟨v,hv,hc⟩:=h2 j c hj;refine⟨v,by rw[World.cell?_of_block (w:=w) Nt];exact hv,hc.step SI SW fun id' Bf=>st.old id' ?_⟩
     exact h.wfB id _ hb c (List.mem_of_getElem? hj) id' Bf
    ·rw[World.frozen?_of_block (w:=w) Nt];exact h3 j hj
   |ar fz c=>
    rcases I3 with⟨h1,h2⟩|⟨b,o,h1,h2,h3,h4⟩
    ·exact .inl ⟨by rw[hβ];exact h1,h2⟩
    ·have Gi:=B4 b o Ee h1;have Nt:=st.ext.keep b Gi (fun x=>x)
     have CZ:bsz w' b=bsz w b:=by unfold bsz;rw[Nt]
     refine .inr ⟨b,o,by rw[hβ];exact h1,fun j c hj=>?_,fun e j hj Ok=>?_,fun e x=>h4 e (SW b Gi x)⟩
     ·obtain⟨v,hv,h5,hc⟩:=h2 j c hj;exact⟨v,by rw[World.cell?_of_block (w:=w) (by rw[Ea];exact Nt)];exact hv,h5,hc.step SI SW⟩
     ·rw[World.frozen?_of_block (w:=w) Nt];exact h3 e j hj (by rw[←CZ];exact Ok)
   |mv=>trivial
 ·intro id id' b o o' hl H1 hb Gi;simp only at hl H1;rcases F8 id with⟨bx,hx⟩|e
  ·rcases F8 id' with⟨bx',Oy⟩|e'
   ·exact st.ninj id bx id' bx' b o o' hx Oy hb Gi
   ·rw[e'] at H1;have h1:=(st.nblk id bx b o hx hb).1;have h2:=h.blt id' b o' (Cl H1) (by rw[←st.old id' (Cl H1)];exact Gi)
    omega
  ·rw[e] at hl;rcases F8 id' with⟨bx',Oy⟩|e'
   ·have h1:=(st.nblk id' bx' b o' Oy Gi).1;have h2:=h.blt id b o (Cl hl) (by rw[←st.old id (Cl hl)];exact hb)
    omega
   ·rw[e'] at H1;exact h.inj id id' b o o' hl H1 (by rw[←st.old id (Cl hl)];exact hb) (by rw[←st.old id' (Cl H1)];exact Gi)
 ·intro id b o hn hb;simp only at hn;rcases F8 id with⟨bx,hx⟩|e
  ·exact (st.nblk id bx b o hx hb).2
  ·rw[e] at hn;exact Nat.lt_of_lt_of_le (h.blt id b o hn (by rw[←st.old id hn];exact hb)) st.ext.size
 ·have:=Ld (Q:=fun _ p _=>∀id∈Bo p,An s.hp nw id≠none) (val:=val) (d:=d) (v:=v) h.tsz hd (fun i hi id Bf=>Q8 id (.inl (h.wfT i hi id Bf))) (fun _ id Bf=>Q8 id (st.vwf id Bf))
  exact this
 ·intro id cells hc c NF id' Bf;simp only at hc;rcases F8 id with⟨bx,hx⟩|e
  ·rw[XV id bx hx] at hc;cases hc;exact Q8 id' (st.nwf id _ hx c NF id' Bf)
  ·rw[e] at hc;exact Q8 id' (.inl (h.wfB id cells hc c NF id' Bf))
 ·rintro b ⟨id,o,hl,hb⟩
  simp only at hl;rcases F8 id with⟨bx,hx⟩|e
  ·exact .inr (Nat.le_trans h.fr.step.size (st.nblk id bx b o hx hb).1)
  ·rw[e] at hl;exact h.ownd b ⟨id,o,hl,by rw[←st.old id (Cl hl)];exact hb⟩
 ·intro id bx b o hb hl hβ B4;simp only at hb;rcases F8 id with⟨bx',hx⟩|e
  ·have:=(st.nblk id bx' b o hx hβ).1;have:=h.fr.step.size;omega
  ·rw[e] at hb;exact h.rngB id bx b o hb hl (by rw[←st.old id (by rw[hb];simp)];exact hβ) B4
 ·intro i hi;obtain⟨h1,h2⟩:=h.pin i hi;exact⟨Q8 _ (.inl h1),by rw[st.old _ h1];exact h2⟩
 ·intro id c b o hb hβ B4;simp only at hb;rcases F8 id with⟨bx',hx⟩|e
  ·have:=(st.nblk id bx' b o hx hβ).1;have:=h.fr.step.size;omega
  ·rw[e] at hb;exact h.stp id c b o hb (by rw[←st.old id (by rw[hb];simp)];exact hβ) B4
 ·rintro b hY hX
  have hb:b<w.heap.size:=Nat.lt_of_lt_of_le (h.Ylt b hY) h.fr.step.size;exact h.Yx b hY (Ahj b hb hX)
 ·refine⟨st.os.trans h.fr.os,st.tape.trans h.fr.tape,st.output.trans h.fr.output,h.fr.step.trans st.ext (fun _ _ x=>x.elim),fun b j hb hL=>?_⟩
  have Nt:=st.ext.keep b (Nat.lt_of_lt_of_le hb h.fr.step.size) (fun x=>x)
  have hc:w'.cell? ⟨b,j,none⟩=w.cell? ⟨b,j,none⟩:=World.cell?_of_block (w:=w) Nt;have hf:w'.frozen? ⟨b,j,none⟩=w.frozen? ⟨b,j,none⟩:=World.frozen?_of_block (w:=w) Nt;rw[hc,hf];exact h.fr.rng b j hb hL
end
open Go.RowKit
section
variable {P:Program} {N:Nat} {w0:World} {X0:Gm} {Y:Nat->Prop} {β β':Bt} {s:St} {a:Act} {w w':World} {o:Oper}
theorem MS (cs:List Value)(A:Nat->Prop):Bb (Bu w A β) (cs.map PV.sc) cs:=by
 induction cs with
 |nil=>trivial
 |cons v r ih=>exact⟨Ar.sc v,ih⟩
theorem QU (cs:List Value):(cs.map PV.sc).flatMap Am=[]:=by
 induction cs with
 |nil=>rfl
 |cons v r ih=>exact ih
theorem Cn (h:Ci N w0 X0 Y β s a w)(x:Operand):Dx w (Cs s.hp β Y) β (Bv s.tm x) (a.eval x):=by
 cases x with
 |tmp t=>
  show Dx _ _ _ (s.tm t) (a.tmps.getD t undef);by_cases ht:t<N
  ·exact h.tms t ht
  ·rw[h.tmo t (Nat.le_of_not_lt ht)];exact Ar.top _
 |const v=>
  cases v with
  |agg cs=>exact⟨cs.toList,by simp[Act.eval],MS cs.toList _⟩
  |_=>exact Ar.sc _
 |func f=>exact Ar.sc _
 |global g=>exact Ar.sc _
theorem Ef (h:Ci N w0 X0 Y β s a w)(x:Operand):∀id∈Bo (Bv s.tm x),s.hp id≠none:=by
 cases x with
 |tmp t=>
  show ∀id∈Bo (s.tm t),_;by_cases ht:t<N
  ·exact h.wfT t ht
  ·rw[h.tmo t (Nat.le_of_not_lt ht)];intro id Bf;cases Bf
 |const v=>
  cases v with
  |agg cs=>
   intro id Bf;have:Bo (.agg (cs.toList.map .sc))=[]:=QU cs.toList;simp only[Bv] at Bf;rw[this] at Bf;cases Bf
  |_=>intro id Bf;cases Bf
 |func f=>intro id Bf;cases Bf
 |global g=>intro id Bf;cases Bf
theorem Vg {A:Nat->Prop}{v u:Value}(h:Dx w A β (.sc v) u):u=v:=Ar.val h
theorem B0 (h:Ci N w0 X0 Y β s a w){x:Operand}{v:Value}(e:Bv s.tm x=.sc v):a.eval x=v:=by
 have:=Cn h x;rw[e] at this;exact Vg this
def Dt (P:Program)(a:Act)(w:World)(o:Oper)(Y:Nat->Prop)(β:Bt)(s:St)(v:PV)(fz:List Nat)(nw:List (Nat × Bk)):Prop:=
 (∀id∈fz,∃f c,s.hp id=some (.ar f c))∧∃val w',(execOp a.eval o).run P w=.ok (.value val) w'∧(Bn s.hp nw=true->∃β',EY Y β ⟨s.tm,Af s.hp fz⟩ w v nw val w' β')
theorem OO {v:PV}{val:Value}(hv:Dx w (Cs s.hp β Y) β v val) (hr:∀id∈Bo v,s.hp id≠none):EY Y β s w v [] val w β:=
 ⟨rfl,rfl,rfl,B2.refl _ _,fun _ _=>rfl,by simp,by simp,by simp,by simp,by simp,hv,fun id Bf=>.inl (hr id Bf)⟩
theorem Bx {v:PV}{val:Value}(Cg:(execOp a.eval o).run P w=.ok (.value val) w) (hv:Dx w (Cs s.hp β Y) β v val) (hr:∀id∈Bo v,s.hp id≠none):Dt P a w o Y β s v [] []:=
 ⟨by simp,val,w,Cg,fun _=>⟨β,OO (s:=⟨s.tm,Af s.hp []⟩) hv hr⟩⟩
theorem Cc {v:Value}(Cg:(execOp a.eval o).run P w=.ok (.value v) w):Dt P a w o Y β s (.sc v) [] []:=Bx Cg (Ar.sc v) (by intro id Bf;cases Bf)
structure Fe (w w':World) (c:Array Value) (e:TypeId):Prop where
 os:w'.os=w.os
 tape:w'.tape=w.tape
 output:w'.output=w.output
 old:∀b,b<w.heap.size->w'.heap[b]?=w.heap[b]?
 size:w'.heap.size=w.heap.size+1
 new:∃fz:Nat × Nat,w'.heap[w.heap.size]?=some (.cells c e fz)∧(fz.1=fz.2∨c.size<=fz.1)
theorem Fe.alloc (w:World)(c:Array Value)(e:TypeId):Fe w (w.alloc (.cells c e)) c e:=
 ⟨rfl,rfl,rfl,fun b hb=>Below.heap_alloc w _ b hb,by show (w.heap.push _).size=_;simp,(0,0),by show (w.heap.push _)[w.heap.size]?=_;simp,.inl rfl⟩
theorem Fe.drew {c:Array Value}{e:TypeId}(h:Fe w w' c e):Fe w w'.drew c e:=⟨h.os,h.tape,h.output,h.old,h.size,h.new⟩
section
variable {c:Array Value} {e:TypeId}
theorem Fe.step (h:Fe w w' c e):B2 (fun _=>False) w w':=
 ⟨by rw[h.size];omega,fun b hb _=>h.old b hb,fun b hb=>Fz.same (h.old b hb)⟩
theorem Fe.cell (h:Fe w w' c e)(j:Nat):w'.cell? ⟨w.heap.size,j,none⟩=c[j]?:=by
 obtain⟨fz,hn,_⟩:=h.new;simp[World.cell?,hn]
theorem Fe.frozen (h:Fe w w' c e){j:Nat}(hj:j<c.size):w'.frozen? ⟨w.heap.size,j,none⟩=false:=by
 obtain⟨fz,hn,hf⟩:=h.new;simp only[World.frozen?,hn];rcases hf with hf|hf<;>simp<;>omega
theorem H6 (w:World)(c:Array Value)(e:TypeId):KT (w.alloc (.cells c e)) w.heap.size=false:=by
 unfold KT World.frozen?;have:(w.alloc (.cells c e)).heap[w.heap.size]?=some (.cells c e (0,0)):=by show (w.heap.push _)[w.heap.size]?=_;simp
 simp only[this];simp
theorem Fe.bsz (h:Fe w w' c e):bsz w' w.heap.size=c.size:=by
 obtain⟨fz,hn,_⟩:=h.new;simp[Pv.bsz,hn]
end
theorem Mq {c:Array Value}{e:TypeId}{d:Nat}{bx:Bk}{v:PV}{val:Value}(hg:Fe w w' c e)(hd:s.hp d=none)(hl:Cu (some bx))
  (I3:N0 w' (Cs (Ch s.hp d (some bx)) (Ch β d (some (w.heap.size,0))) Y) (Ch β d (some (w.heap.size,0))) d bx)
  (hcw:∀cells,bx=.st cells->∀x∈cells,∀id'∈Am x,s.hp id'≠none)
  (hv:Dx w' (Cs (Ch s.hp d (some bx)) (Ch β d (some (w.heap.size,0))) Y) (Ch β d (some (w.heap.size,0))) v val)
  (hvr:∀id∈Bo v,s.hp id≠none∨id=d):EY Y β s w v [(d,bx)] val w' (Ch β d (some (w.heap.size,0))) where
 os:=hg.os
 tape:=hg.tape
 output:=hg.output
 ext:=hg.step
 old:=fun id hn=>Ai _ _ (by rintro rfl;exact hn hd)
 nlive:=by intro id b hm;simp at hm;obtain⟨rfl,rfl⟩:=hm;exact hl
 nbox:=by intro id b hm;simp at hm;obtain⟨rfl,rfl⟩:=hm;exact I3
 nblk:=by
  intro id b x y hm hb;simp at hm;obtain⟨rfl,rfl⟩:=hm;rw[Al] at hb;simp at hb;have:=hg.size;omega
 ninj:=by intro id b id' b' x y z hm Hv _ _;simp at hm Hv;rw[hm.1,Hv.1]
 nwf:=by intro id cells hm x hx id' Bf;simp at hm;exact .inl (hcw cells hm.2.symm x hx id' Bf)
 val:=hv
 vwf:=by
  intro id Bf;rcases hvr id Bf with h|rfl
  ·exact .inl h
  ·exact .inr ⟨bx,by simp⟩
theorem SS {c:Array Value}{e:TypeId}(hg:Fe w w' c e){A A':Nat->Prop}(hA:∀b,b<w.heap.size->A' b->A b){cells:List PV}
  (h:∀(j:Nat) p,cells[j]?=some p->∃v,c[j]?=some v∧v.oneCell'=true∧Ar w A p v):OC w' A' ⟨w.heap.size,0,none⟩ cells:=by
 intro j p hj;obtain⟨v,hv,h1,ht⟩:=h j p hj;exact⟨v,by rw[D3,Nat.zero_add,hg.cell];exact hv,h1,ht.step (hg.step.weaken (fun _ _ x=>x.elim)) hA⟩
theorem TJ {d:Nat}{bx:Bk}(hwf:s.hp d=none):∀b,b<w.heap.size->Cs (Ch s.hp d (some bx)) (Ch β d (some (w.heap.size,0))) Y b->Cs s.hp β Y b:=by
 intro b hb hA;rcases hA with⟨id,o,hl,hβ⟩|hY
 ·by_cases e:id=d
  ·subst e;rw[Al] at hβ;simp at hβ;omega
  ·rw[Ai _ _ e] at hl hβ;exact .inl ⟨id,o,hl,hβ⟩
 ·exact .inr hY
theorem Mm {c:Array Value}{e:TypeId}{d:Nat}{cells:List PV}{fz:List Nat}{v:PV}{val:Value}
  (Um:∀id∈fz,∃f c,s.hp id=some (.ar f c))
  (Cg:(execOp a.eval o).run P w=.ok (.value val) w') (hg:Fe w w' c e)
  (hc:∀(j:Nat) p,cells[j]?=some p->∃u,c[j]?=some u∧u.oneCell'=true∧Ar w (Cs (Af s.hp fz) β Y) p u)
  (hv:(v=.ptr d 0∧val=.pointer (some ⟨w.heap.size,0,none⟩))∨∃es n cap,v=.view d es 0 n∧val=.slice (some ⟨w.heap.size,0,none⟩) n cap∧n<=cap∧cap*es<=c.size∧(es=1∨KT w' w.heap.size=false)):
  Dt P a w o Y β s v fz [(d,.ar false cells)]:=by
 refine⟨Um,val,w',Cg,fun Lq=>⟨Ch β d (some (w.heap.size,0)),?_⟩⟩
 have hd:s.hp d=none:=(Bg Lq).1 d (.ar false cells) (by simp)
 have hd':Af s.hp fz d=none:=Dl.2 hd;refine Mq (s:=⟨s.tm,Af s.hp fz⟩) hg hd' trivial ?_ (fun cells hx=>by cases hx) ?_ ?_
 ·refine .inr ⟨w.heap.size,0,Al _ _ _,?_,fun _ j _ hj=>?_,(fun x=>by cases x)⟩
  ·exact SS hg (TJ (s:=⟨s.tm,Af s.hp fz⟩) hd') hc
  ·rw[hg.bsz] at hj;exact hg.frozen hj
 ·rcases hv with⟨rfl,rfl⟩|⟨es,n,cap,rfl,rfl,hn,Rj,Axa⟩
  ·exact⟨w.heap.size,0,Al _ _ _,rfl⟩
  ·exact .inr ⟨w.heap.size,0,0,cap,Al _ _ _,rfl,.inl rfl,hn,⟨by rw[hg.bsz];omega,Axa⟩,by rw[hg.size];omega⟩
 ·intro id Bf;rcases hv with⟨rfl,_⟩|⟨es,n,cap,rfl,_⟩<;>(simp[Bo,B6,Am] at Bf;exact .inr Bf)
theorem DA {c:Array Value}{e:TypeId}{d:Nat}{cells:List PV}
  (Cg:(execOp a.eval o).run P w=.ok (.value (.pointer (some ⟨w.heap.size,0,none⟩))) w') (hg:Fe w w' c e)
  (hc:∀(j:Nat) p,cells[j]?=some p->∃u,c[j]?=some u∧Bu w (Cs s.hp β Y) β p u) (hr:∀x∈cells,∀id∈Am x,s.hp id≠none):
  Dt P a w o Y β s (.ptr d 0) [] [(d,.st cells)]:=by
 refine⟨by simp,_,w',Cg,fun Lq=>⟨Ch β d (some (w.heap.size,0)),?_⟩⟩
 have hd:s.hp d=none:=(Bg Lq).1 d (.st cells) (by simp)
 refine Mq (s:=⟨s.tm,Af s.hp []⟩) hg hd trivial ?_ (fun cs hx x UP id Bf=>?_) ?_ ?_
 ·refine⟨w.heap.size,0,Al _ _ _,fun j p hj=>?_,fun j hj=>?_⟩
  ·obtain⟨u,hu,hp⟩:=hc j p hj;refine⟨u,by rw[Nat.zero_add,hg.cell];exact hu,hp.step (hg.step.weaken (fun _ _ x=>x.elim)) (TJ (s:=⟨s.tm,Af s.hp []⟩) hd) fun id Bf=>Ai _ _ ?_⟩
   rintro rfl
   exact hr p (List.mem_of_getElem? hj) id Bf hd
  ·rw[Nat.zero_add];obtain⟨u,hu,_⟩:=hc j _ (List.getElem?_eq_getElem hj)
   exact hg.frozen (by
    rcases Nat.lt_or_ge j c.size with h|h
    ·exact h
    ·rw[Array.getElem?_eq_none h] at hu;cases hu)
 ·injection hx with hx;subst hx;exact hr x UP id Bf
 ·exact⟨w.heap.size,0,Al _ _ _,rfl⟩
 ·intro id Bf;simp[Bo,B6,Am] at Bf;exact .inr Bf
end
open Go.RowKit
section
variable {R:Type} {r:R} {P:Program} {N:Nat} {w0:World} {X0:Gm} {Y:Nat->Prop} {β β':Bt} {s:St} {a:Act} {w w':World} {o:Oper}
theorem H0 {t:TypeId}{n:Nat}(h:(P.info? t).map (·.size)=some n) (w:World):(sizeOf t).run P w=.ok n w:=by
 cases hi:P.info? t with
 |none=>rw[hi] at h;cases h
 |some i=>rw[hi] at h;simp at h;simp[sizeOf,typeInfo,hi,h]
theorem ZI {t:TypeId}{n:Nat}(h:A7 P t=n)(hn:0<n):(P.info? t).map (·.size)=some n:=by
 unfold A7 at h;cases hi:(P.info? t).map (·.size) with
 |none=>rw[hi] at h;simp at h;omega
 |some i=>rw[hi] at h;simp at h;rw[h]
theorem J6 {t:TypeId}{d:TypeDesc}(h:P.underlying t=some d)(w:World):(isAgg t).run P w=.ok (B1 P t) w:=by
 unfold isAgg B1;rw[h];simp only[Sem.run_bind,run_underlying h,Result.andThen_ok];cases d<;>rfl
theorem SJ {t:TypeId}{v:Value}{K:PV->Option R}(h:cvK P t v K=some r):∃p,K p=some r∧Bo p=[]∧∀(w:World)(A:Nat->Prop)(β:Bt),Dx w A β p v:=by
 have sc:∀v:Value,K (.sc v)=some r->∃p,K p=some r∧Bo p=[]∧∀(w:World) (A:Nat->Prop) (β:Bt),Dx w A β p v:=fun v h=>⟨_,h,rfl,fun w A β=>Ar.sc v⟩
 unfold cvK at h;split at h
 ·rename_i cs;obtain⟨hl,h⟩:=Aj h;obtain⟨xs,h,hxl,hx⟩:=Pc h;have hl:=Nat.eq_of_beq_eq_true hl;refine⟨_,h,?_,fun w A β=>⟨cs.toList,by simp,?_⟩⟩
  ·show xs.flatMap Am=[];rw[List.flatMap_eq_nil_iff];intro c hc;obtain⟨j,hj⟩:=List.mem_iff_getElem?.1 hc;exact Gd (hx j c hj).1
  ·refine Bb.of_at (by rw[hxl,hl]) fun i c u hc hu=>?_
   obtain⟨hT,p,hp,_,Uw⟩:=hx i c hc;refine (Iz hT).2 (Uw w A β u ?_).1;rw[Nat.zero_add,List.getElem?_map,hu] at hp;simp at hp;subst hp;exact Ar.sc u
 ·split at h
  ·exact⟨_,h,rfl,fun w A β=>Ar.lnil true _⟩
  ·cases h
 ·exact sc _ h
theorem Tn (h:Ci N w0 X0 Y β s a w){x:Operand}(Cg:(execOp a.eval o).run P w=.ok (.value (a.eval x)) w) {K:PV->Option R}(hk:Ug P o.type s.tm x K=some r):
  ∃v,K v=some r∧Dt P a w o Y β s v [] []:=by
 have dflt:K (Bv s.tm x)=some r->∃v,K v=some r∧Dt P a w o Y β s v [] []:=fun hk=>⟨_,hk,Bx Cg (Cn h x) (Ef h x)⟩
 cases x with
 |const v=>
  obtain⟨p,hk,hr,hv⟩:=SJ hk;exact⟨p,hk,Bx Cg (hv _ _ _) (by rw[hr];simp)⟩
 |tmp t=>exact dflt hk
 |func f=>exact dflt hk
 |global g=>exact dflt hk
theorem WY {x:Operand}(ho:o.op=.move x):(execOp a.eval o).run P w=.ok (.value (a.eval x)) w:=by unfold execOp;rw[ho];rfl
theorem LT {x:Operand}(ho:o.op=.assign x):(execOp a.eval o).run P w=.ok (.value (a.eval x)) w:=by unfold execOp;rw[ho];rfl
theorem QB (h:Ci N w0 X0 Y β s a w){c x y:Operand}(ho:o.op=.pick c x y){K:PV->Option R}(hk:(Aq (Bv s.tm c) fun t=>Bh t (K (Bv s.tm x)) (K (Bv s.tm y)))=some r):
  ∃v,K v=some r∧Dt P a w o Y β s v [] []:=by
 obtain⟨b,hb,hk⟩:=Dc hk;have hc:=B0 h hb;rcases Jy hk with⟨rfl,hk⟩|⟨rfl,hk⟩
 ·exact⟨_,hk,Bx (by unfold execOp;rw[ho];simp[asBool,hc]) (Cn h x) (Ef h x)⟩
 ·exact⟨_,hk,Bx (by unfold execOp;rw[ho];simp[asBool,hc]) (Cn h y) (Ef h y)⟩
theorem Ln {t:TypeId}{K:List PV->Option R}(h:Fy P t K=some r):∃(v:Value)(cs:List PV),K cs=some r∧L2 P t=some v∧cs.length=(Gr P t).length∧cs.length=v.cells.toList.length∧cs.length=A7 P t ∧
  ∀(j:Nat) c,cs[j]?=some c->Rb c∧∃u,v.cells.toList[j]?=some u∧u.oneCell'=true∧∀(w:World) (A:Nat->Prop),Ar w A c u:=by
 unfold Fy at h;obtain⟨v,hz,h⟩:=B3 h;obtain⟨hl,h⟩:=Aj h;obtain⟨cs,h,J4,hc⟩:=Pc h;simp only[Bool.and_eq_true] at hl;have AC:=Nat.eq_of_beq_eq_true hl.1
 have On:(Gr P t).length=A7 P t:=by
  have:=hl.2;simp only[Ha,Bool.and_eq_true] at this;exact Nat.eq_of_beq_eq_true this.2
 refine⟨v,cs,h,hz,J4,by rw[J4,AC],by rw[J4,On],fun j c hj=>?_⟩
 obtain⟨hT,p,hp,_,Uw⟩:=hc j c hj;rw[Nat.zero_add,List.getElem?_map] at hp;cases hu:v.cells.toList[j]? with
 |none=>rw[hu] at hp;cases hp
 |some u=>
  rw[hu] at hp;simp at hp;subst hp;exact⟨hT,u,rfl,(Uw default (fun _=>False) (fun _=>none) u (Ar.sc u)).2,fun w A=>(Uw w A (fun _=>none) u (Ar.sc u)).1⟩
theorem Q9 {t:TypeId}{v:Value}(h:L2 P t=some v)(w:World):(zeroValue t).run P w=.ok v w:=by
 unfold L2 at h;cases hi:P.info? t with
 |none=>rw[hi] at h;cases h
 |some i=>rw[hi] at h;simp at h;simp[zeroValue,typeInfo,hi,h]
theorem MN {t:TypeId}(ho:o.op=.alloc t){d:Nat}{K:PV->List Nat->List (Nat × Bk)->Option R}
  (hk:(Fy P t fun cs=>K (.ptr d 0) [] [(d,Aau P t cs)])=some r):∃v fz nw,K v fz nw=some r∧Dt P a w o Y β s v fz nw:=by
 obtain⟨z,cs,hk,hz,_,hl,_,hc⟩:=Ln hk
 have Cg:(execOp a.eval o).run P w=.ok (.value (.pointer (some ⟨w.heap.size,0,none⟩))) (w.alloc (.cells z.cells t)):=by
  unfold execOp;rw[ho];simp[Instr.alloc,Q9 hz,newVar,newRow]
 have hg:=Fe.alloc w z.cells t;refine⟨_,_,_,hk,?_⟩;unfold Aau;cases Pi P t
 ·refine DA Cg hg (fun j p hj=>?_) fun x hx id Bf=>?_
  ·obtain⟨hT,u,hu,_,hv⟩:=hc j p hj;exact⟨u,by simpa using hu,(Iz hT).2 (hv _ _)⟩
  ·obtain⟨j,hj⟩:=List.mem_iff_getElem?.1 hx;rw[Gd (hc j x hj).1] at Bf;cases Bf
 ·refine Mm (by simp) Cg hg (fun j p hj=>?_) (.inl ⟨rfl,rfl⟩)
  obtain⟨hT,u,hu,h1,hv⟩:=hc j p hj;exact⟨u,by simpa using hu,h1,hv _ _⟩
end
open Go.RowKit
section
variable {R:Type} {r:R} {P:Program} {N:Nat} {w0:World} {X0:Gm} {Y:Nat->Prop} {β β':Bt} {s:St} {a:Act} {w w':World} {o:Oper} {A:Nat->Prop}
theorem M2 {t:TypeId}(h:Ha P t=true):(∃d,P.underlying t=some d)∧(Gr P t).length=A7 P t∧(P.info? t).map (·.size)=some (A7 P t):=by
 simp only[Ha,Bool.and_eq_true] at h;refine⟨Option.isSome_iff_exists.1 h.1,Nat.eq_of_beq_eq_true h.2,?_⟩;unfold A7;cases hi:P.info? t with
 |none=>unfold Program.underlying at h;rw[hi] at h;cases h.1
 |some i=>simp
theorem J7 {v:Value}(h:v.oneCell'=true):v.cells = #[v]:=by cases v<;>first|rfl|cases h
theorem SQ {p:PV}{v:Value}{ts:List CT}{K:List PV->Option R}(hv:Dx w A β p v)(hl:(cellsOf p).length=ts.length) (h:K9 ts (cellsOf p) 0 K=some r):
  ∃cs,K cs=some r∧cs.length=ts.length∧Bb (Bu w A β) cs v.cells.toList∧(∀u∈v.cells.toList,u.oneCell'=true)∧(∀c∈cs,∀id∈Am c,id∈Bo p)∧∀c∈cs,(∀x,c ≠ .agg x)∧(∀x,c ≠ .tup x):=by
 obtain⟨cs,h,J4,Vc,hc⟩:=Ow h;refine⟨cs,h,J4,?_⟩
 have single:(∀x,p ≠ .agg x)->cellsOf p=[p]:=by
  intro hp;cases p<;>first|rfl|exact absurd rfl (hp _)
 by_cases E5:∃x,p=.agg x
 ·obtain⟨x,rfl⟩:=E5;obtain⟨vs,rfl,h2⟩:=hv;have Dd:cs.length=vs.length:=by rw[J4,←hl];exact h2.len
  have key:∀(i:Nat) c u,cs[i]?=some c->vs[i]?=some u->Bu w A β c u∧u.oneCell'=true:=by
   intro i c u Nv hu;obtain⟨q,hq,_,_,hqv⟩:=hc i c Nv;rw[Nat.zero_add] at hq;exact hqv w A β u (h2.at_ hq hu)
  refine⟨Bb.of_at Dd fun i c u Nv hu=>(key i c u Nv hu).1,?_,?_,Vc⟩
  ·intro u hu;obtain⟨i,hi⟩:=List.mem_iff_getElem?.1 (show u∈vs from hu)
   have B4:i<vs.length:=by
    rcases Nat.lt_or_ge i vs.length with h|h
    ·exact h
    ·rw[List.getElem?_eq_none h] at hi;cases hi
   exact (key i _ u (List.getElem?_eq_getElem (by omega)) hi).2
  ·intro c NF id Bf;obtain⟨i,hi⟩:=List.mem_iff_getElem?.1 NF;obtain⟨q,hq,_,hr,_⟩:=hc i c hi;rw[Nat.zero_add] at hq;show id∈x.flatMap Am;exact List.mem_flatMap.2 ⟨q,List.mem_of_getElem? hq,hr id Bf⟩
 ·have hp:∀x,p ≠ .agg x:=fun x e=>E5 ⟨x,e⟩
  rw[single hp] at hl hc;have AC:cs.length=1:=by rw[J4,←hl];rfl
  match cs,AC with
  |[c],_=>
   obtain⟨q,hq,hf,hr,hqv⟩:=hc 0 c rfl;simp at hq;subst hq;have L8:∀x,p ≠ .tup x:=by rintro x rfl;exact hf
   have Lj:Bu w A β p v:=(Tq hp).1 ((Lg L8).1 hv);obtain⟨h5,h6⟩:=hqv w A β v Lj;rw[J7 h6];refine⟨⟨h5,trivial⟩,?_,?_,Vc⟩
   ·intro u hu;simp at hu;subst hu;exact h6
   ·intro c' Nv id Bf;simp at Nv;subst Nv;have:=hr id Bf;cases p<;>first|exact this|exact absurd rfl (hp _)|exact absurd rfl (L8 _)
end
open Go.RowKit
section
variable {R:Type} {r:R} {P:Program} {N:Nat} {w0:World} {X0:Gm} {Y:Nat->Prop} {β β':Bt} {s:St} {a:Act} {w w':World} {o:Oper} {A:Nat->Prop}
theorem Bb.get {α β':Type}{R':α->β'->Prop}{zs:List α}{bs:List β'}(h:Bb R' zs bs){i:Nat}{x:α}(hx:zs[i]?=some x):∃y,bs[i]?=some y∧R' x y:=by
 have B4:i<zs.length:=by
  rcases Nat.lt_or_ge i zs.length with h|h
  ·exact h
  ·rw[List.getElem?_eq_none h] at hx;cases hx
 have hb:bs[i]?=some (bs[i]'(by rw[←h.len];exact B4)):=List.getElem?_eq_getElem _
 exact⟨_,hb,h.at_ hx hb⟩
theorem Aea {p:PV}{v:Value}{ts:List CT}{K:List PV->Option R}(hv:Dx w A β p v)(hl:(cellsOf p).length=ts.length) (h:Of ts (cellsOf p) 0 K=some r):
  ∃cs,K cs=some r∧cs.length=ts.length∧Bb (Ar w A) cs v.cells.toList∧∀u∈v.cells.toList,u.oneCell'=true:=by
 obtain⟨cs,h,J4,hc⟩:=Pc h;refine⟨cs,h,J4,?_⟩;by_cases E5:∃x,p=.agg x
 ·obtain⟨x,rfl⟩:=E5;obtain⟨vs,rfl,h2⟩:=hv;have Dd:cs.length=vs.length:=by rw[J4,←hl];exact h2.len
  have key:∀(i:Nat) c u,cs[i]?=some c->vs[i]?=some u->Ar w A c u∧u.oneCell'=true:=by
   intro i c u Nv hu;obtain⟨_,q,hq,_,hqv⟩:=hc i c Nv;rw[Nat.zero_add] at hq;exact hqv w A β u (h2.at_ hq hu)
  refine⟨Bb.of_at Dd fun i c u Nv hu=>(key i c u Nv hu).1,?_⟩
  intro u hu;obtain⟨i,hi⟩:=List.mem_iff_getElem?.1 (show u∈vs from hu)
  have B4:i<vs.length:=by
   rcases Nat.lt_or_ge i vs.length with h|h
   ·exact h
   ·rw[List.getElem?_eq_none h] at hi;cases hi
  exact (key i _ u (List.getElem?_eq_getElem (by omega)) hi).2
 ·have hp:∀x,p ≠ .agg x:=fun x e=>E5 ⟨x,e⟩
  have single:cellsOf p=[p]:=by cases p<;>first|rfl|exact absurd rfl (hp _)
  rw[single] at hl hc;have AC:cs.length=1:=by rw[J4,←hl];rfl
  match cs,AC with
  |[c],_=>
   obtain⟨_,q,hq,hf,hqv⟩:=hc 0 c rfl;simp at hq;subst hq;have L8:∀x,p ≠ .tup x:=by rintro x rfl;exact hf
   have Lj:Bu w A β p v:=(Tq hp).1 ((Lg L8).1 hv);obtain⟨h5,h6⟩:=hqv w A β v Lj;rw[J7 h6];exact⟨⟨h5,trivial⟩,fun u hu=>by simp at hu;subst hu;exact h6⟩
theorem UU (h:Ci N w0 X0 Y β s a w){t:TypeId}{x:Operand}(ho:o.op=.box t x){d:Nat}{K:PV->List Nat->List (Nat × Bk)->Option R}
    (hk:(Bi (Ha P t&&Nat.beq (cellsOf (Bv s.tm x)).length (Gr P t).length)
      (bif Pi P t then Of (Gr P t) (cellsOf (Bv s.tm x)) 0 fun cs=>K (.ptr d 0) [] [(d,.ar false cs)]
       else K9 (Gr P t) (cellsOf (Bv s.tm x)) 0 fun cs=>K (.ptr d 0) [] [(d,.st cs)]))=some r):∃v fz nw,K v fz nw=some r∧Dt P a w o Y β s v fz nw:=by
  obtain⟨hl,hk⟩:=Aj hk
  simp only[Bool.and_eq_true] at hl
  have hl:=Nat.eq_of_beq_eq_true hl.2
  have Cg:(execOp a.eval o).run P w=.ok (.value (.pointer (some ⟨w.heap.size,0,none⟩))) (w.alloc (.cells (a.eval x).cells t)):=by
    unfold execOp
    rw[ho]
    simp[Instr.box,newVar,newRow]
  have hg:=Fe.alloc w (a.eval x).cells t
  cases ha:Pi P t
  · rw[ha] at hk
    obtain⟨cs,hk,_,h2,_,hr,_⟩:=SQ (Cn h x) hl hk
    refine⟨_,_,_,hk,DA Cg hg (fun j p hj=>?_) fun c hc id Bf=>Ef h x id (hr c hc id Bf)⟩
    obtain⟨u,hu,hp⟩:=h2.get hj
    exact⟨u,by simpa using hu,hp⟩
  · rw[ha] at hk
    obtain⟨cs,hk,_,h2,h1⟩:=Aea (Cn h x) hl hk
    refine⟨_,_,_,hk,Mm (by simp) Cg hg (fun j p hj=>?_) (.inl ⟨rfl,rfl⟩)⟩
    obtain⟨u,hu,hp⟩:=h2.get hj
    exact⟨u,by simpa using hu,h1 u (List.mem_of_getElem? hu),hp⟩
theorem QI {c:PV}(h1:∀x,c ≠ .agg x)(h2:∀x,c ≠ .tup x):Bo c=Am c:=by
 cases c<;>first|rfl|exact absurd rfl (h1 _)|exact absurd rfl (h2 _)
theorem Ti {t:TypeId}{ad:Addr}{cs:List PV}{p:PV}(hok:Ha P t=true)(Dd:cs.length=(Gr P t).length)
  (Vc:∀c∈cs,(∀x,c ≠ .agg x)∧(∀x,c ≠ .tup x))
  (hc:∀(j:Nat) c,cs[j]?=some c->∃v,w.cell? (ad.add j)=some v∧Bu w A β c v)
  (hp:(B1 P t=true∧p=.agg cs)∨(B1 P t=false∧cs=[p])):∃val,(loadVar t ad).run P w=.ok val w∧Dx w A β p val:=by
 obtain⟨⟨d,hd⟩,hl,hi⟩:=M2 hok;rcases hp with⟨E5,rfl⟩|⟨E5,rfl⟩
 ·have hf:∀j,j<A7 P t->w.cell? (ad.add j)=some ((w.cell? (ad.add j)).getD undef):=by
   intro j hj;obtain⟨v,hv,_⟩:=hc j _ (List.getElem?_eq_getElem (by omega))
   rw[hv];rfl
  refine⟨_,?_,(List.range (A7 P t)).map (fun j=>(w.cell? (ad.add j)).getD undef),rfl,?_⟩
  ·simp only[loadVar,Sem.run_bind,J6 hd,E5,Result.andThen_ok,if_true,H0 hi,run_loadCells w ad (A7 P t) _ hf];simp
  ·refine Bb.of_at (by simp;omega) fun i c u Nv hu=>?_
   obtain⟨v,hv,V7⟩:=hc i c Nv
   have B4:i<A7 P t:=by
    rcases Nat.lt_or_ge i cs.length with h|h
    ·omega
    ·rw[List.getElem?_eq_none h] at Nv;cases Nv
   rw[List.getElem?_map,List.getElem?_range B4] at hu;simp[hv] at hu;subst hu;exact V7
 ·obtain⟨v,hv,V7⟩:=hc 0 p rfl;have hn:=Vc p (by simp)
  have h0:ad.add 0=ad:=by simp[Addr.add]
  rw[h0] at hv;refine⟨v,?_,(Lg hn.2).2 ((Tq hn.1).2 V7)⟩;simp only[loadVar,Sem.run_bind,J6 hd,E5,Result.andThen_ok];simp[hv]
theorem Aa3 {hp:Nat->Option Bk}{id:Nat}{c:List PV}(h:rd hp id=some c):hp id=some (.st c)∨∃f,hp id=some (.ar f c):=by
 unfold rd at h;split at h
 ·rename_i e;simp at h;subst h;exact .inl e
 ·rename_i f _ e;simp at h;subst h;exact .inr ⟨_,e⟩
 ·cases h
theorem GA {hp:Nat->Option Bk}{id:Nat}{c:List PV}(h:Hm hp id=some c):∃f,hp id=some (.ar f c):=by
 unfold Hm at h;split at h
 ·rename_i e;simp at h;subst h;exact⟨_,e⟩
 ·cases h
theorem AG (h:Ci N w0 X0 Y β s a w){id:Nat}{c:List PV}(hr:rd s.hp id=some c){b ob:Nat}(hβ:β id=some (b,ob)) {j:Nat}{p:PV}(hj:c[j]?=some p):
  ∃v,w.cell? ⟨b,ob+j,none⟩=some v∧Bu w (Cs s.hp β Y) β p v:=by
 rcases Aa3 hr with hb|⟨f,hb⟩
 ·obtain⟨b',o',h1,h2,_⟩:=h.box id _ hb;rw[hβ] at h1;simp at h1;obtain⟨rfl,rfl⟩:=h1;exact h2 j p hj
 ·rcases h.box id _ hb with⟨h1,_⟩|⟨b',o',h1,h2,_⟩
  ·rw[hβ] at h1;cases h1
  ·rw[hβ] at h1;simp at h1;obtain⟨rfl,rfl⟩:=h1
   obtain⟨v,hv,_,ht⟩:=h2 j p hj;rw[D3] at hv;refine⟨v,hv,?_⟩;cases ht with
   |sc=>exact Ar.sc _
   |top=>exact Ar.top _
   |ub=>exact Ar.ub _
   |lnil=>exact Ar.lnil _ _
   |lemp=>exact Ar.lemp _ _ _
   |lst es n cells a cap f hs hb hA hn hc h1 hr=>exact Ar.lst es n cells a cap f hs hb hA hn hc h1 hr
theorem H9:∀{ts:List CT}{cells:List PV}{off:Nat}{K:List PV->Option R},Of ts cells off K=some r->K9 ts cells off K=some r
 |[],_,_,_,h=>h
 |.int k::ts,cells,off,K,h=>by
  obtain⟨n,hp,h⟩:=Dy (show Ak k (cells.getD off .top) _=some r from h)
  show Ak k _ _=_;rw[hp];simp only[Ak,if_true];exact H9 h
 |.bool::ts,cells,off,K,h=>by
  obtain⟨n,hp,h⟩:=Dc (show Aq (cells.getD off .top) _=some r from h)
  show Aq _ _=_;rw[hp];exact H9 h
 |.str::ts,cells,off,K,h=>by
  obtain⟨n,hp,h⟩:=C5 (show Az (cells.getD off .top) _=some r from h)
  show Az _ _=_;rw[hp];exact H9 h
 |.sl es::ts,cells,off,K,h=>by
  obtain⟨z,n,c,h,hp⟩:=Et (show Sa es (cells.getD off .top) _=some r from h)
  change fcK (.sl es) (cells.getD off .top) (fun c=>K9 ts cells (off+1) fun r=>K (c::r))=some r
  unfold fcK;dsimp only;unfold fsK;rcases hp with hp|⟨hp,rfl,rfl,rfl⟩
  ·rw[hp];simp only[Sa,Nat.beq_refl,cond_true];exact H9 h
  ·rw[hp];exact H9 h
 |.any::ts,cells,off,K,h=>by
  have hK:∀v,Of ts cells (off+1) (fun r=>K (.sc v::r))=some r->K9 ts cells (off+1) (fun r=>K (.sc v::r))=some r:=fun v h=>H9 h
  have h:WN (cells.getD off .top) (fun v=>Of ts cells (off+1) fun r=>K (.sc v::r))=some r:=h
  show WN (cells.getD off .top) (fun v=>K9 ts cells (off+1) fun r=>K (.sc v::r))=some r
  unfold WN at h ⊢;split at h
  ·rename_i e;exact hK _ h
  ·exact hK _ h
  ·cases h
theorem Ar.unz {w:World}{A:Nat->Prop}{z:Bool}{es n:Nat}{c:List PV}{u:Value}(h:Ar w A (.lst z es n c) u):Ar w A (.lst false es n c) u:=by
 cases h with
 |lnil z es=>exact .lnil false es
 |lemp es a cap=>exact .lemp es a cap
 |lst es n c a cap f h1 h2 h3 h4 h5 h6 h7=>exact .lst es n c a cap f h1 h2 h3 h4 h5 h6 h7
theorem VP {w:World}{A:Nat->Prop}{β:Bt}{p:PV}{u:Value}(h:Bu w A β p u):Bu w A β (GD p) u:=by
 cases p with
 |lst z es n c=>exact Ar.unz h
 |_=>exact h
theorem OM (p:PV):Am (GD p)=Am p:=by cases p<;>rfl
theorem DF {w:World}{A:Nat->Prop}{β:Bt}:∀{cs:List PV}{vs:List Value},Bb (Bu w A β) cs vs->Bb (Bu w A β) (cs.map GD) vs
 |[],[],_=>trivial
 |_::_,_::_,h=>⟨VP h.1,DF h.2⟩
 |[],_::_,h=>h.elim
 |_::_,[],h=>h.elim
theorem XK {w:World}{A:Nat->Prop}{β:Bt}{p:PV}{u:Value}(h:Dx w A β p u):Dx w A β (RL p) u:=by
 cases p with
 |agg cs=>
  obtain⟨vs,h1,h2⟩:=(show Gj w A β (.agg cs) u from h)
  exact⟨vs,h1,DF h2⟩
 |lst z es n c=>exact Ar.unz (show Ar w A (.lst z es n c) u from h)
 |_=>exact h
theorem TW (p:PV):Bo (RL p)=Bo p:=by
 cases p with
 |agg cs=>
  show (cs.map GD).flatMap Am=cs.flatMap Am
  induction cs with
  |nil=>rfl
  |cons a l ih=>rw[List.map_cons,List.flatMap_cons,List.flatMap_cons,ih,OM]
 |_=>rfl
theorem Afd {nz:Bool}{hp:Nat->Option Bk}{t:TypeId}{x:PV}{K:PV->Option R}(h:Sz nz P (rd hp) (Hm hp) t x K=some r):
  R5 P (rd hp) t x K=some r∨R5 P (rd hp) t x (fun v=>K (RL v))=some r:=by
 have h':R5 P (rd hp) t x K=some r∨R5 P (rd hp) t x (fun v=>K (bif nz then v else RL v))=some r:=by
  unfold Sz at h;unfold R5;split at h
  ·rename_i id off;obtain⟨hb,h⟩:=Aj h;rw[hb];show Dk _ _=_∨Dk _ _=_;split at h
   ·rename_i c hc;obtain⟨f,I3⟩:=GA hc;have:rd hp id=some c:=by unfold rd;rw[I3]
    rw[this];exact .inr (H9 h)
   ·exact .inl h
  ·exact .inr h
  ·cases h
 cases nz
 ·exact h'
 ·exact .inl (h'.elim id id)
theorem ER (h:Ci N w0 X0 Y β s a w){t:TypeId}{x:PV}{u:Value}(hx:Dx w (Cs s.hp β Y) β x u) {K:PV->Option R}(hk:R5 P (rd s.hp) t x K=some r):
  ∃v ad val,K v=some r∧u=.pointer (some ad)∧(loadVar t ad).run P w=.ok val w∧Dx w (Cs s.hp β Y) β v val∧∀i∈Bo v,s.hp i≠none:=by
 unfold R5 at hk;split at hk
 ·rename_i id off;obtain⟨hok,hk⟩:=Aj hk;obtain⟨c,hr,hk⟩:=B3 hk;obtain⟨cs,hk,hl,Vc,hc⟩:=Ow hk;obtain⟨b,ob,hβ,Cv⟩:=hx
  have Cm:∀(j:Nat) q,cs[j]?=some q->∃v,w.cell? ((⟨b,ob+off,none⟩:Addr).add j)=some v∧Bu w (Cs s.hp β Y) β q v:=by
   intro j q hq;obtain⟨p,hp,_,_,Uw⟩:=hc j q hq;obtain⟨v,hv,V7⟩:=AG h hr hβ hp;exact⟨v,by rw[D3,Nat.add_assoc];exact hv,(Uw _ _ _ _ V7).1⟩
  have Rc:∀q∈cs,∀i∈Am q,s.hp i≠none:=by
   intro q hq i hi;obtain⟨j,hj⟩:=List.mem_iff_getElem?.1 hq;obtain⟨p,hp,_,hpr,_⟩:=hc j q hj;rcases Aa3 hr with hb|⟨f,hb⟩
   ·exact h.wfB id c hb p (List.mem_of_getElem? hp) i (hpr i hi)
   ·obtain⟨v,hv,V7⟩:=AG h hr hβ hp;exfalso;have Ck:=hpr i hi;rcases h.box id _ hb with⟨_,rfl⟩|⟨b',o',h1,h2,_⟩
    ·simp at hp
    ·obtain⟨v',_,_,ht⟩:=h2 _ p hp;cases ht<;>cases Ck
  rcases HL hk with⟨E5,D6⟩|⟨E5,q,rfl,D6⟩
  ·obtain⟨val,Ua,hv⟩:=Ti hok hl Vc Cm (.inl ⟨E5,rfl⟩);refine⟨_,_,val,D6,Cv,Ua,hv,fun i hi=>?_⟩
   obtain⟨q,hq,hi⟩:=List.mem_flatMap.1 (show i∈cs.flatMap Am from hi)
   exact Rc q hq i hi
  ·obtain⟨val,Ua,hv⟩:=Ti hok hl Vc Cm (.inr ⟨E5,rfl⟩);refine⟨_,_,val,D6,Cv,Ua,hv,fun i hi=>Rc q (by simp) i ?_⟩
   have hn:=Vc q (by simp)
   rw[QI hn.1 hn.2] at hi;exact hi
 ·rename_i c off;obtain⟨hok,hk⟩:=Aj hk;obtain⟨cs,hk,hl,hc⟩:=Pc hk;obtain⟨ad,Cv,hs,hb,hA,XP⟩:=hx
  have Vc:∀q∈cs,(∀x,q ≠ .agg x)∧(∀x,q ≠ .tup x):=by
   intro q hq;obtain⟨j,hj⟩:=List.mem_iff_getElem?.1 hq;exact⟨Tf (hc j q hj).1,TH (hc j q hj).1⟩
  have Cm:∀(j:Nat) q,cs[j]?=some q->∃v,w.cell? ((ad.add off).add j)=some v∧Bu w (Cs s.hp β Y) β q v:=by
   intro j q hq;obtain⟨hT,p,hp,Y6,Uw⟩:=hc j q hq;obtain⟨v,hv,_,ht⟩:=XP (off+j) p hp;exact⟨v,by rw[add_add];exact hv,(Iz hT).2 (Uw w (Cs s.hp β Y) β v ((Iz Y6).2 ht)).1⟩
  have Rc:∀q∈cs,Am q=[]:=by
   intro q hq;obtain⟨j,hj⟩:=List.mem_iff_getElem?.1 hq;exact Gd (hc j q hj).1
  rcases HL hk with⟨E5,D6⟩|⟨E5,q,rfl,D6⟩
  ·obtain⟨val,Ua,hv⟩:=Ti hok hl Vc Cm (.inl ⟨E5,rfl⟩);refine⟨_,_,val,D6,Cv,Ua,hv,fun i hi=>?_⟩
   obtain⟨q,hq,hi⟩:=List.mem_flatMap.1 (show i∈cs.flatMap Am from hi)
   rw[Rc q hq] at hi;cases hi
  ·obtain⟨val,Ua,hv⟩:=Ti hok hl Vc Cm (.inr ⟨E5,rfl⟩);refine⟨_,_,val,D6,Cv,Ua,hv,fun i hi=>?_⟩
   have hn:=Vc q (by simp)
   rw[QI hn.1 hn.2,Rc q (by simp)] at hi
   cases hi
 ·cases hk
theorem KQ (h:Ci N w0 X0 Y β s a w){t:TypeId}{x:PV}{u:Value}(hx:Dx w (Cs s.hp β Y) β x u) {nz:Bool}{K:PV->Option R}(hk:Sz nz P (rd s.hp) (Hm s.hp) t x K=some r):
  ∃v ad val,K v=some r∧u=.pointer (some ad)∧(loadVar t ad).run P w=.ok val w∧Dx w (Cs s.hp β Y) β v val∧∀i∈Bo v,s.hp i≠none:=by
 rcases Afd hk with hk|hk
 ·exact ER h hx hk
 ·obtain⟨v,ad,val,h1,h2,h3,h4,h5⟩:=ER h hx hk;exact⟨RL v,ad,val,h1,h2,h3,XK h4,by rw[TW];exact h5⟩
theorem PC (h:Ci N w0 X0 Y β s a w){t:TypeId}{x:Operand}(ho:o.op=.load t x){nz:Bool}{K:PV->Option R}(hk:Sz nz P (rd s.hp) (Hm s.hp) t (Bv s.tm x) K=some r):
  ∃v,K v=some r∧Dt P a w o Y β s v [] []:=by
 obtain⟨v,ad,val,Dn,Cv,hl,hv,hr⟩:=KQ h (Cn h x) hk;refine⟨v,Dn,Bx ?_ hv hr⟩;unfold execOp;rw[ho];simp[Instr.loadAt,Instr.sureAddr,Cv,hl]
theorem WU {x:PV}{d:Nat}{K:PV->Option R}(h:Pd x d K=some r):(∃id off,x=.ptr id off∧K (.ptr id (off+d))=some r)∨∃c off,x=.iptr c off∧K (.iptr c (off+d))=some r:=by
 unfold Pd at h;split at h
 ·exact .inl ⟨_,_,rfl,h⟩
 ·exact .inr ⟨_,_,rfl,h⟩
 ·cases h
theorem Rp (h:Ci N w0 X0 Y β s a w){x:Operand}{d:Nat}{K:PV->Option R}(hk:Pd (Bv s.tm x) d K=some r)
  (Cg:∀ad:Addr,a.eval x=.pointer (some ad)->(execOp a.eval o).run P w=.ok (.value (.pointer (some (ad.add d)))) w):∃v,K v=some r∧Dt P a w o Y β s v [] []:=by
 have hx:=Cn h x;have AR:=Ef h x;rcases WU hk with⟨id,off,e,hk⟩|⟨c,off,e,hk⟩
 ·rw[e] at hx AR;obtain⟨b,ob,hβ,Cv⟩:=hx;refine⟨_,hk,Bx (Cg _ Cv) ⟨b,ob,hβ,by rw[D3,Nat.add_assoc]⟩ AR⟩
 ·rw[e] at hx;obtain⟨ad,Cv,h1,h2,h3,h4⟩:=hx;exact⟨_,hk,Bx (Cg _ Cv) ⟨ad,by rw[add_add],h1,h2,h3,h4⟩ (by intro i hi;cases hi)⟩
theorem Z4 (h:Ci N w0 X0 Y β s a w){x:Operand}(ho:o.op=.nilCheck x){K:PV->Option R}(hk:Pd (Bv s.tm x) 0 K=some r):∃v,K v=some r∧Dt P a w o Y β s v [] []:=by
 refine Rp h hk fun ad Cv=>?_
 unfold execOp;rw[ho];simp[Cv,Addr.add]
theorem S3 {t:TypeId}{f:Nat}{q:Nat × TypeId}(h:L7 P t f=some q):∃fs g,P.underlying t=some (.struct fs)∧fs[f]?=some g∧q=(g.offset,g.type):=by
 unfold L7 at h;split at h
 ·rename_i fs e;cases hg:fs[f]? with
  |none=>rw[hg] at h;cases h
  |some g=>rw[hg] at h;simp at h;exact⟨fs,g,e,hg,h.symm⟩
 ·cases h
theorem Xf (h:Ci N w0 X0 Y β s a w){t:TypeId}{x:Operand}{f:Nat}(ho:o.op=.fieldAddr t x f){K:PV->Option R}
  (hk:(Dk (L7 P t f) fun q=>Bi (Nat.ble 1 (A7 P q.2)) (Pd (Bv s.tm x) q.1 K))=some r):∃v,K v=some r∧Dt P a w o Y β s v [] []:=by
 obtain⟨q,hq,hk⟩:=B3 hk;obtain⟨hs,hk⟩:=Aj hk;obtain⟨fs,g,hu,hg,rfl⟩:=S3 hq;have hs:1<=A7 P g.type:=Nat.le_of_ble_eq_true hs;have K1:=ZI (P:=P) (t:=g.type) rfl (by omega)
 refine Rp h hk fun ad Cv=>?_
 unfold execOp;rw[ho];have Ee:¬A7 P g.type=0:=by omega
 simp[Instr.fieldAt,run_underlying hu,hg,Instr.sureAddr,Cv,fieldPlace,H0 K1,Ee]
end
open Go.RowKit
section
variable {R:Type} {r:R} {P:Program} {N:Nat} {w0:World} {X0:Gm} {Y:Nat->Prop} {β β':Bt} {s:St} {a:Act} {w w':World} {o:Oper} {A:Nat->Prop}
theorem Yz (h:Ci N w0 X0 Y β s a w){t:TypeId}{cs:List PV}{vs:List Value}{off:Nat}{K:PV->Option R}{x:Operand}(hx:Bv s.tm x=.agg cs)(hv:Bb (Bu w (Cs s.hp β Y) β) cs vs)
  (hk:Bi (Ha P t) (K9 (Gr P t) cs off fun c=>TS (B1 P t) c K)=some r)
  (Cg:∀val,(part t ⟨vs⟩ off).run P w=.ok val w->(execOp a.eval o).run P w=.ok (.value val) w):∃v,K v=some r∧Dt P a w o Y β s v [] []:=by
 obtain⟨hok,hk⟩:=Aj hk;obtain⟨⟨d,hd⟩,hl,hi⟩:=M2 hok;obtain⟨qs,hk,hql,Vc,hq⟩:=Ow hk;have AR:=Ef h x;rw[hx] at AR
 have Cm:∀(j:Nat) q,qs[j]?=some q->∃v,vs[off+j]?=some v∧Bu w (Cs s.hp β Y) β q v:=by
  intro j q hj;obtain⟨p,hp,_,_,Uw⟩:=hq j q hj;obtain⟨v,Lj,hc⟩:=hv.get hp;exact⟨v,Lj,(Uw _ _ _ _ hc).1⟩
 have Rc:∀q∈qs,∀i∈Am q,s.hp i≠none:=by
  intro q hqm i hi;obtain⟨j,hj⟩:=List.mem_iff_getElem?.1 hqm;obtain⟨p,hp,_,hpr,_⟩:=hq j q hj;exact AR i (List.mem_flatMap.2 ⟨p,List.mem_of_getElem? hp,hpr i hi⟩)
 rcases HL hk with⟨E5,D6⟩|⟨E5,q,rfl,D6⟩
 ·have Wv:A7 P t=0∨off+A7 P t<=vs.length:=by
   rcases Nat.eq_zero_or_pos (A7 P t) with h0|h0
   ·exact .inl h0
   ·obtain⟨v,Lj,_⟩:=Cm (A7 P t-1) _ (List.getElem?_eq_getElem (by omega))
    have:off+(A7 P t-1)<vs.length:=by
     rcases Nat.lt_or_ge (off+(A7 P t-1)) vs.length with h|h
     ·exact h
     ·rw[List.getElem?_eq_none h] at Lj;cases Lj
    exact .inr (by omega)
  refine⟨_,D6,Bx (Cg (.agg ⟨(vs.drop off).take (A7 P t)⟩) ?_) ⟨(vs.drop off).take (A7 P t),rfl,?_⟩ fun i hi=>?_⟩
  ·simp only[part,Sem.run_bind,J6 hd,E5,Result.andThen_ok,if_true,H0 hi];simp[List.extract_eq_take_drop]
  ·refine Bb.of_at ?_ fun i c u hc hu=>?_
   ·simp only[List.length_take,List.length_drop];omega
   ·obtain⟨v,Lj,V7⟩:=Cm i c hc
    have B4:i<A7 P t:=by
     rcases Nat.lt_or_ge i qs.length with h|h
     ·omega
     ·rw[List.getElem?_eq_none h] at hc;cases hc
    rw[List.getElem?_take_of_lt B4,List.getElem?_drop,Lj] at hu;cases hu;exact V7
  ·obtain⟨q,hqm,hi⟩:=List.mem_flatMap.1 (show i∈qs.flatMap Am from hi)
   exact Rc q hqm i hi
 ·obtain⟨v,Lj,V7⟩:=Cm 0 q rfl;have hn:=Vc q (by simp)
  refine⟨_,D6,Bx (Cg v ?_) ((Lg hn.2).2 ((Tq hn.1).2 V7)) fun i hi=>?_⟩
  ·simp only[part,Sem.run_bind,J6 hd,E5,Result.andThen_ok];rw[Nat.add_zero] at Lj;simp[Lj]
  ·rw[QI hn.1 hn.2] at hi;exact Rc q (by simp) i hi
theorem KF (h:Ci N w0 X0 Y β s a w){t:TypeId}{x:Operand}{f:Nat}(ho:o.op=.field t x f){K:PV->Option R}
  (hk:(Dk (L7 P t f) fun q=>Bi (Ha P q.2)<|Fq (Bv s.tm x) fun cs=>K9 (Gr P q.2) cs q.1 fun c=>TS (B1 P q.2) c K)=some r):∃v,K v=some r∧Dt P a w o Y β s v [] []:=by
 obtain⟨q,hq,hk⟩:=B3 hk;obtain⟨hok,hk⟩:=Aj hk;obtain⟨cs,hx,hk⟩:=F3 hk;obtain⟨fs,g,hu,hg,rfl⟩:=S3 hq;have hxv:=Cn h x;rw[hx] at hxv;obtain⟨vs,Cv,hv⟩:=hxv;refine Yz (t:=g.type) (off:=g.offset) h hx hv (by rw[show Ha P g.type=true from hok];exact hk) fun val hp=>?_
 unfold execOp;rw[ho];simp[Instr.field,run_underlying hu,hg,asAgg,Cv,hp]
theorem CA (h:Ci N w0 X0 Y β s a w){x:Operand}{i:Nat}(ho:o.op=.extract x i){K:PV->Option R}
  (hk:(match Bv s.tm x with | .tup vs=>Dk vs[i]? K|_=>none)=some r):∃v,K v=some r∧Dt P a w o Y β s v [] []:=by
 have hx:=Cn h x;have AR:=Ef h x;split at hk
 ·rename_i ps e;rw[e] at hx AR;obtain⟨p,hp,hk⟩:=B3 hk;obtain⟨vs,Cv,hv⟩:=hx;obtain⟨v,Lj,Uw⟩:=hv.get hp
  have Ahx:∀y,p ≠ .tup y:=by
   rintro y rfl
   have Ayn:Ar _ _ (.tup y) v:=Uw;cases Ayn
  refine⟨p,hk,Bx (val:=v) ?_ ((Lg Ahx).2 Uw) fun id Bf=>AR id ?_⟩
  ·unfold execOp;rw[ho];simp[Instr.extract,Cv,Lj]
  ·refine List.mem_flatMap.2 ⟨p,List.mem_of_getElem? hp,?_⟩;cases p<;>first|exact Bf|exact absurd rfl (Ahx _)
 ·cases hk
theorem Fi {es:Nat}{p:PV}{z:Bool}{n:Nat}{c:List PV}{v:Value}(hp:p=.lst z es n c∨(p=.sc (.slice none 0 0)∧z=true∧n=0∧c=[])) (hv:Dx w A β p v):
  (v=.slice none 0 0∧n=0∧c=[])∨(∃ad cap,v=.slice (some ad) n cap∧z=false∧n<=cap∧ad.spot=none∧ad.block<w.heap.size∧¬A ad.block∧OC w A ad c)∨∃ad cap,v=.slice (some ad) 0 cap∧z=false∧n=0∧c=[]:=by
 have Lj:Bu w A β p v:=by rcases hp with rfl|⟨rfl,_⟩<;>exact hv
 have ht:=Rn hp Lj;cases ht with
 |lnil=>exact .inl ⟨rfl,rfl,rfl⟩
 |lst _ _ _ ad cap f hs hb hA hn hc h1 hr=>exact .inr (.inl ⟨ad,cap,rfl,rfl,hn,hs,hb,hA,fun j q hj=>⟨f j,hc j q hj,h1 j q hj,hr j q hj⟩⟩)
 |lemp _ ad cap=>exact .inr (.inr ⟨ad,cap,rfl,rfl,rfl,rfl⟩)
theorem W0 (h:Ci N w0 X0 Y β s a w){t:TypeId}{x i:Operand}(ho:o.op=.indexAddr t x i){K:PV->Option R}
  (hk:(Da (Bv s.tm i) fun _ n=>Id P t (Bv s.tm x) n K)=some r):∃v,K v=some r∧Dt P a w o Y β s v [] []:=by
 obtain⟨ik,n,hi,hk⟩:=C4 hk;have hai:=B0 h hi;have hx:=Cn h x;have AR:=Ef h x;unfold Id at hk;split at hk
 ·rename_i len e hu;obtain⟨hz,hk⟩:=Aj hk;obtain⟨hb,hk⟩:=Aj hk;simp only[Bool.and_eq_true,decide_eq_true_eq] at hb;obtain⟨inf,Lp⟩:=Option.isSome_iff_exists.1 hz;refine Rp h hk fun ad Cv=>?_
  unfold execOp;rw[ho];simp[Instr.indexAt,asIntOf,hai,Cv,run_underlying hu,Instr.sureAddr,hb.1,hb.2,sizeOf,typeInfo,Lp,A7]
 ·rename_i e hu;obtain⟨hz,hk⟩:=Aj hk;obtain⟨inf,Lp⟩:=Option.isSome_iff_exists.1 hz;have K1:A7 P e=inf.size:=by simp[A7,Lp]
  split at hk
  ·rename_i id es off n' e';rw[e'] at hx AR;obtain⟨Qp,hk⟩:=Aj hk;have Qp:=Nat.eq_of_beq_eq_true Qp;subst Qp;obtain⟨hb,hk⟩:=Aj hk;simp only[Bool.and_eq_true,decide_eq_true_eq] at hb;rcases hx with⟨_,_,rfl,_⟩|⟨b,ob,y,cap,hβ,Cv,hy,_⟩
   ·omega
   ·have hy:y=ob+off:=by rcases hy with hy|⟨rfl,_⟩<;>omega
    subst hy;refine⟨_,hk,Bx (val:=.pointer (some ⟨b,ob+(off+n.toNat*A7 P e),none⟩)) ?_ ⟨b,ob,hβ,rfl⟩ AR⟩;unfold execOp;rw[ho];simp[Instr.indexAt,asIntOf,hai,Cv,run_underlying hu,hb.1,hb.2,sizeOf,typeInfo,Lp,K1,D3,Nat.add_assoc]
  ·obtain⟨z,n',c,hk,hp⟩:=Et hk;obtain⟨hb,hk⟩:=Aj hk;simp only[Bool.and_eq_true,decide_eq_true_eq] at hb;rcases Fi hp hx with⟨_,rfl,_⟩|⟨ad,cap,Cv,_,_,h1,h2,h3,h4⟩|⟨_,_,_,_,rfl,_⟩
   ·omega
   rotate_left
   ·omega
   ·refine⟨_,hk,Bx (val:=.pointer (some (ad.add (n.toNat*A7 P e)))) ?_ ⟨ad,rfl,h1,h2,h3,h4⟩ (by intro i hi;cases hi)⟩
    unfold execOp;rw[ho];simp[Instr.indexAt,asIntOf,hai,Cv,run_underlying hu,hb.1,hb.2,sizeOf,typeInfo,Lp,K1]
 ·cases hk
theorem NS (h:Ci N w0 X0 Y β s a w){t:TypeId}{x i:Operand}(ho:o.op=.index t x i){K:PV->Option R}
  (hk:(Da (Bv s.tm i) fun _ n=>
   match P.underlying t with
   |some .string=>Az (Bv s.tm x) fun s=>Bi (decide (0<=n)) (Dk (s.data.toList[n.toNat]?) fun b=>K (.sc (.int .u8 b.toNat)))
   |some (.array len e)=>Fq (Bv s.tm x) fun cs=>Bi (decide (0<=n)&&decide (n<len)&&Ha P e) (K9 (Gr P e) cs (n.toNat*A7 P e) fun c=>TS (B1 P e) c K)
   |_=>none)=some r):∃v,K v=some r∧Dt P a w o Y β s v [] []:=by
 obtain⟨ik,n,hi,hk⟩:=C4 hk;have hai:=B0 h hi;split at hk
 ·rename_i hu;obtain⟨sb,hx,hk⟩:=C5 hk;have Cv:=B0 h hx;obtain⟨h0,hk⟩:=Aj hk;obtain⟨b,hb,hk⟩:=B3 hk;have h0:=of_decide_eq_true h0;refine⟨_,hk,Cc ?_⟩
  have B4:n.toNat<sb.size:=by
   rcases Nat.lt_or_ge n.toNat sb.data.toList.length with h|h
   ·simpa using h
   ·rw[List.getElem?_eq_none h] at hb;cases hb
  have Gi:sb[n.toNat]=b:=by
   have:sb.data.toList[n.toNat]?=some sb[n.toNat]:=by
    rw[List.getElem?_eq_getElem (by simpa using B4)]
    rfl
   rw[hb] at this;injection this with this;exact this.symm
  unfold execOp;rw[ho];simp[Instr.index,asIntOf,hai,Cv,run_underlying hu,h0,B4,Gi]
 ·rename_i len e hu;obtain⟨cs,hx,hk⟩:=F3 hk;obtain⟨hb,hk⟩:=Aj hk;simp only[Bool.and_eq_true,decide_eq_true_eq] at hb;have hxv:=Cn h x;rw[hx] at hxv;obtain⟨vs,Cv,hv⟩:=hxv;obtain⟨_,_,K1⟩:=M2 hb.2;refine Yz (t:=e) (off:=n.toNat*A7 P e) h hx hv (by rw[hb.2];exact hk) fun val hp=>?_
  unfold execOp;rw[ho];simp[Instr.index,asIntOf,hai,Cv,run_underlying hu,hb.1.1,hb.1.2,H0 K1,hp]
 ·cases hk
end
open Go.RowKit
section
variable {R:Type} {r:R} {P:Program} {N:Nat} {w0:World} {X0:Gm} {Y:Nat->Prop} {β β':Bt} {s:St} {a:Act} {w w':World} {o:Oper} {A:Nat->Prop}
theorem Di (h:Ci N w0 X0 Y β s a w){x:Option Operand}{dflt:Nat}{K:Nat->Option R}(hk:Fp (x.map (Bv s.tm)) dflt K=some r):
  ∃l,K l=some r∧((x=none∧l=dflt)∨∃y k,x=some y∧a.eval y=.int k (l:Int)):=by
 cases x with
 |none=>exact⟨dflt,hk,.inl ⟨rfl,rfl⟩⟩
 |some y=>
  obtain⟨k,i,hi,hk⟩:=C4 (show Da (Bv s.tm y) _=some r from hk)
  obtain⟨h0,hk⟩:=Aj hk;have h0:=of_decide_eq_true h0;exact⟨i.toNat,hk,.inr ⟨y,k,rfl,by rw[B0 h hi,Int.toNat_of_nonneg h0]⟩⟩
theorem G1 {lo hi:Option Operand}{isS:Bool}{len cap l u:Nat}(hl:(lo=none∧l=0)∨∃y k,lo=some y∧a.eval y=.int k (l:Int))
  (hu:(hi=none∧u=len)∨∃y k,hi=some y∧a.eval y=.int k (u:Int)) (h1:l<=u)(h2:u<=cap):
  (Instr.sliceBounds isS len cap (lo.map a.eval) (hi.map a.eval) none).run P w=.ok (l,u,cap) w:=by
 rcases hl with⟨rfl,rfl⟩|⟨y,k,rfl,hy⟩<;>rcases hu with⟨rfl,rfl⟩|⟨y',k',rfl,hy'⟩
 ·simp[Instr.sliceBounds]
 ·simp[Instr.sliceBounds,Instr.sliceBound,asIntOf,hy',h2]
 ·simp[Instr.sliceBounds,Instr.sliceBound,asIntOf,hy,h1]
 ·simp[Instr.sliceBounds,Instr.sliceBound,asIntOf,hy,hy',h1,h2]
theorem Cj {e:TypeId}(h:(P.info? e).isSome=true) (w:World):(sizeOf e).run P w=.ok (A7 P e) w:=by
 obtain⟨i,hi⟩:=Option.isSome_iff_exists.1 h;exact H0 (by simp[A7,hi]) w
theorem Zf {b j:Nat}{v:Value}(h:w.cell? ⟨b,j,none⟩=some v):j<bsz w b:=by
 unfold World.cell? at h;unfold bsz;split at h
 ·rename_i c e fz hb;simp only at hb;rw[hb];simp only[Option.isSome_none,Bool.false_eq_true,if_false] at h;rcases Nat.lt_or_ge j c.size with B4|XX
  ·exact B4
  ·rw[Array.getElem?_eq_none XX] at h;cases h
 ·cases h
theorem NH (h:Ci N w0 X0 Y β s a w){t:TypeId}{x:Operand}{lo hi:Option Operand}(ho:o.op=.slice t x lo hi none){K:PV->Option R}
  (hk:Ve P (rd s.hp) t (Bv s.tm x) (lo.map (Bv s.tm)) (hi.map (Bv s.tm)) K=some r):∃v,K v=some r∧Dt P a w o Y β s v [] []:=by
 have hx:=Cn h x;have AR:=Ef h x;unfold Ve at hk;split at hk
 ·rename_i hu;obtain⟨sb,AV,hk⟩:=C5 hk;have Cv:=B0 h AV;obtain⟨l,hk,hl⟩:=Di h hk;obtain⟨u,hk,Hc⟩:=Di h hk;obtain⟨hb,hk⟩:=Aj hk;simp only[Bool.and_eq_true,decide_eq_true_eq] at hb;refine⟨_,hk,Cc ?_⟩;unfold execOp;rw[ho];simp[Instr.sliceAt,Instr.slice,run_underlying hu,Cv,G1 hl Hc hb.1 hb.2]
 ·rename_i e hu;obtain⟨Lp,hk⟩:=Aj hk;split at hk
  ·rename_i id es off n e';rw[e'] at hx AR;obtain⟨Qp,hk⟩:=Aj hk;have Qp:=Nat.eq_of_beq_eq_true Qp;subst Qp;obtain⟨l,hk,hl⟩:=Di h hk;obtain⟨u,hk,Hc⟩:=Di h hk;obtain⟨hb,hk⟩:=Aj hk;simp only[Bool.and_eq_true,decide_eq_true_eq] at hb;rcases hx with⟨hβ,rfl,rfl,ad,Cv⟩|⟨b,ob,y,cap,hβ,Cv,hy,hn,Rj,B4⟩
   ·have hu0:u=0:=by omega
    have hl0:l=0:=by omega
    subst hu0 hl0;refine⟨_,hk,Bx (val:=.slice ad 0 0) ?_ (.inl ⟨hβ,by simp,rfl,ad,rfl⟩) AR⟩
    unfold execOp;rw[ho];cases ad<;>simp[Instr.sliceAt,Instr.slice,run_underlying hu,Cv,G1 hl Hc (Nat.le_refl 0) (Nat.le_refl 0),Cj Lp]
   ·have Cg:(execOp a.eval o).run P w=.ok (.value (.slice (some (if cap=l then ⟨b,y,none⟩ else ⟨b,y+l*A7 P e,none⟩)) (u-l) (cap-l))) w:=by
     unfold execOp;rw[ho];have JM:=G1 (P:=P) (w:=w) (isS:=true) hl Hc hb.1 (Nat.le_trans hb.2 hn);simp[Instr.sliceAt,Instr.slice,run_underlying hu,Cv,JM,Cj Lp,D3];split<;>rfl
    refine⟨_,hk,Bx Cg (.inr ?_) AR⟩;by_cases hc:cap=l
    ·rw[if_pos hc];refine⟨b,ob,y,cap-l,hβ,rfl,?_,by omega,⟨by rw[hc,Nat.sub_self];have:=Rj.1;omega,Rj.2⟩,B4⟩
     by_cases h0:l*A7 P e=0
     ·rw[h0,Nat.add_zero];rcases hy with hy|⟨Uc,Ls⟩
      ·exact .inl hy
      ·exact .inr ⟨by omega,Ls⟩
     ·exact .inr ⟨by omega,by omega⟩
    ·rw[if_neg hc];refine⟨b,ob,y+l*A7 P e,cap-l,hβ,rfl,?_,by omega,?_,B4⟩
     ·rcases hy with hy|⟨Uc,Ls⟩
      ·exact .inl (by omega)
      ·exact .inr ⟨by omega,by omega⟩
     ·have:l*A7 P e+(cap-l)*A7 P e=cap*A7 P e:=by
       rw[←Nat.add_mul]
       congr 1
       omega
      have:=Rj.1;exact⟨by omega,Rj.2⟩
  ·obtain⟨z,n,c,hk,hp⟩:=Et hk;obtain⟨l,hk,hl⟩:=Di h hk;obtain⟨u,hk,Hc⟩:=Di h hk;obtain⟨hb,hk⟩:=Aj hk;simp only[Bool.and_eq_true,decide_eq_true_eq] at hb;rcases Fi hp hx with⟨Cv,rfl,rfl⟩|⟨ad,cap,Cv,rfl,hn,h1,h2,h3,h4⟩|⟨ad,cap,Cv,rfl,rfl,rfl⟩
   rotate_right
   ·have hu0:u=0:=by omega
    have hl0:l=0:=by omega
    subst hu0 hl0;refine⟨_,hk,Bx (val:=.slice (some (if cap=0 then ad else ad.add (0*A7 P e))) (0-0) (cap-0)) ?_ ?_ (by intro i hi;cases hi)⟩
    ·unfold execOp;rw[ho];have JM:=G1 (P:=P) (w:=w) (isS:=true) hl Hc (Nat.le_refl 0) (Nat.zero_le cap);simp[Instr.sliceAt,Instr.slice,run_underlying hu,Cv,JM,Cj Lp];split<;>rfl
    ·have:((([]:List PV).drop (0*A7 P e)).take ((0-0)*A7 P e))=[]:=by simp
     rw[this];exact Ar.lemp _ _ _
   ·have hu0:u=0:=by omega
    have hl0:l=0:=by omega
    subst hu0 hl0;refine⟨_,hk,Bx (val:=.slice none 0 0) ?_ ?_ (by intro i hi;cases hi)⟩
    ·unfold execOp;rw[ho];simp[Instr.sliceAt,Instr.slice,run_underlying hu,Cv,G1 hl Hc (Nat.le_refl 0) (Nat.le_refl 0),Cj Lp]
    ·have:((([]:List PV).drop (0*A7 P e)).take ((0-0)*A7 P e))=[]:=by simp
     rw[this];exact Ar.lnil z _
   ·have Cg:(execOp a.eval o).run P w=.ok (.value (.slice (some (if cap=l then ad else ad.add (l*A7 P e))) (u-l) (cap-l))) w:=by
     unfold execOp;rw[ho];have JM:=G1 (P:=P) (w:=w) (isS:=true) hl Hc hb.1 (Nat.le_trans hb.2 hn);simp[Instr.sliceAt,Instr.slice,run_underlying hu,Cv,JM,Cj Lp];split<;>rfl
    refine⟨_,hk,Bx Cg ?_ (by intro i hi;cases hi)⟩
    by_cases hc:cap=l
    ·rw[if_pos hc];have:u-l=0:=by omega
     rw[this];simp only[Nat.zero_mul,List.take_zero];exact Ar.lst _ _ [] ad _ (fun _=>undef) h1 h2 h3 (by omega) (by simp) (by simp) (by simp)
    ·rw[if_neg hc]
     have Cm:∀(j:Nat) q,((c.drop (l*A7 P e)).take ((u-l)*A7 P e))[j]?=some q->c[l*A7 P e+j]?=some q:=by
      intro j q hq;rw[List.getElem?_take] at hq;split at hq
      ·rw[List.getElem?_drop] at hq;exact hq
      ·cases hq
     refine Ar.lst _ _ _ (ad.add (l*A7 P e)) _ (fun j=>(w.cell? (ad.add (l*A7 P e+j))).getD undef) (Abr h1 _) (by rw[Ea];exact h2) (by rw[Ea];exact h3) (by omega) (fun j q hq=>?_) (fun j q hq=>?_) (fun j q hq=>?_)
     ·obtain⟨v,hv,_⟩:=h4 _ q (Cm j q hq);rw[add_add,hv];rfl
     ·obtain⟨v,hv,h5,_⟩:=h4 _ q (Cm j q hq);rw[hv];exact h5
     ·obtain⟨v,hv,_,ht⟩:=h4 _ q (Cm j q hq);rw[hv];exact ht
 ·rename_i n e hu;obtain⟨Lp,hk⟩:=Aj hk;split at hk
  ·rename_i id off e';rw[e'] at hx AR;obtain⟨c,hrc,hk⟩:=B3 hk;obtain⟨Dd,hk⟩:=Aj hk;simp only[Bool.and_eq_true,decide_eq_true_eq] at Dd;have Qp:=Nat.eq_of_beq_eq_true Dd.2
   replace Dd:=Dd.1
   obtain⟨l,hk,hl⟩:=Di h hk;obtain⟨u,hk,Hc⟩:=Di h hk;obtain⟨hb,hk⟩:=Aj hk;simp only[Bool.and_eq_true,decide_eq_true_eq] at hb;obtain⟨b,ob,hβ,Cv⟩:=hx
   have CZ:ob+off+n*A7 P e<=bsz w b:=by
    obtain⟨v,hv,_⟩:=AG h hrc hβ (j:=off+n*A7 P e-1) (List.getElem?_eq_getElem (by omega))
    have:=Zf hv;omega
   have B4:b<w.heap.size:=h.blt id b ob (AR id (by simp[Bo,B6,Am])) hβ
   have Cg:(execOp a.eval o).run P w=.ok (.value (.slice (some (if n=l then ⟨b,ob+off,none⟩ else ⟨b,ob+off+l*A7 P e,none⟩)) (u-l) (n-l))) w:=by
    unfold execOp;rw[ho];have JM:=G1 (P:=P) (w:=w) (isS:=false) hl Hc hb.1 hb.2;simp[Instr.sliceAt,Instr.sureAddr,run_underlying hu,Cv,JM,Cj Lp,D3]
   refine⟨_,hk,Bx Cg (.inr ?_) AR⟩;by_cases hc:n=l
   ·rw[if_pos hc];refine⟨b,ob,ob+off,n-l,hβ,rfl,?_,by omega,⟨by rw[hc,Nat.sub_self];omega,.inl Qp⟩,B4⟩
    by_cases h0:l*A7 P e=0
    ·rw[h0,Nat.add_zero];exact .inl rfl
    ·exact .inr ⟨by omega,by omega⟩
   ·rw[if_neg hc];refine⟨b,ob,ob+off+l*A7 P e,n-l,hβ,rfl,.inl (by omega),by omega,?_,B4⟩
    have:l*A7 P e+(n-l)*A7 P e=n*A7 P e:=by
     rw[←Nat.add_mul]
     congr 1
     omega
    exact⟨by omega,.inl Qp⟩
  ·cases hk
 ·cases hk
end
open Go.RowKit
section
variable {R:Type} {r:R} {P:Program} {N:Nat} {w0:World} {X0:Gm} {Y:Nat->Prop} {β β':Bt} {s:St} {a:Act} {w w':World} {o:Oper} {A:Nat->Prop}
theorem UD (h:Ci N w0 X0 Y β s a w){c:Call}(ho:o.op=.call c)(hc:c.callee=.builtin .len){K:PV->Option R}
  (hk:(Aa c.args.toList fun x _=>Aa c.argTypes.toList fun t _=>VH P t (Bv s.tm x) fun n=>K (.sc (.int .i64 n)))=some r):∃v,K v=some r∧Dt P a w o Y β s v [] []:=by
 obtain⟨x,xs,AV,hk⟩:=A6 hk;obtain⟨t,ts,JN,hk⟩:=A6 hk;have hx:=Cn h x;have Ei:c.args=(x::xs).toArray:=by rw[←AV]
 have Wi:c.argTypes=(t::ts).toArray:=by rw[←JN]
 have Cg:∀n:Nat,(Builtin.len_ c.argTypes o.type (c.args.map a.eval)).run P w=.ok (.int .i64 n) w->(execOp a.eval o).run P w=.ok (.value (.int .i64 n)) w:=by
  intro n hl;unfold execOp;rw[ho];simp only[resolve,hc,invoke,builtin,Sem.run_bind,Sem.run_pure,Result.andThen_ok,hl]
 unfold VH at hk;split at hk
 ·rename_i hu;obtain⟨sb,Ayh,hk⟩:=C5 hk;have Cv:=B0 h Ayh;refine⟨_,hk,Cc (Cg _ ?_)⟩;simp[Builtin.len_,Ei,Wi,run_underlying hu,Cv,goInt]
 ·rename_i n e hu;refine⟨_,hk,Cc (Cg _ ?_)⟩;simp[Builtin.len_,Ei,Wi,run_underlying hu,goInt]
 ·rename_i e hu;split at hk
  ·rename_i id es off n e';rw[e'] at hx;obtain⟨_,hk⟩:=Aj hk;refine⟨_,hk,Cc (Cg _ ?_)⟩;rcases hx with⟨_,_,rfl,ad,Cv⟩|⟨b,ob,y,cap,_,Cv,_⟩<;>simp[Builtin.len_,Ei,Wi,run_underlying hu,Cv,goInt]
  ·obtain⟨z,n,cc,hk,hp⟩:=Et hk;refine⟨_,hk,Cc (Cg _ ?_)⟩;rcases Fi hp hx with⟨Cv,rfl,_⟩|⟨ad,cap,Cv,_⟩|⟨ad,cap,Cv,_,rfl,_⟩<;>simp[Builtin.len_,Ei,Wi,run_underlying hu,Cv,goInt]
 ·cases hk
theorem VW (h:Ci N w0 X0 Y β s a w){c:Call}(ho:o.op=.call c)(hc:c.callee=.builtin .cap){K:PV->Option R}
  (hk:(Aa c.args.toList fun x _=>Aa c.argTypes.toList fun t _=>VN P t (Bv s.tm x) fun n=>K (.sc (.int .i64 n)))=some r):∃v,K v=some r∧Dt P a w o Y β s v [] []:=by
 obtain⟨x,xs,AV,hk⟩:=A6 hk;obtain⟨t,ts,JN,hk⟩:=A6 hk;have hx:=Cn h x;have Ei:c.args=(x::xs).toArray:=by rw[←AV]
 have Wi:c.argTypes=(t::ts).toArray:=by rw[←JN]
 have Cg:∀n:Nat,(Builtin.cap_ c.argTypes o.type (c.args.map a.eval)).run P w=.ok (.int .i64 n) w->(execOp a.eval o).run P w=.ok (.value (.int .i64 n)) w:=by
  intro n hl;unfold execOp;rw[ho];simp only[resolve,hc,invoke,builtin,Sem.run_bind,Sem.run_pure,Result.andThen_ok,hl]
 unfold VN at hk;split at hk
 ·rename_i e hu;obtain⟨z,n,cc,hk,hp⟩:=Et hk;obtain⟨hz,hk⟩:=Aj hk;refine⟨_,hk,Cc (Cg _ ?_)⟩;rcases Fi hp hx with⟨Cv,rfl,_⟩|⟨ad,cap,Cv,Zt,_⟩|⟨ad,cap,Cv,Zt,_,_⟩
  ·simp[Builtin.cap_,Ei,Wi,run_underlying hu,Cv,goInt]
  ·rw[hz] at Zt;cases Zt
  ·rw[hz] at Zt;cases Zt
 ·cases hk
theorem UK (h:Ci N w0 X0 Y β s a w){c:Call}(ho:o.op=.call c)(hc:c.callee=.builtin .min){K:PV->Option R}
  (hk:(Aa c.args.toList fun x r=>Aa r fun y r'=>Ad r' (Aee (Bv s.tm x) (Bv s.tm y) K))=some r):∃v,K v=some r∧Dt P a w o Y β s v [] []:=by
 obtain⟨x,xs,AV,hk⟩:=A6 hk;obtain⟨y,ys,rfl,hk⟩:=A6 hk;obtain⟨rfl,hk⟩:=C6 hk;obtain⟨k,n,hx,hk⟩:=C4 hk;obtain⟨m,hy,hk⟩:=Dy hk
 have Ei:c.args = #[x,y]:=by
  have:c.args=([x,y]:List Operand).toArray:=by rw[←AV]
  exact this
 refine⟨_,hk,Cc ?_⟩;unfold execOp;rw[ho];simp[resolve,hc,invoke,builtin,Ei,Builtin.min_,Builtin.min2,B0 h hx,B0 h hy]
theorem WJ (h:Ci N w0 X0 Y β s a w){c:Call}(ho:o.op=.call c)(hc:c.callee=.builtin .max){K:PV->Option R}
  (hk:(Aa c.args.toList fun x r=>Aa r fun y r'=>Ad r' (Af5 (Bv s.tm x) (Bv s.tm y) K))=some r):∃v,K v=some r∧Dt P a w o Y β s v [] []:=by
 obtain⟨x,xs,AV,hk⟩:=A6 hk;obtain⟨y,ys,rfl,hk⟩:=A6 hk;obtain⟨rfl,hk⟩:=C6 hk;obtain⟨k,n,hx,hk⟩:=C4 hk;obtain⟨m,hy,hk⟩:=Dy hk
 have Ei:c.args = #[x,y]:=by
  have:c.args=([x,y]:List Operand).toArray:=by rw[←AV]
  exact this
 refine⟨_,hk,Cc ?_⟩;unfold execOp;rw[ho];simp[resolve,hc,invoke,builtin,Ei,Builtin.max_,Builtin.max2,B0 h hx,B0 h hy]
theorem OP (h:Ci N w0 X0 Y β s a w){op:UnOp}{t:TypeId}{x:Operand}(ho:o.op=.unOp op t x){K:PV->Option R}(hk:unK op (Bv s.tm x) K=some r):
  ∃v,K v=some r∧Dt P a w o Y β s v [] []:=by
 unfold unK at hk;split at hk
 ·obtain⟨b,hb,hk⟩:=Dc hk;refine⟨_,hk,Cc ?_⟩;unfold execOp;rw[ho];simp[Op.unary,B0 h hb]
 ·obtain⟨k,n,hb,hk⟩:=C4 hk;refine⟨_,hk,Cc ?_⟩;unfold execOp;rw[ho];simp[Op.unary,Op.intArith,B0 h hb]
 ·obtain⟨k,n,hb,hk⟩:=C4 hk;refine⟨_,hk,Cc ?_⟩;unfold execOp;rw[ho];simp[Op.unary,Op.intBits,B0 h hb,Aqu]
 ·cases hk
theorem WL {op:BinOp}{k:IntKind}{m n:Int}{t:TypeId}{x y:Operand}{K:PV->Option R}(XR:op ≠ .shl)(Ra:op ≠ .shr)(hk:Y7 op k m n K=some r):
  ∃v,K (.sc v)=some r∧(do eqGuard op t x y (.int k m) (.int k n);binOp op t (.int k m) (.int k n)).run P w=.ok v w:=by
 cases op<;>first
  |exact absurd rfl XR
  |exact absurd rfl Ra
  |(obtain⟨hb,hk⟩:=Aj hk;have hb:=of_decide_eq_true hb;exact⟨_,hk,by simp[eqGuard,binOp,Op.intDiv,hb]⟩)
  |exact⟨_,hk,by simp[eqGuard,binOp,-BitVec.toNat_and,-BitVec.toNat_or,-BitVec.toNat_xor,-gt_iff_lt,-ge_iff_le]<;>rfl⟩
theorem WA {op:BinOp}{m n:ByteArray}{t:TypeId}{x y:Operand}{K:PV->Option R}(hk:Zw op m n K=some r):
  ∃v,K (.sc v)=some r∧(do eqGuard op t x y (.string m) (.string n);binOp op t (.string m) (.string n)).run P w=.ok v w:=by
 cases op<;>first
  |cases hk
  |(obtain⟨hb,hk⟩:=Aj hk;have hb:=of_decide_eq_true hb;exact⟨_,hk,by
    have Gi:¬(((m.size+n.size:Nat):Int)>IntKind.i64.max):=by
     have:IntKind.i64.max=9223372036854775807:=rfl;rw[this];omega
    simp only[eqGuard,binOp,Op.stringOp,if_neg Gi];rfl⟩)
  |exact⟨_,hk,by simp only[eqGuard,binOp,Op.stringOp,ByteArray.toList_eq];rfl⟩
end
open Go.RowKit
section
variable {R:Type} {r:R} {P:Program} {N:Nat} {w0:World} {X0:Gm} {Y:Nat->Prop} {β β':Bt} {s:St} {a:Act} {w w':World} {o:Oper} {A:Nat->Prop}
theorem AJ {t:TypeId}(hu:P.underlying t=some .bool)(x y:Bool):(Op.equal t (.bool x) (.bool y)).run P w=.ok (x==y) w:=by
 have h:∀d,(Op.equalIn (d+1) t (.bool x) (.bool y)).run P w=.ok (x==y) w:=fun d=>by simp[Op.equalIn,run_underlying hu]
 exact h 9999
theorem Qh {t e:TypeId}(hu:P.underlying t=some (.slice e)) (x:Option Addr)(n c:Nat):(Op.equal t (.slice x n c) (.slice none 0 0)).run P w=.ok x.isNone w:=by
 have h:∀d,(Op.equalIn (d+1) t (.slice x n c) (.slice none 0 0)).run P w=.ok x.isNone w:=fun d=>by
  cases x<;>simp[Op.equalIn,run_underlying hu]
 exact h 9999
theorem Tp {t k e:TypeId}(hu:P.underlying t=some (.map k e)):(Op.equal t (.map none) (.map none)).run P w=.ok true w:=by
 have h:∀d,(Op.equalIn (d+1) t (.map none) (.map none)).run P w=.ok true w:=fun d=>by
  simp[Op.equalIn,run_underlying hu]
 exact h 9999
theorem G9 {t:TypeId}(d:Nat){v u:Value}(hv:(∃k m n,P.underlying t=some (.int k)∧v=.int k m∧u=.int k n)∨(∃m n,P.underlying t=some .bool∧v=.bool m∧u=.bool n)∨∃m n,P.underlying t=some .string∧v=.string m∧u=.string n) {b:Bool}
  (hb:∀k m n,v=.int k m->u=.int k n->b=(m==n)) (Gi:∀m n,v=.bool m->u=.bool n->b=(m==n)) (A0o:∀m n,v=.string m->u=.string n->b=(m==n)):(Op.equalIn (d+1) t v u).run P w=.ok b w:=by
 rcases hv with⟨k,m,n,hu,rfl,rfl⟩|⟨m,n,hu,rfl,rfl⟩|⟨m,n,hu,rfl,rfl⟩
 ·rw[hb k m n rfl rfl];simp[Op.equalIn,run_underlying hu]
 ·rw[Gi m n rfl rfl];simp[Op.equalIn,run_underlying hu]
 ·rw[A0o m n rfl rfl];simp[Op.equalIn,run_underlying hu]
theorem Np {t:TypeId}{dsc:TypeDesc}(hu:P.underlying t=some dsc)(hd:B1 P t=false){xs:Array Value}{i:Nat}{v:Value}(hv:xs[i]?=some v):(part t xs i).run P w=.ok v w:=by
 simp only[part,Sem.run_bind,J6 hu,hd,Result.andThen_ok];simp[hv]
theorem DC (k:IntKind)(n:Int)(K:Int->Option R):Ak k (.sc (.int k n)) K=K n:=by simp[Ak]
theorem MC (d : Nat) : ∀ (fs : List Field) (i : Nat) (xs ys : Array Value) (ps qs : List PV) (K : Bool -> Option R), LM P fs i = true -> Ip (fs.map (fty P)) ps qs K = some r ->
    (∀ (j : Nat) p, ps[j]? = some p -> ∃ v, xs[i + j]? = some v ∧ Bu w A β p v) -> (∀ (j : Nat) p, qs[j]? = some p -> ∃ v, ys[i + j]? = some v ∧ Bu w A β p v) ->
    ∃ b, K b = some r ∧ (forIn fs ((none, ()) : Option Bool × Unit) fun (f : Field) (_ : Option Bool × Unit) =>
            if f.name = "_" then pure (ForInStep.yield ((none, ()) : Option Bool × Unit))
            else do
              let x ← part f.type xs f.offset
              let y ← part f.type ys f.offset
              let e ← Op.equalIn (d + 1) f.type x y
              if e = false then pure (ForInStep.done ((some false, ()) : Option Bool × Unit)) else pure (ForInStep.yield ((none, ()) : Option Bool × Unit)) : Sem (Option Bool × Unit)).run P w = .ok (if b then (none, ()) else (some false, ())) w
  | [], i, xs, ys, ps, qs, K, _, hk, _, _ => by
    cases ps with
    | nil => cases qs with
      | nil => exact⟨true, hk, by simp⟩
      | cons q qs => cases hk
    | cons p ps => cases hk
  | f :: fs, i, xs, ys, ps, qs, K, CQ, hk, hp, hq => by
    simp only[LM, Bool.and_eq_true] at CQ
    obtain⟨⟨⟨Ls, Abd⟩, hty⟩, Q1⟩ := CQ
    have Ls := Nat.eq_of_beq_eq_true Ls
    have Yd : f.name ≠ "_" := by simpa using Abd
    cases ps with
    | nil =>
      simp only[List.map_cons] at hk
      cases Ai7 : fty P f <;> rw[Ai7] at hk <;> cases hk
    | cons p ps =>
      cases qs with
      | nil =>
        simp only[List.map_cons] at hk
        cases Ai7 : fty P f <;> rw[Ai7] at hk <;> cases hk
      | cons q qs =>
        obtain⟨v, hv, Uw⟩ := hp 0 p rfl
        obtain⟨u, hu, hqu⟩ := hq 0 q rfl
        rw[Nat.add_zero] at hv hu
        have main : ∃ b0 dsc, P.underlying f.type = some dsc ∧ B1 P f.type = false ∧ (Op.equalIn (d + 1) f.type v u).run P w = .ok b0 w ∧ Ip (fs.map (fty P)) ps qs (fun r => K (b0 && r)) = some r := by
          simp only[List.map_cons] at hk
          unfold fty at hk
          split at hk
          · rename_i k Hr
            obtain⟨m, FA, Dn⟩ := Dy (show Ak k p _ = some r from hk)
            obtain⟨n, AW, D6⟩ := Dy Dn
            subst FA AW
            have Lj : v = .int k m := Ar.val (w := w) (A := A) Uw
            have Hc : u = .int k n := Ar.val (w := w) (A := A) hqu
            subst Lj Hc
            refine⟨m == n, _, Hr, by simp[B1, Hr], G9 d (.inl ⟨k, m, n, Hr, rfl, rfl⟩) ?_ ?_ ?_, D6⟩
            · intro k' m' n' h1 h2; injection h1 with _ h1; injection h2 with _ h2; rw[h1, h2]
            · intro m' n' h1; cases h1
            · intro m' n' h1; cases h1
          · rename_i Hr
            obtain⟨m, FA, Dn⟩ := Dc (show Aq p _ = some r from hk)
            obtain⟨n, AW, D6⟩ := Dc Dn
            subst FA AW
            have Lj : v = .bool m := Ar.val (w := w) (A := A) Uw
            have Hc : u = .bool n := Ar.val (w := w) (A := A) hqu
            subst Lj Hc
            refine⟨m == n, _, Hr, by simp[B1, Hr], G9 d (.inr (.inl ⟨m, n, Hr, rfl, rfl⟩)) ?_ ?_ ?_, D6⟩
            · intro k' m' n' h1; cases h1
            · intro m' n' h1 h2; injection h1 with h1; injection h2 with h2; rw[h1, h2]
            · intro m' n' h1; cases h1
          · rename_i Hr
            obtain⟨m, FA, Dn⟩ := C5 (show Az p _ = some r from hk)
            obtain⟨n, AW, D6⟩ := C5 Dn
            subst FA AW
            have Lj : v = .string m := Ar.val (w := w) (A := A) Uw
            have Hc : u = .string n := Ar.val (w := w) (A := A) hqu
            subst Lj Hc
            refine⟨m == n, _, Hr, by simp[B1, Hr], G9 d (.inr (.inr ⟨m, n, Hr, rfl, rfl⟩)) ?_ ?_ ?_, D6⟩
            · intro k' m' n' h1; cases h1
            · intro m' n' h1; cases h1
            · intro m' n' h1 h2; injection h1 with h1; injection h2 with h2; rw[h1, h2]
          · cases hk
        obtain⟨b0, dsc, Hr, E5, he, hk⟩ := main
        obtain⟨b, hkb, Cg⟩ := MC d fs (i + 1) xs ys ps qs _ Q1 hk (fun j p' hj => by have := hp (j + 1) p' hj; rwa [Nat.add_assoc, Nat.add_comm 1 j]) (fun j p' hj => by have := hq (j + 1) p' hj; rwa [Nat.add_assoc, Nat.add_comm 1 j])
        refine⟨b0 && b, hkb, ?_⟩
        have hpx : (part f.type xs f.offset).run P w = .ok v w := Np Hr E5 (by rw[Ls]; exact hv)
        have hpy : (part f.type ys f.offset).run P w = .ok u w := Np Hr E5 (by rw[Ls]; exact hu)
        cases b0
        · simp[List.forIn_cons, Yd, hpx, hpy, he]
        · simp only[Bool.true_and]
          rw[← Cg]
          simp[List.forIn_cons, Yd, hpx, hpy, he]
theorem Wo (d:Nat){t:TypeId}{fs:Array Field}(hu:P.underlying t=some (.struct fs)) (E8:P.stoodInHeld t=false)(CQ:LM P fs.toList 0=true){xs ys:List PV}{vx vy:List Value}
  (hvx:Bb (Bu w A β) xs vx) (hvy:Bb (Bu w A β) ys vy) {K:Bool->Option R}(hk:Ip (fs.toList.map (fty P)) xs ys K=some r):
  ∃b,K b=some r∧(Op.equalIn (d+2) t (.agg ⟨vx⟩) (.agg ⟨vy⟩)).run P w=.ok b w:=by
 obtain⟨b,hkb,Cg⟩:=MC (P:=P) (w:=w) (A:=A) (β:=β) d fs.toList 0 ⟨vx⟩ ⟨vy⟩ xs ys K CQ hk (fun j p hj=>by
   obtain⟨v,hv,hc⟩:=hvx.get hj;exact⟨v,by simpa using hv,hc⟩) (fun j p hj=>by
   obtain⟨v,hv,hc⟩:=hvy.get hj;exact⟨v,by simpa using hv,hc⟩)
 refine⟨b,hkb,?_⟩;rw[Array.forIn_toList] at Cg;rw[Op.equalIn];simp[run_underlying hu,E8];rw[Cg];cases b<;>simp
theorem Sp:∀(ts1:List CT){ts2:List CT}{ps qs:List PV}{K:Bool->Option R},Ip (ts1++ts2) ps qs K=some r ->
  Ip ts1 (ps.take ts1.length) (qs.take ts1.length) (fun b=>Ip ts2 (ps.drop ts1.length) (qs.drop ts1.length) fun r'=>K (b&&r'))=some r
 |[],ts2,ps,qs,K,h=>by
  simp only[List.length_nil,List.take_zero,List.drop_zero,Ip,Bool.true_and];exact h
 |t::ts1,ts2,ps,qs,K,h=>by
  rw[List.cons_append] at h;cases ps with
  |nil=>cases t<;>cases h
  |cons p ps=>
   cases qs with
   |nil=>cases t<;>cases h
   |cons q qs=>
    simp only[List.length_cons,List.take_succ_cons,List.drop_succ_cons];cases t with
    |int k=>
     obtain⟨m,FA,h1⟩:=Dy (show Ak k p _=some r from h)
     obtain⟨n,AW,h2⟩:=Dy h1;subst FA AW;have:=Sp ts1 h2;simp only[←Bool.and_assoc] at this;exact (DC _ _ _).trans ((DC _ _ _).trans this)
    |bool=>
     obtain⟨m,FA,h1⟩:=Dc (show Aq p _=some r from h)
     obtain⟨n,AW,h2⟩:=Dc h1;subst FA AW;have:=Sp ts1 h2;simp only[←Bool.and_assoc] at this;exact this
    |str=>
     obtain⟨m,FA,h1⟩:=C5 (show Az p _=some r from h)
     obtain⟨n,AW,h2⟩:=C5 h1;subst FA AW;have:=Sp ts1 h2;simp only[←Bool.and_assoc] at this;exact this
    |sl es=>cases h
    |any=>cases h
theorem LB:∀(ts:List CT){ps qs:List PV}{K:Bool->Option R},Ip ts ps qs K=some r->ps.length=ts.length∧qs.length=ts.length
 |[],ps,qs,K,h=>by
  cases ps with
  |nil=>cases qs with
   |nil=>exact⟨rfl,rfl⟩
   |cons q qs=>cases h
  |cons p ps=>cases h
 |t::ts,ps,qs,K,h=>by
  cases ps with
  |nil=>cases t<;>cases h
  |cons p ps=>
   cases qs with
   |nil=>cases t<;>cases h
   |cons q qs=>
    have go:∃K',Ip ts ps qs K'=some r:=by
     cases t with
     |int k=>
      obtain⟨m,FA,h1⟩:=Dy (show Ak k p _=some r from h)
      obtain⟨n,AW,h2⟩:=Dy h1;exact⟨_,h2⟩
     |bool=>
      obtain⟨m,FA,h1⟩:=Dc (show Aq p _=some r from h)
      obtain⟨n,AW,h2⟩:=Dc h1;exact⟨_,h2⟩
     |str=>
      obtain⟨m,FA,h1⟩:=C5 (show Az p _=some r from h)
      obtain⟨n,AW,h2⟩:=C5 h1;exact⟨_,h2⟩
     |sl es=>cases h
     |any=>cases h
    obtain⟨K',h'⟩:=go;have:=LB ts h';exact⟨by simp[this.1],by simp[this.2]⟩
theorem MF {t:TypeId}{dsc:TypeDesc}(hu:P.underlying t=some dsc)(hd:B1 P t=true)(hi:(P.info? t).isSome=true) (xs:Array Value)(i:Nat):(part t xs i).run P w=.ok (.agg (xs.extract i (i+A7 P t))) w:=by
 simp only[part,Sem.run_bind,J6 hu,hd,Result.andThen_ok,if_true,Cj hi];rfl
theorem EK {xs:Array Value}{i n:Nat}{ps:List PV}(hn:n<=ps.length)(hp:∀(j:Nat) p,ps[j]?=some p->∃v,xs[i+j]?=some v∧Bu w A β p v):Bb (Bu w A β) (ps.take n) (xs.extract i (i+n)).toList:=by
 rcases Nat.eq_zero_or_pos n with h0|h0
 ·subst h0;simp[Bb]
 have hl:n-1<ps.length:=by omega
 obtain⟨v,hv,_⟩:=hp (n-1) _ (List.getElem?_eq_getElem hl);have K1:=(Array.getElem?_eq_some_iff.1 hv).1;refine Bb.of_at (by simp;omega) fun j a b ha hb=>?_
 rw[List.getElem?_take] at ha;split at ha
 ·rename_i hj;obtain⟨v,hv,hc⟩:=hp j a ha;rw[Array.getElem?_toList,Array.getElem?_extract] at hb;split at hb
  ·rw[hv] at hb;cases hb;exact hc
  ·cases hb
 ·cases ha
theorem V5 {f:Field}{gs:Array Field}(hu:P.underlying f.type=some (.struct gs)):MO P f=gs.toList.map (fty P):=by unfold MO;rw[hu]
theorem OW {f:Field}(h:∀gs,P.underlying f.type≠some (.struct gs)):MO P f=[fty P f]:=by
 unfold MO;split
 ·rename_i gs hu;exact absurd hu (h gs)
 ·rfl
theorem SM (d : Nat) : ∀ (fs : List Field) (i : Nat) (xs ys : Array Value) (ps qs : List PV) (K : Bool -> Option R), Ka P fs i = true -> Ip (Q5 P fs) ps qs K = some r ->
    (∀ (j : Nat) p, ps[j]? = some p -> ∃ v, xs[i + j]? = some v ∧ Bu w A β p v) -> (∀ (j : Nat) p, qs[j]? = some p -> ∃ v, ys[i + j]? = some v ∧ Bu w A β p v) ->
    ∃ b, K b = some r ∧ (forIn fs ((none, ()) : Option Bool × Unit) fun (f : Field) (_ : Option Bool × Unit) =>
            if f.name = "_" then pure (ForInStep.yield ((none, ()) : Option Bool × Unit))
            else do
              let x ← part f.type xs f.offset
              let y ← part f.type ys f.offset
              let e ← Op.equalIn (d + 2) f.type x y
              if e = false then pure (ForInStep.done ((some false, ()) : Option Bool × Unit)) else pure (ForInStep.yield ((none, ()) : Option Bool × Unit)) : Sem (Option Bool × Unit)).run P w = .ok (if b then (none, ()) else (some false, ())) w
  | [], i, xs, ys, ps, qs, K, _, hk, _, _ => by
    cases ps with
    | nil => cases qs with
      | nil => exact⟨true, hk, by simp⟩
      | cons q qs => cases hk
    | cons p ps => cases hk
  | f :: fs, i, xs, ys, ps, qs, K, CQ, hk, hp, hq => by
    simp only[Ka, Bool.and_eq_true] at CQ
    obtain⟨⟨Ls, Abd⟩, hty⟩ := CQ
    have Ls := Nat.eq_of_beq_eq_true Ls
    have Yd : f.name ≠ "_" := by simpa using Abd
    have main : ∃ b0 v u n, (part f.type xs f.offset).run P w = .ok v w ∧ (part f.type ys f.offset).run P w = .ok u w ∧ (Op.equalIn (d + 2) f.type v u).run P w = .ok b0 w ∧ Ka P fs (i + n) = true ∧ Ip (Q5 P fs) (ps.drop n) (qs.drop n) (fun r' => K (b0 && r')) = some r := by
      have hk := Sp (MO P f) (show Ip (MO P f ++ Q5 P fs) ps qs K = some r from hk)
      have Dd := LB _ hk
      rw[List.length_take, List.length_take] at Dd
      have plain : (∀ gs, P.underlying f.type ≠ some (.struct gs)) -> Ka P fs (i + 1) = true -> (match P.underlying f.type with | some (.int _) => true | some .bool => true | some .string => true | _ => false) = true ->
          ∃ b0 v u n, (part f.type xs f.offset).run P w = .ok v w ∧ (part f.type ys f.offset).run P w = .ok u w ∧ (Op.equalIn (d + 2) f.type v u).run P w = .ok b0 w ∧ Ka P fs (i + n) = true ∧ Ip (Q5 P fs) (ps.drop n) (qs.drop n) (fun r' => K (b0 && r')) = some r := by
        intro hs Alh Sd
        rw[OW hs] at hk Dd
        simp only[List.length_singleton] at hk Dd
        obtain⟨p, ps, rfl⟩ : ∃ p ps', ps = p :: ps' := by
          cases ps with
          | nil => simp at Dd
          | cons p ps => exact⟨p, ps, rfl⟩
        obtain⟨q, qs, rfl⟩ : ∃ q qs', qs = q :: qs' := by
          cases qs with
          | nil => simp at Dd
          | cons q qs => exact⟨q, qs, rfl⟩
        obtain⟨v, hv, Uw⟩ := hp 0 p rfl
        obtain⟨u, hu, hqu⟩ := hq 0 q rfl
        rw[Nat.add_zero] at hv hu
        simp only[List.take_succ_cons, List.take_zero, List.drop_succ_cons, List.drop_zero] at hk ⊢
        have one : ∃ b0 dsc, P.underlying f.type = some dsc ∧ B1 P f.type = false ∧ (Op.equalIn (d + 2) f.type v u).run P w = .ok b0 w ∧ Ip (Q5 P fs) ps qs (fun r' => K (b0 && r')) = some r := by
          unfold fty at hk
          split at hk
          · rename_i k Hr
            obtain⟨m, FA, Dn⟩ := Dy (show Ak k p _ = some r from hk)
            obtain⟨n, AW, D6⟩ := Dy Dn
            subst FA AW
            have Lj : v = .int k m := Ar.val (w := w) (A := A) Uw
            have Hc : u = .int k n := Ar.val (w := w) (A := A) hqu
            subst Lj Hc
            have e : ∀ b : Bool, (b && true) = b := Bool.and_true
            simp only[Ip, e] at D6
            refine⟨m == n, _, Hr, by simp[B1, Hr], G9 (d + 1) (.inl ⟨k, m, n, Hr, rfl, rfl⟩) ?_ ?_ ?_, D6⟩
            · intro k' m' n' h1 h2; injection h1 with _ h1; injection h2 with _ h2; rw[h1, h2]
            · intro m' n' h1; cases h1
            · intro m' n' h1; cases h1
          · rename_i Hr
            obtain⟨m, FA, Dn⟩ := Dc (show Aq p _ = some r from hk)
            obtain⟨n, AW, D6⟩ := Dc Dn
            subst FA AW
            have Lj : v = .bool m := Ar.val (w := w) (A := A) Uw
            have Hc : u = .bool n := Ar.val (w := w) (A := A) hqu
            subst Lj Hc
            have e : ∀ b : Bool, (b && true) = b := Bool.and_true
            simp only[Ip, e] at D6
            refine⟨m == n, _, Hr, by simp[B1, Hr], G9 (d + 1) (.inr (.inl ⟨m, n, Hr, rfl, rfl⟩)) ?_ ?_ ?_, D6⟩
            · intro k' m' n' h1; cases h1
            · intro m' n' h1 h2; injection h1 with h1; injection h2 with h2; rw[h1, h2]
            · intro m' n' h1; cases h1
          · rename_i Hr
            obtain⟨m, FA, Dn⟩ := C5 (show Az p _ = some r from hk)
            obtain⟨n, AW, D6⟩ := C5 Dn
            subst FA AW
            have Lj : v = .string m := Ar.val (w := w) (A := A) Uw
            have Hc : u = .string n := Ar.val (w := w) (A := A) hqu
            subst Lj Hc
            have e : ∀ b : Bool, (b && true) = b := Bool.and_true
            simp only[Ip, e] at D6
            refine⟨m == n, _, Hr, by simp[B1, Hr], G9 (d + 1) (.inr (.inr ⟨m, n, Hr, rfl, rfl⟩)) ?_ ?_ ?_, D6⟩
            · intro k' m' n' h1; cases h1
            · intro m' n' h1; cases h1
            · intro m' n' h1 h2; injection h1 with h1; injection h2 with h2; rw[h1, h2]
          · cases hk
        obtain⟨b0, dsc, Hr, E5, he, hk⟩ := one
        exact⟨b0, v, u, 1, Np Hr E5 (by rw[Ls]; exact hv), Np Hr E5 (by rw[Ls]; exact hu), he, Alh, by simpa using hk⟩
      split at hty
      · rename_i k Hr
        exact plain (fun gs e => by rw[Hr] at e; cases e) hty (by rw[Hr])
      · rename_i Hr
        exact plain (fun gs e => by rw[Hr] at e; cases e) hty (by rw[Hr])
      · rename_i Hr
        exact plain (fun gs e => by rw[Hr] at e; cases e) hty (by rw[Hr])
      · rename_i gs Hr
        simp only[Bool.and_eq_true, Bool.not_eq_true'] at hty
        obtain⟨⟨⟨⟨hfp, E8⟩, hi⟩, K1⟩, Q1⟩ := hty
        have K1 := Nat.eq_of_beq_eq_true K1
        have J4 : (MO P f).length = gs.size := by rw[V5 Hr, List.length_map, Array.length_toList]
        rw[J4] at hk Dd
        rw[V5 Hr] at hk
        have hx := EK (n := gs.size) (by omega) hp
        have hy := EK (n := gs.size) (by omega) hq
        obtain⟨b0, hkb, he⟩ := Wo d Hr E8 hfp hx hy hk
        have ha : B1 P f.type = true := by simp[B1, Hr]
        exact⟨b0, _, _, gs.size, by rw[MF Hr ha hi, Ls, K1], by rw[MF Hr ha hi, Ls, K1], he, Q1, hkb⟩
      · cases hty
    obtain⟨b0, v, u, n, hpx, hpy, he, Alh, hk⟩ := main
    obtain⟨b, hkb, Cg⟩ := SM d fs (i + n) xs ys (ps.drop n) (qs.drop n) _ Alh hk (fun j p' hj => by rw[List.getElem?_drop] at hj; have := hp (n + j) p' hj; rwa [← Nat.add_assoc] at this) (fun j p' hj => by rw[List.getElem?_drop] at hj; have := hq (n + j) p' hj; rwa [← Nat.add_assoc] at this)
    refine⟨b0 && b, hkb, ?_⟩
    cases b0
    · simp[List.forIn_cons, Yd, hpx, hpy, he]
    · simp only[Bool.true_and]
      rw[← Cg]
      simp[List.forIn_cons, Yd, hpx, hpy, he]
theorem AH (d:Nat){t:TypeId}{fs:Array Field}(hu:P.underlying t=some (.struct fs)) (E8:P.stoodInHeld t=false)(CQ:Ka P fs.toList 0=true){xs ys:List PV}{vx vy:List Value}
  (hvx:Bb (Bu w A β) xs vx) (hvy:Bb (Bu w A β) ys vy) {K:Bool->Option R}(hk:Ip (Q5 P fs.toList) xs ys K=some r):
  ∃b,K b=some r∧(Op.equalIn (d+3) t (.agg ⟨vx⟩) (.agg ⟨vy⟩)).run P w=.ok b w:=by
 obtain⟨b,hkb,Cg⟩:=SM (P:=P) (w:=w) (A:=A) (β:=β) d fs.toList 0 ⟨vx⟩ ⟨vy⟩ xs ys K CQ hk (fun j p hj=>by
   obtain⟨v,hv,hc⟩:=hvx.get hj;exact⟨v,by simpa using hv,hc⟩) (fun j p hj=>by
   obtain⟨v,hv,hc⟩:=hvy.get hj;exact⟨v,by simpa using hv,hc⟩)
 refine⟨b,hkb,?_⟩;rw[Array.forIn_toList] at Cg;rw[Op.equalIn];simp[run_underlying hu,E8];rw[Cg];cases b<;>simp
theorem DI (h:Ci N w0 X0 Y β s a w){t:TypeId}{fs:Array Field}{x y:Operand}{op:BinOp}(hop:op=.eql∨op=.neq)(hu:P.underlying t=some (.struct fs)) (CQ:IY P t fs=true){xs ys:List PV}
  (hx:Bv s.tm x=.agg xs)(hy:Bv s.tm y=.agg ys){K:Bool->Option R}(hk:Ip (Q5 P fs.toList) xs ys K=some r):
  ∃b,K b=some r∧(do eqGuard op t x y (a.eval x) (a.eval y);binOp op t (a.eval x) (a.eval y)).run P w=.ok (.bool (if op=.eql then b else !b)) w:=by
 have hxv:=Cn h x;have RY:=Cn h y;rw[hx] at hxv;rw[hy] at RY;obtain⟨vx,Cv,hvx⟩:=hxv;obtain⟨vy,hay,hvy⟩:=RY;simp only[IY,Bool.and_eq_true,Bool.not_eq_true'] at CQ;obtain⟨⟨CQ,E8⟩,heg⟩:=CQ;obtain⟨b,hkb,heq⟩:=AH 9997 hu E8 CQ hvx hvy hk;have heq:(Op.equal t (.agg ⟨vx⟩) (.agg ⟨vy⟩)).run P w=.ok b w:=heq;refine⟨b,hkb,?_⟩;rw[Cv,hay];rcases hop with rfl|rfl
 ·simp[eqGuard,binOp,heq,heg]
 ·simp[eqGuard,binOp,heq,heg]
theorem NM (h:Ci N w0 X0 Y β s a w){op:BinOp}{t ty:TypeId}{x y:Operand}(ho:o.op=.binOp op t x y ty){K:PV->Option R}
  (hk:Px P op t (Bv s.tm x) (Bv s.tm y) K=some r):∃v,K v=some r∧Dt P a w o Y β s v [] []:=by
 have Cg:∀v,(do eqGuard op t x y (a.eval x) (a.eval y);binOp op t (a.eval x) (a.eval y)).run P w=.ok v w->(execOp a.eval o).run P w=.ok (.value v) w:=by
  intro v hv;unfold execOp;rw[ho];simp only[Sem.run_bind] at hv ⊢;rw[hv];rfl
 unfold Px at hk;split at hk
 ·rename_i fs hu;split at hk
  ·obtain⟨CQ,hk⟩:=Aj hk;obtain⟨xs,hx,hk⟩:=F3 hk;obtain⟨ys,hy,hk⟩:=F3 hk;obtain⟨b,hk,hr⟩:=DI h (.inl rfl) hu CQ hx hy hk;exact⟨_,hk,Cc (Cg _ (by rw[hr];rfl))⟩
  ·obtain⟨CQ,hk⟩:=Aj hk;obtain⟨xs,hx,hk⟩:=F3 hk;obtain⟨ys,hy,hk⟩:=F3 hk;obtain⟨b,hk,hr⟩:=DI h (.inr rfl) hu CQ hx hy hk;exact⟨_,hk,Cc (Cg _ (by rw[hr];rfl))⟩
  ·cases hk
 ·unfold Abq at hk;split at hk
  ·rename_i k hu;split at hk
   ·obtain⟨m,hx,hk⟩:=Dy hk;obtain⟨k2,n,hy,hk⟩:=C4 hk;obtain⟨hb,hk⟩:=Aj hk;have hb:=of_decide_eq_true hb;refine⟨_,hk,Cc (Cg _ ?_)⟩;have:¬n<0:=by omega
    simp[eqGuard,binOp,Op.shift,B0 h hx,B0 h hy,this]
   ·obtain⟨m,hx,hk⟩:=Dy hk;obtain⟨k2,n,hy,hk⟩:=C4 hk;obtain⟨hb,hk⟩:=Aj hk;have hb:=of_decide_eq_true hb;refine⟨_,hk,Cc (Cg _ ?_)⟩;have:¬n<0:=by omega
    simp[eqGuard,binOp,Op.shift,B0 h hx,B0 h hy,this]
   ·rename_i XR Ra;obtain⟨m,hx,hk⟩:=Dy hk;obtain⟨n,hy,hk⟩:=Dy hk;obtain⟨v,hk,hr⟩:=WL (P:=P) (w:=w) (t:=t) (x:=x) (y:=y) XR Ra hk;exact⟨_,hk,Cc (Cg _ (by rw[B0 h hx,B0 h hy];exact hr))⟩
  ·rename_i hu;obtain⟨m,hx,hk⟩:=C5 hk;obtain⟨n,hy,hk⟩:=C5 hk;obtain⟨v,hk,hr⟩:=WA (P:=P) (w:=w) (t:=t) (x:=x) (y:=y) hk;exact⟨_,hk,Cc (Cg _ (by rw[B0 h hx,B0 h hy];exact hr))⟩
  ·rename_i hu;split at hk
   ·obtain⟨m,hx,hk⟩:=Dc hk;obtain⟨n,hy,hk⟩:=Dc hk;refine⟨_,hk,Cc (Cg _ ?_)⟩;simp[eqGuard,binOp,B0 h hx,B0 h hy,AJ hu]
   ·obtain⟨m,hx,hk⟩:=Dc hk;obtain⟨n,hy,hk⟩:=Dc hk;refine⟨_,hk,Cc (Cg _ ?_)⟩;simp[eqGuard,binOp,B0 h hx,B0 h hy,AJ hu]
   ·cases hk
  ·rename_i e hu;have hx:=Cn h x
   have nilQ:∀{e:Bool} {K':PV->Option R},Y8 e (Bv s.tm x) K'=some r->∃q ad n c,K' q=some r∧a.eval x=.slice ad n c∧(q=.sc (.bool (if ad.isNone then e else !e))∨q=.ub):=by
    intro e K' hq;unfold Y8 at hq;split at hq
    ·rename_i e';exact⟨_,none,0,0,hq,B0 h e',.inl rfl⟩
    ·rename_i z es n c e';rcases Fi (.inl e') hx with⟨Cv,rfl,_⟩|⟨ad,cap,Cv,rfl,_⟩|⟨ad,cap,Cv,rfl,rfl,_⟩
     ·rcases Jy hq with⟨_,hq⟩|⟨_,hq⟩
      ·exact⟨_,none,0,0,hq,Cv,.inl rfl⟩
      ·rcases Jy hq with⟨hb,_⟩|⟨_,hq⟩
       ·exact absurd (of_decide_eq_true hb) (by omega)
       ·exact⟨_,none,0,0,hq,Cv,.inr rfl⟩
     ·rcases Jy hq with⟨hz,_⟩|⟨_,hq⟩
      ·cases hz
      ·rcases Jy hq with⟨_,hq⟩|⟨_,hq⟩
       ·exact⟨_,some ad,n,cap,hq,Cv,.inl rfl⟩
       ·exact⟨_,some ad,n,cap,hq,Cv,.inr rfl⟩
     ·rcases Jy hq with⟨hz,_⟩|⟨_,hq⟩
      ·cases hz
      ·rcases Jy hq with⟨hb,_⟩|⟨_,hq⟩
       ·exact absurd (of_decide_eq_true hb) (by omega)
       ·exact⟨_,some ad,0,cap,hq,Cv,.inr rfl⟩
    ·rename_i id es off n e';rw[e'] at hx;rcases hx with⟨_,_,rfl,ad,Cv⟩|⟨b,ob,y',cap,_,Cv,_⟩
     ·rcases Jy hq with⟨hb,_⟩|⟨_,hq⟩
      ·exact absurd (of_decide_eq_true hb) (by omega)
      ·exact⟨_,ad,0,0,hq,Cv,.inr rfl⟩
     ·rcases Jy hq with⟨_,hq⟩|⟨_,hq⟩
      ·exact⟨_,_,n,cap,hq,Cv,.inl rfl⟩
      ·exact⟨_,_,n,cap,hq,Cv,.inr rfl⟩
    ·cases hq
   split at hk
   ·rename_i hy;obtain⟨q,ad,n,c,hk,Cv,hb⟩:=nilQ hk;rcases hb with rfl|rfl
    ·refine⟨_,hk,Cc (Cg _ ?_)⟩;cases ad<;>simp[eqGuard,binOp,Cv,B0 h hy,Qh hu]
    ·refine⟨_,hk,Bx (val:=.bool ad.isNone) (Cg _ ?_) (Ar.ub _) (by intro i hi;cases hi)⟩
     simp[eqGuard,binOp,Cv,B0 h hy,Qh hu]
   ·rename_i hy;obtain⟨q,ad,n,c,hk,Cv,hb⟩:=nilQ hk;rcases hb with rfl|rfl
    ·refine⟨_,hk,Cc (Cg _ ?_)⟩;cases ad<;>simp[eqGuard,binOp,Cv,B0 h hy,Qh hu]
    ·refine⟨_,hk,Bx (val:=.bool !ad.isNone) (Cg _ ?_) (Ar.ub _) (by intro i hi;cases hi)⟩
     simp[eqGuard,binOp,Cv,B0 h hy,Qh hu]
   ·cases hk
  ·rename_i kt vt hu;split at hk
   ·rename_i hx hy;refine⟨_,hk,Cc (Cg _ ?_)⟩;simp[eqGuard,binOp,B0 h hx,B0 h hy,Tp hu]
   ·rename_i hx hy;refine⟨_,hk,Cc (Cg _ ?_)⟩;simp[eqGuard,binOp,B0 h hx,B0 h hy,Tp hu]
   ·cases hk
  ·cases hk
end
open Go.RowKit
section
variable {R:Type} {r:R} {P:Program} {N:Nat} {w0:World} {X0:Gm} {Y:Nat->Prop} {β β':Bt} {s:St} {a:Act} {w w':World} {o:Oper} {A:Nat->Prop}
theorem Wg:∀{c:List PV}{ns:List Int},P3 c=some ns->c=ns.map (fun n=>.sc (.int .i32 n))
 |[],ns,h=>by simp[P3] at h;subst h;rfl
 |p::c,ns,h=>by
  unfold P3 at h;split at h
  ·rename_i e;cases e
  ·rename_i n r e;cases e;cases hr:P3 c with
   |none=>rw[hr] at h;cases h
   |some l'=>
    rw[hr] at h;simp at h;subst h;rw[Wg hr];rfl
  ·cases h
theorem Vo:∀{c:List PV}{l:List UInt8},Lf c=some l->∃ns:List Int,c=ns.map (fun n=>.sc (.int .u8 n))∧l=ns.map fun n=>n.toNat.toUInt8
 |[],l,h=>⟨[],rfl,by simp[Lf] at h;subst h;rfl⟩
 |p::c,l,h=>by
  unfold Lf at h;split at h
  ·rename_i e;cases e
  ·rename_i n r e;cases e;cases hr:Lf c with
   |none=>rw[hr] at h;cases h
   |some l'=>
    rw[hr] at h;simp at h;obtain⟨ns,rfl,rfl⟩:=Vo hr;exact⟨n::ns,rfl,h.symm⟩
  ·cases h
theorem N1:∀(ns:List Int)(b:ByteArray),ns.foldl (fun r n=>r.push (UInt8.ofNat n.toNat)) b=⟨b.data++(ns.map fun n=>n.toNat.toUInt8).toArray⟩
 |[],b=>by simp
 |n::ns,b=>by
  simp only[List.foldl_cons];rw[N1 ns];simp[ByteArray.push]
theorem Ya (h:Ci N w0 X0 Y β s a w){es:Nat}{x:Operand}{K:Nat->List PV->Option R}(hk:MR (Hm s.hp) es (Bv s.tm x) K=some r):
  ∃n c,K n c=some r∧(((∃ad,a.eval x=.slice ad 0 0)∧n=0∧c=[])∨∃ad cap,a.eval x=.slice (some ad) n cap∧n<=cap∧(c=[]∨ad.block<w.heap.size)∧OC w (Cs s.hp β Y) ad c):=by
 have hx:=Cn h x;have AR:=Ef h x;unfold MR at hk;split at hk
 ·rename_i id es' off n e;rw[e] at hx AR;cases hb:Nat.beq es' es
  ·rw[hb] at hk;cases hk
  ·rw[hb] at hk;obtain⟨c,hc,hk⟩:=B3 (show Dk _ _=some r from hk)
   obtain⟨hl,hk⟩:=Aj hk;have hl:=of_decide_eq_true hl;obtain⟨f,VB⟩:=GA hc;refine⟨_,_,hk,?_⟩;rcases hx with⟨_,rfl,rfl,ad,Cv⟩|⟨b,ob,y,cap,hβ,Cv,hy,hn,_,B4⟩
   ·exact .inl ⟨⟨ad,Cv⟩,rfl,by simp⟩
   ·refine .inr ⟨_,cap,Cv,hn,.inr B4,fun j p hj=>?_⟩
    have UL:0<n*es:=by
     rcases Nat.eq_zero_or_pos (n*es) with h0|h0
     ·rw[h0] at hj;simp at hj
     ·exact h0
    have Uc:n≠0:=by rintro rfl;simp at UL
    have hy:y=ob+off:=by rcases hy with hy|⟨h0,_⟩<;>omega
    subst hy;rw[List.getElem?_take] at hj;split at hj
    ·rw[List.getElem?_drop] at hj;rcases h.box id _ VB with⟨h1,_⟩|⟨b',o',h1,h2,_⟩
     ·rw[hβ] at h1;cases h1
     ·rw[hβ] at h1;simp at h1;obtain⟨rfl,rfl⟩:=h1
      obtain⟨v,hv,h3,ht⟩:=h2 (off+j) p hj;rw[D3] at hv;exact⟨v,by rw[D3,Nat.add_assoc];exact hv,h3,ht⟩
    ·cases hj
 ·obtain⟨z,n,c,hk,hp⟩:=Et hk;refine⟨n,c,hk,?_⟩;rcases Fi hp hx with h1|⟨ad,cap,Cv,_,hn,h1,h2,_,h4⟩|⟨ad,cap,Cv,_,rfl,rfl⟩
  ·exact .inl ⟨⟨none,h1.1⟩,h1.2⟩
  ·exact .inr ⟨ad,cap,Cv,hn,.inr h2,h4⟩
  ·exact .inr ⟨ad,cap,Cv,Nat.zero_le _,.inl rfl,fun j c hj=>by simp at hj⟩
theorem VF (b:ByteArray)(j:Nat)(p:PV)(h:(Eu b)[j]?=some p):∃x,b.data[j]?=some x∧p=.sc (.int .u8 x.toNat):=by
 unfold Eu at h;rw[List.getElem?_map] at h;cases hx:b.data.toList[j]? with
 |none=>rw[hx] at h;cases h
 |some x=>
  rw[hx] at h;simp at h;exact⟨x,by simpa using hx,h.symm⟩
theorem PJ (h:Ci N w0 X0 Y β s a w){src dst:TypeId}{x:Operand}(ho:o.op=.convert src dst x){d:Nat}{K:PV->List (Nat × Bk)->Option R}
  (hk:Zz P (Hm s.hp) d src dst (Bv s.tm x) K=some r):∃v nw,K v nw=some r∧Dt P a w o Y β s v [] nw:=by
 have Cg:∀v w',(convert src dst (a.eval x)).run P w=.ok v w'->(execOp a.eval o).run P w=.ok (.value v) w':=by
  intro v w' hv;unfold execOp;rw[ho];simp[hv]
 unfold Zz at hk;split at hk
 ·rename_i k hu;obtain⟨hs,hk⟩:=Aj hk;obtain⟨k',n,hx,hk⟩:=C4 hk;exact⟨_,_,hk,Cc (Cg _ _ (by rw[B0 h hx];obtain⟨ds,hds⟩:=Option.isSome_iff_exists.1 hs;cases ds<;>simp[convert,run_underlying hds,run_underlying hu,Conv.intToInt]))⟩
 ·rename_i hu;split at hk
  ·rename_i hs;obtain⟨b,hx,hk⟩:=C5 hk;exact⟨_,_,hk,Cc (Cg _ _ (by rw[B0 h hx];simp[convert,run_underlying hs,run_underlying hu]))⟩
  ·rename_i e hs;split at hk
   ·rename_i he;obtain⟨n,c,hk,hc⟩:=Ya h hk;obtain⟨hl,hk⟩:=Aj hk;have hl:=of_decide_eq_true hl;obtain⟨l,hb,hk⟩:=B3 hk;obtain⟨ns,rfl,rfl⟩:=Vo hb;refine⟨_,_,hk,Cc (Cg _ _ ?_)⟩;rcases hc with⟨⟨ad,Cv⟩,rfl,hn⟩|⟨ad,cap,Cv,_,_,XP⟩
    ·have:ns=[]:=by simpa using hn
     subst this;rw[Cv,run_convert_bytes_string w src dst e ad 0 0 hs he hu];cases ad<;>rfl
    ·rw[Cv,run_convert_bytes_string w src dst e _ _ _ hs he hu]
     have hld:(loadCells ad n).run P w=.ok (ns.map (Value.int .u8)).toArray w:=by
      have:=run_loadCells_list (P:=P) w ad (ns.map (Value.int .u8)) (fun j v hj=>by
       rw[List.getElem?_map] at hj;cases hn:ns[j]? with
       |none=>rw[hn] at hj;cases hj
       |some m=>
        rw[hn] at hj;simp at hj;subst hj;obtain⟨v,hv,_,ht⟩:=XP j (.sc (.int .u8 m)) (by rw[List.getElem?_map,hn];rfl)
        rw[ht.val] at hv;exact hv)
      simp only[List.length_map] at this hl;rw[hl] at this;exact this
     rw[run_bytesToString w ad n cap ns hld,N1];simp
   ·rename_i he;obtain⟨n,c,hk,hc⟩:=Ya h hk;obtain⟨hl,hk⟩:=Aj hk;have hl:=of_decide_eq_true hl;obtain⟨ns,hb,D6⟩:=B3 hk;have Xx:=Wg hb;clear hk;subst Xx;refine⟨_,_,D6,Cc (Cg _ _ ?_)⟩;rcases hc with⟨⟨ad,Cv⟩,Uh,hn⟩|⟨ad,cap,Cv,_,_,XP⟩
    ·have:ns=[]:=by simpa using hn
     subst this;rw[Cv,run_convert_runes_string w src dst e ad _ _ hs he hu];cases ad with
     |none=>rfl
     |some p=>
      have Uc:n=0:=by simpa using Uh
      subst Uc;exact run_runesToString w p 0 0 [] (by simpa using run_loadCells_list (P:=P) w p [] (by simp))
    ·rw[Cv,run_convert_runes_string w src dst e _ _ _ hs he hu]
     have hld:(loadCells ad n).run P w=.ok (ns.map (Value.int .i32)).toArray w:=by
      have:=run_loadCells_list (P:=P) w ad (ns.map (Value.int .i32)) (fun j v hj=>by
       rw[List.getElem?_map] at hj;cases hn:ns[j]? with
       |none=>rw[hn] at hj;cases hj
       |some m=>
        rw[hn] at hj;simp at hj;subst hj;obtain⟨v,hv,_,ht⟩:=XP j (.sc (.int .i32 m)) (by rw[List.getElem?_map,hn];rfl)
        rw[ht.val] at hv;exact hv)
      simp only[List.length_map] at this hl;rw[hl] at this;exact this
     exact run_runesToString w ad n cap ns hld
   ·cases hk
  ·cases hk
 ·rename_i e hu;split at hk
  ·rename_i he hs;obtain⟨b,hx,hk⟩:=C5 hk;obtain⟨K1,hk⟩:=Aj hk;have hr:=run_bytes_of_string (P:=P) w src dst e b hs hu he;rw[←B0 h hx] at hr
   have Rj:b.size<=grownCap w b.size 0 e:=by
    unfold grownCap;simp[Question.cut]
   have NC:(bytesRow b (grownCap w b.size 0 e)).size=grownCap w b.size 0 e:=by
    simp only[bytesRow,Array.size_append,Array.size_map,Array.size_replicate];have:b.data.size=b.size:=rfl;omega
   refine⟨_,_,hk,Mm (c:=bytesRow b (grownCap w b.size 0 e)) (e:=e) (by simp) (Cg _ _ hr) ?_ (fun j p hj=>?_) (.inr ⟨1,b.size,grownCap w b.size 0 e,rfl,rfl,Rj,by rw[NC];omega,.inl rfl⟩)⟩
   ·exact⟨rfl,rfl,rfl,fun i hi=>Below.heap_alloc w.drew _ i hi,by show (w.heap.push _).size=_;simp,_,by show (w.heap.push _)[w.heap.size]?=_;simp;rfl,.inr (Nat.le_refl _)⟩
   ·obtain⟨y,hy,rfl⟩:=VF b j p hj;refine⟨.int .u8 y.toNat,?_,rfl,Ar.sc _⟩
    have B4:j<b.data.size:=by
     rcases Nat.lt_or_ge j b.data.size with h|h
     ·exact h
     ·rw[Array.getElem?_eq_none h] at hy;cases hy
    simp only[bytesRow];rw[Array.getElem?_append_left (by simpa using B4),Array.getElem?_map,hy]
    rfl
  ·cases hk
 ·cases hk
end
open Go.RowKit
section
variable {R:Type} {r:R} {P:Program} {N:Nat} {w0:World} {X0:Gm} {Y:Nat->Prop} {β β':Bt} {s:St} {a:Act} {w w':World} {o:Oper} {A:Nat->Prop}
theorem Tj:∀{n:Nat}{l:List PV}{j:Nat}{c:PV},(Nh n l)[j]?=some c->j<n*l.length∧l[j % l.length]?=some c
 |0,l,j,c,h=>by simp[Nh] at h
 |n+1,l,j,c,h=>by
  have e:Nh (n+1) l=l++Nh n l:=by simp[Nh,List.replicate_succ]
  rw[e] at h;by_cases hj:j<l.length
  ·rw[List.getElem?_append_left hj] at h;refine⟨by rw[Nat.add_mul];omega,?_⟩
   rw[Nat.mod_eq_of_lt hj];exact h
  ·rw[List.getElem?_append_right (by omega)] at h
   obtain⟨h1,h2⟩:=Tj h;refine⟨by rw[Nat.add_mul];omega,?_⟩
   rw[Nat.mod_eq_sub_mod (by omega)];exact h2
theorem LK (n:Nat)(l:List PV):(Nh n l).length=n*l.length:=by
 induction n with
 |zero=>simp[Nh]
 |succ n ih=>
  have e:Nh (n+1) l=l++Nh n l:=by simp[Nh,List.replicate_succ]
  rw[e,List.length_append,ih,Nat.add_mul];omega
theorem KK {z:Array Value}{n j:Nat}(hj:j<n){v:Value}(hv:z[j % z.size]?=some v):(madeCells z n)[j]?=some v:=by
 unfold madeCells;rw[Array.getElem?_map,Array.getElem?_range,if_pos hj];simp only[Option.map_some];rw[getElem!_def,hv]
theorem QQ (h:Ci N w0 X0 Y β s a w){t:TypeId}{x y:Operand}(ho:o.op=.makeSlice t x y){d:Nat}{K:PV->List Nat->List (Nat × Bk)->Option R}
  (hk:(match P.underlying t with
   |some (.slice e)=>Da (Bv s.tm x) fun _ n=>Da (Bv s.tm y) fun _ m=>
     Bi (decide (0<=n)&&decide (n<=m)&&decide (m*((P.info? e).map (·.bytes)).getD 0<=1099511627776)&&decide (m<=1099511627776))
      (Fy P e fun z=>K (.view d (A7 P e) 0 n.toNat) [] [(d,.ar false (Nh n.toNat z))])
   |_=>none)=some r):∃v fz nw,K v fz nw=some r∧Dt P a w o Y β s v fz nw:=by
 split at hk
 ·rename_i e hu;obtain⟨k1,n,hx,hk⟩:=C4 hk;obtain⟨k2,m,hy,hk⟩:=C4 hk;obtain⟨hb,hk⟩:=Aj hk;simp only[Bool.and_eq_true,decide_eq_true_eq] at hb;obtain⟨⟨⟨h0,BS⟩,Pa⟩,hm⟩:=hb;obtain⟨z,cs,hk,hz,hct,hl,K1,hc⟩:=Ln hk
  have hzc:∃i,P.info? e=some i∧i.zero=some z:=by
   unfold L2 at hz;cases hi:P.info? e with
   |none=>rw[hi] at hz;cases hz
   |some i=>rw[hi] at hz;exact⟨i,rfl,hz⟩
  obtain⟨i,hi,XG⟩:=hzc;have Aoy:A7 P e=i.size:=by simp[A7,hi]
  simp only[hi,Option.map_some,Option.getD_some] at Pa;have hr:=run_make (P:=P) w t e i z hu hi XG k1 k2 n m h0 BS (by rw[Int.mul_comm];omega) (by omega)
  have Cg:(execOp a.eval o).run P w=.ok (.value (.slice (some ⟨w.heap.size,0,none⟩) n.toNat m.toNat)) (w.alloc (.cells (madeCells z.cells (m.toNat*i.size)) e)):=by
   unfold execOp;rw[ho];simp[B0 h hx,B0 h hy,hr]
  have hzl:z.cells.size=A7 P e:=by
   have:z.cells.toList.length=z.cells.size:=by simp
   omega
  refine⟨_,_,_,hk,Mm (c:=madeCells z.cells (m.toNat*i.size)) (e:=e) (by simp) Cg (Fe.alloc w _ e) (fun j p hj=>?_) (.inr ⟨A7 P e,n.toNat,m.toNat,rfl,rfl,by omega,by rw[size_madeCells,Aoy];exact Nat.le_refl _,.inr (H6 w _ e)⟩)⟩
  obtain⟨h1,h2⟩:=Tj hj;obtain⟨hT,u,Hc,HR,hv⟩:=hc _ p h2;refine⟨u,KK ?_ ?_,HR,hv _ _⟩
  ·have:n.toNat*cs.length<=m.toNat*i.size:=by
    rw[K1,Aoy];exact Nat.mul_le_mul_right _ (by omega)
   omega
  ·rw[hzl,←K1]
   simpa using Hc
 ·cases hk
theorem UJ {p:PV}{v:Value}(hp:okP p=true)(hv:Dx w A β p v):Bb (Bu w A β) (cellsOf p) v.cells.toList:=by
 have one:v.oneCell'=true->Bu w A β p v->(∀x,p ≠ .agg x)->Bb (Bu w A β) (cellsOf p) v.cells.toList:=by
  intro h1 h2 h3;have:cellsOf p=[p]:=by cases p<;>first|rfl|exact absurd rfl (h3 _)
  rw[this,J7 h1];exact⟨h2,trivial⟩
 unfold okP at hp;split at hp
 ·obtain⟨vs,rfl,h2⟩:=hv;exact h2
 ·refine one ?_ hv (by simp)
  have Lj:Ar w A _ v:=hv;cases Lj<;>rfl
 ·refine one ?_ hv (by simp)
  rcases hv with⟨_,_,_,_,rfl⟩|⟨_,_,_,_,_,rfl,_⟩<;>rfl
 ·have:=Vg hv;subst this;exact one rfl hv (by simp)
 ·have:=Vg hv;subst this;exact one rfl hv (by simp)
 ·have:=Vg hv;subst this;exact one rfl hv (by simp)
 ·have:=Vg hv;subst this;exact one rfl hv (by simp)
 ·cases hp
theorem SL:∀(vs:List Value)(k off:Nat)(cells:Array Value),off+k+vs.length<=cells.size ->
  ((vs.zipIdx k).foldl (fun cs (q:Value × Nat)=>cs.setIfInBounds (off+q.2) q.1) cells).toList=cells.toList.take (off+k)++vs++cells.toList.drop (off+k+vs.length)
 |[],k,off,cells,_=>by simp
 |v::vs,k,off,cells,h=>by
  simp only[List.zipIdx_cons,List.foldl_cons,List.length_cons] at h ⊢;rw[SL vs (k+1) off _ (by simp;omega)]
  have B4:off+k<cells.toList.length:=by simp;omega
  simp only[Array.toList_setIfInBounds];rw[show off+(k+1)=off+k+1 from by omega,List.take_succ_eq_append_getElem (by simpa using B4)]
  rw[List.getElem_set_self,List.take_set_of_le (Nat.le_refl _),List.drop_set_of_lt (by omega)]
  simp only[List.append_assoc,List.cons_append,List.nil_append];rw[show off+k+1+vs.length=off+k+(vs.length+1) from by omega]
theorem Z0 (h:Ci N w0 X0 Y β s a w){Fs:Nat->Option (Nat × Nat)}:∀{parts:List (Nat × Operand)} {pc:List PV}{vc:Array Value}{K:List PV->Option R},
  Ps Fs (parts.map fun q=>(q.1,Bv s.tm q.2)) pc K=some r->Bb (Bu w (Cs s.hp β Y) β) pc vc.toList->(∀c∈pc,∀id∈Am c,s.hp id≠none) ->
  ∃pc' vc',K pc'=some r∧Instr.fill Fs vc (parts.map fun q=>(q.1,a.eval q.2))=some vc'∧Bb (Bu w (Cs s.hp β Y) β) pc' vc'.toList∧pc'.length=pc.length∧∀c∈pc',∀id∈Am c,s.hp id≠none
 |[],pc,vc,K,hk,hv,hr=>⟨pc,vc,hk,rfl,hv,rfl,hr⟩
 |(i,x)::parts,pc,vc,K,hk,hv,hr=>by
  simp only[List.map_cons] at hk;unfold Ps at hk;obtain⟨⟨off,size⟩,Sd,hk⟩:=B3 hk;obtain⟨hb,hk⟩:=Aj hk;simp only[Bool.and_eq_true] at hb;obtain⟨⟨hok,K1⟩,Wv⟩:=hb;have K1:(cellsOf (Bv s.tm x)).length=size:=Nat.eq_of_beq_eq_true K1;have Wv:off+size<=pc.length:=Nat.le_of_ble_eq_true Wv;have hxc:=UJ hok (Cn h x);have hxl:=hxc.len;have hvl:=hv.len;have Ob:vc.toList.length=vc.size:=by simp
  have Xx:(a.eval x).cells.toList.length=(a.eval x).cells.size:=by simp
  have Ash:=SL (a.eval x).cells.toList 0 off vc (by omega)
  simp only[Nat.add_zero] at Ash
  have Ar8:((a.eval x).cells.zipIdx.foldl (fun cs (q:Value × Nat)=>cs.setIfInBounds (off+q.2) q.1) vc).toList=vc.toList.take off++(a.eval x).cells.toList++vc.toList.drop (off+(a.eval x).cells.toList.length):=by
   rw[←Ash,←Array.foldl_toList];simp
  obtain⟨pc',vc',hk,hf,h2,hl,hr'⟩:=Z0 h (pc:=B8 pc (cellsOf (Bv s.tm x)) off) (vc:=(a.eval x).cells.zipIdx.foldl (fun cs (q:Value × Nat)=>cs.setIfInBounds (off+q.2) q.1) vc) hk (by
    rw[Ar8,←hxl];exact (((hv.take off).app hxc).app (hv.drop _))) (by
    intro c hc id Bf;unfold B8 at hc;rcases List.mem_append.1 hc with hc|hc
    ·rcases List.mem_append.1 hc with hc|hc
     ·exact hr c (List.mem_of_mem_take hc) id Bf
     ·refine Ef h x id ?_;cases hp:Bv s.tm x with
      |agg cs=>rw[hp] at hc;exact List.mem_flatMap.2 ⟨c,hc,Bf⟩
      |tup cs=>rw[hp] at hc;simp[cellsOf] at hc;subst hc;cases Bf
      |_=>rw[hp] at hc;simp[cellsOf] at hc;subst hc;exact Bf
    ·exact hr c (List.mem_of_mem_drop hc) id Bf)
  refine⟨pc',vc',hk,?_,h2,?_,hr'⟩
  ·simp only[List.map_cons,Instr.fill,Sd];rw[if_neg (by simp;omega)]
   exact hf
  ·rw[hl];simp[B8];omega
theorem NR {t:TypeId}{z:Value}{cs:List PV}(hl:cs.length=z.cells.toList.length)(hc:∀(j:Nat) c,cs[j]?=some c->Rb c∧∃u,z.cells.toList[j]?=some u∧u.oneCell'=true∧∀(w:World)(A:Nat->Prop),Ar w A c u) (_ht:L2 P t=some z):
  Bb (Bu w A β) cs z.cells.toList∧∀c∈cs,Am c=[]:=by
 refine⟨Bb.of_at hl fun i c u hci hu=>?_,fun c NF=>?_⟩
 ·obtain⟨hT,u',Hc,_,hv⟩:=hc i c hci;rw[hu] at Hc;cases Hc;exact (Iz hT).2 (hv _ _)
 ·obtain⟨j,hj⟩:=List.mem_iff_getElem?.1 NF;exact Gd (hc j c hj).1
theorem Zk:∀{fs:List Field},(fs.all fun f=>Y5 P f.type)=true->fs.mapM (fun f=>(P.info? f.type).map fun i=>(f.offset,i.size))=some (fs.map fun f=>(f.offset,A7 P f.type))
 |[],_=>rfl
 |f::fs,h=>by
  simp only[List.all_cons,Bool.and_eq_true] at h;obtain⟨i,hi⟩:=Option.isSome_iff_exists.1 h.1;simp[List.mapM_cons,hi,Zk h.2,A7]
theorem Ri {p q:Nat->Option (Nat × Nat)} (h:∀i,p i=q i)(cells:Array Value)(parts:List (Nat × Value)):Instr.fill p cells parts=Instr.fill q cells parts:=by
 have:p=q:=funext h;rw[this]
theorem NG (h:Ci N w0 X0 Y β s a w){t:TypeId}{ps:Array (Nat × Operand)} (ho:o.op=.build t ps){K:PV->Option R}
  (hk:(Bi (Mf P t&&B1 P t)<|Fy P t fun z=>Ps (Nf P t) (ps.toList.map fun q=>(q.1,Bv s.tm q.2)) z fun cs=>K9 (Gr P t) cs 0 fun cs'=>K (.agg cs'))=some r):∃v,K v=some r∧Dt P a w o Y β s v [] []:=by
 obtain⟨Sd,hk⟩:=Aj hk;simp only[Bool.and_eq_true] at Sd;obtain⟨Sd,E5⟩:=Sd;obtain⟨z,cs,hk,hz,hct,hl,K1,hc⟩:=Ln hk;obtain⟨hzr,Zt⟩:=NR (w:=w) (A:=Cs s.hp β Y) (β:=β) hl hc hz;obtain⟨pc',vc',hk,hf,h2,H1,hr'⟩:=Z0 h hk hzr (fun c NF id Bf=>by rw[Zt c NF] at Bf;cases Bf)
 obtain⟨qs,hk,hql,Vc,hq⟩:=Ow hk
 have Alt:P.built t (ps.toList.map fun q=>(q.1,a.eval q.2))=some vc':=by
  have XG:∃i,P.info? t=some i∧i.zero=some z:=by
   unfold L2 at hz;cases hi:P.info? t with
   |none=>rw[hi] at hz;cases hz
   |some i=>rw[hi] at hz;exact⟨i,rfl,hz⟩
  obtain⟨i,hi,XG⟩:=XG;unfold Mf at Sd;unfold Program.built;split at Sd
  ·rename_i fs hu
   have UW:Instr.fill (((fs.toList.map fun f=>(f.offset,A7 P f.type)).toArray)[·]?) z.cells (ps.toList.map fun q=>(q.1,a.eval q.2))=some vc':=by
    rw[←hf];refine Ri (fun j=>?_) _ _
    simp[Nf,hu]
   simp only[hi,hu,XG,Zk Sd];exact UW
  ·rename_i n e hu;obtain⟨ie,hie⟩:=Option.isSome_iff_exists.1 Sd
   have UW:Instr.fill (fun j=>some (j*ie.size,ie.size)) z.cells (ps.toList.map fun q=>(q.1,a.eval q.2))=some vc':=by
    rw[←hf];refine Ri (fun j=>?_) _ _
    simp[Nf,hu,A7,hie]
   simp only[hi,hu,XG,hie];exact UW
  ·rename_i e hu;simp[B1,hu] at E5
  ·cases Sd
 refine⟨_,hk,Bx (val:=.agg vc') ?_ ⟨vc'.toList,rfl,?_⟩ ?_⟩
 ·unfold execOp;rw[ho];have:=run_build (P:=P) w t (ps.map fun q=>(q.1,a.eval q.2)) vc' (by simpa using Alt)
  simp[this]
 ·refine Bb.of_at (by have:=h2.len;omega) fun j c u hcj hu=>?_
  obtain⟨p,hp,_,_,Uw⟩:=hq j c hcj;rw[Nat.zero_add] at hp;exact (Uw _ _ _ _ (h2.at_ hp hu)).1
 ·intro id Bf;obtain⟨c,NF,Bf⟩:=List.mem_flatMap.1 (show id∈qs.flatMap Am from Bf)
  obtain⟨j,hj⟩:=List.mem_iff_getElem?.1 NF;obtain⟨p,hp,_,hpr,_⟩:=hq j c hj;rw[Nat.zero_add] at hp;exact hr' p (List.mem_of_getElem? hp) id (hpr id Bf)
end
open Go.RowKit
section
variable {R:Type} {r:R} {P:Program} {N:Nat} {w0:World} {X0:Gm} {Y:Nat->Prop} {β β':Bt} {s:St} {a:Act} {w w':World} {o:Oper} {A:Nat->Prop}
theorem QY (h:Ci N w0 X0 Y β s a w){fz:List Nat}(Um:∀id∈fz,∃f c,s.hp id=some (.ar f c)) {id:Nat}(hm:id∈fz){f:Bool}{c:List PV}(hb:s.hp id=some (.ar f c)) {b ob:Nat}(hβ:β id=some (b,ob)):
  ¬Cs (Af s.hp fz) β Y b∧OC w (Cs (Af s.hp fz) β Y) ⟨b,ob,none⟩ c∧b<w.heap.size:=by
 have hf:=h.freeze Um;have he:Af s.hp fz id=some (.ar true c):=by rw[Bq,if_pos hm,hb];rfl
 rcases hf.box id _ he with⟨h1,_⟩|⟨b',o',h1,h2,_,h4⟩
 ·rw[hβ] at h1;cases h1
 ·rw[hβ] at h1;simp at h1;obtain⟨rfl,rfl⟩:=h1;exact⟨h4 rfl,h2,h.blt id b ob (by rw[hb];simp) hβ⟩
theorem VZ (h:Ci N w0 X0 Y β s a w){fz:List Nat}(Um:∀id∈fz,∃f c,s.hp id=some (.ar f c)) {id es off n:Nat}(hm:id∈fz){f:Bool}{c:List PV}(hb:s.hp id=some (.ar f c)) {v:Value}
  (hv:Bu w (Cs s.hp β Y) β (.view id es off n) v):Ar w (Cs (Af s.hp fz) β Y) (.lst false es n ((c.drop off).take (n*es))) v:=by
 rcases hv with⟨_,rfl,rfl,ad,rfl⟩|⟨b,ob,y,cap,hβ,rfl,hy,hn,_,B4⟩
 ·simp only[Nat.zero_mul,List.take_zero];cases ad with
  |none=>exact Ar.lnil false es
  |some p=>exact Ar.lemp es p 0
 ·obtain⟨h1,h2,_⟩:=QY h Um hm hb hβ;by_cases Uc:n*es=0
  ·rw[Uc,List.take_zero];exact Ar.lst es n [] ⟨b,y,none⟩ cap (fun _=>undef) rfl B4 h1 hn (by simp) (by simp) (by simp)
  ·have hy:y=ob+off:=by
    rcases hy with hy|⟨h0,_⟩
    ·exact hy
    ·rw[h0] at Uc;simp at Uc
   subst hy
   have Cm:∀(j:Nat) q,((c.drop off).take (n*es))[j]?=some q->c[off+j]?=some q:=by
    intro j q hq;rw[List.getElem?_take] at hq;split at hq
    ·rw[List.getElem?_drop] at hq;exact hq
    ·cases hq
   refine Ar.lst es n _ ⟨b,ob+off,none⟩ cap (fun j=>(w.cell? ⟨b,ob+off+j,none⟩).getD undef) rfl B4 h1 hn (fun j q hq=>?_) (fun j q hq=>?_) (fun j q hq=>?_)
   ·obtain⟨v,hv,_⟩:=h2 _ q (Cm j q hq);rw[D3,←Nat.add_assoc] at hv;rw[D3,hv];rfl
   ·obtain⟨v,hv,h3,_⟩:=h2 _ q (Cm j q hq);rw[D3,←Nat.add_assoc] at hv;rw[hv];exact h3
   ·obtain⟨v,hv,_,ht⟩:=h2 _ q (Cm j q hq);rw[D3,←Nat.add_assoc] at hv;rw[hv];exact ht
theorem Ar.zf {A:Nat->Prop}{z:Bool}{es n:Nat}{c:List PV}{v:Value}(h:Ar w A (.lst z es n c) v):Ar w A (.lst false es n c) v:=by
 cases h with
 |lnil=>exact .lnil _ _
 |lemp=>exact .lemp _ _ _
 |lst _ _ _ a cap f hs hb hA hn hc h1 hr=>exact .lst _ _ _ a cap f hs hb hA hn hc h1 hr
theorem Yj (h:Ci N w0 X0 Y β s a w){t:CT}{p:PV}{K:PV->List Nat->Option R}(hk:K6 (Hm s.hp) t p K=some r):
  ∃c m,K c m=some r∧Rb c∧BV p∧(∀id∈m,∃f cc,s.hp id=some (.ar f cc))∧∀fz:List Nat,(∀id∈m,id∈fz)->(∀id∈fz,∃f cc,s.hp id=some (.ar f cc))->∀v,Bu w (Cs s.hp β Y) β p v->Ar w (Cs (Af s.hp fz) β Y) c v∧v.oneCell'=true:=by
 have tree:∀t',(Uz t' p fun c=>K c [])=some r->∃c m,K c m=some r∧Rb c∧BV p∧(∀id∈m,∃f cc,s.hp id=some (.ar f cc))∧∀fz:List Nat,(∀id∈m,id∈fz)->(∀id∈fz,∃f cc,s.hp id=some (.ar f cc))->∀v,Bu w (Cs s.hp β Y) β p v->Ar w (Cs (Af s.hp fz) β Y) c v∧v.oneCell'=true:=by
  intro t' hk;obtain⟨c,hk,hT,Y6,hv⟩:=Ju hk;refine⟨c,[],hk,hT,M8 Y6,by simp,fun fz _ Um v Uw=>?_⟩
  obtain⟨h1,h2⟩:=hv _ _ _ _ Uw;exact⟨h1.step (B2.refl _ _) (fun b _ hb=>hb.imp Mx id),h2⟩
 cases t with
 |sl es=>
  unfold K6 at hk;dsimp only at hk;split at hk
  ·rename_i id es' off n;cases hb:Nat.beq es' es
   ·rw[hb] at hk;cases hk
   ·rw[hb] at hk;have:=Nat.eq_of_beq_eq_true hb;subst this;obtain⟨c,hc,hk⟩:=B3 (show Dk _ _=some r from hk)
    obtain⟨_,hk⟩:=Aj hk;obtain⟨f,I3⟩:=GA hc;refine⟨_,[id],hk,trivial,trivial,?_,fun fz hm Um v hv=>⟨VZ h Um (hm id (by simp)) I3 hv,?_⟩⟩
    ·intro i hi;simp at hi;subst hi;exact⟨f,c,I3⟩
    ·rcases hv with⟨_,_,_,_,rfl⟩|⟨_,_,_,_,_,rfl,_⟩<;>rfl
  ·obtain⟨z,n,c,hk,hp⟩:=Et hk;refine⟨_,[],hk,trivial,?_,by simp,fun fz _ Um v Uw=>?_⟩
   ·rcases hp with rfl|⟨rfl,_⟩<;>trivial
   ·have ht:=Rn hp Uw;refine⟨Ar.zf (ht.step (B2.refl _ _) (fun b _ hb=>hb.imp Mx id)),?_⟩
    cases ht<;>rfl
 |int k=>exact tree (.int k) hk
 |bool=>exact tree .bool hk
 |str=>exact tree .str hk
 |any=>exact tree .any hk
theorem M0 (h:Ci N w0 X0 Y β s a w):∀{ts:List CT}{ps:List PV}{K:List PV->List Nat->Option R},Kd (Hm s.hp) ts ps K=some r ->
  ∃cs m,K cs m=some r∧cs.length=ts.length∧ps.length=ts.length∧(∀c∈cs,Rb c)∧(∀p∈ps,BV p)∧(∀id∈m,∃f cc,s.hp id=some (.ar f cc)) ∧
   ∀fz:List Nat,(∀id∈m,id∈fz)->(∀id∈fz,∃f cc,s.hp id=some (.ar f cc))->∀vs,Bb (Bu w (Cs s.hp β Y) β) ps vs->Bb (Ar w (Cs (Af s.hp fz) β Y)) cs vs∧∀v∈vs,v.oneCell'=true
 |[],[],K,hk=>⟨[],[],hk,rfl,rfl,by simp,by simp,by simp,fun fz _ _ vs hv=>by
   cases vs with
   |nil=>exact⟨trivial,by simp⟩
   |cons v vs=>exact hv.elim⟩
 |[],_::_,K,hk=>by cases hk
 |_::_,[],K,hk=>by cases hk
 |t::ts,p::ps,K,hk=>by
  unfold Kd at hk;obtain⟨c,m,hk,hT,hF,hm,hv⟩:=Yj h hk;obtain⟨cs,ms,hk,hl,H1,hTs,hFs,Zx,Ob⟩:=M0 h hk;refine⟨c::cs,m++ms,hk,by simp[hl],by simp[H1],?_,?_,?_,fun fz hfm Um vs h2=>?_⟩
  ·intro x hx;rcases List.mem_cons.1 hx with rfl|hx
   ·exact hT
   ·exact hTs x hx
  ·intro x hx;rcases List.mem_cons.1 hx with rfl|hx
   ·exact hF
   ·exact hFs x hx
  ·intro x hx;rcases List.mem_append.1 hx with hx|hx
   ·exact hm x hx
   ·exact Zx x hx
  ·cases vs with
   |nil=>exact h2.elim
   |cons v vs=>
    obtain⟨h3,h4⟩:=hv fz (fun i hi=>hfm i (by simp[hi])) Um v h2.1
    obtain⟨h5,h6⟩:=Ob fz (fun i hi=>hfm i (by simp[hi])) Um vs h2.2
    refine⟨⟨h3,h5⟩,?_⟩;intro x hx;rcases List.mem_cons.1 hx with rfl|hx
    ·exact h4
    ·exact h6 x hx
theorem XI {R':PV->Value->Prop}{cs:List PV}{z:Array Value}(h:Bb R' cs z.toList)(n:Nat):Bb R' (Nh n cs) (madeCells z (n*cs.length)).toList:=by
 have hzl:z.size=cs.length:=by have:=h.len;simp at this;exact this.symm
 refine Bb.of_at ?_ fun j c v hc hv=>?_
 ·rw[LK];simp[size_madeCells]
 ·obtain⟨h1,h2⟩:=Tj hc
  have B4:j % cs.length<cs.length:=by
   rcases Nat.lt_or_ge (j % cs.length) cs.length with h|h
   ·exact h
   ·rw[List.getElem?_eq_none h] at h2;cases h2
  obtain⟨u,hu,hcu⟩:=h.get h2;have:(madeCells z (n*cs.length))[j]?=some u:=KK h1 (by rw[hzl];simpa using hu)
  have Lj:(madeCells z (n*cs.length))[j]?=some v:=by simpa using hv
  rw[this] at Lj;cases Lj;exact hcu
theorem DX {A':Nat->Prop}:∀{ps cs:List PV}{vs:List Value},Bb (Bu w (Cs s.hp β Y) β) ps vs->Bb (Ar w A') cs vs->Bb (Ar w A') (MV true ps cs) vs
 |[],_,_,_,h=>h
 |_::_,[],_,_,h=>h
 |p::ps,c::cs,[],_,h=>h.elim
 |p::ps,c::cs,v::vs,hp,h=>by
  refine⟨?_,DX hp.2 h.2⟩;split
  ·have h1:Ar w (Cs s.hp β Y) (.lst true _ 0 []) v:=hp.1;cases h1;exact .lnil true _
  ·exact h.1
theorem Uf (h:Ci N w0 X0 Y β s a w){nz:Bool}{t:TypeId}{n:Nat}{ps:Array (Nat × Operand)} (ho:o.op=.buildSlice t n ps){d:Nat}{K:PV->List Nat->List (Nat × Bk)->Option R}
  (hk:(match P.underlying t with
   |some (.slice e)=>Bi (Mf P t&&Nat.ble (n*A7 P e) 16777216) (Fy P e fun z=>Ps (Nf P t) (ps.toList.map fun q=>(q.1,Bv s.tm q.2)) (Nh n z) fun cs=>
     Kd (Hm s.hp) (List.replicate n (Gr P e)).flatten cs fun cs' m=>K (.view d (A7 P e) 0 n) m [(d,.ar false (bif nz then MV true cs cs' else cs'))])
   |_=>none)=some r):∃v fz nw,K v fz nw=some r∧Dt P a w o Y β s v fz nw:=by
 split at hk
 ·rename_i e hu;obtain⟨hb,hk⟩:=Aj hk;simp only[Bool.and_eq_true] at hb;have Wv:n*A7 P e<=16777216:=Nat.le_of_ble_eq_true hb.2;have Lp:(P.info? e).isSome=true:=by have:=hb.1;unfold Mf at this;rw[hu] at this;exact this
  obtain⟨z,cs,hk,hz,hct,hl,K1,hc⟩:=Ln hk;obtain⟨hzr,Zt⟩:=NR (w:=w) (A:=Cs s.hp β Y) (β:=β) hl hc hz;have Avg:=XI hzr n
  obtain⟨pc',vc',hk,hf,h2,H1,hr'⟩:=Z0 h hk Avg (fun c NF id Bf=>by
   obtain⟨j,hj⟩:=List.mem_iff_getElem?.1 NF;obtain⟨_,hg⟩:=Tj hj;rw[Zt c (List.mem_of_getElem? hg)] at Bf;cases Bf)
  obtain⟨qs,m,hk,hql,Sd,hqT,_,hm,hqv⟩:=M0 h hk;obtain⟨h3,h3'⟩:=hqv m (fun _ hi=>hi) hm _ h2
  have h3:Bb (Ar w (Cs (Af s.hp m) β Y)) (bif nz then MV true pc' qs else qs) vc'.toList:=by
   cases nz
   ·exact h3
   ·exact DX h2 h3
  have UW:Instr.fill (fun i=>some (i*A7 P e,A7 P e)) (madeCells z.cells (n*cs.length)) (ps.toList.map fun q=>(q.1,a.eval q.2))=some vc':=by
   rw[←hf];refine Ri (fun i=>?_) _ _
   simp[Nf,hu]
  have hvl:vc'.size=n*A7 P e:=by
   have h4:=h2.len;rw[H1,LK] at h4;simp at h4;rw[←h4,K1]
  have Cg:(execOp a.eval o).run P w=.ok (.value (.slice (some ⟨w.heap.size,0,none⟩) n n)) (w.alloc (.cells vc' e)):=by
   unfold execOp;rw[ho];have Aos:¬(n*A7 P e>2 ^ 24):=by omega
   rw[K1] at UW;by_cases Uc:n*A7 P e=0
   ·simp only[Instr.buildSlice,Sem.run_bind,run_underlying hu,Result.andThen_ok,Cj Lp,if_neg Aos,Uc];rw[Uc] at UW;have e0:madeCells z.cells 0=(Array.range 0).map (fun _=>default):=by simp[madeCells]
    rw[e0] at UW;simp[UW,newRow]
   ·simp only[Instr.buildSlice,Sem.run_bind,run_underlying hu,Result.andThen_ok,Cj Lp,if_neg Aos,if_neg Uc,Q9 hz];unfold madeCells at UW;simp[UW,newRow]
  refine⟨_,_,_,hk,Mm (c:=vc') (e:=e) hm Cg (Fe.alloc w vc' e) (fun j p hj=>?_) (.inr ⟨A7 P e,n,n,rfl,rfl,Nat.le_refl _,by rw[hvl];exact Nat.le_refl _,.inr (H6 w vc' e)⟩)⟩
  obtain⟨u,Hc,hp⟩:=h3.get hj;exact⟨u,by simpa using Hc,h3' u (List.mem_of_getElem? Hc),hp⟩
 ·cases hk
theorem HQ (h:Ci N w0 X0 Y β s a w){t:TypeId}{x k:Operand}{ok:Bool}(ho:o.op=.lookup t x k ok){K:PV->Option R}
  (hk:(match P.underlying t with
   |some (.map kt vt)=>Bi (match P.underlying kt with|some .string=>true|_=>false) (
    match Bv s.tm x with
    |.sc (.map none)=>Az (Bv s.tm k) fun _=>Dk (L2 P vt) fun z=>cvK P vt z fun v=>Bi (match v with | .tup _=>false|_=>true) (K (bif ok then .tup [v,.sc (.bool false)] else v))
    |_=>none)
   |_=>none)=some r):∃v,K v=some r∧Dt P a w o Y β s v [] []:=by
 split at hk
 ·rename_i kt vt hu;obtain⟨hkt,hk⟩:=Aj hk
  have hkt:P.underlying kt=some .string:=by
   split at hkt
   ·assumption
   ·cases hkt
  split at hk
  ·rename_i hx;obtain⟨b,hkk,hk⟩:=C5 hk;obtain⟨z,hz,hk⟩:=B3 hk;obtain⟨v,hk,hr,hv⟩:=SJ hk;obtain⟨PL,hk⟩:=Aj hk
   have PL:∀cs,v ≠ .tup cs:=by
    rintro cs rfl
    cases PL
   have hzr:∀w:World,(zeroValue vt).run P w=.ok z w:=by
    intro w;unfold L2 at hz;cases hi:P.info? vt with
    |none=>rw[hi] at hz;cases hz
    |some i=>
     rw[hi] at hz;simp[zeroValue,typeInfo,hi,show i.zero=some z from hz]
   have Cg:(execOp a.eval o).run P w=.ok (.value (if ok then .tuple #[z,.bool false] else z)) w:=by
    unfold execOp;rw[ho];have hck:∀c (n:Nat),(Instr.checkKey c (n+1) kt (.string b)).run P w=.ok () w:=fun c n=>by simp[Instr.checkKey,run_underlying hkt]
    have BD:∀c,(Instr.checkKey c 10000 kt (.string b)).run P w=.ok () w:=fun c=>hck c 9999
    cases ok<;>simp[Instr.lookup,run_underlying hu,B0 h hx,B0 h hkk,BD,Instr.findKey,Instr.findNow,run_underlying hkt,hzr]
   refine⟨_,hk,Bx Cg ?_ ?_⟩
   ·cases ok
    ·exact hv _ _ _
    ·refine⟨[z,.bool false],rfl,(Lg PL).1 (hv _ _ _),?_,trivial⟩;exact Ar.sc _
   ·cases ok
    ·intro id Bf;simp only[cond_false] at Bf;rw[hr] at Bf;cases Bf
    ·intro id Bf;have:Bo (.tup [v,.sc (.bool false)])=B6 v++[]:=by simp[Bo,B6,Am]
     simp only[cond_true] at Bf;rw[this,List.append_nil] at Bf;have e:B6 v=Bo v:=by cases v<;>first|rfl|exact absurd rfl (PL _)
     rw[e,hr] at Bf;cases Bf
  ·cases hk
 ·cases hk
end
end
end Go.Proofs.YtodnjibebeghjaaDoor.Pv
