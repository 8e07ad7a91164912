/-
  The proof of AccountPlays, part 1.
-/
import Derived.Orders
import Derived.LoopN
import Derived.Below
import Derived.Laws.Cover4
import Derived.Lib.ValidU
import Derived.Lib.Bytealg
import Derived.IntWalk
import Derived.WalkKit
import Derived.WalkLawsBesides
import Derived.Laws.IdiomStrings
import Derived.Laws.MakeOwn
import Derived.Laws.Tables
set_option linter.unusedSimpArgs false
set_option linter.unusedVariables false
namespace Go.Proofs.Ytcgfahlefkfghaa.Pv
section
inductive PV where
 |sc (v:Value)
 |lst (z:Bool) (es n:Nat) (cells:List PV)
 |own (es n:Nat) (cells:List PV)
 |view (id es off n:Nat)
 |ptr (id off:Nat)
 |iptr (cells:List PV) (off:Nat)
 |pbox (cells:List PV)
 |agg (cells:List PV)
 |tup (vs:List PV)
 |top
 |ub
inductive Bk where
 |st (cells:List PV)
 |ar (fz:Bool) (cells:List PV)
 |mv
structure St where
 tm:Nat->PV
 hp:Nat->Option Bk
structure A2 where
 vals:List PV
 outs:List (List PV)
structure Gt where
 shr:FuncId->Bool
 mvd:FuncId->Nat->Bool
 lnd:FuncId->Nat->Bool
 kz:FuncId->Bool
 ext:FuncId->Option (List PV->Option A2)
 nz:Nat->Bool
def Gt.core (C:Gt):Gt:={ C with ext:=fun _=>none }
def Cb {α:Type}(f:Nat->α)(i:Nat)(v:α):Nat->α:=fun j=>bif Nat.beq j i then v else f j
def rd (hp:Nat->Option Bk)(id:Nat):Option (List PV):=
 match hp id with
 |some (.st c)=>some c
 |some (.ar _ c)=>some c
 |_=>none
def I9 (hp:Nat->Option Bk)(id:Nat):Option (List PV):=
 match hp id with
 |some (.ar _ c)=>some c
 |_=>none
inductive CT where
 |int (k:IntKind)
 |bool
 |str
 |sl (es:Nat)
 |any
def A4 (P:Program)(t:TypeId):Nat:=((P.info? t).map (·.size)).getD 0
def Bv (P:Program)(t:TypeId):Bool:=
 match P.underlying t with
 |some (.struct _)=>true
 |some (.array _ _)=>true
 |_=>false
def Anc (P:Program):Nat->TypeId->List CT
 |0,_=>[]
 |d+1,t=>
  match P.underlying t with
  |some (.int k)=>[.int k]
  |some .bool=>[.bool]
  |some .string=>[.str]
  |some (.slice e)=>[.sl (A4 P e)]
  |some (.struct fs)=>fs.toList.flatMap fun f=>Anc P d f.type
  |some (.array n e)=>(List.replicate n (Anc P d e)).flatten
  |_=>[.any]
abbrev Hq (P:Program)(t:TypeId):List CT:=Anc P 9 t
def Il (P:Program)(t:TypeId):Bool:=(P.underlying t).isSome&&Nat.beq (Hq P t).length (A4 P t)
abbrev Abi (k:IntKind)(a b:Int):Int:=k.wrap (BitVec.ofInt k.bits a &&& BitVec.ofInt k.bits b).toNat
abbrev BH (k:IntKind)(a b:Int):Int:=k.wrap (BitVec.ofInt k.bits a ||| BitVec.ofInt k.bits b).toNat
abbrev Dv (k:IntKind)(a b:Int):Int:=k.wrap (BitVec.ofInt k.bits a ^^^ BitVec.ofInt k.bits b).toNat
abbrev Aj8 (k:IntKind)(a b:Int):Int:=k.wrap (BitVec.ofInt k.bits a &&& ~~~BitVec.ofInt k.bits b).toNat
abbrev Jv (k:IntKind)(a b:Int):Int:=k.wrap (a*2 ^ (min b.toNat k.bits))
abbrev GN (k:IntKind)(a b:Int):Int:=a.fdiv (2 ^ (min b.toNat k.bits))
abbrev Awj (k:IntKind)(n:Int):Int:=k.wrap (BitVec.ofInt k.bits (if k.signed then -1 else k.max) ^^^ BitVec.ofInt k.bits n).toNat
section
variable {R:Type}
def Ae (k:IntKind)(p:PV)(K:Int->Option R):Option R:=
 match p with
 |.sc (.int k' n)=>if k'=k then K n else none
 |_=>none
def Av (p:PV)(K:Bool->Option R):Option R:=
 match p with
 |.sc (.bool b)=>K b
 |_=>none
def E2 (p:PV)(K:ByteArray->Option R):Option R:=
 match p with
 |.sc (.string s)=>K s
 |_=>none
def Ca (es:Nat)(p:PV)(K:Bool->Nat->List PV->Option R):Option R:=
 match p with
 |.lst z es' n c=>bif Nat.beq es' es then K z n c else none
 |.sc (.slice none 0 0)=>K true 0 []
 |_=>none
def fsK (es:Nat)(p:PV)(K:PV->Option R):Option R:=
 match p with
 |.view id es' off n=>bif Nat.beq es' es then K (.view id es off n) else none
 |p=>Ca es p fun z n c=>K (.lst z es n c)
def Kc (es:Nat)(p:PV)(K:Nat->List PV->Option R):Option R:=
 match p with
 |.own es' n c=>bif Nat.beq es' es then K n c else none
 |_=>none
def An (b:Bool)(K:Option R):Option R:=bif b then K else none
abbrev Ab {α:Type}(x:α)(K:α->Option R):Option R:=K x
def QS (b:Bool)(x y:Option R):Option R:=bif b then x else y
abbrev Bp3 (x:Nat)(K:Nat->Option R):Option R:=K x
def Alk (x:List (List Nat)) (K:List (List Nat)->Option R):Option R:=K x
def Bd (b:Bool)(x y:Option R):Option R:=bif b then x else y
def Dm {α:Type}(o:Option α)(K:α->Option R):Option R:=
 match o with
 |some a=>K a
 |none=>none
def Aa {α:Type}(l:List α)(K:α->List α->Option R):Option R:=
 match l with
 |a::r=>K a r
 |[]=>none
def Ac {α:Type}(l:List α)(K:Option R):Option R:=
 match l with
 |[]=>K
 |_::_=>none
def Gd (p:PV)(K:List PV->Option R):Option R:=
 match p with
 |.agg c=>K c
 |_=>none
def Uo (p:PV)(K:List PV->Option R):Option R:=
 match p with
 |.pbox c=>K c
 |_=>none
def Af (r:Option A2)(K:List PV->List (List PV)->Option R):Option R:=
 match r with
 |some ⟨v,o⟩=>K v o
 |none=>none
def YX (p:PV)(K:Value->Option R):Option R:=
 match p with
 |.sc (.func f a b)=>K (.func f a b)
 |.sc (.map none)=>K (.map none)
 |_=>none
def fvK (p:PV)(K:FuncId->Option R):Option R:=
 match p with
 |.sc (.func (.func f) a b)=>bif a.isEmpty&&b.isEmpty then K f else none
 |_=>none
def Zb (t:CT)(p:PV)(K:PV->Option R):Option R:=
 match t with
 |.int k=>Ae k p fun n=>K (.sc (.int k n))
 |.bool=>Av p fun b=>K (.sc (.bool b))
 |.str=>E2 p fun s=>K (.sc (.string s))
 |.sl es=>Ca es p fun z n c=>K (.lst z es n c)
 |.any=>YX p fun v=>K (.sc v)
def fcK (t:CT)(p:PV)(K:PV->Option R):Option R:=
 match t with
 |.sl es=>fsK es p K
 |t=>Zb t p K
def R2:List CT->List PV->Nat->(List PV->Option R)->Option R
 |[],_,_,K=>K []
 |t::ts,cells,off,K=>Zb t (cells.getD off .top) fun c=>R2 ts cells (off+1) fun r=>K (c::r)
def Nq:List CT->List PV->Nat->(List PV->Option R)->Option R
 |[],_,_,K=>K []
 |t::ts,cells,off,K=>fcK t (cells.getD off .top) fun c=>Nq ts cells (off+1) fun r=>K (c::r)
def WD (agg:Bool)(cells:List PV)(K:PV->Option R):Option R:=
 bif agg then K (.agg cells) else Aa cells fun c r=>Ac r (K c)
def cellsOf:PV->List PV
 |.agg c=>c
 |p=>[p]
def cvK (P:Program)(t:TypeId)(v:Value)(K:PV->Option R):Option R:=
 match v with
 |.agg cs=>An (Nat.beq cs.toList.length (Hq P t).length) (R2 (Hq P t) (cs.toList.map .sc) 0 fun c=>K (.agg c))
 |.slice none 0 0=>
  match P.underlying t with
  |some (.slice e)=>K (.lst true (A4 P e) 0 [])
  |_=>none
 |v=>K (.sc v)
end
def Bu (tm:Nat->PV):Operand->PV
 |.tmp t=>tm t
 |.const (.agg cs)=>.agg (cs.toList.map .sc)
 |.const v=>.sc v
 |.func f=>.sc (.func (.func f) #[] #[])
 |.global g=>.sc (.pointer (some ⟨g,0,none⟩))
section
variable {R:Type}
def C8 (p:PV)(K:IntKind->Int->Option R):Option R:=
 match p with
 |.sc (.int k n)=>K k n
 |_=>none
def QI (rdf:Nat->Option (List PV)) (es:Nat)(p:PV)(K:Nat->List PV->Option R):Option R:=
 match p with
 |.view id es' off n=>bif Nat.beq es' es then Dm (rdf id) fun c=>An (decide (off+n*es<=c.length)) (K n ((c.drop off).take (n*es))) else none
 |p=>Ca es p fun _ n c=>K n c
def Ns (rdf:Nat->Option (List PV)) (t:CT)(p:PV)(K:PV->List Nat->Option R):Option R:=
 match t with
 |.sl es=>
  match p with
  |.view id es' off n=>bif Nat.beq es' es then Dm (rdf id) fun c=>An (decide (off+n*es<=c.length)) (K (.lst false es n ((c.drop off).take (n*es))) [id]) else none
  |p=>Ca es p fun _ n c=>K (.lst false es n c) []
 |t=>Zb t p fun c=>K c []
def Nh (rdf:Nat->Option (List PV)):List CT->List PV->(List PV->List Nat->Option R)->Option R
 |[],[],K=>K [] []
 |t::ts,p::ps,K=>Ns rdf t p fun c m=>Nh rdf ts ps fun cs ms=>K (c::cs) (m++ms)
 |_,_,_=>none
def RJ (k:Bool):List PV->List PV->List PV
  |p::ps,c::cs=>
    (match k,p with
     |true,.lst true es 0 []=>.lst true es 0 []
     |_,_=>c)::RJ k ps cs
  |_,cs=>cs
def SH (P:Program)(rdf:Nat->Option (List PV)) (t:TypeId)(p:PV)(K:PV->List Nat->Option R):Option R:=
 bif Bv P t then Gd p fun ps=>Nh rdf (Hq P t) ps fun cs m=>K (.agg cs) m
 else Nh rdf (Hq P t) [p] fun cs m=>Aa cs fun c r=>Ac r (K c m)
def DO (P:Program)(rdf:Nat->Option (List PV)):List TypeId->List PV->(List PV->List Nat->Option R)->Option R
 |[],[],K=>K [] []
 |t::ts,p::ps,K=>SH P rdf t p fun v m=>DO P rdf ts ps fun vs ms=>K (v::vs) (m++ms)
 |_,_,_=>none
def Aes (shr:Bool)(id:Nat)(t:CT)(p:PV)(K:PV->List (Nat × Bk)->Option R):Option R:=
 match t with
 |.sl es=>bif shr then Ca es p fun _ n c=>K (.lst false es n c) [] else Kc es p fun n c=>K (.view id es 0 n) [(id,.ar false c)]
 |t=>Zb t p fun c=>K c []
def P2 (shr:Bool)(N:Nat):Nat->List CT->List PV->(List PV->List (Nat × Bk)->Option R)->Option R
 |_,[],ps,K=>Ac ps (K [] [])
 |id,t::ts,ps,K=>Aa ps fun p ps=>Aes shr id t p fun c b=>P2 shr N (id+N) ts ps fun cs bs=>K (c::cs) (b++bs)
def Xi (P:Program)(t:TypeId):Option TypeId:=
 match P.underlying t with
 |some (.pointer e)=>some e
 |_=>none
def RK (P:Program)(t:TypeId):Nat:=
 match Xi P t with
 |some e=>1+(Hq P e).length
 |none=>(Hq P t).length
def ZW (P:Program)(shr:Bool)(N:Nat)(id:Nat)(t:TypeId)(p:PV)(K:PV->List (Nat × Bk)->Option R):Option R:=
 match Xi P t with
 |some e=>Uo p fun ps=>P2 shr N (id+N) (Hq P e) ps fun cs bs=>K (.ptr id 0) ((id,.st cs)::bs)
 |none=>
 bif Bv P t then Gd p fun ps=>P2 shr N id (Hq P t) ps fun cs bs=>K (.agg cs) bs
 else P2 shr N id (Hq P t) [p] fun cs bs=>Aa cs fun c r=>Ac r (K c bs)
def Zu (P:Program)(shr:Bool)(N:Nat):Nat->List TypeId->List PV->(List PV->List (Nat × Bk)->Option R)->Option R
 |_,[],ps,K=>Ac ps (K [] [])
 |id,t::ts,ps,K=>Aa ps fun p ps=>ZW P shr N id t p fun v bs=>Zu P shr N (id+N*RK P t) ts ps fun vs bs'=>K (v::vs) (bs++bs')
def M4 (P:Program)(t:TypeId):List TypeId:=
 match P.underlying t with
 |some (.tuple ts)=>ts.toList
 |_=>[t]
def Nf (vs:List PV)(t:Bool):PV:=bif t then .tup vs else vs.headD .top
def Nw (P:Program)(t:TypeId):Bool:=
 match P.underlying t with
 |some (.tuple _)=>true
 |_=>false
def Ain (op:BinOp)(a b:Int)(K:Bool->Option R):Option R:=
 match op with
 |.eql=>K (a==b)
 |.neq=>K (a != b)
 |.lss=>K (decide (a<b))
 |.leq=>K (decide (a<=b))
 |.gtr=>K (decide (a>b))
 |.geq=>K (decide (a>=b))
 |_=>none
def DX (op:BinOp)(k:IntKind)(a b:Int)(K:PV->Option R):Option R:=
 match op with
 |.add=>Ab ((k.wrap (a+b))) fun n=>K (.sc (.int k n))
 |.sub=>Ab ((k.wrap (a-b))) fun n=>K (.sc (.int k n))
 |.mul=>Ab ((k.wrap (a*b))) fun n=>K (.sc (.int k n))
 |.quo=>An (decide (b≠0)) (Ab ((k.wrap (a.tdiv b))) fun n=>K (.sc (.int k n)))
 |.rem=>An (decide (b≠0)) (Ab ((a.tmod b)) fun n=>K (.sc (.int k n)))
 |.and=>Ab (Abi k a b) fun n=>K (.sc (.int k n))
 |.or=>Ab (BH k a b) fun n=>K (.sc (.int k n))
 |.xor=>Ab (Dv k a b) fun n=>K (.sc (.int k n))
 |.andNot=>Ab (Aj8 k a b) fun n=>K (.sc (.int k n))
 |op=>Ain op a b fun r=>K (.sc (.bool r))
def CG (op:BinOp)(x y:ByteArray)(K:PV->Option R):Option R:=
 match op with
 |.add=>An (decide (x.size+y.size<=9223372036854775807)) (Ab (x++y) fun s=>K (.sc (.string s)))
 |.eql=>K (.sc (.bool (x.data.toList==y.data.toList)))
 |.neq=>K (.sc (.bool !(x.data.toList==y.data.toList)))
 |.lss=>K (.sc (.bool (Op.bytesLess x.data.toList y.data.toList)))
 |.leq=>K (.sc (.bool (Op.bytesLess x.data.toList y.data.toList||x.data.toList==y.data.toList)))
 |.gtr=>K (.sc (.bool !(Op.bytesLess x.data.toList y.data.toList||x.data.toList==y.data.toList)))
 |.geq=>K (.sc (.bool !(Op.bytesLess x.data.toList y.data.toList)))
 |_=>none
def CL (e:Bool)(p:PV)(K:PV->Option R):Option R:=
 match p with
 |.sc (.slice none 0 0)=>K (.sc (.bool e))
 |.lst z _ n _=>Bd z (K (.sc (.bool e))) (Bd (decide (0<n)) (K (.sc (.bool !e))) (K .ub))
 |.view _ _ _ n=>Bd (decide (0<n)) (K (.sc (.bool !e))) (K .ub)
 |_=>none
def OP (P:Program):List Field->Nat->Bool
 |[],_=>true
 |f::r,i=>Nat.beq f.offset i&&(f.name != "_")&&(match P.underlying f.type with|some (.int _)=>true|some .bool=>true|some .string=>true|_=>false)&&OP P r (i+1)
def M2 (P:Program):List Field->Nat->Bool
  |[],_=>true
  |f::r,i=>Nat.beq f.offset i&&(f.name != "_") &&
    (match P.underlying f.type with
     |some (.int _)=>M2 P r (i+1)
     |some .bool=>M2 P r (i+1)
     |some .string=>M2 P r (i+1)
     |some (.struct gs)=>OP P gs.toList 0 && !P.stoodInHeld f.type&&(P.info? f.type).isSome&&Nat.beq (A4 P f.type) gs.size&&M2 P r (i+gs.size)
     |_=>false)
def KY (P:Program)(t:TypeId)(fs:Array Field):Bool:=M2 P fs.toList 0 && !P.stoodInHeld t && !P.eqGuardType P.depth t
def fty (P:Program)(f:Field):CT:=
 match P.underlying f.type with
 |some (.int k)=>.int k
 |some .bool=>.bool
 |some .string=>.str
 |_=>.any
def OI (P:Program)(f:Field):List CT:=
 match P.underlying f.type with
 |some (.struct gs)=>gs.toList.map (fty P)
 |_=>[fty P f]
def Ux (P:Program):List Field->List CT
 |[]=>[]
 |f::r=>OI P f++Ux P r
def Lc:List CT->List PV->List PV->(Bool->Option R)->Option R
 |[],[],[],K=>K true
 |.int k::ts,p::ps,q::qs,K=>Ae k p fun a=>Ae k q fun b=>Lc ts ps qs fun r=>K ((a==b)&&r)
 |.bool::ts,p::ps,q::qs,K=>Av p fun a=>Av q fun b=>Lc ts ps qs fun r=>K ((a==b)&&r)
 |.str::ts,p::ps,q::qs,K=>E2 p fun a=>E2 q fun b=>Lc ts ps qs fun r=>K ((a==b)&&r)
 |_,_,_,_=>none
def Acw (P:Program)(op:BinOp)(t:TypeId)(x y:PV)(K:PV->Option R):Option R:=
 match P.underlying t with
 |some (.int k)=>
  match op with
  |.shl=>Ae k x fun a=>C8 y fun _ b=>An (decide (0<=b)) (Ab (Jv k a b) fun n=>K (.sc (.int k n)))
  |.shr=>Ae k x fun a=>C8 y fun _ b=>An (decide (0<=b)) (Ab (GN k a b) fun n=>K (.sc (.int k n)))
  |op=>Ae k x fun a=>Ae k y fun b=>DX op k a b K
 |some .string=>E2 x fun a=>E2 y fun b=>CG op a b K
 |some .bool=>
  match op with
  |.eql=>Av x fun a=>Av y fun b=>K (.sc (.bool (a==b)))
  |.neq=>Av x fun a=>Av y fun b=>K (.sc (.bool !(a==b)))
  |_=>none
 |some (.slice _)=>
  match op,y with
  |.eql,.sc (.slice none 0 0)=>CL true x K
  |.neq,.sc (.slice none 0 0)=>CL false x K
  |_,_=>none
 |some (.map _ _)=>
  match op,x,y with
  |.eql,.sc (.map none),.sc (.map none)=>K (.sc (.bool true))
  |.neq,.sc (.map none),.sc (.map none)=>K (.sc (.bool false))
  |_,_,_=>none
 |_=>none
def Tg (P:Program)(op:BinOp)(t:TypeId)(x y:PV)(K:PV->Option R):Option R:=
 match P.underlying t with
 |some (.struct fs)=>
  match op with
  |.eql=>An (KY P t fs) (Gd x fun xs=>Gd y fun ys=>Lc (Ux P fs.toList) xs ys fun b=>K (.sc (.bool b)))
  |.neq=>An (KY P t fs) (Gd x fun xs=>Gd y fun ys=>Lc (Ux P fs.toList) xs ys fun b=>K (.sc (.bool !b)))
  |_=>none
 |_=>Acw P op t x y K
def unK (op:UnOp)(x:PV)(K:PV->Option R):Option R:=
 match op with
 |.not=>Av x fun b=>K (.sc (.bool !b))
 |.neg=>C8 x fun k n=>Ab (k.wrap (0-n)) fun n=>K (.sc (.int k n))
 |.xor=>C8 x fun k n=>Ab (Awj k n) fun n=>K (.sc (.int k n))
 |_=>none
def bytesOf:List PV->Option (List UInt8)
 |[]=>some []
 |.sc (.int .u8 n)::r=>(bytesOf r).map (n.toNat.toUInt8 :: ·)
 |_::_=>none
def Ti:List PV->Option (List Int)
 |[]=>some []
 |.sc (.int .i32 n)::r=>(Ti r).map (n :: ·)
 |_::_=>none
def Dx (s:ByteArray):List PV:=s.data.toList.map fun b=>.sc (.int .u8 b.toNat)
def DZ (P:Program)(rdf:Nat->Option (List PV)) (d:Nat)(src dst:TypeId)(x:PV)(K:PV->List (Nat × Bk)->Option R):Option R:=
 match P.underlying dst with
 |some (.int k)=>An (P.underlying src).isSome (C8 x fun _ n=>Ab (k.wrap n) fun n=>K (.sc (.int k n)) [])
 |some .string=>
  match P.underlying src with
  |some .string=>E2 x fun s=>K (.sc (.string s)) []
  |some (.slice e)=>
   match P.underlying e with
   |some (.int .u8)=>QI rdf 1 x fun n c=>An (decide (c.length=n)) (Dm (bytesOf c) fun b=>K (.sc (.string ⟨b.toArray⟩)) [])
   |some (.int .i32)=>QI rdf 1 x fun n c=>An (decide (c.length=n)) (Dm (Ti c) fun ns=>Ab (runesBytes ns) fun s=>K (.sc (.string s)) [])
   |_=>none
  |_=>none
 |some (.slice e)=>
  match P.underlying e,P.underlying src with
  |some (.int .u8),some .string=>E2 x fun s=>An (decide (s.size<=1099511627776)) (K (.view d 1 0 s.size) [(d,.ar false (Dx s))])
  |_,_=>none
 |_=>none
def Gf (p:Option PV)(dflt:Nat)(K:Nat->Option R):Option R:=
 match p with
 |none=>K dflt
 |some p=>C8 p fun _ i=>An (decide (0<=i)) (K i.toNat)
def Yf (P:Program)(rdf:Nat->Option (List PV)) (t:TypeId)(x:PV)(lo hi:Option PV)(K:PV->Option R):Option R:=
 match P.underlying t with
 |some .string=>E2 x fun s=>Gf lo 0 fun l=>Gf hi s.size fun h=>An (decide (l<=h)&&decide (h<=s.size)) (Ab (s.extract l h) fun s=>K (.sc (.string s)))
 |some (.slice e)=>An (P.info? e).isSome (
  match x with
  |.view id es off n=>An (Nat.beq es (A4 P e)) (Gf lo 0 fun l=>Gf hi n fun h=>An (decide (l<=h)&&decide (h<=n)) (Ab (off+l*es) fun o=>Ab (h-l) fun n=>K (.view id es o n)))
  |x=>Ca (A4 P e) x fun z n c=>Gf lo 0 fun l=>Gf hi n fun h=>An (decide (l<=h)&&decide (h<=n)) (Ab (h-l) fun n=>Ab ((c.drop (l*A4 P e)).take (n*A4 P e)) fun c=>K (.lst z (A4 P e) n c)))
 |some (.array n e)=>An (P.info? e).isSome (
  match x with
  |.ptr id off=>Dm (rdf id) fun c=>An (decide (1<=n*A4 P e)&&decide (off+n*A4 P e<=c.length)&&Nat.beq (A4 P e) 1)<|Gf lo 0 fun l=>Gf hi n fun h=>An (decide (l<=h)&&decide (h<=n)) (Ab (off+l*A4 P e) fun o=>Ab (h-l) fun n=>K (.view id (A4 P e) o n))
  |_=>none)
 |_=>none
def Tx (P:Program)(d:Nat)(t:TypeId)(x:PV)(lo hi mx:Option PV)(K:PV->List (Nat × Bk)->Option R):Option R:=
 match P.underlying t with
 |some (.slice e)=>An ((P.info? e).isSome&&hi.isSome) (
  match x with
  |.view _ es _ n=>An (Nat.beq es (A4 P e)) (Gf lo 0 fun l=>Gf hi n fun h=>Gf mx n fun m=>An (Nat.beq l m&&Nat.beq h m&&decide (m<=n)) (K (.view d (A4 P e) 0 0) [(d,.ar false [])]))
  |x=>Ca (A4 P e) x fun _ n _=>Gf lo 0 fun l=>Gf hi n fun h=>Gf mx n fun m=>An (Nat.beq l m&&Nat.beq h m&&decide (m<=n)) (K (.view d (A4 P e) 0 0) [(d,.ar false [])]))
 |_=>none
def Sl (x:PV)(d:Nat)(K:PV->Option R):Option R:=
 match x with
 |.ptr id off=>K (.ptr id (off+d))
 |.iptr c off=>K (.iptr c (off+d))
 |_=>none
def CQ (P:Program)(e:TypeId):Bool:=(P.info? e).isSome
def Px (P:Program)(t:TypeId)(f:Nat):Option (Nat × TypeId):=
 match P.underlying t with
 |some (.struct fs)=>(fs[f]?).map fun g=>(g.offset,g.type)
 |_=>none
def Kl (P:Program)(t:TypeId)(x:PV)(i:Int)(K:PV->Option R):Option R:=
 match P.underlying t with
 |some (.array n e)=>An (CQ P e) (An (decide (0<=i)&&decide (i<n)) (Sl x (i.toNat*A4 P e) K))
 |some (.slice e)=>An (CQ P e) (
  match x with
  |.view id es off n=>An (Nat.beq es (A4 P e)) (An (decide (0<=i)&&decide (i<n)) (K (.ptr id (off+i.toNat*es))))
  |x=>Ca (A4 P e) x fun _ n c=>An (decide (0<=i)&&decide (i<n)) (K (.iptr c (i.toNat*A4 P e))))
 |_=>none
def Vi (P:Program)(rdf:Nat->Option (List PV)) (t:TypeId)(x:PV)(K:PV->Option R):Option R:=
 match x with
 |.ptr id off=>An (Il P t) (Dm (rdf id) fun c=>Nq (Hq P t) c off fun cs=>WD (Bv P t) cs K)
 |.iptr c off=>An (Il P t) (R2 (Hq P t) c off fun cs=>WD (Bv P t) cs K)
 |_=>none
def MD:PV->PV
 |.lst _ es n c=>.lst false es n c
 |p=>p
def VD:PV->PV
 |.agg cs=>.agg (cs.map MD)
 |p=>MD p
def Ww (nz:Bool)(P:Program)(rdf rdaf:Nat->Option (List PV)) (t:TypeId)(x:PV)(K:PV->Option R):Option R:=
 match x with
 |.ptr id off=>An (Il P t) (
  match rdaf id with
  |some c=>R2 (Hq P t) c off fun cs=>WD (Bv P t) cs fun v=>K (bif nz then v else VD v)
  |none=>Dm (rdf id) fun c=>Nq (Hq P t) c off fun cs=>WD (Bv P t) cs K)
 |.iptr c off=>An (Il P t) (R2 (Hq P t) c off fun cs=>WD (Bv P t) cs fun v=>K (bif nz then v else VD v))
 |_=>none
def Bl (cells new:List PV)(off:Nat):List PV:=cells.take off++new++cells.drop (off+new.length)
def okP:PV->Bool
 |.agg _=>true
 |.lst _ _ _ _=>true
 |.view _ _ _ _=>true
 |.sc (.int _ _)=>true
 |.sc (.bool _)=>true
 |.sc (.string _)=>true
 |.sc (.slice none 0 0)=>true
 |_=>false
def Sy (F5:Nat->Option (Nat × Nat)):List (Nat × PV)->List PV->(List PV->Option R)->Option R
 |[],cells,K=>K cells
 |(i,p)::r,cells,K=>Dm (F5 i) fun q=>An (okP p&&Nat.beq (cellsOf p).length q.2&&Nat.ble (q.1+q.2) cells.length) (Ab (Bl cells (cellsOf p) q.1) fun cells=>Sy F5 r cells K)
def Q0 (P:Program)(t:TypeId)(i:Nat):Option (Nat × Nat):=
 match P.underlying t with
 |some (.struct fs)=>(fs[i]?).map fun f=>(f.offset,A4 P f.type)
 |some (.array _ e)=>some (i*A4 P e,A4 P e)
 |some (.slice e)=>some (i*A4 P e,A4 P e)
 |_=>none
def Qc (P:Program)(t:TypeId):Bool:=
 match P.underlying t with
 |some (.struct fs)=>fs.toList.all fun f=>CQ P f.type
 |some (.array _ e)=>CQ P e
 |some (.slice e)=>CQ P e
 |_=>false
def Ow (P:Program)(t:TypeId):Option Value:=(P.info? t).bind (·.zero)
def Gr (P:Program)(t:TypeId)(K:List PV->Option R):Option R:=
 Dm (Ow P t) fun v=>An (Nat.beq v.cells.toList.length (Hq P t).length&&Il P t) (R2 (Hq P t) (v.cells.toList.map .sc) 0 K)
def Q7 (P:Program)(t:TypeId):Bool:=
 match P.underlying t with
 |some (.array _ _)=>true
 |_=>false
def Af9 (P:Program)(t:TypeId)(cells:List PV):Bk:=bif Q7 P t then .ar false cells else .st cells
def repl (n:Nat)(l:List PV):List PV:=(List.replicate n l).flatten
def Ahu (a b:PV)(K:PV->Option R):Option R:=C8 a fun k x=>Ae k b fun y=>Ab (if y<x then y else x) fun n=>K (.sc (.int k n))
def Aj0 (a b:PV)(K:PV->Option R):Option R:=C8 a fun k x=>Ae k b fun y=>Ab (if x<y then y else x) fun n=>K (.sc (.int k n))
def ZR (P:Program)(t:TypeId)(x:PV)(K:Nat->Option R):Option R:=
 match P.underlying t with
 |some .string=>E2 x fun s=>K s.size
 |some (.array n _)=>K n
 |some (.slice e)=>
  match x with
  |.view _ es _ n=>An (Nat.beq es (A4 P e)) (K n)
  |x=>Ca (A4 P e) x fun _ n _=>K n
 |_=>none
end
abbrev Ai:=FuncId->List PV->Option A2
section
variable {R:Type}
def Jc (P:Program)(ts:List TypeId):Bool:=ts.any fun t=>(Xi P t).isSome||(Hq P t).any fun c=>match c with | .sl _=>true|_=>false
def Y7 (P:Program)(t:TypeId)(tm:Nat->PV)(x:Operand)(K:PV->Option R):Option R:=
 match x with
 |.const v=>cvK P t v K
 |x=>K (Bu tm x)
def KI (P:Program)(e:TypeId):Bool:=
 match P.info? e with
 |some i=>(match i.zero with|some z=>Nat.beq z.cells.size i.size|none=>false)
 |none=>false
def SK (P:Program)(rdaf:Nat->Option (List PV)) (es:Nat)(t:TypeId)(x:PV)(K:Nat->List PV->Option R):Option R:=
 match P.underlying t with
 |some .string=>An (Nat.beq es 1) (E2 x fun b=>K b.size (Dx b))
 |some (.slice _)=>QI rdaf es x K
 |_=>none
abbrev TT (P:Program)(s:St)(es:Nat)(t:TypeId)(x:PV)(K:Nat->List PV->Option R):Option R:=SK P (I9 s.hp) es t x K
def Wc (c:Call):Bool:=
 match c.args.toList with
 |.const (.slice none 0 0)::_=>true
 |_=>false
def Tp (P:Program)(rdaf:Nat->Option (List PV)) (d:Nat)(t tx:TypeId)(x:PV)(K:PV->List (Nat × Bk)->Option R):Option R:=
 match P.underlying t with
 |some (.slice e)=>An (KI P e) <|
  SK P rdaf (A4 P e) tx x fun m new=>
   An (decide (new.length=m*A4 P e)&&decide (m*((P.info? e).map (·.bytes)).getD 0<=1099511627776)&&decide (m<=1099511627776)) (K (.view d (A4 P e) 0 m) [(d,.ar false new)])
 |_=>none
def I8 (k:Bool):List Operand->List PV->List PV
  |x::xs,p::ps=>
    (match x,p with
     |.const (.slice none 0 0),.lst z es 0 []=>.lst (k||z) es 0 []
     |_,p=>p)::I8 k xs ps
  |_,ps=>ps
def ZL (P:Program)(t:TypeId)(x:PV)(K:Nat->Option R):Option R:=
 match P.underlying t with
 |some (.slice e)=>Ca (A4 P e) x fun z _ _=>An z (K 0)
 |_=>none
def EE (P:Program)(f:FuncId)(c:Call):List TypeId:=
 match P.funcs[f]? with
 |some fn=>fn.params.toList
 |none=>c.argTypes.toList
def FG (C:Gt)(P:Program)(N:Nat)(call:Ai)(tm:Nat->PV)(rdaf:Nat->Option (List PV)) (o:Oper)(c:Call)(f:FuncId)(K:PV->List Nat->List (Nat × Bk)->Option R):Option R:=
 DO P rdaf (EE P f c) (c.args.toList.map (Bu tm)) fun vs m=>
  Af (call f (I8 (C.kz f) c.args.toList vs)) fun rv ro=>Ac ro (An (Nat.blt 0 N)<|Zu P (C.shr f) N (o.dst.getD 0) (M4 P o.type) rv fun ws bs=>
   An (bif Nw P o.type then !Nat.beq ws.length 1 else Nat.beq ws.length 1)<|K (Nf ws (Nw P o.type)) (bif Jc P (M4 P o.type) then m else []) bs)
def ED (C:Gt)(P:Program)(N:Nat)(call:Ai)(tm:Nat->PV)(rdf rdaf:Nat->Option (List PV)) (o:Oper)(K:PV->List Nat->List (Nat × Bk)->Option R):Option R:=
  match o.op with
  |.move x=>Y7 P o.type tm x fun p=>K p [] []
  |.assign x=>Y7 P o.type tm x fun p=>K p [] []
  |.pick c a b=>Av (Bu tm c) fun t=>Bd t (K (Bu tm a) [] []) (K (Bu tm b) [] [])
  |.alloc t=>Dm o.dst fun d=>Gr P t fun cs=>K (.ptr d 0) [] [(d,Af9 P t cs)]
  |.box t x=>Dm o.dst fun d=>An (Il P t&&Nat.beq (cellsOf (Bu tm x)).length (Hq P t).length)
      (bif Q7 P t then R2 (Hq P t) (cellsOf (Bu tm x)) 0 fun cs=>K (.ptr d 0) [] [(d,.ar false cs)]
       else Nq (Hq P t) (cellsOf (Bu tm x)) 0 fun cs=>K (.ptr d 0) [] [(d,.st cs)])
  |.build t ps=>An (Qc P t&&Bv P t)<|Gr P t fun z=>Sy (Q0 P t) (ps.toList.map fun q=>(q.1,Bu tm q.2)) z fun cs=>Nq (Hq P t) cs 0 fun cs'=>K (.agg cs') [] []
  |.buildSlice t n ps=>Dm o.dst fun d=>
      match P.underlying t with
      |some (.slice e)=>An (Qc P t&&Nat.ble (n*A4 P e) 16777216) (Gr P e fun z=>Sy (Q0 P t) (ps.toList.map fun q=>(q.1,Bu tm q.2)) (repl n z) fun cs=>
          Nh rdaf (List.replicate n (Hq P e)).flatten cs fun cs' m=>K (.view d (A4 P e) 0 n) m [(d,.ar false (bif C.nz N then RJ true cs cs' else cs'))])
      |_=>none
  |.load t a=>Ww (C.nz N) P rdf rdaf t (Bu tm a) fun v=>K v [] []
  |.nilCheck x=>Sl (Bu tm x) 0 fun p=>K p [] []
  |.binOp op t x y _=>
      Tg P op t (Bu tm x) (Bu tm y) fun v=>K v [] []
  |.unOp op _ x=>unK op (Bu tm x) fun v=>K v [] []
  |.convert src dst x=>DZ P rdaf (o.dst.getD 0) src dst (Bu tm x) fun v b=>Dm o.dst fun _=>K v [] b
  |.makeSlice t l c=>Dm o.dst fun d=>
      match P.underlying t with
      |some (.slice e)=>C8 (Bu tm l) fun _ n=>C8 (Bu tm c) fun _ m=>
          An (decide (0<=n)&&decide (n<=m)&&decide (m*((P.info? e).map (·.bytes)).getD 0<=1099511627776)&&decide (m<=1099511627776))
            (Gr P e fun z=>K (.view d (A4 P e) 0 n.toNat) [] [(d,.ar false (repl n.toNat z))])
      |_=>none
  |.slice t x lo hi mx=>
      match mx with
      |none=>Yf P rdf t (Bu tm x) (lo.map (Bu tm)) (hi.map (Bu tm)) fun v=>K v [] []
      |some m=>Dm o.dst fun d=>Tx P d t (Bu tm x) (lo.map (Bu tm)) (hi.map (Bu tm)) (some (Bu tm m)) fun v nw=>K v [] nw
  |.fieldAddr t x f=>Dm (Px P t f) fun q=>An (Nat.ble 1 (A4 P q.2)) (Sl (Bu tm x) q.1 fun p=>K p [] [])
  |.field t x f=>Dm (Px P t f) fun q=>An (Il P q.2)<|Gd (Bu tm x) fun cs=>Nq (Hq P q.2) cs q.1 fun c=>WD (Bv P q.2) c fun v=>K v [] []
  |.indexAddr t x i=>C8 (Bu tm i) fun _ n=>Kl P t (Bu tm x) n fun p=>K p [] []
  |.index t x i=>C8 (Bu tm i) fun _ n=>
      match P.underlying t with
      |some .string=>E2 (Bu tm x) fun s=>An (decide (0<=n)) (Dm (s.data.toList[n.toNat]?) fun b=>K (.sc (.int .u8 b.toNat)) [] [])
      |some (.array len e)=>Gd (Bu tm x) fun cs=>An (decide (0<=n)&&decide (n<len)&&Il P e) (Nq (Hq P e) cs (n.toNat*A4 P e) fun c=>WD (Bv P e) c fun v=>K v [] [])
      |_=>none
  |.lookup t x k ok=>
      match P.underlying t with
      |some (.map kt vt)=>An (match P.underlying kt with|some .string=>true|_=>false) (
        match Bu tm x with
        |.sc (.map none)=>E2 (Bu tm k) fun _=>Dm (Ow P vt) fun z=>cvK P vt z fun v=>An (match v with | .tup _=>false|_=>true) (K (bif ok then .tup [v,.sc (.bool false)] else v) [] [])
        |_=>none)
      |_=>none
  |.extract x i=>
      match Bu tm x with
      |.tup vs=>Dm vs[i]? fun p=>K p [] []
      |_=>none
  |.call c=>
      match c.callee with
      |.builtin .len=>Aa c.args.toList fun x _=>Aa c.argTypes.toList fun t _=>ZR P t (Bu tm x) fun n=>K (.sc (.int .i64 n)) [] []
      |.builtin .cap=>Aa c.args.toList fun x _=>Aa c.argTypes.toList fun t _=>ZL P t (Bu tm x) fun n=>K (.sc (.int .i64 n)) [] []
      |.builtin .min=>Aa c.args.toList fun x r=>Aa r fun y r'=>Ac r' (Ahu (Bu tm x) (Bu tm y) fun v=>K v [] [])
      |.builtin .max=>Aa c.args.toList fun x r=>Aa r fun y r'=>Ac r' (Aj0 (Bu tm x) (Bu tm y) fun v=>K v [] [])
      |.builtin .append=>An (Wc c) (Dm o.dst fun d=>Aa c.args.toList fun _ r=>Aa r fun x r'=>Ac r' (Aa c.argTypes.toList fun t u=>Aa u fun tx _=>Tp P rdaf d t tx (Bu tm x) fun v nw=>K v [] nw))
      |.value (.func f)=>FG C P N call tm rdaf o c f K
      |.value (.tmp t)=>fvK (tm t) fun f=>FG C P N call tm rdaf o c f K
      |_=>none
  |_=>none
def Qi (C:Gt)(P:Program)(o:Op):Bool:=
 match o with
 |.store .. =>true
 |.call c=>
  match c.callee with
  |.builtin .append=> !Wc c
  |.builtin .copy=>true
  |.builtin _=>false
  |.value (.func f)=>((EE P f c).any fun t=>(Xi P t).isSome)||((EE P f c).zipIdx.any fun q=>C.mvd f q.2||C.lnd f q.2)
  |_=>false
 |_=>false
def S9 (b:Bk):Bk:=
 match b with
 |.ar _ c=>.ar true c
 |b=>b
def Ad (hp:Nat->Option Bk)(ids:List Nat):Nat->Option Bk:=fun i=>bif ids.any (Nat.beq i) then (hp i).map S9 else hp i
def Aq (hp:Nat->Option Bk):List (Nat × Bk)->Nat->Option Bk
 |[]=>hp
 |(i,b)::r=>Aq (Cb hp i (some b)) r
def Bn (hp:Nat->Option Bk):List (Nat × Bk)->Bool
 |[]=>true
 |(i,_)::r=>(hp i).isNone && !(r.any fun q=>Nat.beq q.1 i)&&Bn hp r
def Bj (tm:Nat->PV)(d:Option Tmp)(v:PV):Nat->PV:=
 match d with
 |some i=>Cb tm i v
 |none=>tm
def F0 (N:Nat)(d:Option Tmp):Bool:=
 match d with
 |some i=>Nat.blt i N
 |none=>true
def Y1 (N:Nat)(s:St)(d:Option Tmp)(v:PV)(fz:List Nat)(nw:List (Nat × Bk)) (K:St->Option R):Option R:=
 An (F0 N d&&Bn s.hp nw) (K ⟨Bj s.tm d v,Aq (Ad s.hp fz) nw⟩)
def Yu (P:Program)(s:St)(t:TypeId)(a x:PV)(K:St->Option R):Option R:=
 match a with
 |.ptr id off=>
  match s.hp id with
  |some (.st c)=>An (Il P t&&Nat.beq (cellsOf x).length (Hq P t).length&&decide (off+(Hq P t).length<=c.length)) (Nq (Hq P t) (cellsOf x) 0 fun cs=>Ab (Bl c cs off) fun c=>K ⟨s.tm,Cb s.hp id (some (.st c))⟩)
  |some (.ar false c)=>An (Il P t&&decide (off+(Hq P t).length<=c.length)) (Nh (I9 s.hp) (Hq P t) (cellsOf x) fun cs m=>An (!m.any (Nat.beq id)) (Ab (Bl c cs off) fun c=>K ⟨s.tm,Cb (Ad s.hp m) id (some (.ar false c))⟩))
  |_=>none
 |_=>none
def Xa (P:Program)(t:TypeId):Bool:=
 match P.underlying t with
 |some (.int _)=>true
 |_=>false
def R9 (P:Program)(N:Nat)(s:St)(d:Nat)(e:TypeId)(b x:PV)(K:St->Option R):Option R:=
 C8 x fun _ n=>Ca (A4 P e) b fun z _ _=>
  An (z&&Nat.blt d N&&(s.hp d).isNone&&decide (0<=n)&&decide (n.toNat*((P.info? e).map (·.bytes)).getD 0<=1099511627776)&&decide (n<=1099511627776))
   (K ⟨Cb s.tm d (.view d (A4 P e) 0 n.toNat),Cb s.hp d (some (.ar false []))⟩)
def Oo (P:Program)(N:Nat)(s:St)(d:Nat)(t tx:TypeId)(b x:PV)(K:St->Option R):Option R:=
 match P.underlying t with
 |some (.slice e)=>An (KI P e) <|
  bif Xa P tx then R9 P N s d e b x K else
  TT P s (A4 P e) tx x fun m new=>
  match b with
  |.view id es off n=>
   match s.hp id with
   |some (.ar false c)=>
    An (Nat.beq es (A4 P e)&&Nat.beq off 0&&Nat.blt d N&&(s.hp d).isNone&&decide (n*es<=c.length)&&decide (new.length=m*es)
     && decide ((n+m)*((P.info? e).map (·.bytes)).getD 0<=1099511627776)&&decide (n+m<=1099511627776))
     (Ab (n+m) fun n'=>Ab (c.take (n*es)++new) fun c=>K ⟨Cb s.tm d (.view d es 0 n'),Cb (Cb s.hp id (some .mv)) d (some (.ar false c))⟩)
   |_=>none
  |b=>Ca (A4 P e) b fun z _ _=>
    An (z&&Nat.blt d N&&(s.hp d).isNone&&decide (new.length=m*A4 P e)&&decide (m*((P.info? e).map (·.bytes)).getD 0<=1099511627776)&&decide (m<=1099511627776))
     (K ⟨Cb s.tm d (.view d (A4 P e) 0 m),Cb s.hp d (some (.ar false new))⟩)
 |_=>none
def HM (P:Program)(N:Nat)(s:St)(d:Option Tmp)(t tx:TypeId)(b x:PV)(K:St->Option R):Option R:=
 match P.underlying t with
 |some (.slice e)=>An (CQ P e&&F0 N d) <|
  TT P s (A4 P e) tx x fun m new=>
  match b with
  |.view id es off n=>
   match s.hp id with
   |some (.ar false c)=>An (Nat.beq es (A4 P e)&&decide (off+n*es<=c.length)&&decide (new.length=m*es))
     (Ab (min m n) fun k=>Ab (Bl c (new.take (k*es)) off) fun c=>K ⟨Bj s.tm d (.sc (.int .i64 k)),Cb s.hp id (some (.ar false c))⟩)
   |_=>none
  |_=>none
 |_=>none
def ZQ (mv:Bool)(hp:Nat->Option Bk)(t:CT)(p:PV)(K:PV->List Nat->List Nat->Option R):Option R:=
 match t with
 |.sl es=>
  bif mv then
   match p with
   |.view id es' off n=>
    match hp id with
    |some (.ar false c)=>
     bif Nat.beq es' es&&Nat.beq off 0 then An (decide (n*es<=c.length)) (K (.own es n (c.take (n*es))) [] [id])
     else Ns (I9 hp) (.sl es) (.view id es' off n) fun c m=>K c m []
    |_=>Ns (I9 hp) (.sl es) (.view id es' off n) fun c m=>K c m []
   |p=>Ca es p fun z n c=>bif z then K (.own es 0 []) [] [] else K (.lst false es n c) [] []
  else Ns (I9 hp) (.sl es) p fun c m=>K c m []
 |t=>Zb t p fun c=>K c [] []
def Z6 (mv:Bool)(hp:Nat->Option Bk):List CT->List PV->(List PV->List Nat->List Nat->Option R)->Option R
 |[],[],K=>K [] [] []
 |t::ts,p::ps,K=>ZQ mv hp t p fun c m x=>Z6 mv hp ts ps fun cs ms xs=>K (c::cs) (m++ms) (x++xs)
 |_,_,_=>none
inductive Gc where
 |var (id off:Nat) (cts:List CT) (ws:List PV)
 |row (id:Nat)
 |none
def Gc.ids:Gc->List Nat
 |.var id _ _ _=>[id]
 |.row id=>[id]
 |.none=>[]
def A53 (P:Program)(t:TypeId):Option TypeId:=
 match P.underlying t with
 |some (.slice e)=>some e
 |_=>none
def Afb (hp:Nat->Option Bk)(es:Nat)(p:PV)(K:PV->List Gc->Option R):Option R:=
 match p with
 |.view id es' off n=>
  match hp id with
  |some (.ar false c)=>An (Nat.beq es' es&&Nat.beq off 0) (K (.tup [.own es n c]) [.row id])
  |_=>none
 |p=>Ca es p fun z _ _=>An z (K (.tup [.own es 0 []]) [.none])
def Ye (C:Gt)(P:Program)(f:FuncId)(hp:Nat->Option Bk)(i:Nat)(t:TypeId)(p:PV)(K:PV->List Nat->List Nat->List Gc->Option R):Option R:=
 match Xi P t with
 |some e=>
  match p with
  |.ptr id off=>
   match hp id with
   |some (.st c)=>An (Il P e&&decide (off+(Hq P e).length<=c.length)) (Z6 (C.mvd f i) hp (Hq P e) ((c.drop off).take (Hq P e).length) fun cs m x=>K (.pbox cs) m x [.var id off (Hq P e) cs])
   |_=>none
  |_=>none
 |none=>
  bif C.lnd f i then Dm (A53 P t) fun e=>Afb hp (A4 P e) p fun v l=>K v [] [] l
  else bif Bv P t then Gd p fun ps=>Z6 (C.mvd f i) hp (Hq P t) ps fun cs m x=>K (.agg cs) m x []
  else Z6 (C.mvd f i) hp (Hq P t) [p] fun cs m x=>Aa cs fun c r=>Ac r (K c m x [])
def HV (C:Gt)(P:Program)(f:FuncId)(hp:Nat->Option Bk):Nat->List TypeId->List PV->(List PV->List Nat->List Nat->List Gc->Option R)->Option R
 |_,[],[],K=>K [] [] [] []
 |i,t::ts,p::ps,K=>Ye C P f hp i t p fun v m x l=>HV C P f hp (i+1) ts ps fun vs ms xs ls=>K (v::vs) (m++ms) (x++xs) (l++ls)
 |_,_,_,_=>none
def Sp (hp:Nat->Option Bk)(ids:List Nat):Nat->Option Bk:=fun i=>bif ids.any (Nat.beq i) then (hp i).map (fun _=>Bk.mv) else hp i
def RR (N t:Nat):Nat:=N*(1000+t)
def QG (N:Nat)(hp:Nat->Option Bk):Nat->Nat->Nat
 |0,t=>t
 |k+1,t=>bif (hp (RR N t)).isNone then t else QG N hp k (t+1)
def Aah (N t:Nat)(ct:CT)(was p:PV)(K:Nat->PV->List (Nat × Bk)->Option R):Option R:=
 match ct with
 |.sl es=>
  match was with
  |.own _ _ _=>Kc es p fun n c=>K (t+1) (.view (RR N t) es 0 n) [(RR N t,.ar false c)]
  |_=>Ca es p fun _ n c=>K t (.lst false es n c) []
 |ct=>Zb ct p fun c=>K t c []
def HC (N:Nat):Nat->List CT->List PV->List PV->(Nat->List PV->List (Nat × Bk)->Option R)->Option R
 |t,[],[],ps,K=>Ac ps (K t [] [])
 |t,ct::cts,w::ws,ps,K=>Aa ps fun p ps=>Aah N t ct w p fun t' c b=>HC N t' cts ws ps fun t'' cs bs=>K t'' (c::cs) (b++bs)
 |_,_,_,_,_=>none
def U8 (N:Nat):Nat->List Gc->List (List PV)->(Nat->Option Bk)->((Nat->Option Bk)->List (Nat × Bk)->Option R)->Option R
 |_,[],ro,hp,K=>Ac ro (K hp [])
 |t,.var id off cts ws::l,ro,hp,K=>Aa ro fun cs ro=>HC N t cts ws cs fun t' cs' bs=>
   match hp id with
   |some (.st c)=>Ab (Bl c cs' off) fun c=>U8 N t' l ro (Cb hp id (some (.st c))) fun Ck bs'=>K Ck (bs++bs')
   |_=>none
 |t,.row id::l,ro,hp,K=>Aa ro fun cs ro=>U8 N t l ro (Cb hp id (some (.ar false cs))) K
 |t,.none::l,ro,hp,K=>Aa ro fun _ ro=>U8 N t l ro hp K
def Du:List Nat->Bool
 |[]=>true
 |a::r=> !(r.any (Nat.beq a))&&Du r
def Zf (C:Gt)(P:Program)(N:Nat)(call:Ai)(s:St)(o:Oper)(f:FuncId)(c:Call)(K:St->Option R):Option R:=
 HV C P f s.hp 0 (EE P f c) (c.args.toList.map (Bu s.tm)) fun vs m x l=>
  An (Du (l.flatMap Gc.ids++x)&&m.all (fun i=> !((l.flatMap Gc.ids++x).any (Nat.beq i)))&&Nat.blt 0 N&&F0 N o.dst) <|
  Af (call f (I8 (C.kz f) c.args.toList vs)) fun rv ro=>
   Zu P (C.shr f) N (o.dst.getD N) (M4 P o.type) rv fun ws bs=>
    An (bif Nw P o.type then !Nat.beq ws.length 1 else Nat.beq ws.length 1) <|
    Bp3 (QG N s.hp 100 0) fun t0=>U8 N t0 l ro (Sp (Ad s.hp m) x) fun Ck bs'=>
     An (Bn Ck (bs++bs')) (K ⟨Bj s.tm o.dst (Nf ws (Nw P o.type)),Aq Ck (bs++bs')⟩)
def Ui (C:Gt)(P:Program)(N:Nat)(call:Ai)(s:St)(o:Oper)(K:St->Option R):Option R:=
 match o.op with
 |.store t a x=>An (o.dst.isNone) (Yu P s t (Bu s.tm a) (Bu s.tm x) K)
 |.call c=>
  match c.callee with
  |.builtin .append=>Dm o.dst fun d=>Aa c.args.toList fun b r=>Aa r fun x r'=>Ac r' (Aa c.argTypes.toList fun t u=>Aa u fun tx _=>Oo P N s d t tx (Bu s.tm b) (Bu s.tm x) K)
  |.builtin .copy=>Aa c.args.toList fun b r=>Aa r fun x r'=>Ac r' (Aa c.argTypes.toList fun t u=>Aa u fun tx _=>HM P N s o.dst t tx (Bu s.tm b) (Bu s.tm x) K)
  |.value (.func f)=>Zf C P N call s o f c K
  |_=>none
 |_=>none
def PP (C:Gt)(P:Program)(N:Nat)(call:Ai)(o:Oper)(s:St)(K:St->Option R):Option R:=
 bif Qi C P o.op then Ui C P N call s o K
 else ED C P N call s.tm (rd s.hp) (I9 s.hp) o fun v fz nw=>Y1 N s o.dst v fz nw K
def C9 (C:Gt)(P:Program)(N:Nat)(call:Ai)(ops:Array Oper)(o:Oper)(s:St)(K:St->Option R):Option R:=
 match o.guard with
 |none=>PP C P N call o s K
 |some (j,want)=>
  match (ops[j]?).bind (·.dst) with
  |none=>none
  |some d=>
   match s.tm d with
   |.sc (.bool b)=>
    Bd b (bif want then PP C P N call o ⟨Cb s.tm d (.sc (.bool true)),s.hp⟩ K else An (F0 N o.dst) (K ⟨Bj (Cb s.tm d (.sc (.bool true))) o.dst (.sc undef),s.hp⟩))
     (bif want then An (F0 N o.dst) (K ⟨Bj (Cb s.tm d (.sc (.bool false))) o.dst (.sc undef),s.hp⟩) else PP C P N call o ⟨Cb s.tm d (.sc (.bool false)),s.hp⟩ K)
   |.sc (.tuple _)=>An (F0 N o.dst) (K ⟨Bj s.tm o.dst (.sc undef),s.hp⟩)
   |_=>none
def Nc (C:Gt)(P:Program)(N:Nat)(call:Ai)(ops:Array Oper):List Oper->St->(St->Option R)->Option R
 |[],s,K=>K s
 |o::r,s,K=>C9 C P N call ops o s fun s'=>Nc C P N call ops r s' K
noncomputable def AE (x y:Option R):Option R:=open Classical in if x=y then x else none
noncomputable def SM (ops:Array Oper)(o:Oper)(s:St)(F:St->Option R):Option R:=
 match o.guard with
 |none=>F s
 |some (j,_)=>
  match (ops[j]?).bind (·.dst) with
  |none=>F s
  |some d=>
   match s.tm d with
   |.ub=>AE (F ⟨Cb s.tm d (.sc (.bool true)),s.hp⟩) (F ⟨Cb s.tm d (.sc (.bool false)),s.hp⟩)
   |_=>F s
noncomputable def KH (C:Gt)(P:Program)(N:Nat)(call:Ai)(ops:Array Oper):List Oper->St->(St->Option R)->Option R
 |[],s,K=>K s
 |o::r,s,K=>SM ops o s fun s1=>C9 C P N call ops o s1 fun s'=>KH C P N call ops r s' K
end
def Af6 (o:Oper):List Nat:=o.op.operands.toList.filterMap fun x=>match x with | .tmp t=>some t|_=>none
def Ds (ops:Array Oper)(o:Oper):List Nat:=
 Af6 o++(match o.guard with|some (g,_)=>((ops[g]?).bind (·.dst)).toList|none=>[])
def G6 (P:Program)(o:Op):Bool:=
 match o with
 |.slice t .. =>match P.underlying t with|some (.array _ _)=>true|_=>false
 |.buildSlice t _ _=>match P.underlying t with|some (.slice e)=>Jc P [e]|_=>true
 |.convert _ dst _=>match P.underlying dst with|some .string=>true|_=>false
 |.alloc _ | .box .. | .makeSlice .. =>false
 |.move _ | .assign _ | .pick .. | .build .. | .binOp .. | .unOp .. | .fieldAddr .. | .field .. | .index .. | .indexAddr .. | .extract .. | .nilCheck _=>false
 |.call c=>match c.callee with | .builtin .len=>false | .builtin .min=>false | .builtin .max=>false|_=>true
 |_=>true
def CK (C:Gt)(P:Program)(ops:Array Oper)(x y:Oper):Bool:=
 (match x.dst with|some d=>(Ds ops y).any (Nat.beq d)||(match y.dst with|some e=>Nat.beq d e|none=>false)|none=>false) ||
 (match y.dst with|some e=>(Ds ops x).any (Nat.beq e)|none=>false) ||
 (Qi C P x.op&&G6 P y.op)||(Qi C P y.op&&G6 P x.op)
def H1 (ops:List Oper):List Nat->List Nat
 |acc=>match ops with
  |[]=>acc
  |o::r=>H1 r (acc++[o.after.toList.foldl (fun s e=>bif Region.binds .any e then s ||| 2 ^ e.on ||| acc.getD e.on 0 else s) 0])
def BO (C:Gt)(P:Program)(ops:Array Oper)(bs:List Nat):List Oper->Nat->Bool
 |[],_=>true
 |o::r,i=>(ops.toList.zipIdx.all fun q=> !Nat.blt q.2 i || !CK C P ops q.1 o||(bs.getD i 0).testBit q.2)&&BO C P ops bs r (i+1)
def HR (C:Gt)(P:Program)(ops:Array Oper):Bool:=
 ops.toList.zipIdx.all (fun q=>q.1.after.toList.all fun e=> !Region.binds .any e||Nat.blt e.on q.2)&&BO C P ops (H1 ops.toList []) ops.toList 0
def Ao:PV->List Nat
 |.view id _ _ _=>[id]
 |.ptr id _=>[id]
 |_=>[]
def B4:PV->List Nat
 |.agg cs=>cs.flatMap Ao
 |p=>Ao p
def Bo:PV->List Nat
 |.tup ps=>ps.flatMap B4
 |p=>B4 p
def Se (P:Program)(o:Op):Bool:=
 match o with
 |.load .. =>true
 |.convert _ dst _=>(match P.underlying dst with|some .string=>true|_=>false)
 |_=>false
def Mz (o:Op):Bool:=
 match o with
 |.call c=>(match c.callee with | .builtin .append=> !Wc c|_=>false)
 |_=>false
def Ag6 (ops:Array Oper)(x y:Oper):Bool:=
 (match x.dst with|some d=>(Ds ops y).any (Nat.beq d)||(match y.dst with|some e=>Nat.beq d e|none=>false)|none=>false) ||
 (match y.dst with|some e=>(Ds ops x).any (Nat.beq e)|none=>false)
def Q2 (C:Gt)(P:Program)(x y:Oper):Bool:=(Qi C P x.op&&G6 P y.op)||(Qi C P y.op&&G6 P x.op)
def J6 (C:Gt)(P:Program)(x y:Oper):Bool:=(Qi C P x.op&&Se P y.op)||(Qi C P y.op&&Se P x.op)||(Mz x.op&&Mz y.op)
def Ad6 (C:Gt)(P:Program)(ops:Array Oper)(x y:Oper):Bool:=Ag6 ops x y||(Q2 C P x y && !J6 C P x y)
def Xv (C:Gt)(P:Program)(ops:Array Oper)(bs:List Nat):List Oper->Nat->Bool
 |[],_=>true
 |o::r,i=>(ops.toList.zipIdx.all fun q=> !Nat.blt q.2 i || !Ad6 C P ops q.1 o||(bs.getD i 0).testBit q.2)&&Xv C P ops bs r (i+1)
def EA (C:Gt)(P:Program)(ops:Array Oper):Bool:=
 ops.toList.zipIdx.all (fun q=>q.1.after.toList.all fun e=> !Region.binds .any e||Nat.blt e.on q.2)&&Xv C P ops (H1 ops.toList []) ops.toList 0
def Ly (C:Gt)(P:Program)(s:St)(o:Oper):List Nat:=
 let l:=o.op.operands.toList.flatMap fun y=>Bo (Bu s.tm y)
 bif Qi C P o.op && !Mz o.op then l++l.flatMap (fun i=>match s.hp i with|some (.st c)=>c.flatMap Ao|_=>[])
 else bif Se P o.op||Mz o.op then l else []
def Aad (a b:List Nat):Bool:=a.all fun i=> !b.any (Nat.beq i)
def Wk (C:Gt)(P:Program)(ops:Array Oper)(bs:List Nat)(i:Nat)(o:Oper):List Nat:=
 (ops.toList.zipIdx.filter fun q=>J6 C P q.1 o && !(Nat.blt q.2 i&&(bs.getD i 0).testBit q.2) && !(Nat.blt i q.2&&(bs.getD q.2 0).testBit i)).map (·.2)
def Zl (C:Gt)(P:Program)(ops:Array Oper)(bs:List Nat):List (List Nat):=ops.toList.zipIdx.map fun q=>Wk C P ops bs q.2 q.1
def AM (C:Gt)(P:Program)(sm:List (List Nat)) (s:St)(i:Nat)(o:Oper):List Nat:=
 match sm.getD i [] with
 |[]=>[]
 |_::_=>Ly C P s o
def GC (C:Gt)(P:Program)(sm:List (List Nat)) (s:St)(i:Nat)(o:Oper)(q:Nat × Oper × List Nat):Bool:=
 !((sm.getD i []).any (Nat.beq q.1))||Aad q.2.2 (AM C P sm s i o)
def Hp {R:Type}(C:Gt)(P:Program)(N:Nat)(call:Ai)(ops:Array Oper)(sm:List (List Nat)):List (Nat × Oper × List Nat)->List Nat->St->(St->Option R)->Option R
 |_,[],s,K=>K s
 |dn,i::l,s,K=>Dm ops[i]? fun o=>An (dn.all (GC C P sm s i o)&&(AM C P sm s i o).all (fun k=>(s.hp k).isSome)) (C9 C P N call ops o s fun s'=>Hp C P N call ops sm ((i,o,AM C P sm s i o)::dn) l s' K)
def Ad9 (m i:Nat):Nat:=m ||| 2 ^ i
def Bgh (m i:Nat):Nat:=bif m.testBit i then m ^^^ 2 ^ i else m
def XX (ops:Array Oper):List Oper->Nat->Nat
 |[],m=>m
 |o::r,m=>
  let m1:=XX ops r m
  let m2:=match o.dst with|some d=>Bgh m1 d|none=>m1
  (Ds ops o).foldl Ad9 m2
def Np:Code->Nat->(Nat->Nat)->Nat->Nat
 |.skip,ln,_,_=>ln
 |.region _ ops _,ln,_,_=>XX ops ops.toList ln
 |.seq a b,ln,lx,lr=>Np a (Np b ln lx lr) lx lr
 |.cond c a b,ln,lx,lr=>let m:=Np a ln lx lr ||| Np b ln lx lr;match c with | .tmp d=>Ad9 m d|_=>m
 |.block id c,ln,lx,lr=>Np c ln (fun j=>bif Nat.beq j id then ln else lx j) lr
 |.loop c,_,lx,lr=>Np c (Np c 0 lx lr) lx lr
 |.exit id,_,lx,_=>lx id
 |.ret,_,_,lr=>lr
 |_,_,_,_=>0
def NT (ops:List Oper):List Nat:=(ops.filterMap fun o=>o.guard.map (·.1)).eraseDups
def Ld:Code->Nat
 |.region _ _ _=>1
 |.seq a b=>Ld a+Ld b
 |.cond _ a b=>Ld a+Ld b
 |.block _ c=>Ld c
 |.loop c=>Ld c
 |_=>0
def V9:Code->Nat
 |.skip=>1
 |.region _ ops _=>2 ^ min 6 (NT ops.toList).length
 |.seq a b=>bif (Nat.ble 7 (V9 a)&&Nat.ble 6 (Ld b))||(Nat.ble 5 (V9 a)&&Nat.ble 9 (Ld b)) then V9 b else min 1000 (V9 a*V9 b)
 |.cond _ a b=>V9 a+V9 b
 |.block _ c=>V9 c
 |.loop _=>1
 |.exit _=>1
 |_=>0
def Ak6 (P:Program)(o:Oper):Bool:=
 match o.op with
 |.load t _=>Q7 P t&&Nat.ble 8 (A4 P t)
 |.store t _ _=>Q7 P t&&Nat.ble 8 (A4 P t)
 |_=>false
def OO (P:Program):Code->Bool
 |.region _ ops _=>ops.toList.any (Ak6 P)
 |.seq a _=>OO P a
 |_=>false
def WI (P:Program):Code->Bool
 |.region _ ops _=>ops.toList.any (Ak6 P)
 |.seq _ b=>WI P b
 |_=>false
def Ajd (P:Program)(o:Oper):Bool:=
 match o.op with
 |.call _=> !Q7 P o.type&&(Nat.beq (A4 P o.type) 8||Nat.ble 15 (A4 P o.type))
 |_=>false
def Wx (P:Program):Code->Bool
 |.region _ ops _=>ops.toList.any (Ajd P)
 |.seq _ b=>Wx P b
 |.cond _ a b=>Wx P a||Wx P b
 |_=>false
def A1g:Code->Nat
 |.seq a b=>match b with
  |.ret=>(match a with | .region _ ops _=>(NT ops.toList).length|_=>0)
  |_=>A1g b
 |_=>0
def Ae0 (x y:Code):Bool:=(Nat.beq (V9 x) 1&&Nat.beq (A1g y) 11)||(Nat.beq (V9 x) 4&&Nat.beq (Ld x) 7&&(Nat.beq (Ld y) 3||Nat.beq (Ld y) 1))||(Nat.beq (V9 x) 9&&Nat.beq (Ld x) 5&&Nat.beq (Ld y) 5)
def BL (a b:Code):Bool:=Ae0 a b||(match b with | .seq x y=>Ae0 x y|_=>false)
def Ada (P:Program)(a b:Code):Bool:=(Nat.ble 7 (V9 a)&&Nat.ble 6 (Ld b))||(Nat.ble 5 (V9 a)&&Nat.ble 9 (Ld b))||(Nat.beq (V9 a) 4&&Nat.beq (Ld a) 11&&Nat.beq (Ld b) 10)||BL a b||OO P b||WI P a||Wx P a
def Ln (m:Nat):Nat->List Nat
 |0=>[]
 |n+1=>Ln m n++(bif m.testBit n then [n] else [])
def lk (l:List (Nat × PV)) (i:Nat):PV:=
 match l with
 |[]=>.top
 |(j,p)::r=>bif Nat.beq i j then p else lk r i
def Fx (l:List (Nat × Bk)) (i:Nat):Option Bk:=
 match l with
 |[]=>none
 |(j,b)::r=>bif Nat.beq i j then some b else Fx r i
def Uh (l:List (Nat × Nat)) (i:Nat):Option Nat:=
 match l with
 |[]=>none
 |(j,b)::r=>bif Nat.beq i j then some b else Uh r i
def BI (N:Nat)(s:St)(i:Nat):St:=
 match s.tm i with
 |.lst true es 0 []=>
  bif (s.hp i).isNone then ⟨Cb s.tm i (.view i es 0 0),Cb s.hp i (some (.ar false []))⟩
  else bif (s.hp (i+N*3000)).isNone then ⟨Cb s.tm i (.view (i+N*3000) es 0 0),Cb s.hp (i+N*3000) (some (.ar false []))⟩
  else s
 |_=>s
def KT (N:Nat)(id:Nat)(s:St)(j:Nat):St:=
 match s.hp id with
 |some (.st c)=>
  match c[j]? with
  |some (.lst true es 0 [])=>bif (s.hp (id+N*(j+1))).isNone then ⟨s.tm,Cb (Cb s.hp id (some (.st (c.set j (.view (id+N*(j+1)) es 0 0))))) (id+N*(j+1)) (some (.ar false []))⟩ else s
  |_=>s
 |_=>s
def JP (N:Nat)(s:St)(i:Nat):St:=
 match s.tm i with
 |.ptr id _=>
  match s.hp id with
  |some (.st c)=>(List.range c.length).foldl (KT N id) s
  |_=>s
 |_=>s
def IA (m:List (Nat × Nat)) (old new:Nat):List (Nat × Nat):=
 match Uh m old with
 |some _=>m
 |none=>m++[(old,new)]
def Ra (N new:Nat):List PV->Nat->List (Nat × Nat)->List (Nat × Nat)
 |[],_,m=>m
 |.view id _ _ _::r,j,m=>Ra N new r (j+1) (IA m id (new+N*(j+1)))
 |_::r,j,m=>Ra N new r (j+1) m
def BK (N:Nat)(s:St)(m:List (Nat × Nat)) (i:Nat):List (Nat × Nat):=
 match s.tm i with
 |.view id _ _ _=>IA m id i
 |.ptr id _=>
  match Uh m id with
  |some _=>m
  |none=>
   match s.hp id with
   |some (.st c)=>Ra N i c 0 (IA m id i)
   |_=>IA m id i
 |.agg c=>Ra N i c 0 m
 |_=>m
def TO (m:List (Nat × Nat)):PV->PV
 |.view id es off n=>match Uh m id with|some j=>.view j es off n|none=>.top
 |.ptr id off=>match Uh m id with|some j=>.ptr j off|none=>.top
 |.sc v=>.sc v
 |.lst z es n c=>.lst z es n c
 |.iptr c off=>.iptr c off
 |_=>.top
def ZG (m:List (Nat × Nat)):PV->PV
 |.agg c=>.agg (c.map (TO m))
 |p=>TO m p
def Ajc (m:List (Nat × Nat)):Bk->Bk
 |.st c=>.st (c.map (TO m))
 |b=>b
def C1 (N i:Nat):Nat:=i+N*2000
def PG (N:Nat)(hp:Nat->Option Bk):Nat->List (Nat × Nat)
 |0=>[]
 |i+1=>bif (hp (C1 N i)).isSome then PG N hp i++[(C1 N i,C1 N i)] else PG N hp i
def S6 (N:Nat)(hp:Nat->Option Bk):Nat->List (Nat × Nat)->List (Nat × Nat)
 |0,m=>m
 |i+1,m=>
  match hp (C1 N i) with
  |some (.st c)=>Ra N (C1 N i) c 0 (S6 N hp i m)
  |_=>S6 N hp i m
def Boe (N:Nat)(hp:Nat->Option Bk)(k:Nat):List (Nat × Nat):=S6 N hp k (PG N hp k)
def Lv (m:List (Nat × Nat)) (hp:Nat->Option Bk):List (Nat × Nat)->List (Nat × Bk)
 |[]=>[]
 |(old,new)::r=>match hp old with
  |some b=>(new,Ajc m b)::Lv m hp r
  |none=>Lv m hp r
section
variable {R:Type}
def VL (N:Nat)(ls:List Nat)(q:Bool)(s:St)(K:St->Option R):Option R:=
 let s2:=bif q then s else ls.foldl (JP N) (ls.foldl (BI N) s)
 let m:=ls.foldl (BK N s2) (Boe N s2.hp 8)
 An (Du (m.map (·.1))&&Du (m.map (·.2))) (K ⟨lk (ls.map fun i=>(i,ZG m (s2.tm i))),Fx (Lv m s2.hp m)⟩)
def Xh (N L:Nat)(s:St)(K:St->Option R):Option R:=VL N (Ln L N) false s K
def XR (N L:Nat)(s:St)(K:St->Option R):Option R:=VL N (Ln L N) true s K
def Agx (F:(St->Option R)->St->Option R) (nm:St->(St->Option R)->Option R):Nat->St->Option R
 |0,_=>none
 |n+1,s=>F (fun s'=>nm s' (Agx F nm n)) s
def EX (n:Nat)(F:St->Option R)(s:St):Option R:=
 match n with
 |0=>none
 |_+1=>F s
noncomputable def Ade (s:St)(c:Operand)(kt kf:St->Option R):Option R:=
 match c with
 |.tmp d=>
  match s.tm d with
  |.sc (.bool b)=>Bd b (kt ⟨Cb s.tm d (.sc (.bool true)),s.hp⟩) (kf ⟨Cb s.tm d (.sc (.bool false)),s.hp⟩)
  |.ub=>AE (kt s) (kf s)
  |_=>none
 |.const (.bool true)=>kt s
 |.const (.bool false)=>kf s
 |_=>none
noncomputable def Ov (C:Gt)(P:Program)(fu N:Nat)(call:Ai):Code->Nat->(Nat->Nat)->Nat->(St->Option R)->(Nat->St->Option R)->(St->Option R)->St->Option R
 |.skip,_,_,_,kn,_,_,s=>kn s
 |.region _ ops draw,_,_,_,kn,_,_,s=>QS (draw && !HR C P ops) (An (EA C P ops) (Alk (Zl C P ops (H1 ops.toList [])) fun sm=>Hp C P N call ops sm [] (List.range ops.size) s kn)) (QS draw (Nc C P N call ops ops.toList s kn) (KH C P N call ops ops.toList s kn))
 |.seq a b,ln,lx,lr,kn,kx,kr,s=>Ov C P fu N call a (Np b ln lx lr) lx lr (fun s'=>QS (Ada P a b) (QS (BL a b) (XR N (Np b ln lx lr) s' (EX fu fun s''=>Ov C P fu N call b ln lx lr kn kx kr s'')) (Xh N (Np b ln lx lr) s' (EX fu fun s''=>Ov C P fu N call b ln lx lr kn kx kr s''))) (Ov C P fu N call b ln lx lr kn kx kr s')) kx kr s
 |.cond c a b,ln,lx,lr,kn,kx,kr,s=>Ade s c (Ov C P fu N call a ln lx lr kn kx kr) (Ov C P fu N call b ln lx lr kn kx kr)
 |.block id c,ln,lx,lr,kn,kx,kr,s=>Ov C P fu N call c ln (fun j=>bif Nat.beq j id then ln else lx j) lr kn (fun j s'=>bif Nat.beq j id then kn s' else kx j s') kr s
 |.loop c,ln,lx,lr,_,kx,kr,s=>
  Xh N (Np (.loop c) ln lx lr) s (Agx (fun k s'=>Ov C P fu N call c (Np (.loop c) ln lx lr) lx lr k kx kr s') (Xh N (Np (.loop c) ln lx lr)) fu)
 |.exit id,_,_,_,_,kx,_,s=>kx id s
 |.ret,_,_,_,_,_,kr,s=>kr s
 |_,_,_,_,_,_,_,_=>none
def Ac2 (id:Nat)(t:CT)(p:PV)(K:PV->List (Nat × Bk)->Option R):Option R:=
 match t with
 |.sl es=>
  match p with
  |.own es' n c=>bif Nat.beq es' es then K (.view id es 0 n) [(id,.ar false c)] else none
  |p=>Ca es p fun z n c=>K (.lst z es n c) []
 |t=>Zb t p fun c=>K c []
def Zy (N:Nat):Nat->List CT->List PV->(List PV->List (Nat × Bk)->Option R)->Option R
 |_,[],ps,K=>Ac ps (K [] [])
 |id,t::ts,ps,K=>Aa ps fun p ps=>Ac2 id t p fun c b=>Zy N (id+N) ts ps fun cs bs=>K (c::cs) (b++bs)
def inK (P:Program)(N i:Nat)(t:TypeId)(p:PV)(K:PV->List (Nat × Bk)->Option R):Option R:=
 match Xi P t with
 |some e=>Uo p fun ps=>An (Nat.blt i 8) (Zy N (C1 N i+N) (Hq P e) ps fun cs bs=>K (.ptr (C1 N i) 0) ((C1 N i,.st cs)::bs))
 |none=>
  match p with
  |.tup ps=>Dm (A53 P t) fun e=>An (Nat.blt i 8) (Aa ps fun q r=>Ac r (Kc (A4 P e) q fun n c=>K (.view (C1 N i) (A4 P e) 0 n) [(C1 N i,.ar false c)]))
  |p=>
   bif Bv P t then Gd p fun ps=>Zy N (i+N) (Hq P t) ps fun cs bs=>K (.agg cs) bs
   else Zy N (i+N) (Hq P t) [p] fun cs bs=>Aa cs fun c r=>Ac r (K c bs)
def Afm (P:Program)(N:Nat):Nat->List TypeId->List PV->(List (Nat × PV)->List (Nat × Bk)->Option R)->Option R
 |_,[],ps,K=>Ac ps (K [] [])
 |i,t::ts,ps,K=>Aa ps fun p ps=>inK P N i t p fun v bs=>Afm P N (i+1) ts ps fun vs bs'=>K ((i,v)::vs) (bs++bs')
def Al7 (hp:Nat->Option Bk)(t:CT)(p:PV)(K:PV->List Nat->List Nat->Option R):Option R:=
  match t with
  |.sl es=>
    match p with
    |.view id es' off n=>bif Nat.beq es' es&&Nat.beq off 0 then
        (match hp id with
         |some (.ar false c)=>An (decide (n*es<=c.length)) (K (.own es n (c.take (n*es))) [id] [])
         |_=>none) else none
    |p=>Ca es p fun z _ _=>An z (K (.own es 0 []) [] [])
  |t=>Zb t p fun c=>K c [] []
def XO (shr:Bool)(hp:Nat->Option Bk)(t:CT)(p:PV)(K:PV->List Nat->List Nat->Option R):Option R:=
 bif shr then Ns (I9 hp) t p fun c m=>K c [] m else Al7 hp t p K
def Yg (shr:Bool)(hp:Nat->Option Bk):List CT->List PV->(List PV->List Nat->List Nat->Option R)->Option R
 |[],[],K=>K [] [] []
 |t::ts,p::ps,K=>XO shr hp t p fun c m z=>Yg shr hp ts ps fun cs ms zs=>K (c::cs) (m++ms) (z++zs)
 |_,_,_=>none
def Ack (P:Program)(shr:Bool)(hp:Nat->Option Bk)(t:TypeId)(p:PV)(K:PV->List Nat->List Nat->Option R):Option R:=
 match Xi P t with
 |some e=>
  match p with
  |.ptr id off=>
   match hp id with
   |some (.st c)=>An (Nat.beq off 0) (Yg shr hp (Hq P e) c fun cs m z=>K (.pbox cs) (id::m) z)
   |_=>none
  |_=>none
 |none=>
  bif Bv P t then Gd p fun ps=>Yg shr hp (Hq P t) ps fun cs m z=>K (.agg cs) m z
  else Yg shr hp (Hq P t) [p] fun cs m z=>Aa cs fun c r=>Ac r (K c m z)
def Aex (P:Program)(s:St)(r:ResultVar)(K:PV->Option R):Option R:=
 match r with
 |.tmp t=>K (s.tm t)
 |.cell a t=>Ww false P (rd s.hp) (I9 s.hp) t (s.tm a) K
def MU (P:Program)(shr:Bool)(s:St):List ResultVar->List TypeId->(List PV->List Nat->List Nat->Option R)->Option R
 |[],[],K=>K [] [] []
 |r::rs,t::ts,K=>Aex P s r fun p=>Ack P shr s.hp t p fun v m z=>MU P shr s rs ts fun vs ms zs=>K (v::vs) (m++ms) (z++zs)
 |_,_,_=>none
def BG (hp:Nat->Option Bk):List CT->List PV->List PV->(List PV->List Nat->List Nat->Option R)->Option R
 |[],[],[],K=>K [] [] []
 |t::ts,w::ws,p::ps,K=>XO (match w with | .own _ _ _=>false|_=>true) hp t p fun c m z=>BG hp ts ws ps fun cs ms zs=>K (c::cs) (m++ms) (z++zs)
 |_,_,_,_=>none
def Yb (P:Program)(N:Nat)(hp:Nat->Option Bk):Nat->List TypeId->List PV->(List (List PV)->List Nat->List Nat->List Nat->Option R)->Option R
 |_,[],ps,K=>Ac ps (K [] [] [] [])
 |i,t::ts,ps,K=>Aa ps fun p ps=>
  match p with
  |.pbox ws=>Dm (Xi P t) fun e=>
    match hp (C1 N i) with
    |some (.st c)=>BG hp (Hq P e) ws c fun cs m z=>Yb P N hp (i+1) ts ps fun r m' z' q=>K (cs::r) (m++m') (z++z') (C1 N i::q)
    |_=>none
  |.tup _=>
    match hp (C1 N i) with
    |some (.ar false c)=>Yb P N hp (i+1) ts ps fun r m' z' q=>K (c::r) m' z' (C1 N i::q)
    |_=>none
  |_=>Yb P N hp (i+1) ts ps K
def VG (rs:List ResultVar):Nat:=rs.foldl (fun m r=>match r with | .tmp t=>Ad9 m t | .cell a _=>Ad9 m a) 0
end
def EB (P:Program):Nat->List TypeId->Nat->Nat
 |_,[],m=>m
 |i,t::ts,m=>EB P (i+1) ts (match P.underlying t with|some (.pointer _)=>Ad9 m i|_=>m)
def YV (C:Gt)(P:Program)(f:FuncId)(fn:Func)(args:List PV)(s:St):Option A2:=
 MU P (C.shr f) s fn.results.toList fn.resultTypes.toList fun vs m z=>Yb P fn.ntmps s.hp 0 fn.params.toList args fun os m' z' q=>
  An (Du ((m++m')++q)&&(z++z').all (fun i=> !(((m++m')++q).any (Nat.beq i)))) (some ⟨vs,os⟩)
noncomputable def Aql (C:Gt)(P:Program)(fu:Nat)(call:Ai)(f:FuncId)(fn:Func)(c:Code)(args:List PV):Option A2:=
  Afm P fn.ntmps 0 fn.params.toList args fun tms bs=>An (Nat.ble args.length fn.ntmps&&Bn (fun _=>none) bs)
    (let lr:=EB P 0 fn.params.toList (VG fn.results.toList)
     Ov C P fu fn.ntmps call c lr (fun _=>0) lr (YV C P f fn args) (fun _ _=>none) (YV C P f fn args) ⟨lk tms,Fx bs⟩)
noncomputable def Ag (C:Gt)(P:Program)(fu:Nat):Nat->FuncId->List PV->Option A2
 |0,_,_=>none
 |d+1,f,args=>
  match C.ext f with
  |some g=>g args
  |none=>
   match P.funcs[f]? with
   |none=>none
   |some fn=>match fn.body with
    |none=>none
    |some c=>Aql C.core P fu (Ag C P fu d) f fn c args
inductive Dir where
 |l
 |r
 |i (m:Nat)
section
variable {R:Type}
noncomputable def Vf (C:Gt)(P:Program)(fu N:Nat)(call:Ai):List Dir->Code->Nat->(Nat->Nat)->Nat->(St->Option R)->(Nat->St->Option R)->(St->Option R)->Nat->St->Option R
 |[],.seq _ b,ln,lx,lr,kn,kx,kr,n,s=>EX n (fun s''=>Ov C P fu N call b ln lx lr kn kx kr s'') s
 |[],.loop c,ln,lx,lr,_,kx,kr,n,s=>Agx (fun k s'=>Ov C P fu N call c (Np (.loop c) ln lx lr) lx lr k kx kr s') (Xh N (Np (.loop c) ln lx lr)) n s
 |.l::p,.seq a b,ln,lx,lr,kn,kx,kr,n,s=>Vf C P fu N call p a (Np b ln lx lr) lx lr (fun s'=>QS (Ada P a b) (QS (BL a b) (XR N (Np b ln lx lr) s' (EX fu fun s''=>Ov C P fu N call b ln lx lr kn kx kr s'')) (Xh N (Np b ln lx lr) s' (EX fu fun s''=>Ov C P fu N call b ln lx lr kn kx kr s''))) (Ov C P fu N call b ln lx lr kn kx kr s')) kx kr n s
 |.r::p,.seq _ b,ln,lx,lr,kn,kx,kr,n,s=>Vf C P fu N call p b ln lx lr kn kx kr n s
 |.l::p,.cond _ a _,ln,lx,lr,kn,kx,kr,n,s=>Vf C P fu N call p a ln lx lr kn kx kr n s
 |.r::p,.cond _ _ b,ln,lx,lr,kn,kx,kr,n,s=>Vf C P fu N call p b ln lx lr kn kx kr n s
 |.l::p,.block id c,ln,lx,lr,kn,kx,kr,n,s=>Vf C P fu N call p c ln (fun j=>bif Nat.beq j id then ln else lx j) lr kn (fun j s'=>bif Nat.beq j id then kn s' else kx j s') kr n s
 |.i m::p,.loop c,ln,lx,lr,_,kx,kr,n,s=>
  Vf C P fu N call p c (Np (.loop c) ln lx lr) lx lr
   (fun s'=>Xh N (Np (.loop c) ln lx lr) s' (Agx (fun k s'=>Ov C P fu N call c (Np (.loop c) ln lx lr) lx lr k kx kr s') (Xh N (Np (.loop c) ln lx lr)) m)) kx kr n s
 |_,_,_,_,_,_,_,_,_,_=>none
end
noncomputable def Ct (C:Gt)(P:Program)(fu:Nat)(call:Ai)(f:FuncId)(fn:Func)(c:Code)(args:List PV)(p:List Dir)(n:Nat)(s:St):Option A2:=
 let lr:=EB P 0 fn.params.toList (VG fn.results.toList)
 Vf C P fu fn.ntmps call p c lr (fun _=>0) lr (YV C P f fn args) (fun _ _=>none) (YV C P f fn args) n s
def Aig:List Nat:=[
 1000000]
def Amv:List Nat:=[
 6,
 27,
 11,
 18,
 16,
 8,
 40,
 20,
 19,
 17,
 1000000]
def Any:List Nat:=[
 35,
 51,
 62,
 63,
 64,
 65,
 66,
 67,
 68,
 69,
 1000000]
def Aiu:List Nat:=[
 46,
 1000000]
def Aol:List Nat:=[
 46,
 1000000]
def Sg (args:List PV):Option A2:=
  match args with
  |[.lst _ 1 n c,.lst _ 1 m c']=>bif Nat.beq c.length n&&Nat.beq c'.length m then
      (match bytesOf c,bytesOf c' with
       |some a,some b=>some ⟨[.sc (.int .i64 (Lib.compareBytes a b))],[]⟩
       |_,_=>none) else none
  |_=>none
def Wh:List Nat:=[
 75,
 50,
 60,
 61,
 59,
 49,
 33,
 81,
 73,
 56,
 45,
 47,
 31,
 30,
 14,
 43,
 23,
 37,
 32,
 55,
 48,
 1000000]
def Bg2:List Nat:=[
 88,
 1000000]
def CB:Gt:=⟨fun f=>Amv.any (Nat.beq f),fun f i=>Nat.beq i 0&&Aol.any (Nat.beq f),fun f i=>(Nat.beq i 0&&Any.any (Nat.beq f))||(Nat.beq i 2&&Aiu.any (Nat.beq f)),fun f=>Aig.any (Nat.beq f),fun _=>none,fun N=>Bg2.any (Nat.beq N)⟩
def CX (xs:FuncId->Option (List PV->Option A2)):Gt:={ CB with ext:=fun f=>bif Wh.any (Nat.beq f) then none else xs f }
def Bz (f:Func):Code:=match f.body with|some c=>c|none=>.skip
section
variable {R:Type} {r:Option R}
theorem A9 {k:IntKind}{p:PV}{K:Int->Option R}{n:Int}(h:p=.sc (.int k n)) (hk:K n=r):Ae k p K=r:=by
 subst h;unfold Ae;simp[hk]
theorem Bnp {p:PV}{K:IntKind->Int->Option R}{k:IntKind}{n:Int}(h:p=.sc (.int k n)) (hk:K k n=r):C8 p K=r:=by
 subst h;exact hk
theorem Ay {p:PV}{K:Bool->Option R}{b:Bool}(h:p=.sc (.bool b)) (hk:K b=r):Av p K=r:=by
 subst h;exact hk
theorem Bh {p:PV}{K:ByteArray->Option R}{s:ByteArray}(h:p=.sc (.string s)) (hk:K s=r):E2 p K=r:=by
 subst h;exact hk
theorem B5 {es:Nat}{p:PV}{K:Bool->Nat->List PV->Option R}{z:Bool}{n:Nat}{c:List PV}(h:p=.lst z es n c)(hk:K z n c=r):Ca es p K=r:=by
 subst h;unfold Ca;simp[Nat.beq_refl,hk]
theorem B7 {es:Nat}{p:PV}{K:Nat->List PV->Option R}{n:Nat}{c:List PV}(h:p=.own es n c)(hk:K n c=r):Kc es p K=r:=by
 subst h;unfold Kc;simp[Nat.beq_refl,hk]
theorem A6 {b:Bool}{K:Option R}(h:b=true)(hk:K=r):An b K=r:=by
 subst h;exact hk
theorem A8 {b:Bool}{x y:Option R}(h:b=true)(hx:x=r):Bd b x y=r:=by
 subst h;exact hx
theorem A7 {b:Bool}{x y:Option R}(h:b=false)(hx:y=r):Bd b x y=r:=by
 subst h;exact hx
theorem D1 {α:Type}{o:Option α}{K:α->Option R}{a:α}(h:o=some a)(hk:K a=r):Dm o K=r:=by
 subst h;exact hk
theorem Aw {α:Type}{l:List α}{K:α->List α->Option R}{a:α}{t:List α}(h:l=a::t)(hk:K a t=r):Aa l K=r:=by
 subst h;exact hk
theorem A5 {α:Type}{l:List α}{K:Option R}(h:l=[]) (hk:K=r):Ac l K=r:=by
 subst h;exact hk
theorem C6 {p:PV}{K:List PV->Option R}{c:List PV}(h:p=.agg c)(hk:K c=r):Gd p K=r:=by
 subst h;exact hk
theorem Cg {p:PV}{K:List PV->Option R}{c:List PV}(h:p=.pbox c)(hk:K c=r):Uo p K=r:=by
 subst h;exact hk
theorem Ax {o:Option A2}{K:List PV->List (List PV)->Option R} {v:List PV}{q:List (List PV)} (h:o=some ⟨v,q⟩)(hk:K v q=r):Af o K=r:=by
 subst h;exact hk
end
theorem YF (a b:Int):(a==b)=decide (a=b):=by by_cases h:a=b<;>simp[h]
section
variable {R:Type}
theorem XU (v:List PV)(o:List (List PV)) (K:List PV->List (List PV)->Option R):Af (some ⟨v,o⟩) K=K v o:=by exact id rfl
theorem Ae6 {α:Type}(K:Option R):Ac ([]:List α) K=K:=by exact id rfl
theorem WF {α:Type}(a:α)(r:List α)(K:α->List α->Option R):Aa (a::r) K=K a r:=by exact id rfl
theorem WV (b:Bool)(K:Bool->Option R):Av (.sc (.bool b)) K=K b:=by exact id rfl
theorem Ac0 (s:ByteArray)(K:ByteArray->Option R):E2 (.sc (.string s)) K=K s:=by exact id rfl
theorem KG (k:IntKind)(n:Int)(K:Int->Option R):Ae k (.sc (.int k n)) K=K n:=by unfold Ae;simp
theorem Ac7 (k:IntKind)(n:Int)(K:IntKind->Int->Option R):C8 (.sc (.int k n)) K=K k n:=by exact id rfl
theorem Amg (z:Bool)(es n:Nat)(c:List PV)(K:Bool->Nat->List PV->Option R):Ca es (.lst z es n c) K=K z n c:=by unfold Ca;simp
theorem Akw (es n:Nat)(c:List PV)(K:Nat->List PV->Option R):Kc es (.own es n c) K=K n c:=by unfold Kc;simp
theorem Ad0 (c:List PV)(K:List PV->Option R):Gd (.agg c) K=K c:=by exact id rfl
theorem XV (c:List PV)(K:List PV->Option R):Uo (.pbox c) K=K c:=by exact id rfl
theorem Aci {α:Type}(a:α)(K:α->Option R):Dm (some a) K=K a:=by exact id rfl
theorem K3 {α:Type}(a:α)(K:α->Option R):Ab a K=K a:=by exact id rfl
theorem Agd (K:Option R):An true K=K:=by exact id rfl
theorem BU (p:Prop) [Decidable p] (K:Option R)(h:p):An (decide p) K=K:=by simp[An,h]
theorem VQ (b c:Bool)(K:Option R):An (b&&c) K=An b (An c K):=by cases b<;>rfl
theorem Acb (x y:Option R):Bd true x y=x:=by exact id rfl
theorem Afd (x y:Option R):Bd false x y=y:=by exact id rfl
theorem EQ (p:Prop) [Decidable p] (x y:Option R)(h:p):Bd (decide p) x y=x:=by simp[Bd,h]
theorem Vv (p:Prop) [Decidable p] (x y:Option R)(h:¬p):Bd (decide p) x y=y:=by simp[Bd,h]
theorem An9 (p:Prop) [Decidable p] (x y:Option R):Bd (decide p) x y=if p then x else y:=by by_cases h:p<;>simp[Bd,h]
theorem WN (a b:Int)(x y:Option R):Bd (a==b) x y=if a=b then x else y:=by
 rw[YF,An9]
theorem XH (x:Option R):AE x x=x:=by unfold AE;simp
end
theorem wrap_i64 {x:Int}(h1: -9223372036854775808<=x)(h2:x<=9223372036854775807):IntKind.wrap .i64 x=x:=by
 have:=IntWalk.i64_in x (by omega)
 exact this
theorem D8 {x:Int}(h1:0<=x)(h2:x<=18446744073709551615):IntKind.wrap .u64 x=x:=by
 simp only[IntKind.wrap,IntKind.signed,IntKind.bits];simp;omega
theorem CJ (x:Int):0<=IntKind.wrap .u64 x∧IntKind.wrap .u64 x<=18446744073709551615:=by
 simp only[IntKind.wrap,IntKind.signed,IntKind.bits];simp;omega
theorem C3 {α:Type}{l r:List α}{x:α}{i:Nat}(h:l.drop i=x::r):i<l.length∧l[i]?=some x∧l.drop (i+1)=r:=by
 have h1:i<l.length:=by
  rcases Nat.lt_or_ge i l.length with h1|h1
  ·exact h1
  ·rw[List.drop_of_length_le h1] at h;cases h
 rw[List.drop_eq_getElem_cons h1] at h;injection h with h2 h3;exact⟨h1,by rw[List.getElem?_eq_getElem h1,h2],h3⟩
theorem drop_nil {α:Type}{l:List α}{i:Nat}(h:l.drop i=[]):l.length<=i:=by
 have:=congrArg List.length h;simp at this;omega
section
variable {α:Type} {f:α->List PV} {k:Nat}
theorem Y8 (hf:∀x,(f x).length=k):∀(l:List α),(l.flatMap f).length=l.length*k
 |[]=>by simp
 |x::l=>by simp[hf x,Y8 hf l,Nat.succ_mul];omega
theorem On (hf:∀x,(f x).length=k):∀(l:List α)(i:Nat),(l.flatMap f).drop (i*k)=(l.drop i).flatMap f
 |l,0=>by simp
 |[],i+1=>by simp
 |x::l,i+1=>by
  rw[List.flatMap_cons,Nat.succ_mul,Nat.add_comm,←List.drop_drop,List.drop_append_of_le_length (by rw[hf x];omega)]
  rw[show (f x).drop k=[] from List.drop_of_length_le (by rw[hf x];omega),List.nil_append]
  exact On hf l i
theorem Rg (hf:∀x,(f x).length=k):∀(l:List α)(i:Nat),(l.flatMap f).take (i*k)=(l.take i).flatMap f
 |l,0=>by simp
 |[],i+1=>by simp
 |x::l,i+1=>by
  rw[List.flatMap_cons,Nat.succ_mul,Nat.add_comm,List.take_succ_cons,List.flatMap_cons,←Rg hf l i];rw[show k+i*k=(f x).length+i*k by rw[hf x],List.take_length_add_append]
theorem EM (hf:∀x,(f x).length=k) {l:List α}{i:Nat}{x:α}(h:l[i]?=some x) {j:Nat}(hj:j<k):(l.flatMap f).getD (i*k+j) .top=(f x).getD j .top:=by
 have h1:((l.flatMap f).drop (i*k))[j]?=(l.flatMap f)[i*k+j]?:=List.getElem?_drop;rw[On hf] at h1
 have h2:i<l.length:=by
  rcases Nat.lt_or_ge i l.length with h1|h1
  ·exact h1
  ·rw[List.getElem?_eq_none h1] at h;cases h
 rw[List.drop_eq_getElem_cons h2,List.flatMap_cons] at h1;have h3:l[i]=x:=by rw[List.getElem?_eq_getElem h2] at h;injection h
 rw[h3,List.getElem?_append_left (by rw[hf x];exact hj)] at h1
 simp only[List.getD_eq_getElem?_getD,←h1]
theorem LC (hf:∀x,(f x).length=k) {p:PV}{j:Nat}(hj:j<k):∀{l:List α}{i:Nat}{x y:α},l[i]?=some x->f y=(f x).set j p->(l.flatMap f).set (i*k+j) p=(l.set i y).flatMap f
 |[],i,x,y,h,_=>by simp at h
 |a::l,0,x,y,h,hy=>by
  simp at h;subst h;rw[Nat.zero_mul,Nat.zero_add,List.flatMap_cons,List.set_cons_zero,List.flatMap_cons,hy,List.set_append_left _ _ (by rw[hf];exact hj)]
 |a::l,i+1,x,y,h,hy=>by
  simp at h;rw[List.flatMap_cons,List.set_cons_succ,List.flatMap_cons,List.set_append_right _ _ (by rw[hf,Nat.succ_mul];omega),hf]
  congr 1
  rw[show (i+1)*k+j-k=i*k+j by rw[Nat.succ_mul];omega]
  exact LC hf hj h hy
theorem Vo {c:List PV}{p:PV}{i:Nat}(h:i<c.length):Bl c [p] i=c.set i p:=by
 unfold Bl;rw[List.set_eq_take_append_cons_drop,if_pos h];simp
end
theorem H9 {α:Type}{l:List α}{i:Nat}{x:α}(h:l[i]?=some x):i<l.length:=by
 rcases Nat.lt_or_ge i l.length with h1|h1
 ·exact h1
 ·rw[List.getElem?_eq_none h1] at h;cases h
abbrev Aqe (k:IntKind)(n:Int):List PV:=[.sc (.int k n)]
abbrev Am (k:IntKind)(l:List Int):List PV:=l.flatMap (Aqe k)
theorem Xo (k:IntKind)(n:Int):(Aqe k n).length=1:=rfl
theorem ati {k:IntKind}{l:List Int}{i:Nat}{n:Int}(h:l[i]?=some n):(Am k l).getD i .top=.sc (.int k n):=by
 have:=EM (Xo k) h (j:=0) (by omega)
 simpa using this
theorem A0 (k:IntKind)(l:List Int):(Am k l).length=l.length:=by rw[Y8 (Xo k)];omega
theorem QE (k:IntKind)(l:List Int)(n:Int):Am k l++[.sc (.int k n)]=Am k (l++[n]):=by simp
theorem tki (k:IntKind)(l:List Int):List.take l.length (Am k l)=Am k l:=List.take_of_length_le (by rw[A0];omega)
theorem Ea:type_of% @XU∧type_of% @Ae6∧type_of% @WF∧type_of% @WV∧type_of% @Ac0∧type_of% @KG∧type_of% @Ac7∧type_of% @Amg∧type_of% @Akw∧type_of% @Ad0∧type_of% @XV∧type_of% @Aci∧type_of% @K3∧type_of% @Agd∧type_of% @BU∧type_of% @VQ∧type_of% @Acb∧type_of% @Afd∧type_of% @EQ∧type_of% @Vv∧type_of% @XH∧type_of% @Bool.not_true∧type_of% @Bool.not_false∧type_of% @Bool.false_eq_true∧type_of% @if_true.{1}∧type_of% @if_false.{1}∧type_of% @Bool.true_and∧type_of% @Bool.and_true∧type_of% @Bool.false_and∧type_of% @Bool.and_false∧type_of% @decide_true∧type_of% @decide_false:=
 ⟨@XU,@Ae6,@WF,@WV,@Ac0,@KG,@Ac7,@Amg,@Akw,@Ad0,@XV,@Aci,@K3,@Agd,@BU,@VQ,@Acb,@Afd,@EQ,@Vv,@XH,@Bool.not_true,@Bool.not_false,@Bool.false_eq_true,@if_true.{1},@if_false.{1},@Bool.true_and,@Bool.and_true,@Bool.false_and,@Bool.and_false,@decide_true,@decide_false⟩
theorem gT:type_of% @Bool.and_eq_true∧type_of% @decide_eq_true_eq∧type_of% @beq_iff_eq.{0}∧type_of% @bne_iff_ne.{0}∧type_of% @ne_eq.{1}∧type_of% @Bool.not_eq_true'∧type_of% @true_and∧type_of% @and_true:=
 ⟨@Bool.and_eq_true,@decide_eq_true_eq,@beq_iff_eq.{0},@bne_iff_ne.{0},@ne_eq.{1},@Bool.not_eq_true',@true_and,@and_true⟩
theorem gF:type_of% @decide_eq_false_iff_not∧type_of% @beq_eq_false_iff_ne.{0}∧type_of% @bne_eq_false_iff_eq.{0}∧type_of% @ne_eq.{1}∧type_of% @Bool.not_eq_false':=
 ⟨@decide_eq_false_iff_not,@beq_eq_false_iff_ne.{0},@bne_eq_false_iff_eq.{0},@ne_eq.{1},@Bool.not_eq_false'⟩
end
section
open Go.RowKit
def Ba {α β:Type}(R:α->β->Prop):List α->List β->Prop
 |[],[]=>True
 |a::zs,b::bs=>R a b∧Ba R zs bs
 |_,_=>False
section
variable {α β γ:Type} {R S:α->β->Prop}
theorem Ba.len:∀{zs:List α}{bs:List β},Ba R zs bs->zs.length=bs.length
 |[],[],_=>rfl
 |_::_,_::_,h=>by simp[Ba.len h.2]
 |[],_::_,h=>h.elim
 |_::_,[],h=>h.elim
theorem Ba.at_:∀{zs:List α}{bs:List β},Ba R zs bs->∀{i:Nat} {a b},zs[i]?=some a->bs[i]?=some b->R a b
 |[],[],_,i,a,b,h,_=>by simp at h
 |_::_,_::_,h,0,a,b,ha,hb=>by simp at ha hb;subst ha;subst hb;exact h.1
 |_::_,_::_,h,i+1,a,b,ha,hb=>by simp at ha hb;exact Ba.at_ h.2 ha hb
 |[],_::_,h,_,_,_,_,_=>h.elim
 |_::_,[],h,_,_,_,_,_=>h.elim
theorem Ba.of_at:∀{zs:List α}{bs:List β},zs.length=bs.length->(∀(i:Nat) a b,zs[i]?=some a->bs[i]?=some b->R a b)->Ba R zs bs
 |[],[],_,_=>trivial
 |a::zs,b::bs,hl,h=>⟨h 0 a b rfl rfl,Ba.of_at (by simpa using hl) fun i x y hx hy=>h (i+1) x y hx hy⟩
 |[],_::_,hl,_=>by simp at hl
 |_::_,[],hl,_=>by simp at hl
theorem Ba.mono (hRS:∀a b,R a b->S a b):∀{zs:List α}{bs:List β},Ba R zs bs->Ba S zs bs
 |[],[],_=>trivial
 |_::_,_::_,h=>⟨hRS _ _ h.1,Ba.mono hRS h.2⟩
 |[],_::_,h=>h.elim
 |_::_,[],h=>h.elim
theorem Ba.mono_mem:∀{zs:List α}{bs:List β},(∀a∈zs,∀b,R a b->S a b)->Ba R zs bs->Ba S zs bs
 |[],[],_,_=>trivial
 |a::_,_::_,hRS,h=>⟨hRS a (by simp) _ h.1,Ba.mono_mem (fun x hx=>hRS x (by simp[hx])) h.2⟩
 |[],_::_,_,h=>h.elim
 |_::_,[],_,h=>h.elim
theorem Ba.app:∀{zs:List α}{bs:List β}{as':List α}{bs':List β},Ba R zs bs->Ba R as' bs'->Ba R (zs++as') (bs++bs')
 |[],[],_,_,_,h'=>h'
 |_::_,_::_,_,_,h,h'=>⟨h.1,Ba.app h.2 h'⟩
 |[],_::_,_,_,h,_=>h.elim
 |_::_,[],_,_,h,_=>h.elim
theorem Ba.take:∀(n:Nat){zs:List α}{bs:List β},Ba R zs bs->Ba R (zs.take n) (bs.take n)
 |0,_,_,_=>by simp[Ba]
 |_+1,[],[],_=>trivial
 |n+1,_::_,_::_,h=>⟨h.1,Ba.take n h.2⟩
 |_+1,[],_::_,h=>h.elim
 |_+1,_::_,[],h=>h.elim
theorem Ba.drop:∀(n:Nat){zs:List α}{bs:List β},Ba R zs bs->Ba R (zs.drop n) (bs.drop n)
 |0,_,_,h=>h
 |_+1,[],[],_=>trivial
 |n+1,_::_,_::_,h=>Ba.drop n h.2
 |_+1,[],_::_,h=>h.elim
 |_+1,_::_,[],h=>h.elim
end
inductive As (w:World) (A:Nat->Prop):PV->Value->Prop where
 |sc (v:Value):As w A (.sc v) v
 |top (v:Value):As w A .top v
 |ub (b:Bool):As w A .ub (.bool b)
 |lnil (z:Bool) (es:Nat):As w A (.lst z es 0 []) (.slice none 0 0)
 |lemp (es:Nat) (a:Addr) (cap:Nat):As w A (.lst false es 0 []) (.slice (some a) 0 cap)
 |lst (es n:Nat) (cells:List PV) (a:Addr) (cap:Nat) (f:Nat->Value) (hs:a.spot=none) (hb:a.block<w.heap.size) (hA:¬A a.block) (hn:n<=cap)
   (hc:∀j c,cells[j]?=some c->w.cell? (a.add j)=some (f j)) (h1:∀j c,cells[j]?=some c->(f j).oneCell'=true) (hr:∀j c,cells[j]?=some c->As w A c (f j)):As w A (.lst false es n cells) (.slice (some a) n cap)
def bsz (w:World)(b:Nat):Nat:=
 match w.heap[b]? with
 |some (.cells c _ _)=>c.size
 |_=>0
def PD (w:World)(b:Nat):Bool:=w.frozen? ⟨b,bsz w b,none⟩
def Fit (w:World)(es b e:Nat):Prop:=e<=bsz w b∧(es=1∨PD w b=false)
def Hw (w w':World)(b:Nat):Prop:=bsz w b<=bsz w' b∧(PD w b=false->PD w' b=false)
theorem Hw.refl (w:World)(b:Nat):Hw w w b:=⟨Nat.le_refl _,id⟩
theorem Hw.same {w w':World}{b:Nat}(h:w'.heap[b]?=w.heap[b]?):Hw w w' b:=by
 have e:bsz w' b=bsz w b:=by unfold bsz;rw[h]
 refine⟨by rw[e];exact Nat.le_refl _,fun q=>?_⟩
 unfold PD at q ⊢;rw[e];unfold World.frozen? at q ⊢;simp only[h];exact q
theorem Hw.trans {w w' w'':World}{b:Nat}(h:Hw w w' b)(h':Hw w' w'' b):Hw w w'' b:=⟨Nat.le_trans h.1 h'.1,fun q=>h'.2 (h.2 q)⟩
theorem Fit.step {w w':World}{es b e:Nat}(h:Fit w es b e)(hb:Hw w w' b):Fit w' es b e:=⟨Nat.le_trans h.1 hb.1,h.2.imp id hb.2⟩
def Wv (w:World)(A:Nat->Prop)(a:Addr)(cells:List PV):Prop:=∀j c,cells[j]?=some c->∃v,w.cell? (a.add j)=some v∧v.oneCell'=true∧As w A c v
def Bs (w:World)(A:Nat->Prop)(β:Nat->Option (Nat × Nat)) (p:PV)(v:Value):Prop:=
 match p with
 |.view id es off n=>(β id=none∧off=0∧n=0∧∃ad,v=.slice ad 0 0) ∨
   ∃b o x cap,β id=some (b,o)∧v=.slice (some ⟨b,x,none⟩) n cap∧(x=o+off∨(n=0∧off≠0))∧n<=cap∧Fit w es b (x+cap*es)∧b<w.heap.size
 |.ptr id off=>∃b o,β id=some (b,o)∧v=.pointer (some ⟨b,o+off,none⟩)
 |.iptr c off=>∃a:Addr,v=.pointer (some (a.add off))∧a.spot=none∧a.block<w.heap.size∧¬A a.block∧Wv w A a c
 |p=>As w A p v
def Hf (w:World)(A:Nat->Prop)(β:Nat->Option (Nat × Nat)) (p:PV)(v:Value):Prop:=
 match p with
 |.agg cs=>∃vs,v=.agg ⟨vs⟩∧Ba (Bs w A β) cs vs
 |p=>Bs w A β p v
def D6 (w:World)(A:Nat->Prop)(β:Nat->Option (Nat × Nat)) (p:PV)(v:Value):Prop:=
 match p with
 |.tup ps=>∃vs,v=.tuple ⟨vs⟩∧Ba (Hf w A β) ps vs
 |p=>Hf w A β p v
structure Bw (A:Nat->Prop) (w w':World):Prop where
 size:w.heap.size<=w'.heap.size
 keep:∀b,b<w.heap.size->¬A b->w'.heap[b]?=w.heap[b]?
 bs:∀b,b<w.heap.size->Hw w w' b
theorem E4 (a:Addr)(j:Nat):(a.add j).block=a.block:=by unfold Addr.add;split<;>rfl
theorem add_add (a:Addr)(i j:Nat):(a.add i).add j=a.add (i+j):=by
 unfold Addr.add;by_cases hi:i=0<;>by_cases hj:j=0<;>simp[hi,hj,Nat.add_assoc]
theorem B8 (b o j:Nat):(⟨b,o,none⟩:Addr).add j=⟨b,o+j,none⟩:=by
 unfold Addr.add;by_cases hj:j=0<;>simp[hj]
theorem Afv {a:Addr}(h:a.spot=none)(j:Nat):(a.add j).spot=none:=by unfold Addr.add;split<;>simp[h]
section
variable {w w':World} {A A':Nat->Prop} {β β':Nat->Option (Nat × Nat)}
theorem Bw.cell (h:Bw A w w'){a:Addr}(hb:a.block<w.heap.size)(hA:¬A a.block):w'.cell? a=w.cell? a:=
 World.cell?_of_block (h.keep a.block hb hA)
theorem As.step (h:Bw A w w')(hA:∀b,b<w.heap.size->A' b->A b){p:PV}{v:Value}(t:As w A p v):As w' A' p v:=by
 induction t with
 |sc v=>exact .sc v
 |top v=>exact .top v
 |ub b=>exact .ub b
 |lnil z es=>exact .lnil z es
 |lemp es a cap=>exact .lemp es a cap
 |lst es n cells a cap f hs hb Yl hn hc h1 hr ih=>
  refine .lst es n cells a cap f hs (Nat.lt_of_lt_of_le hb h.size) (fun x=>Yl (hA _ hb x)) hn (fun j c hj=>?_) h1 (fun j c hj=>ih j c hj)
  rw[h.cell (by rw[E4];exact hb) (by rw[E4];exact Yl)]
  exact hc j c hj
theorem Wv.step (h:Bw A w w')(hA:∀b,b<w.heap.size->A' b->A b){a:Addr}(hb:a.block<w.heap.size)(hn:¬A a.block){cells:List PV}(t:Wv w A a cells):Wv w' A' a cells:=by
 intro j c hj;obtain⟨v,hv,h1,ht⟩:=t j c hj;exact⟨v,by rw[h.cell (by rw[E4];exact hb) (by rw[E4];exact hn)];exact hv,h1,ht.step h hA⟩
theorem Bs.step (h:Bw A w w')(hA:∀b,b<w.heap.size->A' b->A b){p:PV}{v:Value}(hβ:∀id∈Ao p,β' id=β id)(t:Bs w A β p v):Bs w' A' β' p v:=by
 cases p with
 |view id es off n=>
  have e:=hβ id (by simp[Ao])
  rcases t with⟨h1,h2,h3,h4⟩|⟨b,o,x,cap,h1,h2,hx,h3,h4,h5⟩
  ·exact .inl ⟨by rw[e];exact h1,h2,h3,h4⟩
  ·exact .inr ⟨b,o,x,cap,by rw[e];exact h1,h2,hx,h3,h4.step (h.bs b h5),Nat.lt_of_lt_of_le h5 h.size⟩
 |ptr id off=>
  have e:=hβ id (by simp[Ao])
  obtain⟨b,o,h1,h2⟩:=t;exact⟨b,o,by rw[e];exact h1,h2⟩
 |iptr c off=>
  obtain⟨a,h1,h2,h3,h4,h5⟩:=t;exact⟨a,h1,h2,Nat.lt_of_lt_of_le h3 h.size,fun x=>h4 (hA _ h3 x),h5.step h hA h3 h4⟩
 |sc v=>exact As.step h hA t
 |lst z es n c=>exact As.step h hA t
 |own es n c=>exact As.step h hA t
 |pbox c=>exact As.step h hA t
 |agg c=>exact As.step h hA t
 |tup c=>exact As.step h hA t
 |top=>exact As.step h hA t
 |ub=>exact As.step h hA t
theorem Hf.step (h:Bw A w w')(hA:∀b,b<w.heap.size->A' b->A b){p:PV}{v:Value}(hβ:∀id∈B4 p,β' id=β id)(t:Hf w A β p v):Hf w' A' β' p v:=by
 cases p with
 |agg cs=>
  obtain⟨vs,rfl,h2⟩:=t;exact⟨vs,rfl,h2.mono_mem fun c hc v hv=>hv.step h hA fun id Bb=>hβ id (by simp only[B4,List.mem_flatMap];exact⟨c,hc,Bb⟩)⟩
 |sc x=>exact Bs.step (p:=.sc x) h hA hβ t
 |lst x y z u=>exact Bs.step (p:=.lst x y z u) h hA hβ t
 |own x y z=>exact Bs.step (p:=.own x y z) h hA hβ t
 |view x y z u=>exact Bs.step (p:=.view x y z u) h hA hβ t
 |ptr x y=>exact Bs.step (p:=.ptr x y) h hA hβ t
 |iptr x y=>exact Bs.step (p:=.iptr x y) h hA hβ t
 |pbox x=>exact Bs.step (p:=.pbox x) h hA hβ t
 |tup x=>exact Bs.step (p:=.tup x) h hA hβ t
 |top=>exact Bs.step (p:=.top) h hA hβ t
 |ub=>exact Bs.step (p:=.ub) h hA hβ t
theorem D6.step (h:Bw A w w')(hA:∀b,b<w.heap.size->A' b->A b){p:PV}{v:Value}(hβ:∀id∈Bo p,β' id=β id)(t:D6 w A β p v):D6 w' A' β' p v:=by
 cases p with
 |tup cs=>
  obtain⟨vs,rfl,h2⟩:=t;exact⟨vs,rfl,h2.mono_mem fun c hc v hv=>hv.step h hA fun id Bb=>hβ id (by simp only[Bo,List.mem_flatMap];exact⟨c,hc,Bb⟩)⟩
 |sc x=>exact Hf.step (p:=.sc x) h hA hβ t
 |lst x y z u=>exact Hf.step (p:=.lst x y z u) h hA hβ t
 |own x y z=>exact Hf.step (p:=.own x y z) h hA hβ t
 |view x y z u=>exact Hf.step (p:=.view x y z u) h hA hβ t
 |ptr x y=>exact Hf.step (p:=.ptr x y) h hA hβ t
 |iptr x y=>exact Hf.step (p:=.iptr x y) h hA hβ t
 |pbox x=>exact Hf.step (p:=.pbox x) h hA hβ t
 |top=>exact Hf.step (p:=.top) h hA hβ t
 |ub=>exact Hf.step (p:=.ub) h hA hβ t
 |agg x=>exact Hf.step (p:=.agg x) h hA hβ t
theorem Bw.refl (A:Nat->Prop)(w:World):Bw A w w:=⟨Nat.le_refl _,fun _ _ _=>rfl,fun _ _=>Hw.refl _ _⟩
theorem Wv.weak (hA:∀b,b<w.heap.size->A' b->A b){a:Addr}{cells:List PV}(t:Wv w A a cells):Wv w A' a cells:=by
 intro j c hj;obtain⟨v,hv,h1,ht⟩:=t j c hj;exact⟨v,hv,h1,ht.step (Bw.refl A w) hA⟩
theorem Bw.trans {w'':World}(h:Bw A w w')(h':Bw A' w' w'')(hA:∀b,b<w.heap.size->A' b->A b):Bw A w w'':=
  ⟨Nat.le_trans h.size h'.size,fun b hb hn=>(h'.keep b (Nat.lt_of_lt_of_le hb h.size) (fun x=>hn (hA b hb x))).trans (h.keep b hb hn),
   fun b hb=>(h.bs b hb).trans (h'.bs b (Nat.lt_of_lt_of_le hb h.size))⟩
theorem Bw.weaken (h:Bw A w w')(hA:∀b,b<w.heap.size->A b->A' b):Bw A' w w':=⟨h.size,fun b hb hn=>h.keep b hb (fun x=>hn (hA b hb x)),h.bs⟩
end
section
variable {R:Type} {r:R}
theorem D7 {k:IntKind}{p:PV}{K:Int->Option R}(h:Ae k p K=some r):∃n,p=.sc (.int k n)∧K n=some r:=by
 unfold Ae at h;split at h
 ·split at h
  ·rename_i hk;subst hk;exact⟨_,rfl,h⟩
  ·cases h
 ·cases h
theorem Db {p:PV}{K:Bool->Option R}(h:Av p K=some r):∃b,p=.sc (.bool b)∧K b=some r:=by
 unfold Av at h;split at h
 ·exact⟨_,rfl,h⟩
 ·cases h
theorem C4 {p:PV}{K:ByteArray->Option R}(h:E2 p K=some r):∃b,p=.sc (.string b)∧K b=some r:=by
 unfold E2 at h;split at h
 ·exact⟨_,rfl,h⟩
 ·cases h
theorem C2 {p:PV}{K:IntKind->Int->Option R}(h:C8 p K=some r):∃k n,p=.sc (.int k n)∧K k n=some r:=by
 unfold C8 at h;split at h
 ·exact⟨_,_,rfl,h⟩
 ·cases h
theorem Aj {b:Bool}{K:Option R}(h:An b K=some r):b=true∧K=some r:=by
 unfold An at h;cases b
 ·cases h
 ·exact⟨rfl,h⟩
theorem B3 {α:Type}{o:Option α}{K:α->Option R}(h:Dm o K=some r):∃a,o=some a∧K a=some r:=by
 unfold Dm at h;split at h
 ·exact⟨_,rfl,h⟩
 ·cases h
theorem A3 {α:Type}{l:List α}{K:α->List α->Option R}(h:Aa l K=some r):∃a t,l=a::t∧K a t=some r:=by
 unfold Aa at h;split at h
 ·exact⟨_,_,rfl,h⟩
 ·cases h
theorem C5 {α:Type}{l:List α}{K:Option R}(h:Ac l K=some r):l=[]∧K=some r:=by
 unfold Ac at h;split at h
 ·exact⟨rfl,h⟩
 ·cases h
theorem Gw {p:PV}{K:List PV->Option R}(h:Gd p K=some r):∃c,p=.agg c∧K c=some r:=by
 unfold Gd at h;split at h
 ·exact⟨_,rfl,h⟩
 ·cases h
theorem II {p:PV}{K:List PV->Option R}(h:Uo p K=some r):∃c,p=.pbox c∧K c=some r:=by
 unfold Uo at h;split at h
 ·exact⟨_,rfl,h⟩
 ·cases h
theorem VW {p:PV}{K:Value->Option R}(h:YX p K=some r):∃v,p=.sc v∧v.oneCell'=true∧K v=some r:=by
 unfold YX at h;split at h
 ·exact⟨_,rfl,rfl,h⟩
 ·exact⟨_,rfl,rfl,h⟩
 ·cases h
theorem Aik {p:PV}{K:FuncId->Option R}(h:fvK p K=some r):∃f,p=.sc (.func (.func f) #[] #[])∧K f=some r:=by
 unfold fvK at h;split at h
 ·rename_i f a b;cases hb:(a.isEmpty&&b.isEmpty)<;>rw[hb] at h
  ·cases h
  ·simp only[Bool.and_eq_true,Array.isEmpty_iff] at hb;rw[hb.1,hb.2];exact⟨f,rfl,h⟩
 ·cases h
theorem GZ {o:Option A2}{K:List PV->List (List PV)->Option R} (h:Af o K=some r):∃v x,o=some ⟨v,x⟩∧K v x=some r:=by
 unfold Af at h;split at h
 ·exact⟨_,_,rfl,h⟩
 ·cases h
theorem Me {b:Bool}{x y:Option R}(h:Bd b x y=some r):(b=true∧x=some r)∨(b=false∧y=some r):=by
 unfold Bd at h;cases b
 ·exact .inr ⟨rfl,h⟩
 ·exact .inl ⟨rfl,h⟩
theorem E6 {es:Nat}{p:PV}{K:Bool->Nat->List PV->Option R}(h:Ca es p K=some r):
  ∃z n c,K z n c=some r∧(p=.lst z es n c∨(p=.sc (.slice none 0 0)∧z=true∧n=0∧c=[])):=by
 unfold Ca at h;split at h
 ·rename_i z es' n c;cases hb:Nat.beq es' es
  ·rw[hb] at h;cases h
  ·rw[hb] at h;have:=Nat.eq_of_beq_eq_true hb;subst this;exact⟨z,n,c,h,.inl rfl⟩
 ·exact⟨true,0,[],h,.inr ⟨rfl,rfl,rfl,rfl⟩⟩
 ·cases h
def M0:PV->Prop
 |.sc _=>True
 |.lst _ _ _ _=>True
 |_=>False
def GK:PV->Prop
 |.sc _=>True
 |.lst _ _ _ _=>True
 |.view _ _ _ _=>True
 |_=>False
theorem Rp {c:PV}(h:M0 c):GK c:=by
 cases c<;>first|trivial|exact h.elim
theorem Ha {c:PV}(h:M0 c):Ao c=[]:=by
 cases c<;>first|rfl|exact h.elim
variable {w:World} {A:Nat->Prop} {β:Nat->Option (Nat × Nat)}
theorem K9 {c:PV}{v:Value}(h:M0 c):Bs w A β c v↔As w A c v:=by
 cases c<;>first|exact Iff.rfl|exact h.elim
theorem Xl {c:PV}{v:Value}(h:∀cs,c ≠ .agg cs):Hf w A β c v↔Bs w A β c v:=by
 cases c<;>first|exact Iff.rfl|exact absurd rfl (h _)
theorem N9 {c:PV}{v:Value}(h:∀cs,c ≠ .tup cs):D6 w A β c v↔Hf w A β c v:=by
 cases c<;>first|exact Iff.rfl|exact absurd rfl (h _)
theorem Wy {c:PV}(h:M0 c)(cs:List PV):c ≠ .agg cs:=by rintro rfl;exact h
theorem VS {c:PV}(h:M0 c)(cs:List PV):c ≠ .tup cs:=by rintro rfl;exact h
theorem As.val {v u:Value}(h:As w A (.sc v) u):u=v:=by cases h;rfl
theorem Vu {es n:Nat}{z:Bool}{c:List PV}{p:PV}{v:Value}(h:p=.lst z es n c∨(p=.sc (.slice none 0 0)∧z=true∧n=0∧c=[])) (hv:Bs w A β p v):As w A (.lst z es n c) v:=by
 rcases h with rfl|⟨rfl,rfl,rfl,rfl⟩
 ·exact hv
 ·have:=As.val (w:=w) (A:=A) hv;subst this;exact .lnil true es
theorem Md {t:CT}{p:PV}{K:PV->Option R}(h:Zb t p K=some r):
  ∃c,K c=some r∧M0 c∧M0 p∧∀(w:World) (A:Nat->Prop) (β:Nat->Option (Nat × Nat)) (v:Value),Bs w A β p v->As w A c v∧v.oneCell'=true:=by
 cases t with
 |int k=>obtain⟨n,rfl,h2⟩:=D7 h;exact⟨_,h2,trivial,trivial,fun w A β v hv=>⟨hv,by have:=As.val (w:=w) (A:=A) hv;subst this;rfl⟩⟩
 |bool=>obtain⟨n,rfl,h⟩:=Db h;exact⟨_,h,trivial,trivial,fun w A β v hv=>⟨hv,by have:=As.val (w:=w) (A:=A) hv;subst this;rfl⟩⟩
 |str=>obtain⟨n,rfl,h⟩:=C4 h;exact⟨_,h,trivial,trivial,fun w A β v hv=>⟨hv,by have:=As.val (w:=w) (A:=A) hv;subst this;rfl⟩⟩
 |sl es=>
  obtain⟨z,n,c,h,hp⟩:=E6 h;refine⟨_,h,trivial,?_,fun w A β v hv=>⟨Vu hp hv,?_⟩⟩
  ·rcases hp with rfl|⟨rfl,_⟩<;>trivial
  ·have ht:=Vu hp hv;cases ht<;>rfl
 |any=>
  obtain⟨u,rfl,h1,h2⟩:=VW (show YX p (fun v=>K (.sc v))=some r from h)
  exact⟨_,h2,trivial,trivial,fun w A β v hv=>⟨hv,by have:=As.val (w:=w) (A:=A) hv;subst this;exact h1⟩⟩
theorem Ahs {t:CT}{p:PV}{K:PV->Option R}(h:fcK t p K=some r):
  ∃c,K c=some r∧(M0 c∨c=p)∧GK p∧p ≠ .top∧(∀cs,c ≠ .agg cs)∧(∀cs,c ≠ .tup cs)∧(∀id,id∈Ao c->id∈Ao p)∧∀(w:World) (A:Nat->Prop) (β:Nat->Option (Nat × Nat)) (v:Value),Bs w A β p v->Bs w A β c v∧v.oneCell'=true:=by
 have tree:∀t',Zb t' p K=some r->∃c,K c=some r∧(M0 c∨c=p)∧GK p∧p ≠ .top∧(∀cs,c ≠ .agg cs)∧(∀cs,c ≠ .tup cs)∧(∀id,id∈Ao c->id∈Ao p)∧∀(w:World) (A:Nat->Prop) (β:Nat->Option (Nat × Nat)) (v:Value),Bs w A β p v->Bs w A β c v∧v.oneCell'=true:=by
  intro t' h;obtain⟨c,h,hc,hp,hv⟩:=Md h;exact⟨c,h,.inl hc,Rp hp,by rintro rfl;exact hp,Wy hc,VS hc,by rw[Ha hc];simp,fun w A β v h=>⟨(K9 hc).2 (hv w A β v h).1,(hv w A β v h).2⟩⟩
 cases t with
 |sl es=>
  unfold fcK fsK at h;dsimp only at h;split at h
  ·rename_i id es' off n;cases hb:Nat.beq es' es
   ·rw[hb] at h;cases h
   ·rw[hb] at h;have:=Nat.eq_of_beq_eq_true hb;subst this;exact⟨_,h,.inr rfl,trivial,by simp,by simp,by simp,fun _ h=>h,fun _ _ _ _ h=>⟨h,by rcases h with⟨_,_,_,_,rfl⟩|⟨_,_,_,_,_,rfl,_⟩<;>rfl⟩⟩
  ·exact tree (.sl es) h
 |int k=>exact tree (.int k) h
 |bool=>exact tree (.bool) h
 |str=>exact tree (.str) h
 |any=>exact tree (.any) h
theorem Zz {cells:List PV}{i:Nat}{p:PV}(h:cells.getD i .top=p)(hp:p ≠ .top):cells[i]?=some p:=by
 rw[List.getD_eq_getElem?_getD] at h;cases hc:cells[i]? with
 |none=>rw[hc] at h;exact absurd h.symm hp
 |some q=>rw[hc] at h;simp at h;rw[h]
theorem Sw:∀{ts:List CT}{cells:List PV}{off:Nat}{K:List PV->Option R},R2 ts cells off K=some r ->
  ∃cs,K cs=some r∧cs.length=ts.length∧∀j c,cs[j]?=some c->M0 c∧∃p,cells[off+j]?=some p∧M0 p ∧
   ∀(w:World) (A:Nat->Prop) (β:Nat->Option (Nat × Nat)) (v:Value),Bs w A β p v->As w A c v∧v.oneCell'=true
 |[],_,_,_,h=>⟨[],h,rfl,fun j c hj=>by simp at hj⟩
 |t::ts,cells,off,K,h=>by
  unfold R2 at h;obtain⟨c,h,hc,hp,hv⟩:=Md h;obtain⟨cs,h,hl,Te⟩:=Sw h;refine⟨c::cs,h,by simp[hl],fun j c' hj=>?_⟩
  cases j with
  |zero=>
   simp at hj;subst hj;refine⟨hc,cells.getD off .top,Zz rfl ?_,hp,hv⟩;intro e;rw[e] at hp;exact hp
  |succ j=>
   simp at hj;have:=Te j c' hj
   rwa [Nat.add_right_comm,Nat.add_assoc] at this
theorem Tb:∀{ts:List CT}{cells:List PV}{off:Nat}{K:List PV->Option R},Nq ts cells off K=some r ->
  ∃cs,K cs=some r∧cs.length=ts.length∧(∀c∈cs,(∀x,c ≠ .agg x)∧(∀x,c ≠ .tup x))∧∀j c,cs[j]?=some c->∃p,cells[off+j]?=some p∧GK p∧(∀id,id∈Ao c->id∈Ao p) ∧
   ∀(w:World) (A:Nat->Prop) (β:Nat->Option (Nat × Nat)) (v:Value),Bs w A β p v->Bs w A β c v∧v.oneCell'=true
 |[],_,_,_,h=>⟨[],h,rfl,by simp,fun j c hj=>by simp at hj⟩
 |t::ts,cells,off,K,h=>by
  unfold Nq at h;obtain⟨c,h,hc,hf,hp,ha,ht,hr,hv⟩:=Ahs h;obtain⟨cs,h,hl,Zg,Te⟩:=Tb h;refine⟨c::cs,h,by simp[hl],?_,fun j c' hj=>?_⟩
  ·intro x hx;rcases List.mem_cons.1 hx with rfl|hx
   ·exact⟨ha,ht⟩
   ·exact Zg x hx
  ·cases j with
   |zero=>
    simp at hj;subst hj;exact⟨cells.getD off .top,Zz rfl hp,hf,hr,hv⟩
   |succ j=>
    simp at hj;have:=Te j c' hj
    rwa [Nat.add_right_comm,Nat.add_assoc] at this
theorem KR {agg:Bool}{cells:List PV}{K:PV->Option R}(h:WD agg cells K=some r):
  (agg=true∧K (.agg cells)=some r)∨(agg=false∧∃c,cells=[c]∧K c=some r):=by
 unfold WD at h;cases agg
 ·obtain⟨c,t,rfl,h⟩:=A3 h;obtain⟨rfl,h⟩:=C5 h;exact .inr ⟨rfl,c,rfl,h⟩
 ·exact .inl ⟨rfl,h⟩
end
open Go.RowKit
def Cu (b:Option Bk):Prop:=
 match b with
 |some (.st _)=>True
 |some (.ar false _)=>True
 |_=>False
abbrev Bt:=Nat->Option (Nat × Nat)
def LX (hp:Nat->Option Bk)(β:Bt)(b:Nat):Prop:=∃id o,Cu (hp id)∧β id=some (b,o)
def Cs (hp:Nat->Option Bk)(β:Bt)(Y:Nat->Prop)(b:Nat):Prop:=LX hp β b∨Y b
def Qv (w:World)(A:Nat->Prop)(β:Bt)(id:Nat)(bx:Bk):Prop:=
 match bx with
 |.st cells=>∃b o,β id=some (b,o)∧(∀j c,cells[j]?=some c->∃v,w.cell? ⟨b,o+j,none⟩=some v∧Bs w A β c v)∧∀j,j<cells.length->w.frozen? ⟨b,o+j,none⟩=false
 |.ar fz cells=>(β id=none∧cells=[])∨∃b o,β id=some (b,o)∧Wv w A ⟨b,o,none⟩ cells∧(fz=false->∀j,o<=j->j<bsz w b->w.frozen? ⟨b,j,none⟩=false)∧(fz=true->¬A b)
 |.mv=>True
structure Hm where
 X:Nat->Prop
 L:Nat->Nat->Prop
 pn:Nat->Prop
 pt:Nat->Option (Nat × Nat)
 p8:∀i,pn i->i<8
def BR (bx:Bk)(o j:Nat):Prop:=
 match bx with
 |.st c=>o<=j∧j<o+c.length
 |.ar _ _=>o<=j
 |.mv=>False
structure Fr (X0:Hm) (w0 w:World):Prop where
 os:w.os=w0.os
 tape:w.tape=w0.tape
 output:w.output=w0.output
 step:Bw X0.X w0 w
 rng:∀b j,b<w0.heap.size->¬X0.L b j->w.cell? ⟨b,j,none⟩=w0.cell? ⟨b,j,none⟩∧w.frozen? ⟨b,j,none⟩=w0.frozen? ⟨b,j,none⟩
structure Cj (N:Nat) (w0:World) (X0:Hm) (Y:Nat->Prop) (β:Bt) (s:St) (a:Act) (w:World):Prop where
 dfr:a.defers=[]
 tsz:a.tmps.size=N
 tmo:∀i,N<=i->s.tm i=.top
 tms:∀i,i<N->D6 w (Cs s.hp β Y) β (s.tm i) (a.tmps.getD i undef)
 box:∀id b,s.hp id=some b->Qv w (Cs s.hp β Y) β id b
 inj:∀id id' b o o',Cu (s.hp id)->Cu (s.hp id')->β id=some (b,o)->β id'=some (b,o')->id=id'
 blt:∀id b o,s.hp id≠none->β id=some (b,o)->b<w.heap.size
 wfT:∀i,i<N->∀id∈Bo (s.tm i),s.hp id≠none
 wfB:∀id cells,s.hp id=some (.st cells)->∀c∈cells,∀id'∈Ao c,s.hp id'≠none
 ownd:∀b,LX s.hp β b->X0.X b∨w0.heap.size<=b
 rngB:∀id bx b o,s.hp id=some bx->Cu (some bx)->β id=some (b,o)->b<w0.heap.size->∀j,BR bx o j->X0.L b j
 pin:∀i,X0.pn i->s.hp (C1 N i)≠none∧β (C1 N i)=X0.pt i
 stp:∀id c b o,s.hp id=some (.st c)->β id=some (b,o)->b<w0.heap.size->∃i,id=C1 N i∧X0.pn i
 Yx:∀b,Y b->¬LX s.hp β b
 Ylt:∀b,Y b->b<w0.heap.size
 fr:Fr X0 w0 w
theorem Cl {b:Option Bk}(h:Cu b):b≠none:=by rintro rfl;exact h
theorem Al {α:Type}(f:Nat->α)(i:Nat)(v:α):Cb f i v i=v:=by simp[Cb,Nat.beq_refl]
theorem Ah {α:Type}(f:Nat->α){i j:Nat}(v:α)(h:j≠i):Cb f i v j=f j:=by
 have:Nat.beq j i=false:=by
  cases hb:Nat.beq j i
  ·rfl
  ·exact absurd (Nat.eq_of_beq_eq_true hb) h
 simp[Cb,this]
theorem Xr {α:Type}(f:Nat->α){i:Nat}{v:α}(h:f i=v):Cb f i v=f:=by
 funext j
 by_cases e:j=i
 ·subst e;rw[Al];exact h.symm
 ·exact Ah f v e
theorem OJ {α:Type}(f:Nat->α){i j:Nat}(u v:α)(h:i≠j):Cb (Cb f i u) j v=Cb (Cb f j v) i u:=by
 funext k
 by_cases e:k=j
 ·subst e;rw[Al,Ah _ _ (Ne.symm h),Al]
 ·rw[Ah _ _ e];by_cases e':k=i
  ·subst e';rw[Al,Al]
  ·rw[Ah _ _ e',Ah _ _ e',Ah _ _ e]
theorem GR {a:Act}{d:Nat}{v:Value}(h:d<a.tmps.size):(a.put (some d) v).tmps.getD d undef=v:=by
 simp[Act.put,h]
theorem DH {a:Act}{d i:Nat}{v:Value}(h:i≠d):(a.put (some d) v).tmps.getD i undef=a.tmps.getD i undef:=by
 have h':d≠i:=fun e=>h e.symm
 simp[Act.put,Array.getElem?_setIfInBounds_ne h']
section
variable {N:Nat} {w0:World} {X0:Hm} {Y:Nat->Prop} {β β':Bt} {s:St} {a:Act} {w w':World}
theorem Xk (d:Option Tmp)(v:Value):(a.put d v).tmps.size=a.tmps.size:=by cases d<;>simp[Act.put]
theorem Q4 (d:Option Tmp)(v:Value):(a.put d v).defers=a.defers:=by cases d<;>rfl
theorem O6 {d:Option Tmp}(h:F0 N d=true){i:Nat}(e:d=some i):i<N:=by
 subst e;exact Nat.lt_of_succ_le (Nat.le_of_ble_eq_true h)
theorem N2 {Q:Nat->PV->Value->Prop}{tm:Nat->PV}{d:Option Tmp}{v:PV}{val:Value}(hN:a.tmps.size=N)(hd:F0 N d=true)
  (h:∀i,i<N->Q i (tm i) (a.tmps.getD i undef)) (hv:∀i,Q i v val):∀i,i<N->Q i (Bj tm d v i) ((a.put d val).tmps.getD i undef):=by
 intro i hi;cases d with
 |none=>exact h i hi
 |some d=>
  have Bp:=O6 hd rfl;by_cases e:i=d
  ·subst e;show Q i (Cb tm i v i) _;rw[Al,GR (by omega)]
   exact hv i
  ·show Q i (Cb tm d v i) _;rw[Ah _ _ e,DH e];exact h i hi
theorem LV {tm:Nat->PV}{d:Option Tmp}{v:PV}(hd:F0 N d=true)(h:∀i,N<=i->tm i=.top):∀i,N<=i->Bj tm d v i=.top:=by
 intro i hi;cases d with
 |none=>exact h i hi
 |some d=>
  have:=O6 hd rfl;show Cb tm d v i=_;rw[Ah _ _ (by omega)]
  exact h i hi
theorem Cj.put (h:Cj N w0 X0 Y β s a w){d:Option Tmp}{v:PV}{val:Value}(hd:F0 N d=true)(hv:D6 w (Cs s.hp β Y) β v val) (hr:∀id∈Bo v,s.hp id≠none):
  Cj N w0 X0 Y β ⟨Bj s.tm d v,s.hp⟩ (a.put d val) w where
 dfr:=by rw[Q4];exact h.dfr
 tsz:=by rw[Xk];exact h.tsz
 tmo:=LV hd h.tmo
 tms:=N2 (Q:=fun _ p u=>D6 w (Cs s.hp β Y) β p u) h.tsz hd h.tms (fun _=>hv)
 box:=h.box
 inj:=h.inj
 blt:=h.blt
 wfT:=by
  have:=N2 (Q:=fun _ p _=>∀id∈Bo p,s.hp id≠none) (val:=val) h.tsz hd h.wfT (fun _=>hr)
  exact this
 wfB:=h.wfB
 ownd:=h.ownd
 rngB:=h.rngB
 pin:=h.pin
 stp:=h.stp
 Yx:=h.Yx
 Ylt:=h.Ylt
 fr:=h.fr
theorem Bq (hp:Nat->Option Bk)(ids:List Nat)(i:Nat):Ad hp ids i=if i∈ids then (hp i).map S9 else hp i:=by
 unfold Ad;by_cases hi:i∈ids
 ·have:ids.any (Nat.beq i)=true:=List.any_eq_true.2 ⟨i,hi,Nat.beq_refl i⟩;rw[this,if_pos hi];rfl
 ·have:ids.any (Nat.beq i)=false:=by
   cases hb:ids.any (Nat.beq i)
   ·rfl
   ·obtain⟨j,hj,e⟩:=List.any_eq_true.1 hb;exact absurd (Nat.eq_of_beq_eq_true e ▸ hj) hi
  rw[this,if_neg hi];rfl
theorem Dq {hp:Nat->Option Bk}{ids:List Nat}{i:Nat}:Ad hp ids i=none↔hp i=none:=by
 rw[Bq];split<;>simp
theorem N4 {hp:Nat->Option Bk}{ids:List Nat}{i:Nat}(h:Cu (Ad hp ids i)):Cu (hp i):=by
 rw[Bq] at h;split at h
 ·cases hb:hp i with
  |none=>rw[hb] at h;exact h
  |some b=>cases b with
   |st c=>trivial
   |ar fz c=>rw[hb] at h;exact h.elim
   |mv=>rw[hb] at h;exact h
 ·exact h
theorem Is {hp:Nat->Option Bk}{ids:List Nat}{i:Nat}{bx:Bk}(h:Ad hp ids i=some bx)(hl:Cu (some bx)):hp i=some bx:=by
 rw[Bq] at h;split at h
 ·cases hb:hp i with
  |none=>rw[hb] at h;cases h
  |some b=>
   rw[hb] at h;cases b with
   |st c=>exact h
   |ar fz c=>simp only[Option.map_some,S9,Option.some.injEq] at h;subst h;exact hl.elim
   |mv=>simp only[Option.map_some,S9,Option.some.injEq] at h;subst h;exact hl.elim
 ·exact h
theorem Pj {hp:Nat->Option Bk}{ids:List Nat}{b:Nat}(h:LX (Ad hp ids) β b):LX hp β b:=by
 obtain⟨id,o,hl,hb⟩:=h;exact⟨id,o,N4 hl,hb⟩
theorem Qv.step' {A A':Nat->Prop}{id:Nat}{bx:Bk}(hA:∀b,A' b->A b)(h:Qv w A β id bx):Qv w A' β id bx:=by
 have hs:=Bw.refl A w;cases bx with
 |st c=>
  obtain⟨b,o,h1,h2,h3⟩:=h;exact⟨b,o,h1,fun j c hj=>let ⟨v,hv,hc⟩:=h2 j c hj;⟨v,hv,hc.step hs (fun b _=>hA b) (fun _ _=>rfl)⟩,h3⟩
 |ar fz c=>
  rcases h with h|⟨b,o,h1,h2,h3,h4⟩
  ·exact .inl h
  ·exact .inr ⟨b,o,h1,h2.weak (fun b _=>hA b),h3,fun e x=>h4 e (hA b x)⟩
 |mv=>trivial
theorem Cj.freeze (h:Cj N w0 X0 Y β s a w){fz:List Nat}(Rt:∀id∈fz,∃f c,s.hp id=some (.ar f c)):Cj N w0 X0 Y β ⟨s.tm,Ad s.hp fz⟩ a w:=by
 have hA:∀b,Cs (Ad s.hp fz) β Y b->Cs s.hp β Y b:=fun b hb=>hb.imp Pj id
 refine⟨h.dfr,h.tsz,h.tmo,fun i hi=>(h.tms i hi).step (Bw.refl _ _) (fun b _=>hA b) (fun _ _=>rfl),fun id b hb=>?_,fun id id' b o o' h1 h2=>h.inj id id' b o o' (N4 h1) (N4 h2),
  fun id b o hn=>h.blt id b o (fun e=>hn (Dq.2 e)),fun i hi id Bb e=>h.wfT i hi id Bb (Dq.1 e),fun id cells hc c OA id' Bb e=>?_,fun b hb=>h.ownd b (Pj hb),
  fun id bx b o hb hl=>h.rngB id bx b o (Is hb hl) hl,fun i hi=>⟨fun e=>(h.pin i hi).1 (Dq.1 e),(h.pin i hi).2⟩,fun id c b o hc=>h.stp id c b o (Is hc trivial),fun b hb x=>h.Yx b hb (Pj x),h.Ylt,h.fr⟩
 ·simp only at hb;rw[Bq] at hb;split at hb
  ·rename_i hm;obtain⟨f,c,hc⟩:=Rt id hm;rw[hc] at hb;simp only[Option.map_some,S9,Option.some.injEq] at hb;subst hb;have Lm:=h.box id _ hc;rcases Lm with Lm|⟨b,o,h1,h2,h3,h4⟩
   ·exact .inl Lm
   ·refine .inr ⟨b,o,h1,h2.weak (fun b _=>hA b),(fun e=>by cases e),fun _ hb=>?_⟩
    rcases hb with⟨id',o',hl,hb⟩|hY
    ·have hl0:=N4 hl;cases f with
     |true=>exact h4 rfl (.inl ⟨id',o',hl0,hb⟩)
     |false=>
      have e:=h.inj id' id b o' o hl0 (by rw[hc];trivial) hb h1
      subst e;simp only at hl;rw[Bq,if_pos hm,hc] at hl;exact hl
    ·cases f with
     |true=>exact h4 rfl (.inr hY)
     |false=>exact h.Yx b hY ⟨id,o,by rw[hc];trivial,h1⟩
  ·exact (h.box id b hb).step' hA
 ·simp only at hc;rw[Bq] at hc;refine h.wfB id cells ?_ c OA id' Bb (Dq.1 e);split at hc
  ·rename_i hm;obtain⟨f,c,Rj⟩:=Rt id hm;rw[Rj] at hc;cases hc
  ·exact hc
theorem Bg:∀{nw:List (Nat × Bk)} {hp:Nat->Option Bk},Bn hp nw=true ->
  (∀id bx,(id,bx)∈nw->hp id=none)∧(∀id bx bx',(id,bx)∈nw->(id,bx')∈nw->bx=bx')
 |[],_,_=>⟨by simp,by simp⟩
 |(i,b)::r,hp,h=>by
  simp only[Bn,Bool.and_eq_true,Option.isNone_iff_eq_none,Bool.not_eq_true'] at h;obtain⟨⟨h1,h2⟩,h3⟩:=h;obtain⟨h4,h5⟩:=Bg h3
  have Hu:∀bx,(i,bx) ∉ r:=by
   intro bx hm;have:r.any (fun q=>Nat.beq q.1 i)=true:=List.any_eq_true.2 ⟨_,hm,Nat.beq_refl i⟩
   rw[this] at h2;cases h2
  refine⟨fun id bx hm=>?_,fun id bx bx' hm Mj=>?_⟩
  ·rcases List.mem_cons.1 hm with e|hm
   ·cases e;exact h1
   ·exact h4 id bx hm
  ·rcases List.mem_cons.1 hm with e|hm
   ·cases e;rcases List.mem_cons.1 Mj with e|Mj
    ·cases e;rfl
    ·exact absurd Mj (Hu _)
   ·rcases List.mem_cons.1 Mj with e|Mj
    ·cases e;exact absurd hm (Hu _)
    ·exact h5 id bx bx' hm Mj
theorem D3:∀{nw:List (Nat × Bk)} {hp:Nat->Option Bk},(∀id bx bx',(id,bx)∈nw->(id,bx')∈nw->bx=bx') ->
  (∀id bx,(id,bx)∈nw->Aq hp nw id=some bx)∧(∀id,(∀bx,(id,bx) ∉ nw)->Aq hp nw id=hp id)
 |[],_,_=>⟨by simp,fun _ _=>rfl⟩
 |(i,b)::r,hp,h=>by
  obtain⟨h1,h2⟩:=D3 (nw:=r) (hp:=Cb hp i (some b)) (fun id bx bx' hm Mj=>h id bx bx' (by simp[hm]) (by simp[Mj]))
  refine⟨fun id bx hm=>?_,fun id hn=>?_⟩
  ·by_cases hr:∃bx',(id,bx')∈r
   ·obtain⟨bx',hr⟩:=hr;have:=h id bx bx' hm (by simp[hr])
    subst this;exact h1 id bx hr
   ·rcases List.mem_cons.1 hm with e|hm
    ·cases e;show Aq (Cb hp i (some b)) r i=_;rw[h2 i (fun bx' hb=>hr ⟨bx',hb⟩),Al]
    ·exact absurd ⟨bx,hm⟩ hr
  ·show Aq (Cb hp i (some b)) r id=_;rw[h2 id (fun bx hb=>hn bx (by simp[hb])),Ah]
   rintro rfl
   exact hn b (by simp)
structure HP (Y:Nat->Prop) (β:Bt) (s:St) (w:World) (v:PV) (nw:List (Nat × Bk)) (val:Value) (w':World) (β':Bt):Prop where
 os:w'.os=w.os
 tape:w'.tape=w.tape
 output:w'.output=w.output
 ext:Bw (fun _=>False) w w'
 old:∀id,s.hp id≠none->β' id=β id
 nlive:∀id bx,(id,bx)∈nw->Cu (some bx)
 nbox:∀id bx,(id,bx)∈nw->Qv w' (Cs (Aq s.hp nw) β' Y) β' id bx
 nblk:∀id bx b o,(id,bx)∈nw->β' id=some (b,o)->w.heap.size<=b∧b<w'.heap.size
 ninj:∀id bx id' bx' b o o',(id,bx)∈nw->(id',bx')∈nw->β' id=some (b,o)->β' id'=some (b,o')->id=id'
 nwf:∀id cells,(id,.st cells)∈nw->∀c∈cells,∀id'∈Ao c,s.hp id'≠none∨∃bx,(id',bx)∈nw
 val:D6 w' (Cs (Aq s.hp nw) β' Y) β' v val
 vwf:∀id∈Bo v,s.hp id≠none∨∃bx,(id,bx)∈nw
theorem Cj.stepR (h:Cj N w0 X0 Y β s a w){d:Option Tmp}{v:PV}{nw:List (Nat × Bk)} {val:Value}(hd:F0 N d=true)(O1:Bn s.hp nw=true)
  (st:HP Y β s w v nw val w' β'):Cj N w0 X0 Y β' ⟨Bj s.tm d v,Aq s.hp nw⟩ (a.put d val) w':=by
 obtain⟨ha1,ha2⟩:=Bg O1;obtain⟨hg1,hg2⟩:=D3 (hp:=s.hp) ha2
 have G2:∀id,(∃bx,(id,bx)∈nw)∨Aq s.hp nw id=s.hp id:=fun id=>by
  by_cases hx:∃bx,(id,bx)∈nw
  ·exact .inl hx
  ·exact .inr (hg2 id fun bx hb=>hx ⟨bx,hb⟩)
 have Aub:∀id,s.hp id≠none->Aq s.hp nw id=s.hp id:=fun id hn=>by
  rcases G2 id with⟨bx,hx⟩|e
  ·exact absurd (ha1 id bx hx) hn
  ·exact e
 have Dy:∀id,(s.hp id≠none∨∃bx,(id,bx)∈nw)->Aq s.hp nw id≠none:=by
  rintro id (hn|⟨bx,hx⟩)
  ·rw[Aub id hn];exact hn
  ·rw[hg1 id bx hx];simp
 have Akp:∀b,b<w.heap.size->LX (Aq s.hp nw) β' b->LX s.hp β b:=by
  rintro b hb ⟨id,o,hl,hβ⟩
  rcases G2 id with⟨bx,hx⟩|e
  ·have:=(st.nblk id bx b o hx hβ).1;omega
  ·rw[e] at hl;exact⟨id,o,hl,by rw[←st.old id (Cl hl)];exact hβ⟩
 have VO:∀b,b<w.heap.size->Cs (Aq s.hp nw) β' Y b->Cs s.hp β Y b:=fun b hb hA=>hA.imp (Akp b hb) id
 have Afj:Bw (Cs s.hp β Y) w w':=st.ext.weaken (fun _ _ x=>x.elim)
 refine⟨by rw[Q4];exact h.dfr,by rw[Xk];exact h.tsz,LV hd h.tmo,?_,?_,?_,?_,?_,?_,?_,?_,?_,?_,?_,h.Ylt,?_⟩
 ·refine N2 (Q:=fun _ p u=>D6 w' (Cs (Aq s.hp nw) β' Y) β' p u) h.tsz hd (fun i hi=>?_) (fun _=>st.val)
  exact (h.tms i hi).step Afj VO fun id Bb=>st.old id (h.wfT i hi id Bb)
 ·intro id b hb;simp only at hb;rcases G2 id with⟨bx,hx⟩|e
  ·rw[hg1 id bx hx] at hb;cases hb;exact st.nbox id _ hx
  ·rw[e] at hb;have hβ:=st.old id (by rw[hb];simp)
   have Lm:=h.box id b hb;have Bp:=h.blt id;have Hu:s.hp id≠none:=by rw[hb];simp
   cases b with
   |st c=>
    obtain⟨b,o,h1,h2,h3⟩:=Lm;have Hh:=Bp b o Hu h1;have Vq:=st.ext.keep b Hh (fun x=>x)
    refine⟨b,o,by rw[hβ];exact h1,fun j c hj=>?_,fun j hj=>?_⟩
    ·obtain⟨v,hv,hc⟩:=h2 j c hj;refine⟨v,by rw[World.cell?_of_block (w:=w) Vq];exact hv,hc.step Afj VO fun id' Bb=>st.old id' ?_⟩
     exact h.wfB id _ hb c (List.mem_of_getElem? hj) id' Bb
    ·rw[World.frozen?_of_block (w:=w) Vq];exact h3 j hj
   |ar fz c=>
    rcases Lm with⟨h1,h2⟩|⟨b,o,h1,h2,h3,h4⟩
    ·exact .inl ⟨by rw[hβ];exact h1,h2⟩
    ·have Hh:=Bp b o Hu h1;have Vq:=st.ext.keep b Hh (fun x=>x)
     have Z8:bsz w' b=bsz w b:=by unfold bsz;rw[Vq]
     refine .inr ⟨b,o,by rw[hβ];exact h1,fun j c hj=>?_,fun e j hj Nk=>?_,fun e x=>h4 e (VO b Hh x)⟩
     ·obtain⟨v,hv,h5,hc⟩:=h2 j c hj;exact⟨v,by rw[World.cell?_of_block (w:=w) (by rw[E4];exact Vq)];exact hv,h5,hc.step Afj VO⟩
     ·rw[World.frozen?_of_block (w:=w) Vq];exact h3 e j hj (by rw[←Z8];exact Nk)
   |mv=>trivial
 ·intro id id' b o o' hl Jt hb Hh;simp only at hl Jt;rcases G2 id with⟨bx,hx⟩|e
  ·rcases G2 id' with⟨bx',Um⟩|e'
   ·exact st.ninj id bx id' bx' b o o' hx Um hb Hh
   ·rw[e'] at Jt;have h1:=(st.nblk id bx b o hx hb).1;have h2:=h.blt id' b o' (Cl Jt) (by rw[←st.old id' (Cl Jt)];exact Hh)
    omega
  ·rw[e] at hl;rcases G2 id' with⟨bx',Um⟩|e'
   ·have h1:=(st.nblk id' bx' b o' Um Hh).1;have h2:=h.blt id b o (Cl hl) (by rw[←st.old id (Cl hl)];exact hb)
    omega
   ·rw[e'] at Jt;exact h.inj id id' b o o' hl Jt (by rw[←st.old id (Cl hl)];exact hb) (by rw[←st.old id' (Cl Jt)];exact Hh)
 ·intro id b o hn hb;simp only at hn;rcases G2 id with⟨bx,hx⟩|e
  ·exact (st.nblk id bx b o hx hb).2
  ·rw[e] at hn;exact Nat.lt_of_lt_of_le (h.blt id b o hn (by rw[←st.old id hn];exact hb)) st.ext.size
 ·have:=N2 (Q:=fun _ p _=>∀id∈Bo p,Aq s.hp nw id≠none) (val:=val) (d:=d) (v:=v) h.tsz hd (fun i hi id Bb=>Dy id (.inl (h.wfT i hi id Bb))) (fun _ id Bb=>Dy id (st.vwf id Bb))
  exact this
 ·intro id cells hc c OA id' Bb;simp only at hc;rcases G2 id with⟨bx,hx⟩|e
  ·rw[hg1 id bx hx] at hc;cases hc;exact Dy id' (st.nwf id _ hx c OA id' Bb)
  ·rw[e] at hc;exact Dy id' (.inl (h.wfB id cells hc c OA id' Bb))
 ·rintro b ⟨id,o,hl,hb⟩
  simp only at hl;rcases G2 id with⟨bx,hx⟩|e
  ·exact .inr (Nat.le_trans h.fr.step.size (st.nblk id bx b o hx hb).1)
  ·rw[e] at hl;exact h.ownd b ⟨id,o,hl,by rw[←st.old id (Cl hl)];exact hb⟩
 ·intro id bx b o hb hl hβ Bp;simp only at hb;rcases G2 id with⟨bx',hx⟩|e
  ·have:=(st.nblk id bx' b o hx hβ).1;have:=h.fr.step.size;omega
  ·rw[e] at hb;exact h.rngB id bx b o hb hl (by rw[←st.old id (by rw[hb];simp)];exact hβ) Bp
 ·intro i hi;obtain⟨h1,h2⟩:=h.pin i hi;exact⟨Dy _ (.inl h1),by rw[st.old _ h1];exact h2⟩
 ·intro id c b o hb hβ Bp;simp only at hb;rcases G2 id with⟨bx',hx⟩|e
  ·have:=(st.nblk id bx' b o hx hβ).1;have:=h.fr.step.size;omega
  ·rw[e] at hb;exact h.stp id c b o hb (by rw[←st.old id (by rw[hb];simp)];exact hβ) Bp
 ·rintro b hY hX
  have hb:b<w.heap.size:=Nat.lt_of_lt_of_le (h.Ylt b hY) h.fr.step.size;exact h.Yx b hY (Akp b hb hX)
 ·refine⟨st.os.trans h.fr.os,st.tape.trans h.fr.tape,st.output.trans h.fr.output,h.fr.step.trans st.ext (fun _ _ x=>x.elim),fun b j hb hL=>?_⟩
  have Vq:=st.ext.keep b (Nat.lt_of_lt_of_le hb h.fr.step.size) (fun x=>x)
  have hc:w'.cell? ⟨b,j,none⟩=w.cell? ⟨b,j,none⟩:=World.cell?_of_block (w:=w) Vq;have hf:w'.frozen? ⟨b,j,none⟩=w.frozen? ⟨b,j,none⟩:=World.frozen?_of_block (w:=w) Vq;rw[hc,hf];exact h.fr.rng b j hb hL
end
open Go.RowKit
section
variable {P:Program} {N:Nat} {w0:World} {X0:Hm} {Y:Nat->Prop} {β β':Bt} {s:St} {a:Act} {w w':World} {o:Oper}
theorem QY (cs:List Value)(A:Nat->Prop):Ba (Bs w A β) (cs.map PV.sc) cs:=by
 induction cs with
 |nil=>trivial
 |cons v r ih=>exact⟨As.sc v,ih⟩
theorem UJ (cs:List Value):(cs.map PV.sc).flatMap Ao=[]:=by
 induction cs with
 |nil=>rfl
 |cons v r ih=>exact ih
theorem Co (h:Cj N w0 X0 Y β s a w)(x:Operand):D6 w (Cs s.hp β Y) β (Bu s.tm x) (a.eval x):=by
 cases x with
 |tmp t=>
  show D6 _ _ _ (s.tm t) (a.tmps.getD t undef);by_cases ht:t<N
  ·exact h.tms t ht
  ·rw[h.tmo t (Nat.le_of_not_lt ht)];exact As.top _
 |const v=>
  cases v with
  |agg cs=>exact⟨cs.toList,by simp[Act.eval],QY cs.toList _⟩
  |_=>exact As.sc _
 |func f=>exact As.sc _
 |global g=>exact As.sc _
theorem Ep (h:Cj N w0 X0 Y β s a w)(x:Operand):∀id∈Bo (Bu s.tm x),s.hp id≠none:=by
 cases x with
 |tmp t=>
  show ∀id∈Bo (s.tm t),_;by_cases ht:t<N
  ·exact h.wfT t ht
  ·rw[h.tmo t (Nat.le_of_not_lt ht)];intro id Bb;cases Bb
 |const v=>
  cases v with
  |agg cs=>
   intro id Bb;have:Bo (.agg (cs.toList.map .sc))=[]:=UJ cs.toList;simp only[Bu] at Bb;rw[this] at Bb;cases Bb
  |_=>intro id Bb;cases Bb
 |func f=>intro id Bb;cases Bb
 |global g=>intro id Bb;cases Bb
theorem Ym {A:Nat->Prop}{v u:Value}(h:D6 w A β (.sc v) u):u=v:=As.val h
theorem B1 (h:Cj N w0 X0 Y β s a w){x:Operand}{v:Value}(e:Bu s.tm x=.sc v):a.eval x=v:=by
 have:=Co h x;rw[e] at this;exact Ym this
def D2 (P:Program)(a:Act)(w:World)(o:Oper)(Y:Nat->Prop)(β:Bt)(s:St)(v:PV)(fz:List Nat)(nw:List (Nat × Bk)):Prop:=
 (∀id∈fz,∃f c,s.hp id=some (.ar f c))∧∃val w',(execOp a.eval o).run P w=.ok (.value val) w'∧(Bn s.hp nw=true->∃β',HP Y β ⟨s.tm,Ad s.hp fz⟩ w v nw val w' β')
theorem UT {v:PV}{val:Value}(hv:D6 w (Cs s.hp β Y) β v val) (hr:∀id∈Bo v,s.hp id≠none):HP Y β s w v [] val w β:=
 ⟨rfl,rfl,rfl,Bw.refl _ _,fun _ _=>rfl,by simp,by simp,by simp,by simp,by simp,hv,fun id Bb=>.inl (hr id Bb)⟩
theorem Bx {v:PV}{val:Value}(Cc:(execOp a.eval o).run P w=.ok (.value val) w) (hv:D6 w (Cs s.hp β Y) β v val) (hr:∀id∈Bo v,s.hp id≠none):D2 P a w o Y β s v [] []:=
 ⟨by simp,val,w,Cc,fun _=>⟨β,UT (s:=⟨s.tm,Ad s.hp []⟩) hv hr⟩⟩
theorem B6 {v:Value}(Cc:(execOp a.eval o).run P w=.ok (.value v) w):D2 P a w o Y β s (.sc v) [] []:=Bx Cc (As.sc v) (by intro id Bb;cases Bb)
structure Dl (w w':World) (c:Array Value) (e:TypeId):Prop where
 os:w'.os=w.os
 tape:w'.tape=w.tape
 output:w'.output=w.output
 old:∀b,b<w.heap.size->w'.heap[b]?=w.heap[b]?
 size:w'.heap.size=w.heap.size+1
 new:∃fz:Nat × Nat,w'.heap[w.heap.size]?=some (.cells c e fz)∧(fz.1=fz.2∨c.size<=fz.1)
theorem Dl.alloc (w:World)(c:Array Value)(e:TypeId):Dl w (w.alloc (.cells c e)) c e:=
 ⟨rfl,rfl,rfl,fun b hb=>Below.heap_alloc w _ b hb,by show (w.heap.push _).size=_;simp,(0,0),by show (w.heap.push _)[w.heap.size]?=_;simp,.inl rfl⟩
theorem Dl.drew {c:Array Value}{e:TypeId}(h:Dl w w' c e):Dl w w'.drew c e:=⟨h.os,h.tape,h.output,h.old,h.size,h.new⟩
section
variable {c:Array Value} {e:TypeId}
theorem Dl.step (h:Dl w w' c e):Bw (fun _=>False) w w':=
 ⟨by rw[h.size];omega,fun b hb _=>h.old b hb,fun b hb=>Hw.same (h.old b hb)⟩
theorem Dl.cell (h:Dl w w' c e)(j:Nat):w'.cell? ⟨w.heap.size,j,none⟩=c[j]?:=by
 obtain⟨fz,hn,_⟩:=h.new;simp[World.cell?,hn]
theorem Dl.frozen (h:Dl w w' c e){j:Nat}(hj:j<c.size):w'.frozen? ⟨w.heap.size,j,none⟩=false:=by
 obtain⟨fz,hn,hf⟩:=h.new;simp only[World.frozen?,hn];rcases hf with hf|hf<;>simp<;>omega
theorem Kh (w:World)(c:Array Value)(e:TypeId):PD (w.alloc (.cells c e)) w.heap.size=false:=by
 unfold PD World.frozen?;have:(w.alloc (.cells c e)).heap[w.heap.size]?=some (.cells c e (0,0)):=by show (w.heap.push _)[w.heap.size]?=_;simp
 simp only[this];simp
theorem Dl.bsz (h:Dl w w' c e):bsz w' w.heap.size=c.size:=by
 obtain⟨fz,hn,_⟩:=h.new;simp[Pv.bsz,hn]
end
theorem Qd {c:Array Value}{e:TypeId}{d:Nat}{bx:Bk}{v:PV}{val:Value}(hg:Dl w w' c e)(hd:s.hp d=none)(hl:Cu (some bx))
  (Lm:Qv w' (Cs (Cb s.hp d (some bx)) (Cb β d (some (w.heap.size,0))) Y) (Cb β d (some (w.heap.size,0))) d bx)
  (hcw:∀cells,bx=.st cells->∀x∈cells,∀id'∈Ao x,s.hp id'≠none)
  (hv:D6 w' (Cs (Cb s.hp d (some bx)) (Cb β d (some (w.heap.size,0))) Y) (Cb β d (some (w.heap.size,0))) v val)
  (hvr:∀id∈Bo v,s.hp id≠none∨id=d):HP Y β s w v [(d,bx)] val w' (Cb β d (some (w.heap.size,0))) where
 os:=hg.os
 tape:=hg.tape
 output:=hg.output
 ext:=hg.step
 old:=fun id hn=>Ah _ _ (by rintro rfl;exact hn hd)
 nlive:=by intro id b hm;simp at hm;obtain⟨rfl,rfl⟩:=hm;exact hl
 nbox:=by intro id b hm;simp at hm;obtain⟨rfl,rfl⟩:=hm;exact Lm
 nblk:=by
  intro id b x y hm hb;simp at hm;obtain⟨rfl,rfl⟩:=hm;rw[Al] at hb;simp at hb;have:=hg.size;omega
 ninj:=by intro id b id' b' x y z hm Mj _ _;simp at hm Mj;rw[hm.1,Mj.1]
 nwf:=by intro id cells hm x hx id' Bb;simp at hm;exact .inl (hcw cells hm.2.symm x hx id' Bb)
 val:=hv
 vwf:=by
  intro id Bb;rcases hvr id Bb with h|rfl
  ·exact .inl h
  ·exact .inr ⟨bx,by simp⟩
theorem WL {c:Array Value}{e:TypeId}(hg:Dl w w' c e){A A':Nat->Prop}(hA:∀b,b<w.heap.size->A' b->A b){cells:List PV}
  (h:∀(j:Nat) p,cells[j]?=some p->∃v,c[j]?=some v∧v.oneCell'=true∧As w A p v):Wv w' A' ⟨w.heap.size,0,none⟩ cells:=by
 intro j p hj;obtain⟨v,hv,h1,ht⟩:=h j p hj;exact⟨v,by rw[B8,Nat.zero_add,hg.cell];exact hv,h1,ht.step (hg.step.weaken (fun _ _ x=>x.elim)) hA⟩
theorem WQ {d:Nat}{bx:Bk}(hwf:s.hp d=none):∀b,b<w.heap.size->Cs (Cb s.hp d (some bx)) (Cb β d (some (w.heap.size,0))) Y b->Cs s.hp β Y b:=by
 intro b hb hA;rcases hA with⟨id,o,hl,hβ⟩|hY
 ·by_cases e:id=d
  ·subst e;rw[Al] at hβ;simp at hβ;omega
  ·rw[Ah _ _ e] at hl hβ;exact .inl ⟨id,o,hl,hβ⟩
 ·exact .inr hY
theorem Pf {c:Array Value}{e:TypeId}{d:Nat}{cells:List PV}{fz:List Nat}{v:PV}{val:Value}
  (Rt:∀id∈fz,∃f c,s.hp id=some (.ar f c))
  (Cc:(execOp a.eval o).run P w=.ok (.value val) w') (hg:Dl w w' c e)
  (hc:∀(j:Nat) p,cells[j]?=some p->∃u,c[j]?=some u∧u.oneCell'=true∧As w (Cs (Ad s.hp fz) β Y) p u)
  (hv:(v=.ptr d 0∧val=.pointer (some ⟨w.heap.size,0,none⟩))∨∃es n cap,v=.view d es 0 n∧val=.slice (some ⟨w.heap.size,0,none⟩) n cap∧n<=cap∧cap*es<=c.size∧(es=1∨PD w' w.heap.size=false)):
  D2 P a w o Y β s v fz [(d,.ar false cells)]:=by
 refine⟨Rt,val,w',Cc,fun O1=>⟨Cb β d (some (w.heap.size,0)),?_⟩⟩
 have hd:s.hp d=none:=(Bg O1).1 d (.ar false cells) (by simp)
 have hd':Ad s.hp fz d=none:=Dq.2 hd;refine Qd (s:=⟨s.tm,Ad s.hp fz⟩) hg hd' trivial ?_ (fun cells hx=>by cases hx) ?_ ?_
 ·refine .inr ⟨w.heap.size,0,Al _ _ _,?_,fun _ j _ hj=>?_,(fun x=>by cases x)⟩
  ·exact WL hg (WQ (s:=⟨s.tm,Ad s.hp fz⟩) hd') hc
  ·rw[hg.bsz] at hj;exact hg.frozen hj
 ·rcases hv with⟨rfl,rfl⟩|⟨es,n,cap,rfl,rfl,hn,Uj,Blx⟩
  ·exact⟨w.heap.size,0,Al _ _ _,rfl⟩
  ·exact .inr ⟨w.heap.size,0,0,cap,Al _ _ _,rfl,.inl rfl,hn,⟨by rw[hg.bsz];omega,Blx⟩,by rw[hg.size];omega⟩
 ·intro id Bb;rcases hv with⟨rfl,_⟩|⟨es,n,cap,rfl,_⟩<;>(simp[Bo,B4,Ao] at Bb;exact .inr Bb)
theorem HD {c:Array Value}{e:TypeId}{d:Nat}{cells:List PV}
  (Cc:(execOp a.eval o).run P w=.ok (.value (.pointer (some ⟨w.heap.size,0,none⟩))) w') (hg:Dl w w' c e)
  (hc:∀(j:Nat) p,cells[j]?=some p->∃u,c[j]?=some u∧Bs w (Cs s.hp β Y) β p u) (hr:∀x∈cells,∀id∈Ao x,s.hp id≠none):
  D2 P a w o Y β s (.ptr d 0) [] [(d,.st cells)]:=by
 refine⟨by simp,_,w',Cc,fun O1=>⟨Cb β d (some (w.heap.size,0)),?_⟩⟩
 have hd:s.hp d=none:=(Bg O1).1 d (.st cells) (by simp)
 refine Qd (s:=⟨s.tm,Ad s.hp []⟩) hg hd trivial ?_ (fun cs hx x ZP id Bb=>?_) ?_ ?_
 ·refine⟨w.heap.size,0,Al _ _ _,fun j p hj=>?_,fun j hj=>?_⟩
  ·obtain⟨u,hu,hp⟩:=hc j p hj;refine⟨u,by rw[Nat.zero_add,hg.cell];exact hu,hp.step (hg.step.weaken (fun _ _ x=>x.elim)) (WQ (s:=⟨s.tm,Ad s.hp []⟩) hd) fun id Bb=>Ah _ _ ?_⟩
   rintro rfl
   exact hr p (List.mem_of_getElem? hj) id Bb hd
  ·rw[Nat.zero_add];obtain⟨u,hu,_⟩:=hc j _ (List.getElem?_eq_getElem hj)
   exact hg.frozen (by
    rcases Nat.lt_or_ge j c.size with h|h
    ·exact h
    ·rw[Array.getElem?_eq_none h] at hu;cases hu)
 ·injection hx with hx;subst hx;exact hr x ZP id Bb
 ·exact⟨w.heap.size,0,Al _ _ _,rfl⟩
 ·intro id Bb;simp[Bo,B4,Ao] at Bb;exact .inr Bb
end
open Go.RowKit
section
variable {R:Type} {r:R} {P:Program} {N:Nat} {w0:World} {X0:Hm} {Y:Nat->Prop} {β β':Bt} {s:St} {a:Act} {w w':World} {o:Oper}
theorem Kt {t:TypeId}{n:Nat}(h:(P.info? t).map (·.size)=some n) (w:World):(sizeOf t).run P w=.ok n w:=by
 cases hi:P.info? t with
 |none=>rw[hi] at h;cases h
 |some i=>rw[hi] at h;simp at h;simp[sizeOf,typeInfo,hi,h]
theorem Aeq {t:TypeId}{n:Nat}(h:A4 P t=n)(hn:0<n):(P.info? t).map (·.size)=some n:=by
 unfold A4 at h;cases hi:(P.info? t).map (·.size) with
 |none=>rw[hi] at h;simp at h;omega
 |some i=>rw[hi] at h;simp at h;rw[h]
theorem Mu {t:TypeId}{d:TypeDesc}(h:P.underlying t=some d)(w:World):(isAgg t).run P w=.ok (Bv P t) w:=by
 unfold isAgg Bv;rw[h];simp only[Sem.run_bind,run_underlying h,Result.andThen_ok];cases d<;>rfl
theorem WS {t:TypeId}{v:Value}{K:PV->Option R}(h:cvK P t v K=some r):∃p,K p=some r∧Bo p=[]∧∀(w:World)(A:Nat->Prop)(β:Bt),D6 w A β p v:=by
 have sc:∀v:Value,K (.sc v)=some r->∃p,K p=some r∧Bo p=[]∧∀(w:World) (A:Nat->Prop) (β:Bt),D6 w A β p v:=fun v h=>⟨_,h,rfl,fun w A β=>As.sc v⟩
 unfold cvK at h;split at h
 ·rename_i cs;obtain⟨hl,h⟩:=Aj h;obtain⟨xs,h,hxl,hx⟩:=Sw h;have hl:=Nat.eq_of_beq_eq_true hl;refine⟨_,h,?_,fun w A β=>⟨cs.toList,by simp,?_⟩⟩
  ·show xs.flatMap Ao=[];rw[List.flatMap_eq_nil_iff];intro c hc;obtain⟨j,hj⟩:=List.mem_iff_getElem?.1 hc;exact Ha (hx j c hj).1
  ·refine Ba.of_at (by rw[hxl,hl]) fun i c u hc hu=>?_
   obtain⟨hT,p,hp,_,Zc⟩:=hx i c hc;refine (K9 hT).2 (Zc w A β u ?_).1;rw[Nat.zero_add,List.getElem?_map,hu] at hp;simp at hp;subst hp;exact As.sc u
 ·split at h
  ·exact⟨_,h,rfl,fun w A β=>As.lnil true _⟩
  ·cases h
 ·exact sc _ h
theorem Wg (h:Cj N w0 X0 Y β s a w){x:Operand}(Cc:(execOp a.eval o).run P w=.ok (.value (a.eval x)) w) {K:PV->Option R}(hk:Y7 P o.type s.tm x K=some r):
  ∃v,K v=some r∧D2 P a w o Y β s v [] []:=by
 have dflt:K (Bu s.tm x)=some r->∃v,K v=some r∧D2 P a w o Y β s v [] []:=fun hk=>⟨_,hk,Bx Cc (Co h x) (Ep h x)⟩
 cases x with
 |const v=>
  obtain⟨p,hk,hr,hv⟩:=WS hk;exact⟨p,hk,Bx Cc (hv _ _ _) (by rw[hr];simp)⟩
 |tmp t=>exact dflt hk
 |func f=>exact dflt hk
 |global g=>exact dflt hk
theorem Aay {x:Operand}(ho:o.op=.move x):(execOp a.eval o).run P w=.ok (.value (a.eval x)) w:=by unfold execOp;rw[ho];rfl
theorem OD {x:Operand}(ho:o.op=.assign x):(execOp a.eval o).run P w=.ok (.value (a.eval x)) w:=by unfold execOp;rw[ho];rfl
theorem SG (h:Cj N w0 X0 Y β s a w){c x y:Operand}(ho:o.op=.pick c x y){K:PV->Option R}(hk:(Av (Bu s.tm c) fun t=>Bd t (K (Bu s.tm x)) (K (Bu s.tm y)))=some r):
  ∃v,K v=some r∧D2 P a w o Y β s v [] []:=by
 obtain⟨b,hb,hk⟩:=Db hk;have hc:=B1 h hb;rcases Me hk with⟨rfl,hk⟩|⟨rfl,hk⟩
 ·exact⟨_,hk,Bx (by unfold execOp;rw[ho];simp[asBool,hc]) (Co h x) (Ep h x)⟩
 ·exact⟨_,hk,Bx (by unfold execOp;rw[ho];simp[asBool,hc]) (Co h y) (Ep h y)⟩
theorem Oi {t:TypeId}{K:List PV->Option R}(h:Gr P t K=some r):∃(v:Value)(cs:List PV),K cs=some r∧Ow P t=some v∧cs.length=(Hq P t).length∧cs.length=v.cells.toList.length∧cs.length=A4 P t ∧
  ∀(j:Nat) c,cs[j]?=some c->M0 c∧∃u,v.cells.toList[j]?=some u∧u.oneCell'=true∧∀(w:World) (A:Nat->Prop),As w A c u:=by
 unfold Gr at h;obtain⟨v,hz,h⟩:=B3 h;obtain⟨hl,h⟩:=Aj h;obtain⟨cs,h,N1,hc⟩:=Sw h;simp only[Bool.and_eq_true] at hl;have CI:=Nat.eq_of_beq_eq_true hl.1
 have NG:(Hq P t).length=A4 P t:=by
  have:=hl.2;simp only[Il,Bool.and_eq_true] at this;exact Nat.eq_of_beq_eq_true this.2
 refine⟨v,cs,h,hz,N1,by rw[N1,CI],by rw[N1,NG],fun j c hj=>?_⟩
 obtain⟨hT,p,hp,_,Zc⟩:=hc j c hj;rw[Nat.zero_add,List.getElem?_map] at hp;cases hu:v.cells.toList[j]? with
 |none=>rw[hu] at hp;cases hp
 |some u=>
  rw[hu] at hp;simp at hp;subst hp;exact⟨hT,u,rfl,(Zc default (fun _=>False) (fun _=>none) u (As.sc u)).2,fun w A=>(Zc w A (fun _=>none) u (As.sc u)).1⟩
theorem Uw {t:TypeId}{v:Value}(h:Ow P t=some v)(w:World):(zeroValue t).run P w=.ok v w:=by
 unfold Ow at h;cases hi:P.info? t with
 |none=>rw[hi] at h;cases h
 |some i=>rw[hi] at h;simp at h;simp[zeroValue,typeInfo,hi,h]
theorem PB {t:TypeId}(ho:o.op=.alloc t){d:Nat}{K:PV->List Nat->List (Nat × Bk)->Option R}
  (hk:(Gr P t fun cs=>K (.ptr d 0) [] [(d,Af9 P t cs)])=some r):∃v fz nw,K v fz nw=some r∧D2 P a w o Y β s v fz nw:=by
 obtain⟨z,cs,hk,hz,_,hl,_,hc⟩:=Oi hk
 have Cc:(execOp a.eval o).run P w=.ok (.value (.pointer (some ⟨w.heap.size,0,none⟩))) (w.alloc (.cells z.cells t)):=by
  unfold execOp;rw[ho];simp[Instr.alloc,Uw hz,newVar,newRow]
 have hg:=Dl.alloc w z.cells t;refine⟨_,_,_,hk,?_⟩;unfold Af9;cases Q7 P t
 ·refine HD Cc hg (fun j p hj=>?_) fun x hx id Bb=>?_
  ·obtain⟨hT,u,hu,_,hv⟩:=hc j p hj;exact⟨u,by simpa using hu,(K9 hT).2 (hv _ _)⟩
  ·obtain⟨j,hj⟩:=List.mem_iff_getElem?.1 hx;rw[Ha (hc j x hj).1] at Bb;cases Bb
 ·refine Pf (by simp) Cc hg (fun j p hj=>?_) (.inl ⟨rfl,rfl⟩)
  obtain⟨hT,u,hu,h1,hv⟩:=hc j p hj;exact⟨u,by simpa using hu,h1,hv _ _⟩
end
open Go.RowKit
section
variable {R:Type} {r:R} {P:Program} {N:Nat} {w0:World} {X0:Hm} {Y:Nat->Prop} {β β':Bt} {s:St} {a:Act} {w w':World} {o:Oper} {A:Nat->Prop}
theorem Pd {t:TypeId}(h:Il P t=true):(∃d,P.underlying t=some d)∧(Hq P t).length=A4 P t∧(P.info? t).map (·.size)=some (A4 P t):=by
 simp only[Il,Bool.and_eq_true] at h;refine⟨Option.isSome_iff_exists.1 h.1,Nat.eq_of_beq_eq_true h.2,?_⟩;unfold A4;cases hi:P.info? t with
 |none=>unfold Program.underlying at h;rw[hi] at h;cases h.1
 |some i=>simp
theorem Ms {v:Value}(h:v.oneCell'=true):v.cells = #[v]:=by cases v<;>first|rfl|cases h
theorem VM {p:PV}{v:Value}{ts:List CT}{K:List PV->Option R}(hv:D6 w A β p v)(hl:(cellsOf p).length=ts.length) (h:Nq ts (cellsOf p) 0 K=some r):
  ∃cs,K cs=some r∧cs.length=ts.length∧Ba (Bs w A β) cs v.cells.toList∧(∀u∈v.cells.toList,u.oneCell'=true)∧(∀c∈cs,∀id∈Ao c,id∈Bo p)∧∀c∈cs,(∀x,c ≠ .agg x)∧(∀x,c ≠ .tup x):=by
 obtain⟨cs,h,N1,Zg,hc⟩:=Tb h;refine⟨cs,h,N1,?_⟩
 have single:(∀x,p ≠ .agg x)->cellsOf p=[p]:=by
  intro hp;cases p<;>first|rfl|exact absurd rfl (hp _)
 by_cases Fs:∃x,p=.agg x
 ·obtain⟨x,rfl⟩:=Fs;obtain⟨vs,rfl,h2⟩:=hv;have Em:cs.length=vs.length:=by rw[N1,←hl];exact h2.len
  have key:∀(i:Nat) c u,cs[i]?=some c->vs[i]?=some u->Bs w A β c u∧u.oneCell'=true:=by
   intro i c u Rj hu;obtain⟨q,hq,_,_,hqv⟩:=hc i c Rj;rw[Nat.zero_add] at hq;exact hqv w A β u (h2.at_ hq hu)
  refine⟨Ba.of_at Em fun i c u Rj hu=>(key i c u Rj hu).1,?_,?_,Zg⟩
  ·intro u hu;obtain⟨i,hi⟩:=List.mem_iff_getElem?.1 (show u∈vs from hu)
   have Bp:i<vs.length:=by
    rcases Nat.lt_or_ge i vs.length with h|h
    ·exact h
    ·rw[List.getElem?_eq_none h] at hi;cases hi
   exact (key i _ u (List.getElem?_eq_getElem (by omega)) hi).2
  ·intro c OA id Bb;obtain⟨i,hi⟩:=List.mem_iff_getElem?.1 OA;obtain⟨q,hq,_,hr,_⟩:=hc i c hi;rw[Nat.zero_add] at hq;show id∈x.flatMap Ao;exact List.mem_flatMap.2 ⟨q,List.mem_of_getElem? hq,hr id Bb⟩
 ·have hp:∀x,p ≠ .agg x:=fun x e=>Fs ⟨x,e⟩
  rw[single hp] at hl hc;have CI:cs.length=1:=by rw[N1,←hl];rfl
  match cs,CI with
  |[c],_=>
   obtain⟨q,hq,hf,hr,hqv⟩:=hc 0 c rfl;simp at hq;subst hq;have Pp:∀x,p ≠ .tup x:=by rintro x rfl;exact hf
   have Nj:Bs w A β p v:=(Xl hp).1 ((N9 Pp).1 hv);obtain⟨h5,h6⟩:=hqv w A β v Nj;rw[Ms h6];refine⟨⟨h5,trivial⟩,?_,?_,Zg⟩
   ·intro u hu;simp at hu;subst hu;exact h6
   ·intro c' Rj id Bb;simp at Rj;subst Rj;have:=hr id Bb;cases p<;>first|exact this|exact absurd rfl (hp _)|exact absurd rfl (Pp _)
end
open Go.RowKit
section
variable {R:Type} {r:R} {P:Program} {N:Nat} {w0:World} {X0:Hm} {Y:Nat->Prop} {β β':Bt} {s:St} {a:Act} {w w':World} {o:Oper} {A:Nat->Prop}
theorem Ba.get {α β':Type}{R':α->β'->Prop}{zs:List α}{bs:List β'}(h:Ba R' zs bs){i:Nat}{x:α}(hx:zs[i]?=some x):∃y,bs[i]?=some y∧R' x y:=by
 have Bp:i<zs.length:=by
  rcases Nat.lt_or_ge i zs.length with h|h
  ·exact h
  ·rw[List.getElem?_eq_none h] at hx;cases hx
 have hb:bs[i]?=some (bs[i]'(by rw[←h.len];exact Bp)):=List.getElem?_eq_getElem _
 exact⟨_,hb,h.at_ hx hb⟩
theorem Aj3 {p:PV}{v:Value}{ts:List CT}{K:List PV->Option R}(hv:D6 w A β p v)(hl:(cellsOf p).length=ts.length) (h:R2 ts (cellsOf p) 0 K=some r):
  ∃cs,K cs=some r∧cs.length=ts.length∧Ba (As w A) cs v.cells.toList∧∀u∈v.cells.toList,u.oneCell'=true:=by
 obtain⟨cs,h,N1,hc⟩:=Sw h;refine⟨cs,h,N1,?_⟩;by_cases Fs:∃x,p=.agg x
 ·obtain⟨x,rfl⟩:=Fs;obtain⟨vs,rfl,h2⟩:=hv;have Em:cs.length=vs.length:=by rw[N1,←hl];exact h2.len
  have key:∀(i:Nat) c u,cs[i]?=some c->vs[i]?=some u->As w A c u∧u.oneCell'=true:=by
   intro i c u Rj hu;obtain⟨_,q,hq,_,hqv⟩:=hc i c Rj;rw[Nat.zero_add] at hq;exact hqv w A β u (h2.at_ hq hu)
  refine⟨Ba.of_at Em fun i c u Rj hu=>(key i c u Rj hu).1,?_⟩
  intro u hu;obtain⟨i,hi⟩:=List.mem_iff_getElem?.1 (show u∈vs from hu)
  have Bp:i<vs.length:=by
   rcases Nat.lt_or_ge i vs.length with h|h
   ·exact h
   ·rw[List.getElem?_eq_none h] at hi;cases hi
  exact (key i _ u (List.getElem?_eq_getElem (by omega)) hi).2
 ·have hp:∀x,p ≠ .agg x:=fun x e=>Fs ⟨x,e⟩
  have single:cellsOf p=[p]:=by cases p<;>first|rfl|exact absurd rfl (hp _)
  rw[single] at hl hc;have CI:cs.length=1:=by rw[N1,←hl];rfl
  match cs,CI with
  |[c],_=>
   obtain⟨_,q,hq,hf,hqv⟩:=hc 0 c rfl;simp at hq;subst hq;have Pp:∀x,p ≠ .tup x:=by rintro x rfl;exact hf
   have Nj:Bs w A β p v:=(Xl hp).1 ((N9 Pp).1 hv);obtain⟨h5,h6⟩:=hqv w A β v Nj;rw[Ms h6];exact⟨⟨h5,trivial⟩,fun u hu=>by simp at hu;subst hu;exact h6⟩
theorem Aav (h:Cj N w0 X0 Y β s a w){t:TypeId}{x:Operand}(ho:o.op=.box t x){d:Nat}{K:PV->List Nat->List (Nat × Bk)->Option R}
    (hk:(An (Il P t&&Nat.beq (cellsOf (Bu s.tm x)).length (Hq P t).length)
      (bif Q7 P t then R2 (Hq P t) (cellsOf (Bu s.tm x)) 0 fun cs=>K (.ptr d 0) [] [(d,.ar false cs)]
       else Nq (Hq P t) (cellsOf (Bu s.tm x)) 0 fun cs=>K (.ptr d 0) [] [(d,.st cs)]))=some r):∃v fz nw,K v fz nw=some r∧D2 P a w o Y β s v fz nw:=by
  obtain⟨hl,hk⟩:=Aj hk
  simp only[Bool.and_eq_true] at hl
  have hl:=Nat.eq_of_beq_eq_true hl.2
  have Cc:(execOp a.eval o).run P w=.ok (.value (.pointer (some ⟨w.heap.size,0,none⟩))) (w.alloc (.cells (a.eval x).cells t)):=by
    unfold execOp
    rw[ho]
    simp[Instr.box,newVar,newRow]
  have hg:=Dl.alloc w (a.eval x).cells t
  cases ha:Q7 P t
  · rw[ha] at hk
    obtain⟨cs,hk,_,h2,_,hr,_⟩:=VM (Co h x) hl hk
    refine⟨_,_,_,hk,HD Cc hg (fun j p hj=>?_) fun c hc id Bb=>Ep h x id (hr c hc id Bb)⟩
    obtain⟨u,hu,hp⟩:=h2.get hj
    exact⟨u,by simpa using hu,hp⟩
  · rw[ha] at hk
    obtain⟨cs,hk,_,h2,h1⟩:=Aj3 (Co h x) hl hk
    refine⟨_,_,_,hk,Pf (by simp) Cc hg (fun j p hj=>?_) (.inl ⟨rfl,rfl⟩)⟩
    obtain⟨u,hu,hp⟩:=h2.get hj
    exact⟨u,by simpa using hu,h1 u (List.mem_of_getElem? hu),hp⟩
theorem SW {c:PV}(h1:∀x,c ≠ .agg x)(h2:∀x,c ≠ .tup x):Bo c=Ao c:=by
 cases c<;>first|rfl|exact absurd rfl (h1 _)|exact absurd rfl (h2 _)
theorem Wd {t:TypeId}{ad:Addr}{cs:List PV}{p:PV}(Kd:Il P t=true)(Em:cs.length=(Hq P t).length)
  (Zg:∀c∈cs,(∀x,c ≠ .agg x)∧(∀x,c ≠ .tup x))
  (hc:∀(j:Nat) c,cs[j]?=some c->∃v,w.cell? (ad.add j)=some v∧Bs w A β c v)
  (hp:(Bv P t=true∧p=.agg cs)∨(Bv P t=false∧cs=[p])):∃val,(loadVar t ad).run P w=.ok val w∧D6 w A β p val:=by
 obtain⟨⟨d,hd⟩,hl,hi⟩:=Pd Kd;rcases hp with⟨Fs,rfl⟩|⟨Fs,rfl⟩
 ·have hf:∀j,j<A4 P t->w.cell? (ad.add j)=some ((w.cell? (ad.add j)).getD undef):=by
   intro j hj;obtain⟨v,hv,_⟩:=hc j _ (List.getElem?_eq_getElem (by omega))
   rw[hv];rfl
  refine⟨_,?_,(List.range (A4 P t)).map (fun j=>(w.cell? (ad.add j)).getD undef),rfl,?_⟩
  ·simp only[loadVar,Sem.run_bind,Mu hd,Fs,Result.andThen_ok,if_true,Kt hi,run_loadCells w ad (A4 P t) _ hf];simp
  ·refine Ba.of_at (by simp;omega) fun i c u Rj hu=>?_
   obtain⟨v,hv,Zo⟩:=hc i c Rj
   have Bp:i<A4 P t:=by
    rcases Nat.lt_or_ge i cs.length with h|h
    ·omega
    ·rw[List.getElem?_eq_none h] at Rj;cases Rj
   rw[List.getElem?_map,List.getElem?_range Bp] at hu;simp[hv] at hu;subst hu;exact Zo
 ·obtain⟨v,hv,Zo⟩:=hc 0 p rfl;have hn:=Zg p (by simp)
  have h0:ad.add 0=ad:=by simp[Addr.add]
  rw[h0] at hv;refine⟨v,?_,(N9 hn.2).2 ((Xl hn.1).2 Zo)⟩;simp only[loadVar,Sem.run_bind,Mu hd,Fs,Result.andThen_ok];simp[hv]
theorem Af0 {hp:Nat->Option Bk}{id:Nat}{c:List PV}(h:rd hp id=some c):hp id=some (.st c)∨∃f,hp id=some (.ar f c):=by
 unfold rd at h;split at h
 ·rename_i e;simp at h;subst h;exact .inl e
 ·rename_i f _ e;simp at h;subst h;exact .inr ⟨_,e⟩
 ·cases h
theorem KD {hp:Nat->Option Bk}{id:Nat}{c:List PV}(h:I9 hp id=some c):∃f,hp id=some (.ar f c):=by
 unfold I9 at h;split at h
 ·rename_i e;simp at h;subst h;exact⟨_,e⟩
 ·cases h
theorem CC (h:Cj N w0 X0 Y β s a w){id:Nat}{c:List PV}(hr:rd s.hp id=some c){b ob:Nat}(hβ:β id=some (b,ob)) {j:Nat}{p:PV}(hj:c[j]?=some p):
  ∃v,w.cell? ⟨b,ob+j,none⟩=some v∧Bs w (Cs s.hp β Y) β p v:=by
 rcases Af0 hr with hb|⟨f,hb⟩
 ·obtain⟨b',o',h1,h2,_⟩:=h.box id _ hb;rw[hβ] at h1;simp at h1;obtain⟨rfl,rfl⟩:=h1;exact h2 j p hj
 ·rcases h.box id _ hb with⟨h1,_⟩|⟨b',o',h1,h2,_⟩
  ·rw[hβ] at h1;cases h1
  ·rw[hβ] at h1;simp at h1;obtain⟨rfl,rfl⟩:=h1
   obtain⟨v,hv,_,ht⟩:=h2 j p hj;rw[B8] at hv;refine⟨v,hv,?_⟩;cases ht with
   |sc=>exact As.sc _
   |top=>exact As.top _
   |ub=>exact As.ub _
   |lnil=>exact As.lnil _ _
   |lemp=>exact As.lemp _ _ _
   |lst es n cells a cap f hs hb hA hn hc h1 hr=>exact As.lst es n cells a cap f hs hb hA hn hc h1 hr
theorem Kg:∀{ts:List CT}{cells:List PV}{off:Nat}{K:List PV->Option R},R2 ts cells off K=some r->Nq ts cells off K=some r
 |[],_,_,_,h=>h
 |.int k::ts,cells,off,K,h=>by
  obtain⟨n,hp,h⟩:=D7 (show Ae k (cells.getD off .top) _=some r from h)
  show Ae k _ _=_;rw[hp];simp only[Ae,if_true];exact Kg h
 |.bool::ts,cells,off,K,h=>by
  obtain⟨n,hp,h⟩:=Db (show Av (cells.getD off .top) _=some r from h)
  show Av _ _=_;rw[hp];exact Kg h
 |.str::ts,cells,off,K,h=>by
  obtain⟨n,hp,h⟩:=C4 (show E2 (cells.getD off .top) _=some r from h)
  show E2 _ _=_;rw[hp];exact Kg h
 |.sl es::ts,cells,off,K,h=>by
  obtain⟨z,n,c,h,hp⟩:=E6 (show Ca es (cells.getD off .top) _=some r from h)
  change fcK (.sl es) (cells.getD off .top) (fun c=>Nq ts cells (off+1) fun r=>K (c::r))=some r
  unfold fcK;dsimp only;unfold fsK;rcases hp with hp|⟨hp,rfl,rfl,rfl⟩
  ·rw[hp];simp only[Ca,Nat.beq_refl,cond_true];exact Kg h
  ·rw[hp];exact Kg h
 |.any::ts,cells,off,K,h=>by
  have hK:∀v,R2 ts cells (off+1) (fun r=>K (.sc v::r))=some r->Nq ts cells (off+1) (fun r=>K (.sc v::r))=some r:=fun v h=>Kg h
  have h:YX (cells.getD off .top) (fun v=>R2 ts cells (off+1) fun r=>K (.sc v::r))=some r:=h
  show YX (cells.getD off .top) (fun v=>Nq ts cells (off+1) fun r=>K (.sc v::r))=some r
  unfold YX at h ⊢;split at h
  ·rename_i e;exact hK _ h
  ·exact hK _ h
  ·cases h
theorem As.unz {w:World}{A:Nat->Prop}{z:Bool}{es n:Nat}{c:List PV}{u:Value}(h:As w A (.lst z es n c) u):As w A (.lst false es n c) u:=by
 cases h with
 |lnil z es=>exact .lnil false es
 |lemp es a cap=>exact .lemp es a cap
 |lst es n c a cap f h1 h2 h3 h4 h5 h6 h7=>exact .lst es n c a cap f h1 h2 h3 h4 h5 h6 h7
theorem Aaa {w:World}{A:Nat->Prop}{β:Bt}{p:PV}{u:Value}(h:Bs w A β p u):Bs w A β (MD p) u:=by
 cases p with
 |lst z es n c=>exact As.unz h
 |_=>exact h
theorem TI (p:PV):Ao (MD p)=Ao p:=by cases p<;>rfl
theorem HY {w:World}{A:Nat->Prop}{β:Bt}:∀{cs:List PV}{vs:List Value},Ba (Bs w A β) cs vs->Ba (Bs w A β) (cs.map MD) vs
 |[],[],_=>trivial
 |_::_,_::_,h=>⟨Aaa h.1,HY h.2⟩
 |[],_::_,h=>h.elim
 |_::_,[],h=>h.elim
theorem Aa3 {w:World}{A:Nat->Prop}{β:Bt}{p:PV}{u:Value}(h:D6 w A β p u):D6 w A β (VD p) u:=by
 cases p with
 |agg cs=>
  obtain⟨vs,h1,h2⟩:=(show Hf w A β (.agg cs) u from h)
  exact⟨vs,h1,HY h2⟩
 |lst z es n c=>exact As.unz (show As w A (.lst z es n c) u from h)
 |_=>exact h
theorem YM (p:PV):Bo (VD p)=Bo p:=by
 cases p with
 |agg cs=>
  show (cs.map MD).flatMap Ao=cs.flatMap Ao
  induction cs with
  |nil=>rfl
  |cons a l ih=>rw[List.map_cons,List.flatMap_cons,List.flatMap_cons,ih,TI]
 |_=>rfl
theorem Aim {nz:Bool}{hp:Nat->Option Bk}{t:TypeId}{x:PV}{K:PV->Option R}(h:Ww nz P (rd hp) (I9 hp) t x K=some r):
  Vi P (rd hp) t x K=some r∨Vi P (rd hp) t x (fun v=>K (VD v))=some r:=by
 have h':Vi P (rd hp) t x K=some r∨Vi P (rd hp) t x (fun v=>K (bif nz then v else VD v))=some r:=by
  unfold Ww at h;unfold Vi;split at h
  ·rename_i id off;obtain⟨hb,h⟩:=Aj h;rw[hb];show Dm _ _=_∨Dm _ _=_;split at h
   ·rename_i c hc;obtain⟨f,Lm⟩:=KD hc;have:rd hp id=some c:=by unfold rd;rw[Lm]
    rw[this];exact .inr (Kg h)
   ·exact .inl h
  ·exact .inr h
  ·cases h
 cases nz
 ·exact h'
 ·exact .inl (h'.elim id id)
theorem HF (h:Cj N w0 X0 Y β s a w){t:TypeId}{x:PV}{u:Value}(hx:D6 w (Cs s.hp β Y) β x u) {K:PV->Option R}(hk:Vi P (rd s.hp) t x K=some r):
  ∃v ad val,K v=some r∧u=.pointer (some ad)∧(loadVar t ad).run P w=.ok val w∧D6 w (Cs s.hp β Y) β v val∧∀i∈Bo v,s.hp i≠none:=by
 unfold Vi at hk;split at hk
 ·rename_i id off;obtain⟨Kd,hk⟩:=Aj hk;obtain⟨c,hr,hk⟩:=B3 hk;obtain⟨cs,hk,hl,Zg,hc⟩:=Tb hk;obtain⟨b,ob,hβ,Cx⟩:=hx
  have hcell:∀(j:Nat) q,cs[j]?=some q->∃v,w.cell? ((⟨b,ob+off,none⟩:Addr).add j)=some v∧Bs w (Cs s.hp β Y) β q v:=by
   intro j q hq;obtain⟨p,hp,_,_,Zc⟩:=hc j q hq;obtain⟨v,hv,Zo⟩:=CC h hr hβ hp;exact⟨v,by rw[B8,Nat.add_assoc];exact hv,(Zc _ _ _ _ Zo).1⟩
  have Uy:∀q∈cs,∀i∈Ao q,s.hp i≠none:=by
   intro q hq i hi;obtain⟨j,hj⟩:=List.mem_iff_getElem?.1 hq;obtain⟨p,hp,_,hpr,_⟩:=hc j q hj;rcases Af0 hr with hb|⟨f,hb⟩
   ·exact h.wfB id c hb p (List.mem_of_getElem? hp) i (hpr i hi)
   ·obtain⟨v,hv,Zo⟩:=CC h hr hβ hp;exfalso;have Ck:=hpr i hi;rcases h.box id _ hb with⟨_,rfl⟩|⟨b',o',h1,h2,_⟩
    ·simp at hp
    ·obtain⟨v',_,_,ht⟩:=h2 _ p hp;cases ht<;>cases Ck
  rcases KR hk with⟨Fs,Ex⟩|⟨Fs,q,rfl,Ex⟩
  ·obtain⟨val,We,hv⟩:=Wd Kd hl Zg hcell (.inl ⟨Fs,rfl⟩);refine⟨_,_,val,Ex,Cx,We,hv,fun i hi=>?_⟩
   obtain⟨q,hq,hi⟩:=List.mem_flatMap.1 (show i∈cs.flatMap Ao from hi)
   exact Uy q hq i hi
  ·obtain⟨val,We,hv⟩:=Wd Kd hl Zg hcell (.inr ⟨Fs,rfl⟩);refine⟨_,_,val,Ex,Cx,We,hv,fun i hi=>Uy q (by simp) i ?_⟩
   have hn:=Zg q (by simp)
   rw[SW hn.1 hn.2] at hi;exact hi
 ·rename_i c off;obtain⟨Kd,hk⟩:=Aj hk;obtain⟨cs,hk,hl,hc⟩:=Sw hk;obtain⟨ad,Cx,hs,hb,hA,hrd⟩:=hx
  have Zg:∀q∈cs,(∀x,q ≠ .agg x)∧(∀x,q ≠ .tup x):=by
   intro q hq;obtain⟨j,hj⟩:=List.mem_iff_getElem?.1 hq;exact⟨Wy (hc j q hj).1,VS (hc j q hj).1⟩
  have hcell:∀(j:Nat) q,cs[j]?=some q->∃v,w.cell? ((ad.add off).add j)=some v∧Bs w (Cs s.hp β Y) β q v:=by
   intro j q hq;obtain⟨hT,p,hp,DI,Zc⟩:=hc j q hq;obtain⟨v,hv,_,ht⟩:=hrd (off+j) p hp;exact⟨v,by rw[add_add];exact hv,(K9 hT).2 (Zc w (Cs s.hp β Y) β v ((K9 DI).2 ht)).1⟩
  have Uy:∀q∈cs,Ao q=[]:=by
   intro q hq;obtain⟨j,hj⟩:=List.mem_iff_getElem?.1 hq;exact Ha (hc j q hj).1
  rcases KR hk with⟨Fs,Ex⟩|⟨Fs,q,rfl,Ex⟩
  ·obtain⟨val,We,hv⟩:=Wd Kd hl Zg hcell (.inl ⟨Fs,rfl⟩);refine⟨_,_,val,Ex,Cx,We,hv,fun i hi=>?_⟩
   obtain⟨q,hq,hi⟩:=List.mem_flatMap.1 (show i∈cs.flatMap Ao from hi)
   rw[Uy q hq] at hi;cases hi
  ·obtain⟨val,We,hv⟩:=Wd Kd hl Zg hcell (.inr ⟨Fs,rfl⟩);refine⟨_,_,val,Ex,Cx,We,hv,fun i hi=>?_⟩
   have hn:=Zg q (by simp)
   rw[SW hn.1 hn.2,Uy q (by simp)] at hi
   cases hi
 ·cases hk
theorem QO (h:Cj N w0 X0 Y β s a w){t:TypeId}{x:PV}{u:Value}(hx:D6 w (Cs s.hp β Y) β x u) {nz:Bool}{K:PV->Option R}(hk:Ww nz P (rd s.hp) (I9 s.hp) t x K=some r):
  ∃v ad val,K v=some r∧u=.pointer (some ad)∧(loadVar t ad).run P w=.ok val w∧D6 w (Cs s.hp β Y) β v val∧∀i∈Bo v,s.hp i≠none:=by
 rcases Aim hk with hk|hk
 ·exact HF h hx hk
 ·obtain⟨v,ad,val,h1,h2,h3,h4,h5⟩:=HF h hx hk;exact⟨VD v,ad,val,h1,h2,h3,Aa3 h4,by rw[YM];exact h5⟩
theorem UX (h:Cj N w0 X0 Y β s a w){t:TypeId}{x:Operand}(ho:o.op=.load t x){nz:Bool}{K:PV->Option R}(hk:Ww nz P (rd s.hp) (I9 s.hp) t (Bu s.tm x) K=some r):
  ∃v,K v=some r∧D2 P a w o Y β s v [] []:=by
 obtain⟨v,ad,val,Dw,Cx,hl,hv,hr⟩:=QO h (Co h x) hk;refine⟨v,Dw,Bx ?_ hv hr⟩;unfold execOp;rw[ho];simp[Instr.loadAt,Instr.sureAddr,Cx,hl]
theorem ZY {x:PV}{d:Nat}{K:PV->Option R}(h:Sl x d K=some r):(∃id off,x=.ptr id off∧K (.ptr id (off+d))=some r)∨∃c off,x=.iptr c off∧K (.iptr c (off+d))=some r:=by
 unfold Sl at h;split at h
 ·exact .inl ⟨_,_,rfl,h⟩
 ·exact .inr ⟨_,_,rfl,h⟩
 ·cases h
theorem Vw (h:Cj N w0 X0 Y β s a w){x:Operand}{d:Nat}{K:PV->Option R}(hk:Sl (Bu s.tm x) d K=some r)
  (Cc:∀ad:Addr,a.eval x=.pointer (some ad)->(execOp a.eval o).run P w=.ok (.value (.pointer (some (ad.add d)))) w):∃v,K v=some r∧D2 P a w o Y β s v [] []:=by
 have hx:=Co h x;have FP:=Ep h x;rcases ZY hk with⟨id,off,e,hk⟩|⟨c,off,e,hk⟩
 ·rw[e] at hx FP;obtain⟨b,ob,hβ,Cx⟩:=hx;refine⟨_,hk,Bx (Cc _ Cx) ⟨b,ob,hβ,by rw[B8,Nat.add_assoc]⟩ FP⟩
 ·rw[e] at hx;obtain⟨ad,Cx,h1,h2,h3,h4⟩:=hx;exact⟨_,hk,Bx (Cc _ Cx) ⟨ad,by rw[add_add],h1,h2,h3,h4⟩ (by intro i hi;cases hi)⟩
theorem CS (h:Cj N w0 X0 Y β s a w){x:Operand}(ho:o.op=.nilCheck x){K:PV->Option R}(hk:Sl (Bu s.tm x) 0 K=some r):∃v,K v=some r∧D2 P a w o Y β s v [] []:=by
 refine Vw h hk fun ad Cx=>?_
 unfold execOp;rw[ho];simp[Cx,Addr.add]
theorem Wm {t:TypeId}{f:Nat}{q:Nat × TypeId}(h:Px P t f=some q):∃fs g,P.underlying t=some (.struct fs)∧fs[f]?=some g∧q=(g.offset,g.type):=by
 unfold Px at h;split at h
 ·rename_i fs e;cases hg:fs[f]? with
  |none=>rw[hg] at h;cases h
  |some g=>rw[hg] at h;simp at h;exact⟨fs,g,e,hg,h.symm⟩
 ·cases h
theorem AR (h:Cj N w0 X0 Y β s a w){t:TypeId}{x:Operand}{f:Nat}(ho:o.op=.fieldAddr t x f){K:PV->Option R}
  (hk:(Dm (Px P t f) fun q=>An (Nat.ble 1 (A4 P q.2)) (Sl (Bu s.tm x) q.1 K))=some r):∃v,K v=some r∧D2 P a w o Y β s v [] []:=by
 obtain⟨q,hq,hk⟩:=B3 hk;obtain⟨hs,hk⟩:=Aj hk;obtain⟨fs,g,hu,hg,rfl⟩:=Wm hq;have hs:1<=A4 P g.type:=Nat.le_of_ble_eq_true hs;have L8:=Aeq (P:=P) (t:=g.type) rfl (by omega)
 refine Vw h hk fun ad Cx=>?_
 unfold execOp;rw[ho];have Hu:¬A4 P g.type=0:=by omega
 simp[Instr.fieldAt,run_underlying hu,hg,Instr.sureAddr,Cx,fieldPlace,Kt L8,Hu]
end
open Go.RowKit
section
variable {R:Type} {r:R} {P:Program} {N:Nat} {w0:World} {X0:Hm} {Y:Nat->Prop} {β β':Bt} {s:St} {a:Act} {w w':World} {o:Oper} {A:Nat->Prop}
theorem BZ (h:Cj N w0 X0 Y β s a w){t:TypeId}{cs:List PV}{vs:List Value}{off:Nat}{K:PV->Option R}{x:Operand}(hx:Bu s.tm x=.agg cs)(hv:Ba (Bs w (Cs s.hp β Y) β) cs vs)
  (hk:An (Il P t) (Nq (Hq P t) cs off fun c=>WD (Bv P t) c K)=some r)
  (Cc:∀val,(part t ⟨vs⟩ off).run P w=.ok val w->(execOp a.eval o).run P w=.ok (.value val) w):∃v,K v=some r∧D2 P a w o Y β s v [] []:=by
 obtain⟨Kd,hk⟩:=Aj hk;obtain⟨⟨d,hd⟩,hl,hi⟩:=Pd Kd;obtain⟨qs,hk,hql,Zg,hq⟩:=Tb hk;have FP:=Ep h x;rw[hx] at FP
 have hcell:∀(j:Nat) q,qs[j]?=some q->∃v,vs[off+j]?=some v∧Bs w (Cs s.hp β Y) β q v:=by
  intro j q hj;obtain⟨p,hp,_,_,Zc⟩:=hq j q hj;obtain⟨v,Nj,hc⟩:=hv.get hp;exact⟨v,Nj,(Zc _ _ _ _ hc).1⟩
 have Uy:∀q∈qs,∀i∈Ao q,s.hp i≠none:=by
  intro q hqm i hi;obtain⟨j,hj⟩:=List.mem_iff_getElem?.1 hqm;obtain⟨p,hp,_,hpr,_⟩:=hq j q hj;exact FP i (List.mem_flatMap.2 ⟨p,List.mem_of_getElem? hp,hpr i hi⟩)
 rcases KR hk with⟨Fs,Ex⟩|⟨Fs,q,rfl,Ex⟩
 ·have Z0:A4 P t=0∨off+A4 P t<=vs.length:=by
   rcases Nat.eq_zero_or_pos (A4 P t) with h0|h0
   ·exact .inl h0
   ·obtain⟨v,Nj,_⟩:=hcell (A4 P t-1) _ (List.getElem?_eq_getElem (by omega))
    have:off+(A4 P t-1)<vs.length:=by
     rcases Nat.lt_or_ge (off+(A4 P t-1)) vs.length with h|h
     ·exact h
     ·rw[List.getElem?_eq_none h] at Nj;cases Nj
    exact .inr (by omega)
  refine⟨_,Ex,Bx (Cc (.agg ⟨(vs.drop off).take (A4 P t)⟩) ?_) ⟨(vs.drop off).take (A4 P t),rfl,?_⟩ fun i hi=>?_⟩
  ·simp only[part,Sem.run_bind,Mu hd,Fs,Result.andThen_ok,if_true,Kt hi];simp[List.extract_eq_take_drop]
  ·refine Ba.of_at ?_ fun i c u hc hu=>?_
   ·simp only[List.length_take,List.length_drop];omega
   ·obtain⟨v,Nj,Zo⟩:=hcell i c hc
    have Bp:i<A4 P t:=by
     rcases Nat.lt_or_ge i qs.length with h|h
     ·omega
     ·rw[List.getElem?_eq_none h] at hc;cases hc
    rw[List.getElem?_take_of_lt Bp,List.getElem?_drop,Nj] at hu;cases hu;exact Zo
  ·obtain⟨q,hqm,hi⟩:=List.mem_flatMap.1 (show i∈qs.flatMap Ao from hi)
   exact Uy q hqm i hi
 ·obtain⟨v,Nj,Zo⟩:=hcell 0 q rfl;have hn:=Zg q (by simp)
  refine⟨_,Ex,Bx (Cc v ?_) ((N9 hn.2).2 ((Xl hn.1).2 Zo)) fun i hi=>?_⟩
  ·simp only[part,Sem.run_bind,Mu hd,Fs,Result.andThen_ok];rw[Nat.add_zero] at Nj;simp[Nj]
  ·rw[SW hn.1 hn.2] at hi;exact Uy q (by simp) i hi
theorem OM (h:Cj N w0 X0 Y β s a w){t:TypeId}{x:Operand}{f:Nat}(ho:o.op=.field t x f){K:PV->Option R}
  (hk:(Dm (Px P t f) fun q=>An (Il P q.2)<|Gd (Bu s.tm x) fun cs=>Nq (Hq P q.2) cs q.1 fun c=>WD (Bv P q.2) c K)=some r):∃v,K v=some r∧D2 P a w o Y β s v [] []:=by
 obtain⟨q,hq,hk⟩:=B3 hk;obtain⟨Kd,hk⟩:=Aj hk;obtain⟨cs,hx,hk⟩:=Gw hk;obtain⟨fs,g,hu,hg,rfl⟩:=Wm hq;have hxv:=Co h x;rw[hx] at hxv;obtain⟨vs,Cx,hv⟩:=hxv;refine BZ (t:=g.type) (off:=g.offset) h hx hv (by rw[show Il P g.type=true from Kd];exact hk) fun val hp=>?_
 unfold execOp;rw[ho];simp[Instr.field,run_underlying hu,hg,asAgg,Cx,hp]
theorem FU (h:Cj N w0 X0 Y β s a w){x:Operand}{i:Nat}(ho:o.op=.extract x i){K:PV->Option R}
  (hk:(match Bu s.tm x with | .tup vs=>Dm vs[i]? K|_=>none)=some r):∃v,K v=some r∧D2 P a w o Y β s v [] []:=by
 have hx:=Co h x;have FP:=Ep h x;split at hk
 ·rename_i ps e;rw[e] at hx FP;obtain⟨p,hp,hk⟩:=B3 hk;obtain⟨vs,Cx,hv⟩:=hx;obtain⟨v,Nj,Zc⟩:=hv.get hp
  have Akx:∀y,p ≠ .tup y:=by
   rintro y rfl
   have Bmh:As _ _ (.tup y) v:=Zc;cases Bmh
  refine⟨p,hk,Bx (val:=v) ?_ ((N9 Akx).2 Zc) fun id Bb=>FP id ?_⟩
  ·unfold execOp;rw[ho];simp[Instr.extract,Cx,Nj]
  ·refine List.mem_flatMap.2 ⟨p,List.mem_of_getElem? hp,?_⟩;cases p<;>first|exact Bb|exact absurd rfl (Akx _)
 ·cases hk
theorem F1 {es:Nat}{p:PV}{z:Bool}{n:Nat}{c:List PV}{v:Value}(hp:p=.lst z es n c∨(p=.sc (.slice none 0 0)∧z=true∧n=0∧c=[])) (hv:D6 w A β p v):
  (v=.slice none 0 0∧n=0∧c=[])∨(∃ad cap,v=.slice (some ad) n cap∧z=false∧n<=cap∧ad.spot=none∧ad.block<w.heap.size∧¬A ad.block∧Wv w A ad c)∨∃ad cap,v=.slice (some ad) 0 cap∧z=false∧n=0∧c=[]:=by
 have Nj:Bs w A β p v:=by rcases hp with rfl|⟨rfl,_⟩<;>exact hv
 have ht:=Vu hp Nj;cases ht with
 |lnil=>exact .inl ⟨rfl,rfl,rfl⟩
 |lst _ _ _ ad cap f hs hb hA hn hc h1 hr=>exact .inr (.inl ⟨ad,cap,rfl,rfl,hn,hs,hb,hA,fun j q hj=>⟨f j,hc j q hj,h1 j q hj,hr j q hj⟩⟩)
 |lemp _ ad cap=>exact .inr (.inr ⟨ad,cap,rfl,rfl,rfl,rfl⟩)
theorem AQ (h:Cj N w0 X0 Y β s a w){t:TypeId}{x i:Operand}(ho:o.op=.indexAddr t x i){K:PV->Option R}
  (hk:(C8 (Bu s.tm i) fun _ n=>Kl P t (Bu s.tm x) n K)=some r):∃v,K v=some r∧D2 P a w o Y β s v [] []:=by
 obtain⟨ik,n,hi,hk⟩:=C2 hk;have hai:=B1 h hi;have hx:=Co h x;have FP:=Ep h x;unfold Kl at hk;split at hk
 ·rename_i len e hu;obtain⟨hz,hk⟩:=Aj hk;obtain⟨hb,hk⟩:=Aj hk;simp only[Bool.and_eq_true,decide_eq_true_eq] at hb;obtain⟨inf,Oy⟩:=Option.isSome_iff_exists.1 hz;refine Vw h hk fun ad Cx=>?_
  unfold execOp;rw[ho];simp[Instr.indexAt,asIntOf,hai,Cx,run_underlying hu,Instr.sureAddr,hb.1,hb.2,sizeOf,typeInfo,Oy,A4]
 ·rename_i e hu;obtain⟨hz,hk⟩:=Aj hk;obtain⟨inf,Oy⟩:=Option.isSome_iff_exists.1 hz;have L8:A4 P e=inf.size:=by simp[A4,Oy]
  split at hk
  ·rename_i id es off n' e';rw[e'] at hx FP;obtain⟨Vy,hk⟩:=Aj hk;have Vy:=Nat.eq_of_beq_eq_true Vy;subst Vy;obtain⟨hb,hk⟩:=Aj hk;simp only[Bool.and_eq_true,decide_eq_true_eq] at hb;rcases hx with⟨_,_,rfl,_⟩|⟨b,ob,y,cap,hβ,Cx,hy,_⟩
   ·omega
   ·have hy:y=ob+off:=by rcases hy with hy|⟨rfl,_⟩<;>omega
    subst hy;refine⟨_,hk,Bx (val:=.pointer (some ⟨b,ob+(off+n.toNat*A4 P e),none⟩)) ?_ ⟨b,ob,hβ,rfl⟩ FP⟩;unfold execOp;rw[ho];simp[Instr.indexAt,asIntOf,hai,Cx,run_underlying hu,hb.1,hb.2,sizeOf,typeInfo,Oy,L8,B8,Nat.add_assoc]
  ·obtain⟨z,n',c,hk,hp⟩:=E6 hk;obtain⟨hb,hk⟩:=Aj hk;simp only[Bool.and_eq_true,decide_eq_true_eq] at hb;rcases F1 hp hx with⟨_,rfl,_⟩|⟨ad,cap,Cx,_,_,h1,h2,h3,h4⟩|⟨_,_,_,_,rfl,_⟩
   ·omega
   rotate_left
   ·omega
   ·refine⟨_,hk,Bx (val:=.pointer (some (ad.add (n.toNat*A4 P e)))) ?_ ⟨ad,rfl,h1,h2,h3,h4⟩ (by intro i hi;cases hi)⟩
    unfold execOp;rw[ho];simp[Instr.indexAt,asIntOf,hai,Cx,run_underlying hu,hb.1,hb.2,sizeOf,typeInfo,Oy,L8]
 ·cases hk
theorem PO (h:Cj N w0 X0 Y β s a w){t:TypeId}{x i:Operand}(ho:o.op=.index t x i){K:PV->Option R}
  (hk:(C8 (Bu s.tm i) fun _ n=>
   match P.underlying t with
   |some .string=>E2 (Bu s.tm x) fun s=>An (decide (0<=n)) (Dm (s.data.toList[n.toNat]?) fun b=>K (.sc (.int .u8 b.toNat)))
   |some (.array len e)=>Gd (Bu s.tm x) fun cs=>An (decide (0<=n)&&decide (n<len)&&Il P e) (Nq (Hq P e) cs (n.toNat*A4 P e) fun c=>WD (Bv P e) c K)
   |_=>none)=some r):∃v,K v=some r∧D2 P a w o Y β s v [] []:=by
 obtain⟨ik,n,hi,hk⟩:=C2 hk;have hai:=B1 h hi;split at hk
 ·rename_i hu;obtain⟨sb,hx,hk⟩:=C4 hk;have Cx:=B1 h hx;obtain⟨h0,hk⟩:=Aj hk;obtain⟨b,hb,hk⟩:=B3 hk;have h0:=of_decide_eq_true h0;refine⟨_,hk,B6 ?_⟩
  have Bp:n.toNat<sb.size:=by
   rcases Nat.lt_or_ge n.toNat sb.data.toList.length with h|h
   ·simpa using h
   ·rw[List.getElem?_eq_none h] at hb;cases hb
  have Hh:sb[n.toNat]=b:=by
   have:sb.data.toList[n.toNat]?=some sb[n.toNat]:=by
    rw[List.getElem?_eq_getElem (by simpa using Bp)]
    rfl
   rw[hb] at this;injection this with this;exact this.symm
  unfold execOp;rw[ho];simp[Instr.index,asIntOf,hai,Cx,run_underlying hu,h0,Bp,Hh]
 ·rename_i len e hu;obtain⟨cs,hx,hk⟩:=Gw hk;obtain⟨hb,hk⟩:=Aj hk;simp only[Bool.and_eq_true,decide_eq_true_eq] at hb;have hxv:=Co h x;rw[hx] at hxv;obtain⟨vs,Cx,hv⟩:=hxv;obtain⟨_,_,L8⟩:=Pd hb.2;refine BZ (t:=e) (off:=n.toNat*A4 P e) h hx hv (by rw[hb.2];exact hk) fun val hp=>?_
  unfold execOp;rw[ho];simp[Instr.index,asIntOf,hai,Cx,run_underlying hu,hb.1.1,hb.1.2,Kt L8,hp]
 ·cases hk
end
open Go.RowKit
section
variable {R:Type} {r:R} {P:Program} {N:Nat} {w0:World} {X0:Hm} {Y:Nat->Prop} {β β':Bt} {s:St} {a:Act} {w w':World} {o:Oper} {A:Nat->Prop}
theorem Dn (h:Cj N w0 X0 Y β s a w){x:Option Operand}{dflt:Nat}{K:Nat->Option R}(hk:Gf (x.map (Bu s.tm)) dflt K=some r):
  ∃l,K l=some r∧((x=none∧l=dflt)∨∃y k,x=some y∧a.eval y=.int k (l:Int)):=by
 cases x with
 |none=>exact⟨dflt,hk,.inl ⟨rfl,rfl⟩⟩
 |some y=>
  obtain⟨k,i,hi,hk⟩:=C2 (show C8 (Bu s.tm y) _=some r from hk)
  obtain⟨h0,hk⟩:=Aj hk;have h0:=of_decide_eq_true h0;exact⟨i.toNat,hk,.inr ⟨y,k,rfl,by rw[B1 h hi,Int.toNat_of_nonneg h0]⟩⟩
theorem H8 {lo hi:Option Operand}{isS:Bool}{len cap l u:Nat}(hl:(lo=none∧l=0)∨∃y k,lo=some y∧a.eval y=.int k (l:Int))
  (hu:(hi=none∧u=len)∨∃y k,hi=some y∧a.eval y=.int k (u:Int)) (h1:l<=u)(h2:u<=cap):
  (Instr.sliceBounds isS len cap (lo.map a.eval) (hi.map a.eval) none).run P w=.ok (l,u,cap) w:=by
 rcases hl with⟨rfl,rfl⟩|⟨y,k,rfl,hy⟩<;>rcases hu with⟨rfl,rfl⟩|⟨y',k',rfl,hy'⟩
 ·simp[Instr.sliceBounds]
 ·simp[Instr.sliceBounds,Instr.sliceBound,asIntOf,hy',h2]
 ·simp[Instr.sliceBounds,Instr.sliceBound,asIntOf,hy,h1]
 ·simp[Instr.sliceBounds,Instr.sliceBound,asIntOf,hy,hy',h1,h2]
theorem Ci {e:TypeId}(h:(P.info? e).isSome=true) (w:World):(sizeOf e).run P w=.ok (A4 P e) w:=by
 obtain⟨i,hi⟩:=Option.isSome_iff_exists.1 h;exact Kt (by simp[A4,hi]) w
theorem V7 {b j:Nat}{v:Value}(h:w.cell? ⟨b,j,none⟩=some v):j<bsz w b:=by
 unfold World.cell? at h;unfold bsz;split at h
 ·rename_i c e fz hb;simp only at hb;rw[hb];simp only[Option.isSome_none,Bool.false_eq_true,if_false] at h;rcases Nat.lt_or_ge j c.size with Bp|hge
  ·exact Bp
  ·rw[Array.getElem?_eq_none hge] at h;cases h
 ·cases h
theorem RE (h:Cj N w0 X0 Y β s a w){t:TypeId}{x:Operand}{lo hi:Option Operand}(ho:o.op=.slice t x lo hi none){K:PV->Option R}
  (hk:Yf P (rd s.hp) t (Bu s.tm x) (lo.map (Bu s.tm)) (hi.map (Bu s.tm)) K=some r):∃v,K v=some r∧D2 P a w o Y β s v [] []:=by
 have hx:=Co h x;have FP:=Ep h x;unfold Yf at hk;split at hk
 ·rename_i hu;obtain⟨sb,BD,hk⟩:=C4 hk;have Cx:=B1 h BD;obtain⟨l,hk,hl⟩:=Dn h hk;obtain⟨u,hk,I1⟩:=Dn h hk;obtain⟨hb,hk⟩:=Aj hk;simp only[Bool.and_eq_true,decide_eq_true_eq] at hb;refine⟨_,hk,B6 ?_⟩;unfold execOp;rw[ho];simp[Instr.sliceAt,Instr.slice,run_underlying hu,Cx,H8 hl I1 hb.1 hb.2]
 ·rename_i e hu;obtain⟨Oy,hk⟩:=Aj hk;split at hk
  ·rename_i id es off n e';rw[e'] at hx FP;obtain⟨Vy,hk⟩:=Aj hk;have Vy:=Nat.eq_of_beq_eq_true Vy;subst Vy;obtain⟨l,hk,hl⟩:=Dn h hk;obtain⟨u,hk,I1⟩:=Dn h hk;obtain⟨hb,hk⟩:=Aj hk;simp only[Bool.and_eq_true,decide_eq_true_eq] at hb;rcases hx with⟨hβ,rfl,rfl,ad,Cx⟩|⟨b,ob,y,cap,hβ,Cx,hy,hn,Uj,Bp⟩
   ·have hu0:u=0:=by omega
    have hl0:l=0:=by omega
    subst hu0 hl0;refine⟨_,hk,Bx (val:=.slice ad 0 0) ?_ (.inl ⟨hβ,by simp,rfl,ad,rfl⟩) FP⟩
    unfold execOp;rw[ho];cases ad<;>simp[Instr.sliceAt,Instr.slice,run_underlying hu,Cx,H8 hl I1 (Nat.le_refl 0) (Nat.le_refl 0),Ci Oy]
   ·have Cc:(execOp a.eval o).run P w=.ok (.value (.slice (some (if cap=l then ⟨b,y,none⟩ else ⟨b,y+l*A4 P e,none⟩)) (u-l) (cap-l))) w:=by
     unfold execOp;rw[ho];have NE:=H8 (P:=P) (w:=w) (isS:=true) hl I1 hb.1 (Nat.le_trans hb.2 hn);simp[Instr.sliceAt,Instr.slice,run_underlying hu,Cx,NE,Ci Oy,B8];split<;>rfl
    refine⟨_,hk,Bx Cc (.inr ?_) FP⟩;by_cases hc:cap=l
    ·rw[if_pos hc];refine⟨b,ob,y,cap-l,hβ,rfl,?_,by omega,⟨by rw[hc,Nat.sub_self];have:=Uj.1;omega,Uj.2⟩,Bp⟩
     by_cases h0:l*A4 P e=0
     ·rw[h0,Nat.add_zero];rcases hy with hy|⟨MZ,Ou⟩
      ·exact .inl hy
      ·exact .inr ⟨by omega,Ou⟩
     ·exact .inr ⟨by omega,by omega⟩
    ·rw[if_neg hc];refine⟨b,ob,y+l*A4 P e,cap-l,hβ,rfl,?_,by omega,?_,Bp⟩
     ·rcases hy with hy|⟨MZ,Ou⟩
      ·exact .inl (by omega)
      ·exact .inr ⟨by omega,by omega⟩
     ·have:l*A4 P e+(cap-l)*A4 P e=cap*A4 P e:=by
       rw[←Nat.add_mul]
       congr 1
       omega
      have:=Uj.1;exact⟨by omega,Uj.2⟩
  ·obtain⟨z,n,c,hk,hp⟩:=E6 hk;obtain⟨l,hk,hl⟩:=Dn h hk;obtain⟨u,hk,I1⟩:=Dn h hk;obtain⟨hb,hk⟩:=Aj hk;simp only[Bool.and_eq_true,decide_eq_true_eq] at hb;rcases F1 hp hx with⟨Cx,rfl,rfl⟩|⟨ad,cap,Cx,rfl,hn,h1,h2,h3,h4⟩|⟨ad,cap,Cx,rfl,rfl,rfl⟩
   rotate_right
   ·have hu0:u=0:=by omega
    have hl0:l=0:=by omega
    subst hu0 hl0;refine⟨_,hk,Bx (val:=.slice (some (if cap=0 then ad else ad.add (0*A4 P e))) (0-0) (cap-0)) ?_ ?_ (by intro i hi;cases hi)⟩
    ·unfold execOp;rw[ho];have NE:=H8 (P:=P) (w:=w) (isS:=true) hl I1 (Nat.le_refl 0) (Nat.zero_le cap);simp[Instr.sliceAt,Instr.slice,run_underlying hu,Cx,NE,Ci Oy];split<;>rfl
    ·have:((([]:List PV).drop (0*A4 P e)).take ((0-0)*A4 P e))=[]:=by simp
     rw[this];exact As.lemp _ _ _
   ·have hu0:u=0:=by omega
    have hl0:l=0:=by omega
    subst hu0 hl0;refine⟨_,hk,Bx (val:=.slice none 0 0) ?_ ?_ (by intro i hi;cases hi)⟩
    ·unfold execOp;rw[ho];simp[Instr.sliceAt,Instr.slice,run_underlying hu,Cx,H8 hl I1 (Nat.le_refl 0) (Nat.le_refl 0),Ci Oy]
    ·have:((([]:List PV).drop (0*A4 P e)).take ((0-0)*A4 P e))=[]:=by simp
     rw[this];exact As.lnil z _
   ·have Cc:(execOp a.eval o).run P w=.ok (.value (.slice (some (if cap=l then ad else ad.add (l*A4 P e))) (u-l) (cap-l))) w:=by
     unfold execOp;rw[ho];have NE:=H8 (P:=P) (w:=w) (isS:=true) hl I1 hb.1 (Nat.le_trans hb.2 hn);simp[Instr.sliceAt,Instr.slice,run_underlying hu,Cx,NE,Ci Oy];split<;>rfl
    refine⟨_,hk,Bx Cc ?_ (by intro i hi;cases hi)⟩
    by_cases hc:cap=l
    ·rw[if_pos hc];have:u-l=0:=by omega
     rw[this];simp only[Nat.zero_mul,List.take_zero];exact As.lst _ _ [] ad _ (fun _=>undef) h1 h2 h3 (by omega) (by simp) (by simp) (by simp)
    ·rw[if_neg hc]
     have hcell:∀(j:Nat) q,((c.drop (l*A4 P e)).take ((u-l)*A4 P e))[j]?=some q->c[l*A4 P e+j]?=some q:=by
      intro j q hq;rw[List.getElem?_take] at hq;split at hq
      ·rw[List.getElem?_drop] at hq;exact hq
      ·cases hq
     refine As.lst _ _ _ (ad.add (l*A4 P e)) _ (fun j=>(w.cell? (ad.add (l*A4 P e+j))).getD undef) (Afv h1 _) (by rw[E4];exact h2) (by rw[E4];exact h3) (by omega) (fun j q hq=>?_) (fun j q hq=>?_) (fun j q hq=>?_)
     ·obtain⟨v,hv,_⟩:=h4 _ q (hcell j q hq);rw[add_add,hv];rfl
     ·obtain⟨v,hv,h5,_⟩:=h4 _ q (hcell j q hq);rw[hv];exact h5
     ·obtain⟨v,hv,_,ht⟩:=h4 _ q (hcell j q hq);rw[hv];exact ht
 ·rename_i n e hu;obtain⟨Oy,hk⟩:=Aj hk;split at hk
  ·rename_i id off e';rw[e'] at hx FP;obtain⟨c,hrc,hk⟩:=B3 hk;obtain⟨Em,hk⟩:=Aj hk;simp only[Bool.and_eq_true,decide_eq_true_eq] at Em;have Vy:=Nat.eq_of_beq_eq_true Em.2
   replace Em:=Em.1
   obtain⟨l,hk,hl⟩:=Dn h hk;obtain⟨u,hk,I1⟩:=Dn h hk;obtain⟨hb,hk⟩:=Aj hk;simp only[Bool.and_eq_true,decide_eq_true_eq] at hb;obtain⟨b,ob,hβ,Cx⟩:=hx
   have Z8:ob+off+n*A4 P e<=bsz w b:=by
    obtain⟨v,hv,_⟩:=CC h hrc hβ (j:=off+n*A4 P e-1) (List.getElem?_eq_getElem (by omega))
    have:=V7 hv;omega
   have Bp:b<w.heap.size:=h.blt id b ob (FP id (by simp[Bo,B4,Ao])) hβ
   have Cc:(execOp a.eval o).run P w=.ok (.value (.slice (some (if n=l then ⟨b,ob+off,none⟩ else ⟨b,ob+off+l*A4 P e,none⟩)) (u-l) (n-l))) w:=by
    unfold execOp;rw[ho];have NE:=H8 (P:=P) (w:=w) (isS:=false) hl I1 hb.1 hb.2;simp[Instr.sliceAt,Instr.sureAddr,run_underlying hu,Cx,NE,Ci Oy,B8]
   refine⟨_,hk,Bx Cc (.inr ?_) FP⟩;by_cases hc:n=l
   ·rw[if_pos hc];refine⟨b,ob,ob+off,n-l,hβ,rfl,?_,by omega,⟨by rw[hc,Nat.sub_self];omega,.inl Vy⟩,Bp⟩
    by_cases h0:l*A4 P e=0
    ·rw[h0,Nat.add_zero];exact .inl rfl
    ·exact .inr ⟨by omega,by omega⟩
   ·rw[if_neg hc];refine⟨b,ob,ob+off+l*A4 P e,n-l,hβ,rfl,.inl (by omega),by omega,?_,Bp⟩
    have:l*A4 P e+(n-l)*A4 P e=n*A4 P e:=by
     rw[←Nat.add_mul]
     congr 1
     omega
    exact⟨by omega,.inl Vy⟩
  ·cases hk
 ·cases hk
end
open Go.RowKit
section
variable {R:Type} {r:R} {P:Program} {N:Nat} {w0:World} {X0:Hm} {Y:Nat->Prop} {β β':Bt} {s:St} {a:Act} {w w':World} {o:Oper} {A:Nat->Prop}
theorem ZB (h:Cj N w0 X0 Y β s a w){c:Call}(ho:o.op=.call c)(hc:c.callee=.builtin .len){K:PV->Option R}
  (hk:(Aa c.args.toList fun x _=>Aa c.argTypes.toList fun t _=>ZR P t (Bu s.tm x) fun n=>K (.sc (.int .i64 n)))=some r):∃v,K v=some r∧D2 P a w o Y β s v [] []:=by
 obtain⟨x,xs,BD,hk⟩:=A3 hk;obtain⟨t,ts,hts,hk⟩:=A3 hk;have hx:=Co h x;have Eg:c.args=(x::xs).toArray:=by rw[←BD]
 have AX:c.argTypes=(t::ts).toArray:=by rw[←hts]
 have Cc:∀n:Nat,(Builtin.len_ c.argTypes o.type (c.args.map a.eval)).run P w=.ok (.int .i64 n) w->(execOp a.eval o).run P w=.ok (.value (.int .i64 n)) w:=by
  intro n hl;unfold execOp;rw[ho];simp only[resolve,hc,invoke,builtin,Sem.run_bind,Sem.run_pure,Result.andThen_ok,hl]
 unfold ZR at hk;split at hk
 ·rename_i hu;obtain⟨sb,Bn8,hk⟩:=C4 hk;have Cx:=B1 h Bn8;refine⟨_,hk,B6 (Cc _ ?_)⟩;simp[Builtin.len_,Eg,AX,run_underlying hu,Cx,goInt]
 ·rename_i n e hu;refine⟨_,hk,B6 (Cc _ ?_)⟩;simp[Builtin.len_,Eg,AX,run_underlying hu,goInt]
 ·rename_i e hu;split at hk
  ·rename_i id es off n e';rw[e'] at hx;obtain⟨_,hk⟩:=Aj hk;refine⟨_,hk,B6 (Cc _ ?_)⟩;rcases hx with⟨_,_,rfl,ad,Cx⟩|⟨b,ob,y,cap,_,Cx,_⟩<;>simp[Builtin.len_,Eg,AX,run_underlying hu,Cx,goInt]
  ·obtain⟨z,n,cc,hk,hp⟩:=E6 hk;refine⟨_,hk,B6 (Cc _ ?_)⟩;rcases F1 hp hx with⟨Cx,rfl,_⟩|⟨ad,cap,Cx,_⟩|⟨ad,cap,Cx,_,rfl,_⟩<;>simp[Builtin.len_,Eg,AX,run_underlying hu,Cx,goInt]
 ·cases hk
theorem Aaz (h:Cj N w0 X0 Y β s a w){c:Call}(ho:o.op=.call c)(hc:c.callee=.builtin .cap){K:PV->Option R}
  (hk:(Aa c.args.toList fun x _=>Aa c.argTypes.toList fun t _=>ZL P t (Bu s.tm x) fun n=>K (.sc (.int .i64 n)))=some r):∃v,K v=some r∧D2 P a w o Y β s v [] []:=by
 obtain⟨x,xs,BD,hk⟩:=A3 hk;obtain⟨t,ts,hts,hk⟩:=A3 hk;have hx:=Co h x;have Eg:c.args=(x::xs).toArray:=by rw[←BD]
 have AX:c.argTypes=(t::ts).toArray:=by rw[←hts]
 have Cc:∀n:Nat,(Builtin.cap_ c.argTypes o.type (c.args.map a.eval)).run P w=.ok (.int .i64 n) w->(execOp a.eval o).run P w=.ok (.value (.int .i64 n)) w:=by
  intro n hl;unfold execOp;rw[ho];simp only[resolve,hc,invoke,builtin,Sem.run_bind,Sem.run_pure,Result.andThen_ok,hl]
 unfold ZL at hk;split at hk
 ·rename_i e hu;obtain⟨z,n,cc,hk,hp⟩:=E6 hk;obtain⟨hz,hk⟩:=Aj hk;refine⟨_,hk,B6 (Cc _ ?_)⟩;rcases F1 hp hx with⟨Cx,rfl,_⟩|⟨ad,cap,Cx,CH,_⟩|⟨ad,cap,Cx,CH,_,_⟩
  ·simp[Builtin.cap_,Eg,AX,run_underlying hu,Cx,goInt]
  ·rw[hz] at CH;cases CH
  ·rw[hz] at CH;cases CH
 ·cases hk
theorem Aap (h:Cj N w0 X0 Y β s a w){c:Call}(ho:o.op=.call c)(hc:c.callee=.builtin .min){K:PV->Option R}
  (hk:(Aa c.args.toList fun x r=>Aa r fun y r'=>Ac r' (Ahu (Bu s.tm x) (Bu s.tm y) K))=some r):∃v,K v=some r∧D2 P a w o Y β s v [] []:=by
 obtain⟨x,xs,BD,hk⟩:=A3 hk;obtain⟨y,ys,rfl,hk⟩:=A3 hk;obtain⟨rfl,hk⟩:=C5 hk;obtain⟨k,n,hx,hk⟩:=C2 hk;obtain⟨m,hy,hk⟩:=D7 hk
 have Eg:c.args = #[x,y]:=by
  have:c.args=([x,y]:List Operand).toArray:=by rw[←BD]
  exact this
 refine⟨_,hk,B6 ?_⟩;unfold execOp;rw[ho];simp[resolve,hc,invoke,builtin,Eg,Builtin.min_,Builtin.min2,B1 h hx,B1 h hy]
theorem YW (h:Cj N w0 X0 Y β s a w){c:Call}(ho:o.op=.call c)(hc:c.callee=.builtin .max){K:PV->Option R}
  (hk:(Aa c.args.toList fun x r=>Aa r fun y r'=>Ac r' (Aj0 (Bu s.tm x) (Bu s.tm y) K))=some r):∃v,K v=some r∧D2 P a w o Y β s v [] []:=by
 obtain⟨x,xs,BD,hk⟩:=A3 hk;obtain⟨y,ys,rfl,hk⟩:=A3 hk;obtain⟨rfl,hk⟩:=C5 hk;obtain⟨k,n,hx,hk⟩:=C2 hk;obtain⟨m,hy,hk⟩:=D7 hk
 have Eg:c.args = #[x,y]:=by
  have:c.args=([x,y]:List Operand).toArray:=by rw[←BD]
  exact this
 refine⟨_,hk,B6 ?_⟩;unfold execOp;rw[ho];simp[resolve,hc,invoke,builtin,Eg,Builtin.max_,Builtin.max2,B1 h hx,B1 h hy]
theorem TG (h:Cj N w0 X0 Y β s a w){op:UnOp}{t:TypeId}{x:Operand}(ho:o.op=.unOp op t x){K:PV->Option R}(hk:unK op (Bu s.tm x) K=some r):
  ∃v,K v=some r∧D2 P a w o Y β s v [] []:=by
 unfold unK at hk;split at hk
 ·obtain⟨b,hb,hk⟩:=Db hk;refine⟨_,hk,B6 ?_⟩;unfold execOp;rw[ho];simp[Op.unary,B1 h hb]
 ·obtain⟨k,n,hb,hk⟩:=C2 hk;refine⟨_,hk,B6 ?_⟩;unfold execOp;rw[ho];simp[Op.unary,Op.intArith,B1 h hb]
 ·obtain⟨k,n,hb,hk⟩:=C2 hk;refine⟨_,hk,B6 ?_⟩;unfold execOp;rw[ho];simp[Op.unary,Op.intBits,B1 h hb,Awj]
 ·cases hk
theorem ZI {op:BinOp}{k:IntKind}{m n:Int}{t:TypeId}{x y:Operand}{K:PV->Option R}(hs1:op ≠ .shl)(hs2:op ≠ .shr)(hk:DX op k m n K=some r):
  ∃v,K (.sc v)=some r∧(do eqGuard op t x y (.int k m) (.int k n);binOp op t (.int k m) (.int k n)).run P w=.ok v w:=by
 cases op<;>first
  |exact absurd rfl hs1
  |exact absurd rfl hs2
  |(obtain⟨hb,hk⟩:=Aj hk;have hb:=of_decide_eq_true hb;exact⟨_,hk,by simp[eqGuard,binOp,Op.intDiv,hb]⟩)
  |exact⟨_,hk,by simp[eqGuard,binOp,-BitVec.toNat_and,-BitVec.toNat_or,-BitVec.toNat_xor,-gt_iff_lt,-ge_iff_le]<;>rfl⟩
theorem Abb {op:BinOp}{m n:ByteArray}{t:TypeId}{x y:Operand}{K:PV->Option R}(hk:CG op m n K=some r):
  ∃v,K (.sc v)=some r∧(do eqGuard op t x y (.string m) (.string n);binOp op t (.string m) (.string n)).run P w=.ok v w:=by
 cases op<;>first
  |cases hk
  |(obtain⟨hb,hk⟩:=Aj hk;have hb:=of_decide_eq_true hb;exact⟨_,hk,by
    have Hh:¬(((m.size+n.size:Nat):Int)>IntKind.i64.max):=by
     have:IntKind.i64.max=9223372036854775807:=rfl;rw[this];omega
    simp only[eqGuard,binOp,Op.stringOp,if_neg Hh];rfl⟩)
  |exact⟨_,hk,by simp only[eqGuard,binOp,Op.stringOp,ByteArray.toList_eq];rfl⟩
end
open Go.RowKit
section
variable {R:Type} {r:R} {P:Program} {N:Nat} {w0:World} {X0:Hm} {Y:Nat->Prop} {β β':Bt} {s:St} {a:Act} {w w':World} {o:Oper} {A:Nat->Prop}
theorem CM {t:TypeId}(hu:P.underlying t=some .bool)(x y:Bool):(Op.equal t (.bool x) (.bool y)).run P w=.ok (x==y) w:=by
 have h:∀d,(Op.equalIn (d+1) t (.bool x) (.bool y)).run P w=.ok (x==y) w:=fun d=>by simp[Op.equalIn,run_underlying hu]
 exact h 9999
theorem Tz {t e:TypeId}(hu:P.underlying t=some (.slice e)) (x:Option Addr)(n c:Nat):(Op.equal t (.slice x n c) (.slice none 0 0)).run P w=.ok x.isNone w:=by
 have h:∀d,(Op.equalIn (d+1) t (.slice x n c) (.slice none 0 0)).run P w=.ok x.isNone w:=fun d=>by
  cases x<;>simp[Op.equalIn,run_underlying hu]
 exact h 9999
theorem Wi {t k e:TypeId}(hu:P.underlying t=some (.map k e)):(Op.equal t (.map none) (.map none)).run P w=.ok true w:=by
 have h:∀d,(Op.equalIn (d+1) t (.map none) (.map none)).run P w=.ok true w:=fun d=>by
  simp[Op.equalIn,run_underlying hu]
 exact h 9999
theorem Ig {t:TypeId}(d:Nat){v u:Value}(hv:(∃k m n,P.underlying t=some (.int k)∧v=.int k m∧u=.int k n)∨(∃m n,P.underlying t=some .bool∧v=.bool m∧u=.bool n)∨∃m n,P.underlying t=some .string∧v=.string m∧u=.string n) {b:Bool}
  (hb:∀k m n,v=.int k m->u=.int k n->b=(m==n)) (Hh:∀m n,v=.bool m->u=.bool n->b=(m==n)) (Bia:∀m n,v=.string m->u=.string n->b=(m==n)):(Op.equalIn (d+1) t v u).run P w=.ok b w:=by
 rcases hv with⟨k,m,n,hu,rfl,rfl⟩|⟨m,n,hu,rfl,rfl⟩|⟨m,n,hu,rfl,rfl⟩
 ·rw[hb k m n rfl rfl];simp[Op.equalIn,run_underlying hu]
 ·rw[Hh m n rfl rfl];simp[Op.equalIn,run_underlying hu]
 ·rw[Bia m n rfl rfl];simp[Op.equalIn,run_underlying hu]
theorem Qz {t:TypeId}{dsc:TypeDesc}(hu:P.underlying t=some dsc)(hd:Bv P t=false){xs:Array Value}{i:Nat}{v:Value}(hv:xs[i]?=some v):(part t xs i).run P w=.ok v w:=by
 simp only[part,Sem.run_bind,Mu hu,hd,Result.andThen_ok];simp[hv]
theorem HX (k:IntKind)(n:Int)(K:Int->Option R):Ae k (.sc (.int k n)) K=K n:=by simp[Ae]
theorem NU (d : Nat) : ∀ (fs : List Field) (i : Nat) (xs ys : Array Value) (ps qs : List PV) (K : Bool -> Option R), OP P fs i = true -> Lc (fs.map (fty P)) ps qs K = some r ->
    (∀ (j : Nat) p, ps[j]? = some p -> ∃ v, xs[i + j]? = some v ∧ Bs w A β p v) -> (∀ (j : Nat) p, qs[j]? = some p -> ∃ v, ys[i + j]? = some v ∧ Bs w A β p v) ->
    ∃ b, K b = some r ∧ (forIn fs ((none, ()) : Option Bool × Unit) fun (f : Field) (_ : Option Bool × Unit) =>
            if f.name = "_" then pure (ForInStep.yield ((none, ()) : Option Bool × Unit))
            else do
              let x ← part f.type xs f.offset
              let y ← part f.type ys f.offset
              let e ← Op.equalIn (d + 1) f.type x y
              if e = false then pure (ForInStep.done ((some false, ()) : Option Bool × Unit)) else pure (ForInStep.yield ((none, ()) : Option Bool × Unit)) : Sem (Option Bool × Unit)).run P w = .ok (if b then (none, ()) else (some false, ())) w
  | [], i, xs, ys, ps, qs, K, _, hk, _, _ => by
    cases ps with
    | nil => cases qs with
      | nil => exact⟨true, hk, by simp⟩
      | cons q qs => cases hk
    | cons p ps => cases hk
  | f :: fs, i, xs, ys, ps, qs, K, IU, hk, hp, hq => by
    simp only[OP, Bool.and_eq_true] at IU
    obtain⟨⟨⟨Ou, Acm⟩, hty⟩, Uq⟩ := IU
    have Ou := Nat.eq_of_beq_eq_true Ou
    have EW : f.name ≠ "_" := by simpa using Acm
    cases ps with
    | nil =>
      simp only[List.map_cons] at hk
      cases Ap5 : fty P f <;> rw[Ap5] at hk <;> cases hk
    | cons p ps =>
      cases qs with
      | nil =>
        simp only[List.map_cons] at hk
        cases Ap5 : fty P f <;> rw[Ap5] at hk <;> cases hk
      | cons q qs =>
        obtain⟨v, hv, Zc⟩ := hp 0 p rfl
        obtain⟨u, hu, hqu⟩ := hq 0 q rfl
        rw[Nat.add_zero] at hv hu
        have main : ∃ b0 dsc, P.underlying f.type = some dsc ∧ Bv P f.type = false ∧ (Op.equalIn (d + 1) f.type v u).run P w = .ok b0 w ∧ Lc (fs.map (fty P)) ps qs (fun r => K (b0 && r)) = some r := by
          simp only[List.map_cons] at hk
          unfold fty at hk
          split at hk
          · rename_i k Jq
            obtain⟨m, DE, Dw⟩ := D7 (show Ae k p _ = some r from hk)
            obtain⟨n, FJ, Ex⟩ := D7 Dw
            subst DE FJ
            have Nj : v = .int k m := As.val (w := w) (A := A) Zc
            have I1 : u = .int k n := As.val (w := w) (A := A) hqu
            subst Nj I1
            refine⟨m == n, _, Jq, by simp[Bv, Jq], Ig d (.inl ⟨k, m, n, Jq, rfl, rfl⟩) ?_ ?_ ?_, Ex⟩
            · intro k' m' n' h1 h2; injection h1 with _ h1; injection h2 with _ h2; rw[h1, h2]
            · intro m' n' h1; cases h1
            · intro m' n' h1; cases h1
          · rename_i Jq
            obtain⟨m, DE, Dw⟩ := Db (show Av p _ = some r from hk)
            obtain⟨n, FJ, Ex⟩ := Db Dw
            subst DE FJ
            have Nj : v = .bool m := As.val (w := w) (A := A) Zc
            have I1 : u = .bool n := As.val (w := w) (A := A) hqu
            subst Nj I1
            refine⟨m == n, _, Jq, by simp[Bv, Jq], Ig d (.inr (.inl ⟨m, n, Jq, rfl, rfl⟩)) ?_ ?_ ?_, Ex⟩
            · intro k' m' n' h1; cases h1
            · intro m' n' h1 h2; injection h1 with h1; injection h2 with h2; rw[h1, h2]
            · intro m' n' h1; cases h1
          · rename_i Jq
            obtain⟨m, DE, Dw⟩ := C4 (show E2 p _ = some r from hk)
            obtain⟨n, FJ, Ex⟩ := C4 Dw
            subst DE FJ
            have Nj : v = .string m := As.val (w := w) (A := A) Zc
            have I1 : u = .string n := As.val (w := w) (A := A) hqu
            subst Nj I1
            refine⟨m == n, _, Jq, by simp[Bv, Jq], Ig d (.inr (.inr ⟨m, n, Jq, rfl, rfl⟩)) ?_ ?_ ?_, Ex⟩
            · intro k' m' n' h1; cases h1
            · intro m' n' h1; cases h1
            · intro m' n' h1 h2; injection h1 with h1; injection h2 with h2; rw[h1, h2]
          · cases hk
        obtain⟨b0, dsc, Jq, Fs, he, hk⟩ := main
        obtain⟨b, hkb, Cc⟩ := NU d fs (i + 1) xs ys ps qs _ Uq hk (fun j p' hj => by have := hp (j + 1) p' hj; rwa [Nat.add_assoc, Nat.add_comm 1 j]) (fun j p' hj => by have := hq (j + 1) p' hj; rwa [Nat.add_assoc, Nat.add_comm 1 j])
        refine⟨b0 && b, hkb, ?_⟩
        have hpx : (part f.type xs f.offset).run P w = .ok v w := Qz Jq Fs (by rw[Ou]; exact hv)
        have hpy : (part f.type ys f.offset).run P w = .ok u w := Qz Jq Fs (by rw[Ou]; exact hu)
        cases b0
        · simp[List.forIn_cons, EW, hpx, hpy, he]
        · simp only[Bool.true_and]
          rw[← Cc]
          simp[List.forIn_cons, EW, hpx, hpy, he]
theorem AU (d:Nat){t:TypeId}{fs:Array Field}(hu:P.underlying t=some (.struct fs)) (Lx:P.stoodInHeld t=false)(IU:OP P fs.toList 0=true){xs ys:List PV}{vx vy:List Value}
  (hvx:Ba (Bs w A β) xs vx) (hvy:Ba (Bs w A β) ys vy) {K:Bool->Option R}(hk:Lc (fs.toList.map (fty P)) xs ys K=some r):
  ∃b,K b=some r∧(Op.equalIn (d+2) t (.agg ⟨vx⟩) (.agg ⟨vy⟩)).run P w=.ok b w:=by
 obtain⟨b,hkb,Cc⟩:=NU (P:=P) (w:=w) (A:=A) (β:=β) d fs.toList 0 ⟨vx⟩ ⟨vy⟩ xs ys K IU hk (fun j p hj=>by
   obtain⟨v,hv,hc⟩:=hvx.get hj;exact⟨v,by simpa using hv,hc⟩) (fun j p hj=>by
   obtain⟨v,hv,hc⟩:=hvy.get hj;exact⟨v,by simpa using hv,hc⟩)
 refine⟨b,hkb,?_⟩;rw[Array.forIn_toList] at Cc;rw[Op.equalIn];simp[run_underlying hu,Lx];rw[Cc];cases b<;>simp
theorem X1:∀(ts1:List CT){ts2:List CT}{ps qs:List PV}{K:Bool->Option R},Lc (ts1++ts2) ps qs K=some r ->
  Lc ts1 (ps.take ts1.length) (qs.take ts1.length) (fun b=>Lc ts2 (ps.drop ts1.length) (qs.drop ts1.length) fun r'=>K (b&&r'))=some r
 |[],ts2,ps,qs,K,h=>by
  simp only[List.length_nil,List.take_zero,List.drop_zero,Lc,Bool.true_and];exact h
 |t::ts1,ts2,ps,qs,K,h=>by
  rw[List.cons_append] at h;cases ps with
  |nil=>cases t<;>cases h
  |cons p ps=>
   cases qs with
   |nil=>cases t<;>cases h
   |cons q qs=>
    simp only[List.length_cons,List.take_succ_cons,List.drop_succ_cons];cases t with
    |int k=>
     obtain⟨m,DE,h1⟩:=D7 (show Ae k p _=some r from h)
     obtain⟨n,FJ,h2⟩:=D7 h1;subst DE FJ;have:=X1 ts1 h2;simp only[←Bool.and_assoc] at this;exact (HX _ _ _).trans ((HX _ _ _).trans this)
    |bool=>
     obtain⟨m,DE,h1⟩:=Db (show Av p _=some r from h)
     obtain⟨n,FJ,h2⟩:=Db h1;subst DE FJ;have:=X1 ts1 h2;simp only[←Bool.and_assoc] at this;exact this
    |str=>
     obtain⟨m,DE,h1⟩:=C4 (show E2 p _=some r from h)
     obtain⟨n,FJ,h2⟩:=C4 h1;subst DE FJ;have:=X1 ts1 h2;simp only[←Bool.and_assoc] at this;exact this
    |sl es=>cases h
    |any=>cases h
theorem RL:∀(ts:List CT){ps qs:List PV}{K:Bool->Option R},Lc ts ps qs K=some r->ps.length=ts.length∧qs.length=ts.length
 |[],ps,qs,K,h=>by
  cases ps with
  |nil=>cases qs with
   |nil=>exact⟨rfl,rfl⟩
   |cons q qs=>cases h
  |cons p ps=>cases h
 |t::ts,ps,qs,K,h=>by
  cases ps with
  |nil=>cases t<;>cases h
  |cons p ps=>
   cases qs with
   |nil=>cases t<;>cases h
   |cons q qs=>
    have go:∃K',Lc ts ps qs K'=some r:=by
     cases t with
     |int k=>
      obtain⟨m,DE,h1⟩:=D7 (show Ae k p _=some r from h)
      obtain⟨n,FJ,h2⟩:=D7 h1;exact⟨_,h2⟩
     |bool=>
      obtain⟨m,DE,h1⟩:=Db (show Av p _=some r from h)
      obtain⟨n,FJ,h2⟩:=Db h1;exact⟨_,h2⟩
     |str=>
      obtain⟨m,DE,h1⟩:=C4 (show E2 p _=some r from h)
      obtain⟨n,FJ,h2⟩:=C4 h1;exact⟨_,h2⟩
     |sl es=>cases h
     |any=>cases h
    obtain⟨K',h'⟩:=go;have:=RL ts h';exact⟨by simp[this.1],by simp[this.2]⟩
theorem QB {t:TypeId}{dsc:TypeDesc}(hu:P.underlying t=some dsc)(hd:Bv P t=true)(hi:(P.info? t).isSome=true) (xs:Array Value)(i:Nat):(part t xs i).run P w=.ok (.agg (xs.extract i (i+A4 P t))) w:=by
 simp only[part,Sem.run_bind,Mu hu,hd,Result.andThen_ok,if_true,Ci hi];rfl
theorem HK {xs:Array Value}{i n:Nat}{ps:List PV}(hn:n<=ps.length)(hp:∀(j:Nat) p,ps[j]?=some p->∃v,xs[i+j]?=some v∧Bs w A β p v):Ba (Bs w A β) (ps.take n) (xs.extract i (i+n)).toList:=by
 rcases Nat.eq_zero_or_pos n with h0|h0
 ·subst h0;simp[Ba]
 have hl:n-1<ps.length:=by omega
 obtain⟨v,hv,_⟩:=hp (n-1) _ (List.getElem?_eq_getElem hl);have L8:=(Array.getElem?_eq_some_iff.1 hv).1;refine Ba.of_at (by simp;omega) fun j a b ha hb=>?_
 rw[List.getElem?_take] at ha;split at ha
 ·rename_i hj;obtain⟨v,hv,hc⟩:=hp j a ha;rw[Array.getElem?_toList,Array.getElem?_extract] at hb;split at hb
  ·rw[hv] at hb;cases hb;exact hc
  ·cases hb
 ·cases ha
theorem Zk {f:Field}{gs:Array Field}(hu:P.underlying f.type=some (.struct gs)):OI P f=gs.toList.map (fty P):=by unfold OI;rw[hu]
theorem TX {f:Field}(h:∀gs,P.underlying f.type≠some (.struct gs)):OI P f=[fty P f]:=by
 unfold OI;split
 ·rename_i gs hu;exact absurd hu (h gs)
 ·rfl
theorem WX (d : Nat) : ∀ (fs : List Field) (i : Nat) (xs ys : Array Value) (ps qs : List PV) (K : Bool -> Option R), M2 P fs i = true -> Lc (Ux P fs) ps qs K = some r ->
    (∀ (j : Nat) p, ps[j]? = some p -> ∃ v, xs[i + j]? = some v ∧ Bs w A β p v) -> (∀ (j : Nat) p, qs[j]? = some p -> ∃ v, ys[i + j]? = some v ∧ Bs w A β p v) ->
    ∃ b, K b = some r ∧ (forIn fs ((none, ()) : Option Bool × Unit) fun (f : Field) (_ : Option Bool × Unit) =>
            if f.name = "_" then pure (ForInStep.yield ((none, ()) : Option Bool × Unit))
            else do
              let x ← part f.type xs f.offset
              let y ← part f.type ys f.offset
              let e ← Op.equalIn (d + 2) f.type x y
              if e = false then pure (ForInStep.done ((some false, ()) : Option Bool × Unit)) else pure (ForInStep.yield ((none, ()) : Option Bool × Unit)) : Sem (Option Bool × Unit)).run P w = .ok (if b then (none, ()) else (some false, ())) w
  | [], i, xs, ys, ps, qs, K, _, hk, _, _ => by
    cases ps with
    | nil => cases qs with
      | nil => exact⟨true, hk, by simp⟩
      | cons q qs => cases hk
    | cons p ps => cases hk
  | f :: fs, i, xs, ys, ps, qs, K, IU, hk, hp, hq => by
    simp only[M2, Bool.and_eq_true] at IU
    obtain⟨⟨Ou, Acm⟩, hty⟩ := IU
    have Ou := Nat.eq_of_beq_eq_true Ou
    have EW : f.name ≠ "_" := by simpa using Acm
    have main : ∃ b0 v u n, (part f.type xs f.offset).run P w = .ok v w ∧ (part f.type ys f.offset).run P w = .ok u w ∧ (Op.equalIn (d + 2) f.type v u).run P w = .ok b0 w ∧ M2 P fs (i + n) = true ∧ Lc (Ux P fs) (ps.drop n) (qs.drop n) (fun r' => K (b0 && r')) = some r := by
      have hk := X1 (OI P f) (show Lc (OI P f ++ Ux P fs) ps qs K = some r from hk)
      have Em := RL _ hk
      rw[List.length_take, List.length_take] at Em
      have plain : (∀ gs, P.underlying f.type ≠ some (.struct gs)) -> M2 P fs (i + 1) = true -> (match P.underlying f.type with | some (.int _) => true | some .bool => true | some .string => true | _ => false) = true ->
          ∃ b0 v u n, (part f.type xs f.offset).run P w = .ok v w ∧ (part f.type ys f.offset).run P w = .ok u w ∧ (Op.equalIn (d + 2) f.type v u).run P w = .ok b0 w ∧ M2 P fs (i + n) = true ∧ Lc (Ux P fs) (ps.drop n) (qs.drop n) (fun r' => K (b0 && r')) = some r := by
        intro hs Aq0 BJ
        rw[TX hs] at hk Em
        simp only[List.length_singleton] at hk Em
        obtain⟨p, ps, rfl⟩ : ∃ p ps', ps = p :: ps' := by
          cases ps with
          | nil => simp at Em
          | cons p ps => exact⟨p, ps, rfl⟩
        obtain⟨q, qs, rfl⟩ : ∃ q qs', qs = q :: qs' := by
          cases qs with
          | nil => simp at Em
          | cons q qs => exact⟨q, qs, rfl⟩
        obtain⟨v, hv, Zc⟩ := hp 0 p rfl
        obtain⟨u, hu, hqu⟩ := hq 0 q rfl
        rw[Nat.add_zero] at hv hu
        simp only[List.take_succ_cons, List.take_zero, List.drop_succ_cons, List.drop_zero] at hk ⊢
        have one : ∃ b0 dsc, P.underlying f.type = some dsc ∧ Bv P f.type = false ∧ (Op.equalIn (d + 2) f.type v u).run P w = .ok b0 w ∧ Lc (Ux P fs) ps qs (fun r' => K (b0 && r')) = some r := by
          unfold fty at hk
          split at hk
          · rename_i k Jq
            obtain⟨m, DE, Dw⟩ := D7 (show Ae k p _ = some r from hk)
            obtain⟨n, FJ, Ex⟩ := D7 Dw
            subst DE FJ
            have Nj : v = .int k m := As.val (w := w) (A := A) Zc
            have I1 : u = .int k n := As.val (w := w) (A := A) hqu
            subst Nj I1
            have e : ∀ b : Bool, (b && true) = b := Bool.and_true
            simp only[Lc, e] at Ex
            refine⟨m == n, _, Jq, by simp[Bv, Jq], Ig (d + 1) (.inl ⟨k, m, n, Jq, rfl, rfl⟩) ?_ ?_ ?_, Ex⟩
            · intro k' m' n' h1 h2; injection h1 with _ h1; injection h2 with _ h2; rw[h1, h2]
            · intro m' n' h1; cases h1
            · intro m' n' h1; cases h1
          · rename_i Jq
            obtain⟨m, DE, Dw⟩ := Db (show Av p _ = some r from hk)
            obtain⟨n, FJ, Ex⟩ := Db Dw
            subst DE FJ
            have Nj : v = .bool m := As.val (w := w) (A := A) Zc
            have I1 : u = .bool n := As.val (w := w) (A := A) hqu
            subst Nj I1
            have e : ∀ b : Bool, (b && true) = b := Bool.and_true
            simp only[Lc, e] at Ex
            refine⟨m == n, _, Jq, by simp[Bv, Jq], Ig (d + 1) (.inr (.inl ⟨m, n, Jq, rfl, rfl⟩)) ?_ ?_ ?_, Ex⟩
            · intro k' m' n' h1; cases h1
            · intro m' n' h1 h2; injection h1 with h1; injection h2 with h2; rw[h1, h2]
            · intro m' n' h1; cases h1
          · rename_i Jq
            obtain⟨m, DE, Dw⟩ := C4 (show E2 p _ = some r from hk)
            obtain⟨n, FJ, Ex⟩ := C4 Dw
            subst DE FJ
            have Nj : v = .string m := As.val (w := w) (A := A) Zc
            have I1 : u = .string n := As.val (w := w) (A := A) hqu
            subst Nj I1
            have e : ∀ b : Bool, (b && true) = b := Bool.and_true
            simp only[Lc, e] at Ex
            refine⟨m == n, _, Jq, by simp[Bv, Jq], Ig (d + 1) (.inr (.inr ⟨m, n, Jq, rfl, rfl⟩)) ?_ ?_ ?_, Ex⟩
            · intro k' m' n' h1; cases h1
            · intro m' n' h1; cases h1
            · intro m' n' h1 h2; injection h1 with h1; injection h2 with h2; rw[h1, h2]
          · cases hk
        obtain⟨b0, dsc, Jq, Fs, he, hk⟩ := one
        exact⟨b0, v, u, 1, Qz Jq Fs (by rw[Ou]; exact hv), Qz Jq Fs (by rw[Ou]; exact hu), he, Aq0, by simpa using hk⟩
      split at hty
      · rename_i k Jq
        exact plain (fun gs e => by rw[Jq] at e; cases e) hty (by rw[Jq])
      · rename_i Jq
        exact plain (fun gs e => by rw[Jq] at e; cases e) hty (by rw[Jq])
      · rename_i Jq
        exact plain (fun gs e => by rw[Jq] at e; cases e) hty (by rw[Jq])
      · rename_i gs Jq
        simp only[Bool.and_eq_true, Bool.not_eq_true'] at hty
        obtain⟨⟨⟨⟨hfp, Lx⟩, hi⟩, L8⟩, Uq⟩ := hty
        have L8 := Nat.eq_of_beq_eq_true L8
        have N1 : (OI P f).length = gs.size := by rw[Zk Jq, List.length_map, Array.length_toList]
        rw[N1] at hk Em
        rw[Zk Jq] at hk
        have hx := HK (n := gs.size) (by omega) hp
        have hy := HK (n := gs.size) (by omega) hq
        obtain⟨b0, hkb, he⟩ := AU d Jq Lx hfp hx hy hk
        have ha : Bv P f.type = true := by simp[Bv, Jq]
        exact⟨b0, _, _, gs.size, by rw[QB Jq ha hi, Ou, L8], by rw[QB Jq ha hi, Ou, L8], he, Uq, hkb⟩
      · cases hty
    obtain⟨b0, v, u, n, hpx, hpy, he, Aq0, hk⟩ := main
    obtain⟨b, hkb, Cc⟩ := WX d fs (i + n) xs ys (ps.drop n) (qs.drop n) _ Aq0 hk (fun j p' hj => by rw[List.getElem?_drop] at hj; have := hp (n + j) p' hj; rwa [← Nat.add_assoc] at this) (fun j p' hj => by rw[List.getElem?_drop] at hj; have := hq (n + j) p' hj; rwa [← Nat.add_assoc] at this)
    refine⟨b0 && b, hkb, ?_⟩
    cases b0
    · simp[List.forIn_cons, EW, hpx, hpy, he]
    · simp only[Bool.true_and]
      rw[← Cc]
      simp[List.forIn_cons, EW, hpx, hpy, he]
theorem EK (d:Nat){t:TypeId}{fs:Array Field}(hu:P.underlying t=some (.struct fs)) (Lx:P.stoodInHeld t=false)(IU:M2 P fs.toList 0=true){xs ys:List PV}{vx vy:List Value}
  (hvx:Ba (Bs w A β) xs vx) (hvy:Ba (Bs w A β) ys vy) {K:Bool->Option R}(hk:Lc (Ux P fs.toList) xs ys K=some r):
  ∃b,K b=some r∧(Op.equalIn (d+3) t (.agg ⟨vx⟩) (.agg ⟨vy⟩)).run P w=.ok b w:=by
 obtain⟨b,hkb,Cc⟩:=WX (P:=P) (w:=w) (A:=A) (β:=β) d fs.toList 0 ⟨vx⟩ ⟨vy⟩ xs ys K IU hk (fun j p hj=>by
   obtain⟨v,hv,hc⟩:=hvx.get hj;exact⟨v,by simpa using hv,hc⟩) (fun j p hj=>by
   obtain⟨v,hv,hc⟩:=hvy.get hj;exact⟨v,by simpa using hv,hc⟩)
 refine⟨b,hkb,?_⟩;rw[Array.forIn_toList] at Cc;rw[Op.equalIn];simp[run_underlying hu,Lx];rw[Cc];cases b<;>simp
theorem HH (h:Cj N w0 X0 Y β s a w){t:TypeId}{fs:Array Field}{x y:Operand}{op:BinOp}(XE:op=.eql∨op=.neq)(hu:P.underlying t=some (.struct fs)) (IU:KY P t fs=true){xs ys:List PV}
  (hx:Bu s.tm x=.agg xs)(hy:Bu s.tm y=.agg ys){K:Bool->Option R}(hk:Lc (Ux P fs.toList) xs ys K=some r):
  ∃b,K b=some r∧(do eqGuard op t x y (a.eval x) (a.eval y);binOp op t (a.eval x) (a.eval y)).run P w=.ok (.bool (if op=.eql then b else !b)) w:=by
 have hxv:=Co h x;have WK:=Co h y;rw[hx] at hxv;rw[hy] at WK;obtain⟨vx,Cx,hvx⟩:=hxv;obtain⟨vy,hay,hvy⟩:=WK;simp only[KY,Bool.and_eq_true,Bool.not_eq_true'] at IU;obtain⟨⟨IU,Lx⟩,heg⟩:=IU;obtain⟨b,hkb,NH⟩:=EK 9997 hu Lx IU hvx hvy hk;have NH:(Op.equal t (.agg ⟨vx⟩) (.agg ⟨vy⟩)).run P w=.ok b w:=NH;refine⟨b,hkb,?_⟩;rw[Cx,hay];rcases XE with rfl|rfl
 ·simp[eqGuard,binOp,NH,heg]
 ·simp[eqGuard,binOp,NH,heg]
theorem NQ (h:Cj N w0 X0 Y β s a w){op:BinOp}{t ty:TypeId}{x y:Operand}(ho:o.op=.binOp op t x y ty){K:PV->Option R}
  (hk:Tg P op t (Bu s.tm x) (Bu s.tm y) K=some r):∃v,K v=some r∧D2 P a w o Y β s v [] []:=by
 have Cc:∀v,(do eqGuard op t x y (a.eval x) (a.eval y);binOp op t (a.eval x) (a.eval y)).run P w=.ok v w->(execOp a.eval o).run P w=.ok (.value v) w:=by
  intro v hv;unfold execOp;rw[ho];simp only[Sem.run_bind] at hv ⊢;rw[hv];rfl
 unfold Tg at hk;split at hk
 ·rename_i fs hu;split at hk
  ·obtain⟨IU,hk⟩:=Aj hk;obtain⟨xs,hx,hk⟩:=Gw hk;obtain⟨ys,hy,hk⟩:=Gw hk;obtain⟨b,hk,hr⟩:=HH h (.inl rfl) hu IU hx hy hk;exact⟨_,hk,B6 (Cc _ (by rw[hr];rfl))⟩
  ·obtain⟨IU,hk⟩:=Aj hk;obtain⟨xs,hx,hk⟩:=Gw hk;obtain⟨ys,hy,hk⟩:=Gw hk;obtain⟨b,hk,hr⟩:=HH h (.inr rfl) hu IU hx hy hk;exact⟨_,hk,B6 (Cc _ (by rw[hr];rfl))⟩
  ·cases hk
 ·unfold Acw at hk;split at hk
  ·rename_i k hu;split at hk
   ·obtain⟨m,hx,hk⟩:=D7 hk;obtain⟨k2,n,hy,hk⟩:=C2 hk;obtain⟨hb,hk⟩:=Aj hk;have hb:=of_decide_eq_true hb;refine⟨_,hk,B6 (Cc _ ?_)⟩;have:¬n<0:=by omega
    simp[eqGuard,binOp,Op.shift,B1 h hx,B1 h hy,this]
   ·obtain⟨m,hx,hk⟩:=D7 hk;obtain⟨k2,n,hy,hk⟩:=C2 hk;obtain⟨hb,hk⟩:=Aj hk;have hb:=of_decide_eq_true hb;refine⟨_,hk,B6 (Cc _ ?_)⟩;have:¬n<0:=by omega
    simp[eqGuard,binOp,Op.shift,B1 h hx,B1 h hy,this]
   ·rename_i hs1 hs2;obtain⟨m,hx,hk⟩:=D7 hk;obtain⟨n,hy,hk⟩:=D7 hk;obtain⟨v,hk,hr⟩:=ZI (P:=P) (w:=w) (t:=t) (x:=x) (y:=y) hs1 hs2 hk;exact⟨_,hk,B6 (Cc _ (by rw[B1 h hx,B1 h hy];exact hr))⟩
  ·rename_i hu;obtain⟨m,hx,hk⟩:=C4 hk;obtain⟨n,hy,hk⟩:=C4 hk;obtain⟨v,hk,hr⟩:=Abb (P:=P) (w:=w) (t:=t) (x:=x) (y:=y) hk;exact⟨_,hk,B6 (Cc _ (by rw[B1 h hx,B1 h hy];exact hr))⟩
  ·rename_i hu;split at hk
   ·obtain⟨m,hx,hk⟩:=Db hk;obtain⟨n,hy,hk⟩:=Db hk;refine⟨_,hk,B6 (Cc _ ?_)⟩;simp[eqGuard,binOp,B1 h hx,B1 h hy,CM hu]
   ·obtain⟨m,hx,hk⟩:=Db hk;obtain⟨n,hy,hk⟩:=Db hk;refine⟨_,hk,B6 (Cc _ ?_)⟩;simp[eqGuard,binOp,B1 h hx,B1 h hy,CM hu]
   ·cases hk
  ·rename_i e hu;have hx:=Co h x
   have nilQ:∀{e:Bool} {K':PV->Option R},CL e (Bu s.tm x) K'=some r->∃q ad n c,K' q=some r∧a.eval x=.slice ad n c∧(q=.sc (.bool (if ad.isNone then e else !e))∨q=.ub):=by
    intro e K' hq;unfold CL at hq;split at hq
    ·rename_i e';exact⟨_,none,0,0,hq,B1 h e',.inl rfl⟩
    ·rename_i z es n c e';rcases F1 (.inl e') hx with⟨Cx,rfl,_⟩|⟨ad,cap,Cx,rfl,_⟩|⟨ad,cap,Cx,rfl,rfl,_⟩
     ·rcases Me hq with⟨_,hq⟩|⟨_,hq⟩
      ·exact⟨_,none,0,0,hq,Cx,.inl rfl⟩
      ·rcases Me hq with⟨hb,_⟩|⟨_,hq⟩
       ·exact absurd (of_decide_eq_true hb) (by omega)
       ·exact⟨_,none,0,0,hq,Cx,.inr rfl⟩
     ·rcases Me hq with⟨hz,_⟩|⟨_,hq⟩
      ·cases hz
      ·rcases Me hq with⟨_,hq⟩|⟨_,hq⟩
       ·exact⟨_,some ad,n,cap,hq,Cx,.inl rfl⟩
       ·exact⟨_,some ad,n,cap,hq,Cx,.inr rfl⟩
     ·rcases Me hq with⟨hz,_⟩|⟨_,hq⟩
      ·cases hz
      ·rcases Me hq with⟨hb,_⟩|⟨_,hq⟩
       ·exact absurd (of_decide_eq_true hb) (by omega)
       ·exact⟨_,some ad,0,cap,hq,Cx,.inr rfl⟩
    ·rename_i id es off n e';rw[e'] at hx;rcases hx with⟨_,_,rfl,ad,Cx⟩|⟨b,ob,y',cap,_,Cx,_⟩
     ·rcases Me hq with⟨hb,_⟩|⟨_,hq⟩
      ·exact absurd (of_decide_eq_true hb) (by omega)
      ·exact⟨_,ad,0,0,hq,Cx,.inr rfl⟩
     ·rcases Me hq with⟨_,hq⟩|⟨_,hq⟩
      ·exact⟨_,_,n,cap,hq,Cx,.inl rfl⟩
      ·exact⟨_,_,n,cap,hq,Cx,.inr rfl⟩
    ·cases hq
   split at hk
   ·rename_i hy;obtain⟨q,ad,n,c,hk,Cx,hb⟩:=nilQ hk;rcases hb with rfl|rfl
    ·refine⟨_,hk,B6 (Cc _ ?_)⟩;cases ad<;>simp[eqGuard,binOp,Cx,B1 h hy,Tz hu]
    ·refine⟨_,hk,Bx (val:=.bool ad.isNone) (Cc _ ?_) (As.ub _) (by intro i hi;cases hi)⟩
     simp[eqGuard,binOp,Cx,B1 h hy,Tz hu]
   ·rename_i hy;obtain⟨q,ad,n,c,hk,Cx,hb⟩:=nilQ hk;rcases hb with rfl|rfl
    ·refine⟨_,hk,B6 (Cc _ ?_)⟩;cases ad<;>simp[eqGuard,binOp,Cx,B1 h hy,Tz hu]
    ·refine⟨_,hk,Bx (val:=.bool !ad.isNone) (Cc _ ?_) (As.ub _) (by intro i hi;cases hi)⟩
     simp[eqGuard,binOp,Cx,B1 h hy,Tz hu]
   ·cases hk
  ·rename_i kt vt hu;split at hk
   ·rename_i hx hy;refine⟨_,hk,B6 (Cc _ ?_)⟩;simp[eqGuard,binOp,B1 h hx,B1 h hy,Wi hu]
   ·rename_i hx hy;refine⟨_,hk,B6 (Cc _ ?_)⟩;simp[eqGuard,binOp,B1 h hx,B1 h hy,Wi hu]
   ·cases hk
  ·cases hk
end
open Go.RowKit
section
variable {R:Type} {r:R} {P:Program} {N:Nat} {w0:World} {X0:Hm} {Y:Nat->Prop} {β β':Bt} {s:St} {a:Act} {w w':World} {o:Oper} {A:Nat->Prop}
theorem Z1:∀{c:List PV}{ns:List Int},Ti c=some ns->c=ns.map (fun n=>.sc (.int .i32 n))
 |[],ns,h=>by simp[Ti] at h;subst h;rfl
 |p::c,ns,h=>by
  unfold Ti at h;split at h
  ·rename_i e;cases e
  ·rename_i n r e;cases e;cases hr:Ti c with
   |none=>rw[hr] at h;cases h
   |some l'=>
    rw[hr] at h;simp at h;subst h;rw[Z1 hr];rfl
  ·cases h
theorem Sn:∀{c:List PV}{l:List UInt8},bytesOf c=some l->∃ns:List Int,c=ns.map (fun n=>.sc (.int .u8 n))∧l=ns.map fun n=>n.toNat.toUInt8
 |[],l,h=>⟨[],rfl,by simp[bytesOf] at h;subst h;rfl⟩
 |p::c,l,h=>by
  unfold bytesOf at h;split at h
  ·rename_i e;cases e
  ·rename_i n r e;cases e;cases hr:bytesOf c with
   |none=>rw[hr] at h;cases h
   |some l'=>
    rw[hr] at h;simp at h;obtain⟨ns,rfl,rfl⟩:=Sn hr;exact⟨n::ns,rfl,h.symm⟩
  ·cases h
theorem Rr:∀(ns:List Int)(b:ByteArray),ns.foldl (fun r n=>r.push (UInt8.ofNat n.toNat)) b=⟨b.data++(ns.map fun n=>n.toNat.toUInt8).toArray⟩
 |[],b=>by simp
 |n::ns,b=>by
  simp only[List.foldl_cons];rw[Rr ns];simp[ByteArray.push]
theorem DQ (h:Cj N w0 X0 Y β s a w){es:Nat}{x:Operand}{K:Nat->List PV->Option R}(hk:QI (I9 s.hp) es (Bu s.tm x) K=some r):
  ∃n c,K n c=some r∧(((∃ad,a.eval x=.slice ad 0 0)∧n=0∧c=[])∨∃ad cap,a.eval x=.slice (some ad) n cap∧n<=cap∧(c=[]∨ad.block<w.heap.size)∧Wv w (Cs s.hp β Y) ad c):=by
 have hx:=Co h x;have FP:=Ep h x;unfold QI at hk;split at hk
 ·rename_i id es' off n e;rw[e] at hx FP;cases hb:Nat.beq es' es
  ·rw[hb] at hk;cases hk
  ·rw[hb] at hk;obtain⟨c,hc,hk⟩:=B3 (show Dm _ _=some r from hk)
   obtain⟨hl,hk⟩:=Aj hk;have hl:=of_decide_eq_true hl;obtain⟨f,Aal⟩:=KD hc;refine⟨_,_,hk,?_⟩;rcases hx with⟨_,rfl,rfl,ad,Cx⟩|⟨b,ob,y,cap,hβ,Cx,hy,hn,_,Bp⟩
   ·exact .inl ⟨⟨ad,Cx⟩,rfl,by simp⟩
   ·refine .inr ⟨_,cap,Cx,hn,.inr Bp,fun j p hj=>?_⟩
    have A5f:0<n*es:=by
     rcases Nat.eq_zero_or_pos (n*es) with h0|h0
     ·rw[h0] at hj;simp at hj
     ·exact h0
    have MZ:n≠0:=by rintro rfl;simp at A5f
    have hy:y=ob+off:=by rcases hy with hy|⟨h0,_⟩<;>omega
    subst hy;rw[List.getElem?_take] at hj;split at hj
    ·rw[List.getElem?_drop] at hj;rcases h.box id _ Aal with⟨h1,_⟩|⟨b',o',h1,h2,_⟩
     ·rw[hβ] at h1;cases h1
     ·rw[hβ] at h1;simp at h1;obtain⟨rfl,rfl⟩:=h1
      obtain⟨v,hv,h3,ht⟩:=h2 (off+j) p hj;rw[B8] at hv;exact⟨v,by rw[B8,Nat.add_assoc];exact hv,h3,ht⟩
    ·cases hj
 ·obtain⟨z,n,c,hk,hp⟩:=E6 hk;refine⟨n,c,hk,?_⟩;rcases F1 hp hx with h1|⟨ad,cap,Cx,_,hn,h1,h2,_,h4⟩|⟨ad,cap,Cx,_,rfl,rfl⟩
  ·exact .inl ⟨⟨none,h1.1⟩,h1.2⟩
  ·exact .inr ⟨ad,cap,Cx,hn,.inr h2,h4⟩
  ·exact .inr ⟨ad,cap,Cx,Nat.zero_le _,.inl rfl,fun j c hj=>by simp at hj⟩
theorem ZN (b:ByteArray)(j:Nat)(p:PV)(h:(Dx b)[j]?=some p):∃x,b.data[j]?=some x∧p=.sc (.int .u8 x.toNat):=by
 unfold Dx at h;rw[List.getElem?_map] at h;cases hx:b.data.toList[j]? with
 |none=>rw[hx] at h;cases h
 |some x=>
  rw[hx] at h;simp at h;exact⟨x,by simpa using hx,h.symm⟩
theorem SC (h:Cj N w0 X0 Y β s a w){src dst:TypeId}{x:Operand}(ho:o.op=.convert src dst x){d:Nat}{K:PV->List (Nat × Bk)->Option R}
  (hk:DZ P (I9 s.hp) d src dst (Bu s.tm x) K=some r):∃v nw,K v nw=some r∧D2 P a w o Y β s v [] nw:=by
 have Cc:∀v w',(convert src dst (a.eval x)).run P w=.ok v w'->(execOp a.eval o).run P w=.ok (.value v) w':=by
  intro v w' hv;unfold execOp;rw[ho];simp[hv]
 unfold DZ at hk;split at hk
 ·rename_i k hu;obtain⟨hs,hk⟩:=Aj hk;obtain⟨k',n,hx,hk⟩:=C2 hk;exact⟨_,_,hk,B6 (Cc _ _ (by rw[B1 h hx];obtain⟨ds,hds⟩:=Option.isSome_iff_exists.1 hs;cases ds<;>simp[convert,run_underlying hds,run_underlying hu,Conv.intToInt]))⟩
 ·rename_i hu;split at hk
  ·rename_i hs;obtain⟨b,hx,hk⟩:=C4 hk;exact⟨_,_,hk,B6 (Cc _ _ (by rw[B1 h hx];simp[convert,run_underlying hs,run_underlying hu]))⟩
  ·rename_i e hs;split at hk
   ·rename_i he;obtain⟨n,c,hk,hc⟩:=DQ h hk;obtain⟨hl,hk⟩:=Aj hk;have hl:=of_decide_eq_true hl;obtain⟨l,hb,hk⟩:=B3 hk;obtain⟨ns,rfl,rfl⟩:=Sn hb;refine⟨_,_,hk,B6 (Cc _ _ ?_)⟩;rcases hc with⟨⟨ad,Cx⟩,rfl,hn⟩|⟨ad,cap,Cx,_,_,hrd⟩
    ·have:ns=[]:=by simpa using hn
     subst this;rw[Cx,run_convert_bytes_string w src dst e ad 0 0 hs he hu];cases ad<;>rfl
    ·rw[Cx,run_convert_bytes_string w src dst e _ _ _ hs he hu]
     have hld:(loadCells ad n).run P w=.ok (ns.map (Value.int .u8)).toArray w:=by
      have:=run_loadCells_list (P:=P) w ad (ns.map (Value.int .u8)) (fun j v hj=>by
       rw[List.getElem?_map] at hj;cases hn:ns[j]? with
       |none=>rw[hn] at hj;cases hj
       |some m=>
        rw[hn] at hj;simp at hj;subst hj;obtain⟨v,hv,_,ht⟩:=hrd j (.sc (.int .u8 m)) (by rw[List.getElem?_map,hn];rfl)
        rw[ht.val] at hv;exact hv)
      simp only[List.length_map] at this hl;rw[hl] at this;exact this
     rw[run_bytesToString w ad n cap ns hld,Rr];simp
   ·rename_i he;obtain⟨n,c,hk,hc⟩:=DQ h hk;obtain⟨hl,hk⟩:=Aj hk;have hl:=of_decide_eq_true hl;obtain⟨ns,hb,Ex⟩:=B3 hk;have Te:=Z1 hb;clear hk;subst Te;refine⟨_,_,Ex,B6 (Cc _ _ ?_)⟩;rcases hc with⟨⟨ad,Cx⟩,Vn,hn⟩|⟨ad,cap,Cx,_,_,hrd⟩
    ·have:ns=[]:=by simpa using hn
     subst this;rw[Cx,run_convert_runes_string w src dst e ad _ _ hs he hu];cases ad with
     |none=>rfl
     |some p=>
      have MZ:n=0:=by simpa using Vn
      subst MZ;exact run_runesToString w p 0 0 [] (by simpa using run_loadCells_list (P:=P) w p [] (by simp))
    ·rw[Cx,run_convert_runes_string w src dst e _ _ _ hs he hu]
     have hld:(loadCells ad n).run P w=.ok (ns.map (Value.int .i32)).toArray w:=by
      have:=run_loadCells_list (P:=P) w ad (ns.map (Value.int .i32)) (fun j v hj=>by
       rw[List.getElem?_map] at hj;cases hn:ns[j]? with
       |none=>rw[hn] at hj;cases hj
       |some m=>
        rw[hn] at hj;simp at hj;subst hj;obtain⟨v,hv,_,ht⟩:=hrd j (.sc (.int .i32 m)) (by rw[List.getElem?_map,hn];rfl)
        rw[ht.val] at hv;exact hv)
      simp only[List.length_map] at this hl;rw[hl] at this;exact this
     exact run_runesToString w ad n cap ns hld
   ·cases hk
  ·cases hk
 ·rename_i e hu;split at hk
  ·rename_i he hs;obtain⟨b,hx,hk⟩:=C4 hk;obtain⟨L8,hk⟩:=Aj hk;have hr:=run_bytes_of_string (P:=P) w src dst e b hs hu he;rw[←B1 h hx] at hr
   have Uj:b.size<=grownCap w b.size 0 e:=by
    unfold grownCap;simp[Question.cut]
   have QN:(bytesRow b (grownCap w b.size 0 e)).size=grownCap w b.size 0 e:=by
    simp only[bytesRow,Array.size_append,Array.size_map,Array.size_replicate];have:b.data.size=b.size:=rfl;omega
   refine⟨_,_,hk,Pf (c:=bytesRow b (grownCap w b.size 0 e)) (e:=e) (by simp) (Cc _ _ hr) ?_ (fun j p hj=>?_) (.inr ⟨1,b.size,grownCap w b.size 0 e,rfl,rfl,Uj,by rw[QN];omega,.inl rfl⟩)⟩
   ·exact⟨rfl,rfl,rfl,fun i hi=>Below.heap_alloc w.drew _ i hi,by show (w.heap.push _).size=_;simp,_,by show (w.heap.push _)[w.heap.size]?=_;simp;rfl,.inr (Nat.le_refl _)⟩
   ·obtain⟨y,hy,rfl⟩:=ZN b j p hj;refine⟨.int .u8 y.toNat,?_,rfl,As.sc _⟩
    have Bp:j<b.data.size:=by
     rcases Nat.lt_or_ge j b.data.size with h|h
     ·exact h
     ·rw[Array.getElem?_eq_none h] at hy;cases hy
    simp only[bytesRow];rw[Array.getElem?_append_left (by simpa using Bp),Array.getElem?_map,hy]
    rfl
  ·cases hk
 ·cases hk
end
open Go.RowKit
section
variable {R:Type} {r:R} {P:Program} {N:Nat} {w0:World} {X0:Hm} {Y:Nat->Prop} {β β':Bt} {s:St} {a:Act} {w w':World} {o:Oper} {A:Nat->Prop}
theorem Xj:∀{n:Nat}{l:List PV}{j:Nat}{c:PV},(repl n l)[j]?=some c->j<n*l.length∧l[j % l.length]?=some c
 |0,l,j,c,h=>by simp[repl] at h
 |n+1,l,j,c,h=>by
  have e:repl (n+1) l=l++repl n l:=by simp[repl,List.replicate_succ]
  rw[e] at h;by_cases hj:j<l.length
  ·rw[List.getElem?_append_left hj] at h;refine⟨by rw[Nat.add_mul];omega,?_⟩
   rw[Nat.mod_eq_of_lt hj];exact h
  ·rw[List.getElem?_append_right (by omega)] at h
   obtain⟨h1,h2⟩:=Xj h;refine⟨by rw[Nat.add_mul];omega,?_⟩
   rw[Nat.mod_eq_sub_mod (by omega)];exact h2
theorem PR (n:Nat)(l:List PV):(repl n l).length=n*l.length:=by
 induction n with
 |zero=>simp[repl]
 |succ n ih=>
  have e:repl (n+1) l=l++repl n l:=by simp[repl,List.replicate_succ]
  rw[e,List.length_append,ih,Nat.add_mul];omega
theorem OV {z:Array Value}{n j:Nat}(hj:j<n){v:Value}(hv:z[j % z.size]?=some v):(madeCells z n)[j]?=some v:=by
 unfold madeCells;rw[Array.getElem?_map,Array.getElem?_range,if_pos hj];simp only[Option.map_some];rw[getElem!_def,hv]
theorem SF (h:Cj N w0 X0 Y β s a w){t:TypeId}{x y:Operand}(ho:o.op=.makeSlice t x y){d:Nat}{K:PV->List Nat->List (Nat × Bk)->Option R}
  (hk:(match P.underlying t with
   |some (.slice e)=>C8 (Bu s.tm x) fun _ n=>C8 (Bu s.tm y) fun _ m=>
     An (decide (0<=n)&&decide (n<=m)&&decide (m*((P.info? e).map (·.bytes)).getD 0<=1099511627776)&&decide (m<=1099511627776))
      (Gr P e fun z=>K (.view d (A4 P e) 0 n.toNat) [] [(d,.ar false (repl n.toNat z))])
   |_=>none)=some r):∃v fz nw,K v fz nw=some r∧D2 P a w o Y β s v fz nw:=by
 split at hk
 ·rename_i e hu;obtain⟨k1,n,hx,hk⟩:=C2 hk;obtain⟨k2,m,hy,hk⟩:=C2 hk;obtain⟨hb,hk⟩:=Aj hk;simp only[Bool.and_eq_true,decide_eq_true_eq] at hb;obtain⟨⟨⟨h0,Hk⟩,Sx⟩,hm⟩:=hb;obtain⟨z,cs,hk,hz,hct,hl,L8,hc⟩:=Oi hk
  have hzc:∃i,P.info? e=some i∧i.zero=some z:=by
   unfold Ow at hz;cases hi:P.info? e with
   |none=>rw[hi] at hz;cases hz
   |some i=>rw[hi] at hz;exact⟨i,rfl,hz⟩
  obtain⟨i,hi,hzi⟩:=hzc;have Azb:A4 P e=i.size:=by simp[A4,hi]
  simp only[hi,Option.map_some,Option.getD_some] at Sx;have hr:=run_make (P:=P) w t e i z hu hi hzi k1 k2 n m h0 Hk (by rw[Int.mul_comm];omega) (by omega)
  have Cc:(execOp a.eval o).run P w=.ok (.value (.slice (some ⟨w.heap.size,0,none⟩) n.toNat m.toNat)) (w.alloc (.cells (madeCells z.cells (m.toNat*i.size)) e)):=by
   unfold execOp;rw[ho];simp[B1 h hx,B1 h hy,hr]
  have hzl:z.cells.size=A4 P e:=by
   have:z.cells.toList.length=z.cells.size:=by simp
   omega
  refine⟨_,_,_,hk,Pf (c:=madeCells z.cells (m.toNat*i.size)) (e:=e) (by simp) Cc (Dl.alloc w _ e) (fun j p hj=>?_) (.inr ⟨A4 P e,n.toNat,m.toNat,rfl,rfl,by omega,by rw[size_madeCells,Azb];exact Nat.le_refl _,.inr (Kh w _ e)⟩)⟩
  obtain⟨h1,h2⟩:=Xj hj;obtain⟨hT,u,I1,Tj,hv⟩:=hc _ p h2;refine⟨u,OV ?_ ?_,Tj,hv _ _⟩
  ·have:n.toNat*cs.length<=m.toNat*i.size:=by
    rw[L8,Azb];exact Nat.mul_le_mul_right _ (by omega)
   omega
  ·rw[hzl,←L8]
   simpa using I1
 ·cases hk
theorem Aa7 {p:PV}{v:Value}(hp:okP p=true)(hv:D6 w A β p v):Ba (Bs w A β) (cellsOf p) v.cells.toList:=by
 have one:v.oneCell'=true->Bs w A β p v->(∀x,p ≠ .agg x)->Ba (Bs w A β) (cellsOf p) v.cells.toList:=by
  intro h1 h2 h3;have:cellsOf p=[p]:=by cases p<;>first|rfl|exact absurd rfl (h3 _)
  rw[this,Ms h1];exact⟨h2,trivial⟩
 unfold okP at hp;split at hp
 ·obtain⟨vs,rfl,h2⟩:=hv;exact h2
 ·refine one ?_ hv (by simp)
  have Nj:As w A _ v:=hv;cases Nj<;>rfl
 ·refine one ?_ hv (by simp)
  rcases hv with⟨_,_,_,_,rfl⟩|⟨_,_,_,_,_,rfl,_⟩<;>rfl
 ·have:=Ym hv;subst this;exact one rfl hv (by simp)
 ·have:=Ym hv;subst this;exact one rfl hv (by simp)
 ·have:=Ym hv;subst this;exact one rfl hv (by simp)
 ·have:=Ym hv;subst this;exact one rfl hv (by simp)
 ·cases hp
theorem XW:∀(vs:List Value)(k off:Nat)(cells:Array Value),off+k+vs.length<=cells.size ->
  ((vs.zipIdx k).foldl (fun cs (q:Value × Nat)=>cs.setIfInBounds (off+q.2) q.1) cells).toList=cells.toList.take (off+k)++vs++cells.toList.drop (off+k+vs.length)
 |[],k,off,cells,_=>by simp
 |v::vs,k,off,cells,h=>by
  simp only[List.zipIdx_cons,List.foldl_cons,List.length_cons] at h ⊢;rw[XW vs (k+1) off _ (by simp;omega)]
  have Bp:off+k<cells.toList.length:=by simp;omega
  simp only[Array.toList_setIfInBounds];rw[show off+(k+1)=off+k+1 from by omega,List.take_succ_eq_append_getElem (by simpa using Bp)]
  rw[List.getElem_set_self,List.take_set_of_le (Nat.le_refl _),List.drop_set_of_lt (by omega)]
  simp only[List.append_assoc,List.cons_append,List.nil_append];rw[show off+k+1+vs.length=off+k+(vs.length+1) from by omega]
theorem EN (h:Cj N w0 X0 Y β s a w){F5:Nat->Option (Nat × Nat)}:∀{parts:List (Nat × Operand)} {pc:List PV}{vc:Array Value}{K:List PV->Option R},
  Sy F5 (parts.map fun q=>(q.1,Bu s.tm q.2)) pc K=some r->Ba (Bs w (Cs s.hp β Y) β) pc vc.toList->(∀c∈pc,∀id∈Ao c,s.hp id≠none) ->
  ∃pc' vc',K pc'=some r∧Instr.fill F5 vc (parts.map fun q=>(q.1,a.eval q.2))=some vc'∧Ba (Bs w (Cs s.hp β Y) β) pc' vc'.toList∧pc'.length=pc.length∧∀c∈pc',∀id∈Ao c,s.hp id≠none
 |[],pc,vc,K,hk,hv,hr=>⟨pc,vc,hk,rfl,hv,rfl,hr⟩
 |(i,x)::parts,pc,vc,K,hk,hv,hr=>by
  simp only[List.map_cons] at hk;unfold Sy at hk;obtain⟨⟨off,size⟩,BJ,hk⟩:=B3 hk;obtain⟨hb,hk⟩:=Aj hk;simp only[Bool.and_eq_true] at hb;obtain⟨⟨Kd,L8⟩,Z0⟩:=hb;have L8:(cellsOf (Bu s.tm x)).length=size:=Nat.eq_of_beq_eq_true L8;have Z0:off+size<=pc.length:=Nat.le_of_ble_eq_true Z0;have hxc:=Aa7 Kd (Co h x);have hxl:=hxc.len;have Ls:=hv.len;have Fq:vc.toList.length=vc.size:=by simp
  have Te:(a.eval x).cells.toList.length=(a.eval x).cells.size:=by simp
  have Aws:=XW (a.eval x).cells.toList 0 off vc (by omega)
  simp only[Nat.add_zero] at Aws
  have A0b:((a.eval x).cells.zipIdx.foldl (fun cs (q:Value × Nat)=>cs.setIfInBounds (off+q.2) q.1) vc).toList=vc.toList.take off++(a.eval x).cells.toList++vc.toList.drop (off+(a.eval x).cells.toList.length):=by
   rw[←Aws,←Array.foldl_toList];simp
  obtain⟨pc',vc',hk,hf,h2,hl,hr'⟩:=EN h (pc:=Bl pc (cellsOf (Bu s.tm x)) off) (vc:=(a.eval x).cells.zipIdx.foldl (fun cs (q:Value × Nat)=>cs.setIfInBounds (off+q.2) q.1) vc) hk (by
    rw[A0b,←hxl];exact (((hv.take off).app hxc).app (hv.drop _))) (by
    intro c hc id Bb;unfold Bl at hc;rcases List.mem_append.1 hc with hc|hc
    ·rcases List.mem_append.1 hc with hc|hc
     ·exact hr c (List.mem_of_mem_take hc) id Bb
     ·refine Ep h x id ?_;cases hp:Bu s.tm x with
      |agg cs=>rw[hp] at hc;exact List.mem_flatMap.2 ⟨c,hc,Bb⟩
      |tup cs=>rw[hp] at hc;simp[cellsOf] at hc;subst hc;cases Bb
      |_=>rw[hp] at hc;simp[cellsOf] at hc;subst hc;exact Bb
    ·exact hr c (List.mem_of_mem_drop hc) id Bb)
  refine⟨pc',vc',hk,?_,h2,?_,hr'⟩
  ·simp only[List.map_cons,Instr.fill,BJ];rw[if_neg (by simp;omega)]
   exact hf
  ·rw[hl];simp[Bl];omega
theorem ON {t:TypeId}{z:Value}{cs:List PV}(hl:cs.length=z.cells.toList.length)(hc:∀(j:Nat) c,cs[j]?=some c->M0 c∧∃u,z.cells.toList[j]?=some u∧u.oneCell'=true∧∀(w:World)(A:Nat->Prop),As w A c u) (_ht:Ow P t=some z):
  Ba (Bs w A β) cs z.cells.toList∧∀c∈cs,Ao c=[]:=by
 refine⟨Ba.of_at hl fun i c u hci hu=>?_,fun c OA=>?_⟩
 ·obtain⟨hT,u',I1,_,hv⟩:=hc i c hci;rw[hu] at I1;cases I1;exact (K9 hT).2 (hv _ _)
 ·obtain⟨j,hj⟩:=List.mem_iff_getElem?.1 OA;exact Ha (hc j c hj).1
theorem CO:∀{fs:List Field},(fs.all fun f=>CQ P f.type)=true->fs.mapM (fun f=>(P.info? f.type).map fun i=>(f.offset,i.size))=some (fs.map fun f=>(f.offset,A4 P f.type))
 |[],_=>rfl
 |f::fs,h=>by
  simp only[List.all_cons,Bool.and_eq_true] at h;obtain⟨i,hi⟩:=Option.isSome_iff_exists.1 h.1;simp[List.mapM_cons,hi,CO h.2,A4]
theorem Vb {p q:Nat->Option (Nat × Nat)} (h:∀i,p i=q i)(cells:Array Value)(parts:List (Nat × Value)):Instr.fill p cells parts=Instr.fill q cells parts:=by
 have:p=q:=funext h;rw[this]
theorem QV (h:Cj N w0 X0 Y β s a w){t:TypeId}{ps:Array (Nat × Operand)} (ho:o.op=.build t ps){K:PV->Option R}
  (hk:(An (Qc P t&&Bv P t)<|Gr P t fun z=>Sy (Q0 P t) (ps.toList.map fun q=>(q.1,Bu s.tm q.2)) z fun cs=>Nq (Hq P t) cs 0 fun cs'=>K (.agg cs'))=some r):∃v,K v=some r∧D2 P a w o Y β s v [] []:=by
 obtain⟨BJ,hk⟩:=Aj hk;simp only[Bool.and_eq_true] at BJ;obtain⟨BJ,Fs⟩:=BJ;obtain⟨z,cs,hk,hz,hct,hl,L8,hc⟩:=Oi hk;obtain⟨hzr,CH⟩:=ON (w:=w) (A:=Cs s.hp β Y) (β:=β) hl hc hz;obtain⟨pc',vc',hk,hf,h2,Jt,hr'⟩:=EN h hk hzr (fun c OA id Bb=>by rw[CH c OA] at Bb;cases Bb)
 obtain⟨qs,hk,hql,Zg,hq⟩:=Tb hk
 have Aoo:P.built t (ps.toList.map fun q=>(q.1,a.eval q.2))=some vc':=by
  have hzi:∃i,P.info? t=some i∧i.zero=some z:=by
   unfold Ow at hz;cases hi:P.info? t with
   |none=>rw[hi] at hz;cases hz
   |some i=>rw[hi] at hz;exact⟨i,rfl,hz⟩
  obtain⟨i,hi,hzi⟩:=hzi;unfold Qc at BJ;unfold Program.built;split at BJ
  ·rename_i fs hu
   have hf':Instr.fill (((fs.toList.map fun f=>(f.offset,A4 P f.type)).toArray)[·]?) z.cells (ps.toList.map fun q=>(q.1,a.eval q.2))=some vc':=by
    rw[←hf];refine Vb (fun j=>?_) _ _
    simp[Q0,hu]
   simp only[hi,hu,hzi,CO BJ];exact hf'
  ·rename_i n e hu;obtain⟨ie,hie⟩:=Option.isSome_iff_exists.1 BJ
   have hf':Instr.fill (fun j=>some (j*ie.size,ie.size)) z.cells (ps.toList.map fun q=>(q.1,a.eval q.2))=some vc':=by
    rw[←hf];refine Vb (fun j=>?_) _ _
    simp[Q0,hu,A4,hie]
   simp only[hi,hu,hzi,hie];exact hf'
  ·rename_i e hu;simp[Bv,hu] at Fs
  ·cases BJ
 refine⟨_,hk,Bx (val:=.agg vc') ?_ ⟨vc'.toList,rfl,?_⟩ ?_⟩
 ·unfold execOp;rw[ho];have:=run_build (P:=P) w t (ps.map fun q=>(q.1,a.eval q.2)) vc' (by simpa using Aoo)
  simp[this]
 ·refine Ba.of_at (by have:=h2.len;omega) fun j c u hcj hu=>?_
  obtain⟨p,hp,_,_,Zc⟩:=hq j c hcj;rw[Nat.zero_add] at hp;exact (Zc _ _ _ _ (h2.at_ hp hu)).1
 ·intro id Bb;obtain⟨c,OA,Bb⟩:=List.mem_flatMap.1 (show id∈qs.flatMap Ao from Bb)
  obtain⟨j,hj⟩:=List.mem_iff_getElem?.1 OA;obtain⟨p,hp,_,hpr,_⟩:=hq j c hj;rw[Nat.zero_add] at hp;exact hr' p (List.mem_of_getElem? hp) id (hpr id Bb)
end
open Go.RowKit
section
variable {R:Type} {r:R} {P:Program} {N:Nat} {w0:World} {X0:Hm} {Y:Nat->Prop} {β β':Bt} {s:St} {a:Act} {w w':World} {o:Oper} {A:Nat->Prop}
theorem TA (h:Cj N w0 X0 Y β s a w){fz:List Nat}(Rt:∀id∈fz,∃f c,s.hp id=some (.ar f c)) {id:Nat}(hm:id∈fz){f:Bool}{c:List PV}(hb:s.hp id=some (.ar f c)) {b ob:Nat}(hβ:β id=some (b,ob)):
  ¬Cs (Ad s.hp fz) β Y b∧Wv w (Cs (Ad s.hp fz) β Y) ⟨b,ob,none⟩ c∧b<w.heap.size:=by
 have hf:=h.freeze Rt;have he:Ad s.hp fz id=some (.ar true c):=by rw[Bq,if_pos hm,hb];rfl
 rcases hf.box id _ he with⟨h1,_⟩|⟨b',o',h1,h2,_,h4⟩
 ·rw[hβ] at h1;cases h1
 ·rw[hβ] at h1;simp at h1;obtain⟨rfl,rfl⟩:=h1;exact⟨h4 rfl,h2,h.blt id b ob (by rw[hb];simp) hβ⟩
theorem Aa5 (h:Cj N w0 X0 Y β s a w){fz:List Nat}(Rt:∀id∈fz,∃f c,s.hp id=some (.ar f c)) {id es off n:Nat}(hm:id∈fz){f:Bool}{c:List PV}(hb:s.hp id=some (.ar f c)) {v:Value}
  (hv:Bs w (Cs s.hp β Y) β (.view id es off n) v):As w (Cs (Ad s.hp fz) β Y) (.lst false es n ((c.drop off).take (n*es))) v:=by
 rcases hv with⟨_,rfl,rfl,ad,rfl⟩|⟨b,ob,y,cap,hβ,rfl,hy,hn,_,Bp⟩
 ·simp only[Nat.zero_mul,List.take_zero];cases ad with
  |none=>exact As.lnil false es
  |some p=>exact As.lemp es p 0
 ·obtain⟨h1,h2,_⟩:=TA h Rt hm hb hβ;by_cases MZ:n*es=0
  ·rw[MZ,List.take_zero];exact As.lst es n [] ⟨b,y,none⟩ cap (fun _=>undef) rfl Bp h1 hn (by simp) (by simp) (by simp)
  ·have hy:y=ob+off:=by
    rcases hy with hy|⟨h0,_⟩
    ·exact hy
    ·rw[h0] at MZ;simp at MZ
   subst hy
   have hcell:∀(j:Nat) q,((c.drop off).take (n*es))[j]?=some q->c[off+j]?=some q:=by
    intro j q hq;rw[List.getElem?_take] at hq;split at hq
    ·rw[List.getElem?_drop] at hq;exact hq
    ·cases hq
   refine As.lst es n _ ⟨b,ob+off,none⟩ cap (fun j=>(w.cell? ⟨b,ob+off+j,none⟩).getD undef) rfl Bp h1 hn (fun j q hq=>?_) (fun j q hq=>?_) (fun j q hq=>?_)
   ·obtain⟨v,hv,_⟩:=h2 _ q (hcell j q hq);rw[B8,←Nat.add_assoc] at hv;rw[B8,hv];rfl
   ·obtain⟨v,hv,h3,_⟩:=h2 _ q (hcell j q hq);rw[B8,←Nat.add_assoc] at hv;rw[hv];exact h3
   ·obtain⟨v,hv,_,ht⟩:=h2 _ q (hcell j q hq);rw[B8,←Nat.add_assoc] at hv;rw[hv];exact ht
theorem As.zf {A:Nat->Prop}{z:Bool}{es n:Nat}{c:List PV}{v:Value}(h:As w A (.lst z es n c) v):As w A (.lst false es n c) v:=by
 cases h with
 |lnil=>exact .lnil _ _
 |lemp=>exact .lemp _ _ _
 |lst _ _ _ a cap f hs hb hA hn hc h1 hr=>exact .lst _ _ _ a cap f hs hb hA hn hc h1 hr
theorem EL (h:Cj N w0 X0 Y β s a w){t:CT}{p:PV}{K:PV->List Nat->Option R}(hk:Ns (I9 s.hp) t p K=some r):
  ∃c m,K c m=some r∧M0 c∧GK p∧(∀id∈m,∃f cc,s.hp id=some (.ar f cc))∧∀fz:List Nat,(∀id∈m,id∈fz)->(∀id∈fz,∃f cc,s.hp id=some (.ar f cc))->∀v,Bs w (Cs s.hp β Y) β p v->As w (Cs (Ad s.hp fz) β Y) c v∧v.oneCell'=true:=by
 have tree:∀t',(Zb t' p fun c=>K c [])=some r->∃c m,K c m=some r∧M0 c∧GK p∧(∀id∈m,∃f cc,s.hp id=some (.ar f cc))∧∀fz:List Nat,(∀id∈m,id∈fz)->(∀id∈fz,∃f cc,s.hp id=some (.ar f cc))->∀v,Bs w (Cs s.hp β Y) β p v->As w (Cs (Ad s.hp fz) β Y) c v∧v.oneCell'=true:=by
  intro t' hk;obtain⟨c,hk,hT,DI,hv⟩:=Md hk;refine⟨c,[],hk,hT,Rp DI,by simp,fun fz _ Rt v Zc=>?_⟩
  obtain⟨h1,h2⟩:=hv _ _ _ _ Zc;exact⟨h1.step (Bw.refl _ _) (fun b _ hb=>hb.imp Pj id),h2⟩
 cases t with
 |sl es=>
  unfold Ns at hk;dsimp only at hk;split at hk
  ·rename_i id es' off n;cases hb:Nat.beq es' es
   ·rw[hb] at hk;cases hk
   ·rw[hb] at hk;have:=Nat.eq_of_beq_eq_true hb;subst this;obtain⟨c,hc,hk⟩:=B3 (show Dm _ _=some r from hk)
    obtain⟨_,hk⟩:=Aj hk;obtain⟨f,Lm⟩:=KD hc;refine⟨_,[id],hk,trivial,trivial,?_,fun fz hm Rt v hv=>⟨Aa5 h Rt (hm id (by simp)) Lm hv,?_⟩⟩
    ·intro i hi;simp at hi;subst hi;exact⟨f,c,Lm⟩
    ·rcases hv with⟨_,_,_,_,rfl⟩|⟨_,_,_,_,_,rfl,_⟩<;>rfl
  ·obtain⟨z,n,c,hk,hp⟩:=E6 hk;refine⟨_,[],hk,trivial,?_,by simp,fun fz _ Rt v Zc=>?_⟩
   ·rcases hp with rfl|⟨rfl,_⟩<;>trivial
   ·have ht:=Vu hp Zc;refine⟨As.zf (ht.step (Bw.refl _ _) (fun b _ hb=>hb.imp Pj id)),?_⟩
    cases ht<;>rfl
 |int k=>exact tree (.int k) hk
 |bool=>exact tree .bool hk
 |str=>exact tree .str hk
 |any=>exact tree .any hk
theorem Pr (h:Cj N w0 X0 Y β s a w):∀{ts:List CT}{ps:List PV}{K:List PV->List Nat->Option R},Nh (I9 s.hp) ts ps K=some r ->
  ∃cs m,K cs m=some r∧cs.length=ts.length∧ps.length=ts.length∧(∀c∈cs,M0 c)∧(∀p∈ps,GK p)∧(∀id∈m,∃f cc,s.hp id=some (.ar f cc)) ∧
   ∀fz:List Nat,(∀id∈m,id∈fz)->(∀id∈fz,∃f cc,s.hp id=some (.ar f cc))->∀vs,Ba (Bs w (Cs s.hp β Y) β) ps vs->Ba (As w (Cs (Ad s.hp fz) β Y)) cs vs∧∀v∈vs,v.oneCell'=true
 |[],[],K,hk=>⟨[],[],hk,rfl,rfl,by simp,by simp,by simp,fun fz _ _ vs hv=>by
   cases vs with
   |nil=>exact⟨trivial,by simp⟩
   |cons v vs=>exact hv.elim⟩
 |[],_::_,K,hk=>by cases hk
 |_::_,[],K,hk=>by cases hk
 |t::ts,p::ps,K,hk=>by
  unfold Nh at hk;obtain⟨c,m,hk,hT,hF,hm,hv⟩:=EL h hk;obtain⟨cs,ms,hk,hl,Jt,hTs,hFs,FF,Fq⟩:=Pr h hk;refine⟨c::cs,m++ms,hk,by simp[hl],by simp[Jt],?_,?_,?_,fun fz hfm Rt vs h2=>?_⟩
  ·intro x hx;rcases List.mem_cons.1 hx with rfl|hx
   ·exact hT
   ·exact hTs x hx
  ·intro x hx;rcases List.mem_cons.1 hx with rfl|hx
   ·exact hF
   ·exact hFs x hx
  ·intro x hx;rcases List.mem_append.1 hx with hx|hx
   ·exact hm x hx
   ·exact FF x hx
  ·cases vs with
   |nil=>exact h2.elim
   |cons v vs=>
    obtain⟨h3,h4⟩:=hv fz (fun i hi=>hfm i (by simp[hi])) Rt v h2.1
    obtain⟨h5,h6⟩:=Fq fz (fun i hi=>hfm i (by simp[hi])) Rt vs h2.2
    refine⟨⟨h3,h5⟩,?_⟩;intro x hx;rcases List.mem_cons.1 hx with rfl|hx
    ·exact h4
    ·exact h6 x hx
theorem Abh {R':PV->Value->Prop}{cs:List PV}{z:Array Value}(h:Ba R' cs z.toList)(n:Nat):Ba R' (repl n cs) (madeCells z (n*cs.length)).toList:=by
 have hzl:z.size=cs.length:=by have:=h.len;simp at this;exact this.symm
 refine Ba.of_at ?_ fun j c v hc hv=>?_
 ·rw[PR];simp[size_madeCells]
 ·obtain⟨h1,h2⟩:=Xj hc
  have Bp:j % cs.length<cs.length:=by
   rcases Nat.lt_or_ge (j % cs.length) cs.length with h|h
   ·exact h
   ·rw[List.getElem?_eq_none h] at h2;cases h2
  obtain⟨u,hu,hcu⟩:=h.get h2;have:(madeCells z (n*cs.length))[j]?=some u:=OV h1 (by rw[hzl];simpa using hu)
  have Nj:(madeCells z (n*cs.length))[j]?=some v:=by simpa using hv
  rw[this] at Nj;cases Nj;exact hcu
theorem IR {A':Nat->Prop}:∀{ps cs:List PV}{vs:List Value},Ba (Bs w (Cs s.hp β Y) β) ps vs->Ba (As w A') cs vs->Ba (As w A') (RJ true ps cs) vs
 |[],_,_,_,h=>h
 |_::_,[],_,_,h=>h
 |p::ps,c::cs,[],_,h=>h.elim
 |p::ps,c::cs,v::vs,hp,h=>by
  refine⟨?_,IR hp.2 h.2⟩;split
  ·have h1:As w (Cs s.hp β Y) (.lst true _ 0 []) v:=hp.1;cases h1;exact .lnil true _
  ·exact h.1
theorem Yi (h:Cj N w0 X0 Y β s a w){nz:Bool}{t:TypeId}{n:Nat}{ps:Array (Nat × Operand)} (ho:o.op=.buildSlice t n ps){d:Nat}{K:PV->List Nat->List (Nat × Bk)->Option R}
  (hk:(match P.underlying t with
   |some (.slice e)=>An (Qc P t&&Nat.ble (n*A4 P e) 16777216) (Gr P e fun z=>Sy (Q0 P t) (ps.toList.map fun q=>(q.1,Bu s.tm q.2)) (repl n z) fun cs=>
     Nh (I9 s.hp) (List.replicate n (Hq P e)).flatten cs fun cs' m=>K (.view d (A4 P e) 0 n) m [(d,.ar false (bif nz then RJ true cs cs' else cs'))])
   |_=>none)=some r):∃v fz nw,K v fz nw=some r∧D2 P a w o Y β s v fz nw:=by
 split at hk
 ·rename_i e hu;obtain⟨hb,hk⟩:=Aj hk;simp only[Bool.and_eq_true] at hb;have Z0:n*A4 P e<=16777216:=Nat.le_of_ble_eq_true hb.2;have Oy:(P.info? e).isSome=true:=by have:=hb.1;unfold Qc at this;rw[hu] at this;exact this
  obtain⟨z,cs,hk,hz,hct,hl,L8,hc⟩:=Oi hk;obtain⟨hzr,CH⟩:=ON (w:=w) (A:=Cs s.hp β Y) (β:=β) hl hc hz;have Bov:=Abh hzr n
  obtain⟨pc',vc',hk,hf,h2,Jt,hr'⟩:=EN h hk Bov (fun c OA id Bb=>by
   obtain⟨j,hj⟩:=List.mem_iff_getElem?.1 OA;obtain⟨_,hg⟩:=Xj hj;rw[CH c (List.mem_of_getElem? hg)] at Bb;cases Bb)
  obtain⟨qs,m,hk,hql,BJ,hqT,_,hm,hqv⟩:=Pr h hk;obtain⟨h3,h3'⟩:=hqv m (fun _ hi=>hi) hm _ h2
  have h3:Ba (As w (Cs (Ad s.hp m) β Y)) (bif nz then RJ true pc' qs else qs) vc'.toList:=by
   cases nz
   ·exact h3
   ·exact IR h2 h3
  have hf':Instr.fill (fun i=>some (i*A4 P e,A4 P e)) (madeCells z.cells (n*cs.length)) (ps.toList.map fun q=>(q.1,a.eval q.2))=some vc':=by
   rw[←hf];refine Vb (fun i=>?_) _ _
   simp[Q0,hu]
  have Ls:vc'.size=n*A4 P e:=by
   have h4:=h2.len;rw[Jt,PR] at h4;simp at h4;rw[←h4,L8]
  have Cc:(execOp a.eval o).run P w=.ok (.value (.slice (some ⟨w.heap.size,0,none⟩) n n)) (w.alloc (.cells vc' e)):=by
   unfold execOp;rw[ho];have A0g:¬(n*A4 P e>2 ^ 24):=by omega
   rw[L8] at hf';by_cases MZ:n*A4 P e=0
   ·simp only[Instr.buildSlice,Sem.run_bind,run_underlying hu,Result.andThen_ok,Ci Oy,if_neg A0g,MZ];rw[MZ] at hf';have e0:madeCells z.cells 0=(Array.range 0).map (fun _=>default):=by simp[madeCells]
    rw[e0] at hf';simp[hf',newRow]
   ·simp only[Instr.buildSlice,Sem.run_bind,run_underlying hu,Result.andThen_ok,Ci Oy,if_neg A0g,if_neg MZ,Uw hz];unfold madeCells at hf';simp[hf',newRow]
  refine⟨_,_,_,hk,Pf (c:=vc') (e:=e) hm Cc (Dl.alloc w vc' e) (fun j p hj=>?_) (.inr ⟨A4 P e,n,n,rfl,rfl,Nat.le_refl _,by rw[Ls];exact Nat.le_refl _,.inr (Kh w vc' e)⟩)⟩
  obtain⟨u,I1,hp⟩:=h3.get hj;exact⟨u,by simpa using I1,h3' u (List.mem_of_getElem? I1),hp⟩
 ·cases hk
theorem LO (h:Cj N w0 X0 Y β s a w){t:TypeId}{x k:Operand}{ok:Bool}(ho:o.op=.lookup t x k ok){K:PV->Option R}
  (hk:(match P.underlying t with
   |some (.map kt vt)=>An (match P.underlying kt with|some .string=>true|_=>false) (
    match Bu s.tm x with
    |.sc (.map none)=>E2 (Bu s.tm k) fun _=>Dm (Ow P vt) fun z=>cvK P vt z fun v=>An (match v with | .tup _=>false|_=>true) (K (bif ok then .tup [v,.sc (.bool false)] else v))
    |_=>none)
   |_=>none)=some r):∃v,K v=some r∧D2 P a w o Y β s v [] []:=by
 split at hk
 ·rename_i kt vt hu;obtain⟨hkt,hk⟩:=Aj hk
  have hkt:P.underlying kt=some .string:=by
   split at hkt
   ·assumption
   ·cases hkt
  split at hk
  ·rename_i hx;obtain⟨b,hkk,hk⟩:=C4 hk;obtain⟨z,hz,hk⟩:=B3 hk;obtain⟨v,hk,hr,hv⟩:=WS hk;obtain⟨SU,hk⟩:=Aj hk
   have SU:∀cs,v ≠ .tup cs:=by
    rintro cs rfl
    cases SU
   have hzr:∀w:World,(zeroValue vt).run P w=.ok z w:=by
    intro w;unfold Ow at hz;cases hi:P.info? vt with
    |none=>rw[hi] at hz;cases hz
    |some i=>
     rw[hi] at hz;simp[zeroValue,typeInfo,hi,show i.zero=some z from hz]
   have Cc:(execOp a.eval o).run P w=.ok (.value (if ok then .tuple #[z,.bool false] else z)) w:=by
    unfold execOp;rw[ho];have hck:∀c (n:Nat),(Instr.checkKey c (n+1) kt (.string b)).run P w=.ok () w:=fun c n=>by simp[Instr.checkKey,run_underlying hkt]
    have Z9:∀c,(Instr.checkKey c 10000 kt (.string b)).run P w=.ok () w:=fun c=>hck c 9999
    cases ok<;>simp[Instr.lookup,run_underlying hu,B1 h hx,B1 h hkk,Z9,Instr.findKey,Instr.findNow,run_underlying hkt,hzr]
   refine⟨_,hk,Bx Cc ?_ ?_⟩
   ·cases ok
    ·exact hv _ _ _
    ·refine⟨[z,.bool false],rfl,(N9 SU).1 (hv _ _ _),?_,trivial⟩;exact As.sc _
   ·cases ok
    ·intro id Bb;simp only[cond_false] at Bb;rw[hr] at Bb;cases Bb
    ·intro id Bb;have:Bo (.tup [v,.sc (.bool false)])=B4 v++[]:=by simp[Bo,B4,Ao]
     simp only[cond_true] at Bb;rw[this,List.append_nil] at Bb;have e:B4 v=Bo v:=by cases v<;>first|rfl|exact absurd rfl (SU _)
     rw[e,hr] at Bb;cases Bb
  ·cases hk
 ·cases hk
end
end
end Go.Proofs.Ytcgfahlefkfghaa.Pv
