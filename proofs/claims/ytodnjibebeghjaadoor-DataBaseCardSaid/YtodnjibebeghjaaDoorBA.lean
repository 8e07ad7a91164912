/-
  The proof of DataBase, part 1.
-/
import Derived.Orders
import Derived.LoopN
import Derived.Below
import Derived.Laws.Cover4
import Derived.Lib.ValidU
import Derived.Lib.Bytealg
import Derived.IntWalk
import Derived.WalkKit
import Derived.WalkLawsBesides
import Derived.Laws.IdiomStrings
import Derived.Laws.MakeOwn
import Derived.Laws.Tables
set_option linter.unusedSimpArgs false
set_option linter.unusedVariables false
namespace Go.Proofs.YtodnjibebeghjaaDoor.Pv
section
inductive PV where
 |sc (v:Value)
 |lst (z:Bool) (es n:Nat) (cells:List PV)
 |own (es n:Nat) (cells:List PV)
 |view (id es off n:Nat)
 |ptr (id off:Nat)
 |iptr (cells:List PV) (off:Nat)
 |pbox (cells:List PV)
 |agg (cells:List PV)
 |tup (vs:List PV)
 |top
 |ub
inductive Bm where
 |st (cells:List PV)
 |ar (fz:Bool) (cells:List PV)
 |mv
structure St where
 tm:Nat->PV
 hp:Nat->Option Bm
structure Ay where
 vals:List PV
 outs:List (List PV)
structure F3 where
 shr:FuncId->Bool
 mvd:FuncId->Nat->Bool
 lnd:FuncId->Nat->Bool
 kz:FuncId->Bool
 ext:FuncId->Option (List PV->Option Ay)
 nz:Nat->Bool
def F3.core (C:F3):F3:={ C with ext:=fun _=>none }
def Ci {α:Type}(f:Nat->α)(i:Nat)(v:α):Nat->α:=fun j=>bif Nat.beq j i then v else f j
def rd (hp:Nat->Option Bm)(id:Nat):Option (List PV):=
 match hp id with
 |some (.st c)=>some c
 |some (.ar _ c)=>some c
 |_=>none
def Hx (hp:Nat->Option Bm)(id:Nat):Option (List PV):=
 match hp id with
 |some (.ar _ c)=>some c
 |_=>none
inductive CT where
 |int (k:IntKind)
 |bool
 |str
 |sl (es:Nat)
 |any
def A8 (P:Program)(t:TypeId):Nat:=((P.info? t).map (·.size)).getD 0
def Bx (P:Program)(t:TypeId):Bool:=
 match P.underlying t with
 |some (.struct _)=>true
 |some (.array _ _)=>true
 |_=>false
def Ais (P:Program):Nat->TypeId->List CT
 |0,_=>[]
 |d+1,t=>
  match P.underlying t with
  |some (.int k)=>[.int k]
  |some .bool=>[.bool]
  |some .string=>[.str]
  |some (.slice e)=>[.sl (A8 P e)]
  |some (.struct fs)=>fs.toList.flatMap fun f=>Ais P d f.type
  |some (.array n e)=>(List.replicate n (Ais P d e)).flatten
  |_=>[.any]
abbrev G0 (P:Program)(t:TypeId):List CT:=Ais P 9 t
def Hc (P:Program)(t:TypeId):Bool:=(P.underlying t).isSome&&Nat.beq (G0 P t).length (A8 P t)
abbrev WA (k:IntKind)(a b:Int):Int:=k.wrap (BitVec.ofInt k.bits a &&& BitVec.ofInt k.bits b).toNat
abbrev WI (k:IntKind)(a b:Int):Int:=k.wrap (BitVec.ofInt k.bits a ||| BitVec.ofInt k.bits b).toNat
abbrev A3b (k:IntKind)(a b:Int):Int:=k.wrap (BitVec.ofInt k.bits a ^^^ BitVec.ofInt k.bits b).toNat
abbrev Aes (k:IntKind)(a b:Int):Int:=k.wrap (BitVec.ofInt k.bits a &&& ~~~BitVec.ofInt k.bits b).toNat
abbrev Le (k:IntKind)(a b:Int):Int:=k.wrap (a*2 ^ (min b.toNat k.bits))
abbrev GP (k:IntKind)(a b:Int):Int:=a.fdiv (2 ^ (min b.toNat k.bits))
abbrev Aqf (k:IntKind)(n:Int):Int:=k.wrap (BitVec.ofInt k.bits (if k.signed then -1 else k.max) ^^^ BitVec.ofInt k.bits n).toNat
section
variable {R:Type}
def Aw (k:IntKind)(p:PV)(K:Int->Option R):Option R:=
 match p with
 |.sc (.int k' n)=>if k'=k then K n else none
 |_=>none
def Am (p:PV)(K:Bool->Option R):Option R:=
 match p with
 |.sc (.bool b)=>K b
 |_=>none
def A0 (p:PV)(K:ByteArray->Option R):Option R:=
 match p with
 |.sc (.string s)=>K s
 |_=>none
def Po (es:Nat)(p:PV)(K:Bool->Nat->List PV->Option R):Option R:=
 match p with
 |.lst z es' n c=>bif Nat.beq es' es then K z n c else none
 |.sc (.slice none 0 0)=>K true 0 []
 |_=>none
def fsK (es:Nat)(p:PV)(K:PV->Option R):Option R:=
 match p with
 |.view id es' off n=>bif Nat.beq es' es then K (.view id es off n) else none
 |p=>Po es p fun z n c=>K (.lst z es n c)
def HR (es:Nat)(p:PV)(K:Nat->List PV->Option R):Option R:=
 match p with
 |.own es' n c=>bif Nat.beq es' es then K n c else none
 |_=>none
def Bj (b:Bool)(K:Option R):Option R:=bif b then K else none
abbrev Ac {α:Type}(x:α)(K:α->Option R):Option R:=K x
def LQ (b:Bool)(x y:Option R):Option R:=bif b then x else y
abbrev A33 (x:Nat)(K:Nat->Option R):Option R:=K x
def Ahi (x:List (List Nat)) (K:List (List Nat)->Option R):Option R:=K x
def Bh (b:Bool)(x y:Option R):Option R:=bif b then x else y
def Dh {α:Type}(o:Option α)(K:α->Option R):Option R:=
 match o with
 |some a=>K a
 |none=>none
def Aa {α:Type}(l:List α)(K:α->List α->Option R):Option R:=
 match l with
 |a::r=>K a r
 |[]=>none
def Ad {α:Type}(l:List α)(K:Option R):Option R:=
 match l with
 |[]=>K
 |_::_=>none
def G7 (p:PV)(K:List PV->Option R):Option R:=
 match p with
 |.agg c=>K c
 |_=>none
def Qx (p:PV)(K:List PV->Option R):Option R:=
 match p with
 |.pbox c=>K c
 |_=>none
def Ai (r:Option Ay)(K:List PV->List (List PV)->Option R):Option R:=
 match r with
 |some ⟨v,o⟩=>K v o
 |none=>none
def WH (p:PV)(K:Value->Option R):Option R:=
 match p with
 |.sc (.func f a b)=>K (.func f a b)
 |.sc (.map none)=>K (.map none)
 |_=>none
def fvK (p:PV)(K:FuncId->Option R):Option R:=
 match p with
 |.sc (.func (.func f) a b)=>bif a.isEmpty&&b.isEmpty then K f else none
 |_=>none
def Uu (t:CT)(p:PV)(K:PV->Option R):Option R:=
 match t with
 |.int k=>Aw k p fun n=>K (.sc (.int k n))
 |.bool=>Am p fun b=>K (.sc (.bool b))
 |.str=>A0 p fun s=>K (.sc (.string s))
 |.sl es=>Po es p fun z n c=>K (.lst z es n c)
 |.any=>WH p fun v=>K (.sc v)
def fcK (t:CT)(p:PV)(K:PV->Option R):Option R:=
 match t with
 |.sl es=>fsK es p K
 |t=>Uu t p K
def Oa:List CT->List PV->Nat->(List PV->Option R)->Option R
 |[],_,_,K=>K []
 |t::ts,cells,off,K=>Uu t (cells.getD off .top) fun c=>Oa ts cells (off+1) fun r=>K (c::r)
def Li:List CT->List PV->Nat->(List PV->Option R)->Option R
 |[],_,_,K=>K []
 |t::ts,cells,off,K=>fcK t (cells.getD off .top) fun c=>Li ts cells (off+1) fun r=>K (c::r)
def SE (agg:Bool)(cells:List PV)(K:PV->Option R):Option R:=
 bif agg then K (.agg cells) else Aa cells fun c r=>Ad r (K c)
def cellsOf:PV->List PV
 |.agg c=>c
 |p=>[p]
def cvK (P:Program)(t:TypeId)(v:Value)(K:PV->Option R):Option R:=
 match v with
 |.agg cs=>Bj (Nat.beq cs.toList.length (G0 P t).length) (Oa (G0 P t) (cs.toList.map .sc) 0 fun c=>K (.agg c))
 |.slice none 0 0=>
  match P.underlying t with
  |some (.slice e)=>K (.lst true (A8 P e) 0 [])
  |_=>none
 |v=>K (.sc v)
end
def Bw (tm:Nat->PV):Operand->PV
 |.tmp t=>tm t
 |.const (.agg cs)=>.agg (cs.toList.map .sc)
 |.const v=>.sc v
 |.func f=>.sc (.func (.func f) #[] #[])
 |.global g=>.sc (.pointer (some ⟨g,0,none⟩))
section
variable {R:Type}
def Df (p:PV)(K:IntKind->Int->Option R):Option R:=
 match p with
 |.sc (.int k n)=>K k n
 |_=>none
def KB (rdf:Nat->Option (List PV)) (es:Nat)(p:PV)(K:Nat->List PV->Option R):Option R:=
 match p with
 |.view id es' off n=>bif Nat.beq es' es then Dh (rdf id) fun c=>Bj (decide (off+n*es<=c.length)) (K n ((c.drop off).take (n*es))) else none
 |p=>Po es p fun _ n c=>K n c
def Lc (rdf:Nat->Option (List PV)) (t:CT)(p:PV)(K:PV->List Nat->Option R):Option R:=
 match t with
 |.sl es=>
  match p with
  |.view id es' off n=>bif Nat.beq es' es then Dh (rdf id) fun c=>Bj (decide (off+n*es<=c.length)) (K (.lst false es n ((c.drop off).take (n*es))) [id]) else none
  |p=>Po es p fun _ n c=>K (.lst false es n c) []
 |t=>Uu t p fun c=>K c []
def Ky (rdf:Nat->Option (List PV)):List CT->List PV->(List PV->List Nat->Option R)->Option R
 |[],[],K=>K [] []
 |t::ts,p::ps,K=>Lc rdf t p fun c m=>Ky rdf ts ps fun cs ms=>K (c::cs) (m++ms)
 |_,_,_=>none
def KP (k:Bool):List PV->List PV->List PV
  |p::ps,c::cs=>
    (match k,p with
     |true,.lst true es 0 []=>.lst true es 0 []
     |_,_=>c)::KP k ps cs
  |_,cs=>cs
def OZ (P:Program)(rdf:Nat->Option (List PV)) (t:TypeId)(p:PV)(K:PV->List Nat->Option R):Option R:=
 bif Bx P t then G7 p fun ps=>Ky rdf (G0 P t) ps fun cs m=>K (.agg cs) m
 else Ky rdf (G0 P t) [p] fun cs m=>Aa cs fun c r=>Ad r (K c m)
def Ze (P:Program)(rdf:Nat->Option (List PV)):List TypeId->List PV->(List PV->List Nat->Option R)->Option R
 |[],[],K=>K [] []
 |t::ts,p::ps,K=>OZ P rdf t p fun v m=>Ze P rdf ts ps fun vs ms=>K (v::vs) (m++ms)
 |_,_,_=>none
def YY (shr:Bool)(id:Nat)(t:CT)(p:PV)(K:PV->List (Nat × Bm)->Option R):Option R:=
 match t with
 |.sl es=>bif shr then Po es p fun _ n c=>K (.lst false es n c) [] else HR es p fun n c=>K (.view id es 0 n) [(id,.ar false c)]
 |t=>Uu t p fun c=>K c []
def My (shr:Bool)(N:Nat):Nat->List CT->List PV->(List PV->List (Nat × Bm)->Option R)->Option R
 |_,[],ps,K=>Ad ps (K [] [])
 |id,t::ts,ps,K=>Aa ps fun p ps=>YY shr id t p fun c b=>My shr N (id+N) ts ps fun cs bs=>K (c::cs) (b++bs)
def Si (P:Program)(t:TypeId):Option TypeId:=
 match P.underlying t with
 |some (.pointer e)=>some e
 |_=>none
def IP (P:Program)(t:TypeId):Nat:=
 match Si P t with
 |some e=>1+(G0 P e).length
 |none=>(G0 P t).length
def VW (P:Program)(shr:Bool)(N:Nat)(id:Nat)(t:TypeId)(p:PV)(K:PV->List (Nat × Bm)->Option R):Option R:=
 match Si P t with
 |some e=>Qx p fun ps=>My shr N (id+N) (G0 P e) ps fun cs bs=>K (.ptr id 0) ((id,.st cs)::bs)
 |none=>
 bif Bx P t then G7 p fun ps=>My shr N id (G0 P t) ps fun cs bs=>K (.agg cs) bs
 else My shr N id (G0 P t) [p] fun cs bs=>Aa cs fun c r=>Ad r (K c bs)
def Vh (P:Program)(shr:Bool)(N:Nat):Nat->List TypeId->List PV->(List PV->List (Nat × Bm)->Option R)->Option R
 |_,[],ps,K=>Ad ps (K [] [])
 |id,t::ts,ps,K=>Aa ps fun p ps=>VW P shr N id t p fun v bs=>Vh P shr N (id+N*IP P t) ts ps fun vs bs'=>K (v::vs) (bs++bs')
def K3 (P:Program)(t:TypeId):List TypeId:=
 match P.underlying t with
 |some (.tuple ts)=>ts.toList
 |_=>[t]
def Km (vs:List PV)(t:Bool):PV:=bif t then .tup vs else vs.headD .top
def Lu (P:Program)(t:TypeId):Bool:=
 match P.underlying t with
 |some (.tuple _)=>true
 |_=>false
def Ads (op:BinOp)(a b:Int)(K:Bool->Option R):Option R:=
 match op with
 |.eql=>K (a==b)
 |.neq=>K (a != b)
 |.lss=>K (decide (a<b))
 |.leq=>K (decide (a<=b))
 |.gtr=>K (decide (a>b))
 |.geq=>K (decide (a>=b))
 |_=>none
def Zy (op:BinOp)(k:IntKind)(a b:Int)(K:PV->Option R):Option R:=
 match op with
 |.add=>Ac ((k.wrap (a+b))) fun n=>K (.sc (.int k n))
 |.sub=>Ac ((k.wrap (a-b))) fun n=>K (.sc (.int k n))
 |.mul=>Ac ((k.wrap (a*b))) fun n=>K (.sc (.int k n))
 |.quo=>Bj (decide (b≠0)) (Ac ((k.wrap (a.tdiv b))) fun n=>K (.sc (.int k n)))
 |.rem=>Bj (decide (b≠0)) (Ac ((a.tmod b)) fun n=>K (.sc (.int k n)))
 |.and=>Ac (WA k a b) fun n=>K (.sc (.int k n))
 |.or=>Ac (WI k a b) fun n=>K (.sc (.int k n))
 |.xor=>Ac (A3b k a b) fun n=>K (.sc (.int k n))
 |.andNot=>Ac (Aes k a b) fun n=>K (.sc (.int k n))
 |op=>Ads op a b fun r=>K (.sc (.bool r))
def Zd (op:BinOp)(x y:ByteArray)(K:PV->Option R):Option R:=
 match op with
 |.add=>Bj (decide (x.size+y.size<=9223372036854775807)) (Ac (x++y) fun s=>K (.sc (.string s)))
 |.eql=>K (.sc (.bool (x.data.toList==y.data.toList)))
 |.neq=>K (.sc (.bool !(x.data.toList==y.data.toList)))
 |.lss=>K (.sc (.bool (Op.bytesLess x.data.toList y.data.toList)))
 |.leq=>K (.sc (.bool (Op.bytesLess x.data.toList y.data.toList||x.data.toList==y.data.toList)))
 |.gtr=>K (.sc (.bool !(Op.bytesLess x.data.toList y.data.toList||x.data.toList==y.data.toList)))
 |.geq=>K (.sc (.bool !(Op.bytesLess x.data.toList y.data.toList)))
 |_=>none
def Xn (e:Bool)(p:PV)(K:PV->Option R):Option R:=
 match p with
 |.sc (.slice none 0 0)=>K (.sc (.bool e))
 |.lst z _ n _=>Bh z (K (.sc (.bool e))) (Bh (decide (0<n)) (K (.sc (.bool !e))) (K .ub))
 |.view _ _ _ n=>Bh (decide (0<n)) (K (.sc (.bool !e))) (K .ub)
 |_=>none
def JU (P:Program):List Field->Nat->Bool
 |[],_=>true
 |f::r,i=>Nat.beq f.offset i&&(f.name != "_")&&(match P.underlying f.type with|some (.int _)=>true|some .bool=>true|some .string=>true|_=>false)&&JU P r (i+1)
def Kz (P:Program):List Field->Nat->Bool
  |[],_=>true
  |f::r,i=>Nat.beq f.offset i&&(f.name != "_") &&
    (match P.underlying f.type with
     |some (.int _)=>Kz P r (i+1)
     |some .bool=>Kz P r (i+1)
     |some .string=>Kz P r (i+1)
     |some (.struct gs)=>JU P gs.toList 0 && !P.stoodInHeld f.type&&(P.info? f.type).isSome&&Nat.beq (A8 P f.type) gs.size&&Kz P r (i+gs.size)
     |_=>false)
def GV (P:Program)(t:TypeId)(fs:Array Field):Bool:=Kz P fs.toList 0 && !P.stoodInHeld t && !P.eqGuardType P.depth t
def fty (P:Program)(f:Field):CT:=
 match P.underlying f.type with
 |some (.int k)=>.int k
 |some .bool=>.bool
 |some .string=>.str
 |_=>.any
def KI (P:Program)(f:Field):List CT:=
 match P.underlying f.type with
 |some (.struct gs)=>gs.toList.map (fty P)
 |_=>[fty P f]
def Qz (P:Program):List Field->List CT
 |[]=>[]
 |f::r=>KI P f++Qz P r
def Ja:List CT->List PV->List PV->(Bool->Option R)->Option R
 |[],[],[],K=>K true
 |.int k::ts,p::ps,q::qs,K=>Aw k p fun a=>Aw k q fun b=>Ja ts ps qs fun r=>K ((a==b)&&r)
 |.bool::ts,p::ps,q::qs,K=>Am p fun a=>Am q fun b=>Ja ts ps qs fun r=>K ((a==b)&&r)
 |.str::ts,p::ps,q::qs,K=>A0 p fun a=>A0 q fun b=>Ja ts ps qs fun r=>K ((a==b)&&r)
 |_,_,_,_=>none
def Abi (P:Program)(op:BinOp)(t:TypeId)(x y:PV)(K:PV->Option R):Option R:=
 match P.underlying t with
 |some (.int k)=>
  match op with
  |.shl=>Aw k x fun a=>Df y fun _ b=>Bj (decide (0<=b)) (Ac (Le k a b) fun n=>K (.sc (.int k n)))
  |.shr=>Aw k x fun a=>Df y fun _ b=>Bj (decide (0<=b)) (Ac (GP k a b) fun n=>K (.sc (.int k n)))
  |op=>Aw k x fun a=>Aw k y fun b=>Zy op k a b K
 |some .string=>A0 x fun a=>A0 y fun b=>Zd op a b K
 |some .bool=>
  match op with
  |.eql=>Am x fun a=>Am y fun b=>K (.sc (.bool (a==b)))
  |.neq=>Am x fun a=>Am y fun b=>K (.sc (.bool !(a==b)))
  |_=>none
 |some (.slice _)=>
  match op,y with
  |.eql,.sc (.slice none 0 0)=>Xn true x K
  |.neq,.sc (.slice none 0 0)=>Xn false x K
  |_,_=>none
 |some (.map _ _)=>
  match op,x,y with
  |.eql,.sc (.map none),.sc (.map none)=>K (.sc (.bool true))
  |.neq,.sc (.map none),.sc (.map none)=>K (.sc (.bool false))
  |_,_,_=>none
 |_=>none
def Py (P:Program)(op:BinOp)(t:TypeId)(x y:PV)(K:PV->Option R):Option R:=
 match P.underlying t with
 |some (.struct fs)=>
  match op with
  |.eql=>Bj (GV P t fs) (G7 x fun xs=>G7 y fun ys=>Ja (Qz P fs.toList) xs ys fun b=>K (.sc (.bool b)))
  |.neq=>Bj (GV P t fs) (G7 x fun xs=>G7 y fun ys=>Ja (Qz P fs.toList) xs ys fun b=>K (.sc (.bool !b)))
  |_=>none
 |_=>Abi P op t x y K
def unK (op:UnOp)(x:PV)(K:PV->Option R):Option R:=
 match op with
 |.not=>Am x fun b=>K (.sc (.bool !b))
 |.neg=>Df x fun k n=>Ac (k.wrap (0-n)) fun n=>K (.sc (.int k n))
 |.xor=>Df x fun k n=>Ac (Aqf k n) fun n=>K (.sc (.int k n))
 |_=>none
def Gr:List PV->Option (List UInt8)
 |[]=>some []
 |.sc (.int .u8 n)::r=>(Gr r).map (n.toNat.toUInt8 :: ·)
 |_::_=>none
def Pq:List PV->Option (List Int)
 |[]=>some []
 |.sc (.int .i32 n)::r=>(Pq r).map (n :: ·)
 |_::_=>none
def Mr (s:ByteArray):List PV:=s.data.toList.map fun b=>.sc (.int .u8 b.toNat)
def Y2 (P:Program)(rdf:Nat->Option (List PV)) (d:Nat)(src dst:TypeId)(x:PV)(K:PV->List (Nat × Bm)->Option R):Option R:=
 match P.underlying dst with
 |some (.int k)=>Bj (P.underlying src).isSome (Df x fun _ n=>Ac (k.wrap n) fun n=>K (.sc (.int k n)) [])
 |some .string=>
  match P.underlying src with
  |some .string=>A0 x fun s=>K (.sc (.string s)) []
  |some (.slice e)=>
   match P.underlying e with
   |some (.int .u8)=>KB rdf 1 x fun n c=>Bj (decide (c.length=n)) (Dh (Gr c) fun b=>K (.sc (.string ⟨b.toArray⟩)) [])
   |some (.int .i32)=>KB rdf 1 x fun n c=>Bj (decide (c.length=n)) (Dh (Pq c) fun ns=>Ac (runesBytes ns) fun s=>K (.sc (.string s)) [])
   |_=>none
  |_=>none
 |some (.slice e)=>
  match P.underlying e,P.underlying src with
  |some (.int .u8),some .string=>A0 x fun s=>Bj (decide (s.size<=1099511627776)) (K (.view d 1 0 s.size) [(d,.ar false (Mr s))])
  |_,_=>none
 |_=>none
def Fw (p:Option PV)(dflt:Nat)(K:Nat->Option R):Option R:=
 match p with
 |none=>K dflt
 |some p=>Df p fun _ i=>Bj (decide (0<=i)) (K i.toNat)
def Ue (P:Program)(rdf:Nat->Option (List PV)) (t:TypeId)(x:PV)(lo hi:Option PV)(K:PV->Option R):Option R:=
 match P.underlying t with
 |some .string=>A0 x fun s=>Fw lo 0 fun l=>Fw hi s.size fun h=>Bj (decide (l<=h)&&decide (h<=s.size)) (Ac (s.extract l h) fun s=>K (.sc (.string s)))
 |some (.slice e)=>Bj (P.info? e).isSome (
  match x with
  |.view id es off n=>Bj (Nat.beq es (A8 P e)) (Fw lo 0 fun l=>Fw hi n fun h=>Bj (decide (l<=h)&&decide (h<=n)) (Ac (off+l*es) fun o=>Ac (h-l) fun n=>K (.view id es o n)))
  |x=>Po (A8 P e) x fun z n c=>Fw lo 0 fun l=>Fw hi n fun h=>Bj (decide (l<=h)&&decide (h<=n)) (Ac (h-l) fun n=>Ac ((c.drop (l*A8 P e)).take (n*A8 P e)) fun c=>K (.lst z (A8 P e) n c)))
 |some (.array n e)=>Bj (P.info? e).isSome (
  match x with
  |.ptr id off=>Dh (rdf id) fun c=>Bj (decide (1<=n*A8 P e)&&decide (off+n*A8 P e<=c.length)&&Nat.beq (A8 P e) 1)<|Fw lo 0 fun l=>Fw hi n fun h=>Bj (decide (l<=h)&&decide (h<=n)) (Ac (off+l*A8 P e) fun o=>Ac (h-l) fun n=>K (.view id (A8 P e) o n))
  |_=>none)
 |_=>none
def P6 (P:Program)(d:Nat)(t:TypeId)(x:PV)(lo hi mx:Option PV)(K:PV->List (Nat × Bm)->Option R):Option R:=
 match P.underlying t with
 |some (.slice e)=>Bj ((P.info? e).isSome&&hi.isSome) (
  match x with
  |.view _ es _ n=>Bj (Nat.beq es (A8 P e)) (Fw lo 0 fun l=>Fw hi n fun h=>Fw mx n fun m=>Bj (Nat.beq l m&&Nat.beq h m&&decide (m<=n)) (K (.view d (A8 P e) 0 0) [(d,.ar false [])]))
  |x=>Po (A8 P e) x fun _ n _=>Fw lo 0 fun l=>Fw hi n fun h=>Fw mx n fun m=>Bj (Nat.beq l m&&Nat.beq h m&&decide (m<=n)) (K (.view d (A8 P e) 0 0) [(d,.ar false [])]))
 |_=>none
def Oj (x:PV)(d:Nat)(K:PV->Option R):Option R:=
 match x with
 |.ptr id off=>K (.ptr id (off+d))
 |.iptr c off=>K (.iptr c (off+d))
 |_=>none
def Xq (P:Program)(e:TypeId):Bool:=(P.info? e).isSome
def M2 (P:Program)(t:TypeId)(f:Nat):Option (Nat × TypeId):=
 match P.underlying t with
 |some (.struct fs)=>(fs[f]?).map fun g=>(g.offset,g.type)
 |_=>none
def Ic (P:Program)(t:TypeId)(x:PV)(i:Int)(K:PV->Option R):Option R:=
 match P.underlying t with
 |some (.array n e)=>Bj (Xq P e) (Bj (decide (0<=i)&&decide (i<n)) (Oj x (i.toNat*A8 P e) K))
 |some (.slice e)=>Bj (Xq P e) (
  match x with
  |.view id es off n=>Bj (Nat.beq es (A8 P e)) (Bj (decide (0<=i)&&decide (i<n)) (K (.ptr id (off+i.toNat*es))))
  |x=>Po (A8 P e) x fun _ n c=>Bj (decide (0<=i)&&decide (i<n)) (K (.iptr c (i.toNat*A8 P e))))
 |_=>none
def Ru (P:Program)(rdf:Nat->Option (List PV)) (t:TypeId)(x:PV)(K:PV->Option R):Option R:=
 match x with
 |.ptr id off=>Bj (Hc P t) (Dh (rdf id) fun c=>Li (G0 P t) c off fun cs=>SE (Bx P t) cs K)
 |.iptr c off=>Bj (Hc P t) (Oa (G0 P t) c off fun cs=>SE (Bx P t) cs K)
 |_=>none
def GA:PV->PV
 |.lst _ es n c=>.lst false es n c
 |p=>p
def OL:PV->PV
 |.agg cs=>.agg (cs.map GA)
 |p=>GA p
def Tn (nz:Bool)(P:Program)(rdf rdaf:Nat->Option (List PV)) (t:TypeId)(x:PV)(K:PV->Option R):Option R:=
 match x with
 |.ptr id off=>Bj (Hc P t) (
  match rdaf id with
  |some c=>Oa (G0 P t) c off fun cs=>SE (Bx P t) cs fun v=>K (bif nz then v else OL v)
  |none=>Dh (rdf id) fun c=>Li (G0 P t) c off fun cs=>SE (Bx P t) cs K)
 |.iptr c off=>Bj (Hc P t) (Oa (G0 P t) c off fun cs=>SE (Bx P t) cs fun v=>K (bif nz then v else OL v))
 |_=>none
def Cs (cells new:List PV)(off:Nat):List PV:=cells.take off++new++cells.drop (off+new.length)
def okP:PV->Bool
 |.agg _=>true
 |.lst _ _ _ _=>true
 |.view _ _ _ _=>true
 |.sc (.int _ _)=>true
 |.sc (.bool _)=>true
 |.sc (.string _)=>true
 |.sc (.slice none 0 0)=>true
 |_=>false
def Pk (F5:Nat->Option (Nat × Nat)):List (Nat × PV)->List PV->(List PV->Option R)->Option R
 |[],cells,K=>K cells
 |(i,p)::r,cells,K=>Dh (F5 i) fun q=>Bj (okP p&&Nat.beq (cellsOf p).length q.2&&Nat.ble (q.1+q.2) cells.length) (Ac (Cs cells (cellsOf p) q.1) fun cells=>Pk F5 r cells K)
def Nh (P:Program)(t:TypeId)(i:Nat):Option (Nat × Nat):=
 match P.underlying t with
 |some (.struct fs)=>(fs[i]?).map fun f=>(f.offset,A8 P f.type)
 |some (.array _ e)=>some (i*A8 P e,A8 P e)
 |some (.slice e)=>some (i*A8 P e,A8 P e)
 |_=>none
def Mh (P:Program)(t:TypeId):Bool:=
 match P.underlying t with
 |some (.struct fs)=>fs.toList.all fun f=>Xq P f.type
 |some (.array _ e)=>Xq P e
 |some (.slice e)=>Xq P e
 |_=>false
def L8 (P:Program)(t:TypeId):Option Value:=(P.info? t).bind (·.zero)
def F4 (P:Program)(t:TypeId)(K:List PV->Option R):Option R:=
 Dh (L8 P t) fun v=>Bj (Nat.beq v.cells.toList.length (G0 P t).length&&Hc P t) (Oa (G0 P t) (v.cells.toList.map .sc) 0 K)
def Pe (P:Program)(t:TypeId):Bool:=
 match P.underlying t with
 |some (.array _ _)=>true
 |_=>false
def Aay (P:Program)(t:TypeId)(cells:List PV):Bm:=bif Pe P t then .ar false cells else .st cells
def Np (n:Nat)(l:List PV):List PV:=(List.replicate n l).flatten
def Ac3 (a b:PV)(K:PV->Option R):Option R:=Df a fun k x=>Aw k b fun y=>Ac (if y<x then y else x) fun n=>K (.sc (.int k n))
def Aff (a b:PV)(K:PV->Option R):Option R:=Df a fun k x=>Aw k b fun y=>Ac (if x<y then y else x) fun n=>K (.sc (.int k n))
def UK (P:Program)(t:TypeId)(x:PV)(K:Nat->Option R):Option R:=
 match P.underlying t with
 |some .string=>A0 x fun s=>K s.size
 |some (.array n _)=>K n
 |some (.slice e)=>
  match x with
  |.view _ es _ n=>Bj (Nat.beq es (A8 P e)) (K n)
  |x=>Po (A8 P e) x fun _ n _=>K n
 |_=>none
end
abbrev Ax:=FuncId->List PV->Option Ay
section
variable {R:Type}
def Hz (P:Program)(ts:List TypeId):Bool:=ts.any fun t=>(Si P t).isSome||(G0 P t).any fun c=>match c with | .sl _=>true|_=>false
def T7 (P:Program)(t:TypeId)(tm:Nat->PV)(x:Operand)(K:PV->Option R):Option R:=
 match x with
 |.const v=>cvK P t v K
 |x=>K (Bw tm x)
def EV (P:Program)(e:TypeId):Bool:=
 match P.info? e with
 |some i=>(match i.zero with|some z=>Nat.beq z.cells.size i.size|none=>false)
 |none=>false
def OH (P:Program)(rdaf:Nat->Option (List PV)) (es:Nat)(t:TypeId)(x:PV)(K:Nat->List PV->Option R):Option R:=
 match P.underlying t with
 |some .string=>Bj (Nat.beq es 1) (A0 x fun b=>K b.size (Mr b))
 |some (.slice _)=>KB rdaf es x K
 |_=>none
abbrev OO (P:Program)(s:St)(es:Nat)(t:TypeId)(x:PV)(K:Nat->List PV->Option R):Option R:=OH P (Hx s.hp) es t x K
def Ts (c:Call):Bool:=
 match c.args.toList with
 |.const (.slice none 0 0)::_=>true
 |_=>false
def P4 (P:Program)(rdaf:Nat->Option (List PV)) (d:Nat)(t tx:TypeId)(x:PV)(K:PV->List (Nat × Bm)->Option R):Option R:=
 match P.underlying t with
 |some (.slice e)=>Bj (EV P e) <|
  OH P rdaf (A8 P e) tx x fun m new=>
   Bj (decide (new.length=m*A8 P e)&&decide (m*((P.info? e).map (·.bytes)).getD 0<=1099511627776)&&decide (m<=1099511627776)) (K (.view d (A8 P e) 0 m) [(d,.ar false new)])
 |_=>none
def Hy (k:Bool):List Operand->List PV->List PV
  |x::xs,p::ps=>
    (match x,p with
     |.const (.slice none 0 0),.lst z es 0 []=>.lst (k||z) es 0 []
     |_,p=>p)::Hy k xs ps
  |_,ps=>ps
def WE (P:Program)(t:TypeId)(x:PV)(K:Nat->Option R):Option R:=
 match P.underlying t with
 |some (.slice e)=>Po (A8 P e) x fun z _ _=>Bj z (K 0)
 |_=>none
def Yo (P:Program)(f:FuncId)(c:Call):List TypeId:=
 match P.funcs[f]? with
 |some fn=>fn.params.toList
 |none=>c.argTypes.toList
def Xu (C:F3)(P:Program)(N:Nat)(call:Ax)(tm:Nat->PV)(rdaf:Nat->Option (List PV)) (o:Oper)(c:Call)(f:FuncId)(K:PV->List Nat->List (Nat × Bm)->Option R):Option R:=
 Ze P rdaf (Yo P f c) (c.args.toList.map (Bw tm)) fun vs m=>
  Ai (call f (Hy (C.kz f) c.args.toList vs)) fun rv ro=>Ad ro (Bj (Nat.blt 0 N)<|Vh P (C.shr f) N (o.dst.getD 0) (K3 P o.type) rv fun ws bs=>
   Bj (bif Lu P o.type then !Nat.beq ws.length 1 else Nat.beq ws.length 1)<|K (Km ws (Lu P o.type)) (bif Hz P (K3 P o.type) then m else []) bs)
def Xx (C:F3)(P:Program)(N:Nat)(call:Ax)(tm:Nat->PV)(rdf rdaf:Nat->Option (List PV)) (o:Oper)(K:PV->List Nat->List (Nat × Bm)->Option R):Option R:=
  match o.op with
  |.move x=>T7 P o.type tm x fun p=>K p [] []
  |.assign x=>T7 P o.type tm x fun p=>K p [] []
  |.pick c a b=>Am (Bw tm c) fun t=>Bh t (K (Bw tm a) [] []) (K (Bw tm b) [] [])
  |.alloc t=>Dh o.dst fun d=>F4 P t fun cs=>K (.ptr d 0) [] [(d,Aay P t cs)]
  |.box t x=>Dh o.dst fun d=>Bj (Hc P t&&Nat.beq (cellsOf (Bw tm x)).length (G0 P t).length)
      (bif Pe P t then Oa (G0 P t) (cellsOf (Bw tm x)) 0 fun cs=>K (.ptr d 0) [] [(d,.ar false cs)]
       else Li (G0 P t) (cellsOf (Bw tm x)) 0 fun cs=>K (.ptr d 0) [] [(d,.st cs)])
  |.build t ps=>Bj (Mh P t&&Bx P t)<|F4 P t fun z=>Pk (Nh P t) (ps.toList.map fun q=>(q.1,Bw tm q.2)) z fun cs=>Li (G0 P t) cs 0 fun cs'=>K (.agg cs') [] []
  |.buildSlice t n ps=>Dh o.dst fun d=>
      match P.underlying t with
      |some (.slice e)=>Bj (Mh P t&&Nat.ble (n*A8 P e) 16777216) (F4 P e fun z=>Pk (Nh P t) (ps.toList.map fun q=>(q.1,Bw tm q.2)) (Np n z) fun cs=>
          Ky rdaf (List.replicate n (G0 P e)).flatten cs fun cs' m=>K (.view d (A8 P e) 0 n) m [(d,.ar false (bif C.nz N then KP true cs cs' else cs'))])
      |_=>none
  |.load t a=>Tn (C.nz N) P rdf rdaf t (Bw tm a) fun v=>K v [] []
  |.nilCheck x=>Oj (Bw tm x) 0 fun p=>K p [] []
  |.binOp op t x y _=>
      Py P op t (Bw tm x) (Bw tm y) fun v=>K v [] []
  |.unOp op _ x=>unK op (Bw tm x) fun v=>K v [] []
  |.convert src dst x=>Y2 P rdaf (o.dst.getD 0) src dst (Bw tm x) fun v b=>Dh o.dst fun _=>K v [] b
  |.makeSlice t l c=>Dh o.dst fun d=>
      match P.underlying t with
      |some (.slice e)=>Df (Bw tm l) fun _ n=>Df (Bw tm c) fun _ m=>
          Bj (decide (0<=n)&&decide (n<=m)&&decide (m*((P.info? e).map (·.bytes)).getD 0<=1099511627776)&&decide (m<=1099511627776))
            (F4 P e fun z=>K (.view d (A8 P e) 0 n.toNat) [] [(d,.ar false (Np n.toNat z))])
      |_=>none
  |.slice t x lo hi mx=>
      match mx with
      |none=>Ue P rdf t (Bw tm x) (lo.map (Bw tm)) (hi.map (Bw tm)) fun v=>K v [] []
      |some m=>Dh o.dst fun d=>P6 P d t (Bw tm x) (lo.map (Bw tm)) (hi.map (Bw tm)) (some (Bw tm m)) fun v nw=>K v [] nw
  |.fieldAddr t x f=>Dh (M2 P t f) fun q=>Bj (Nat.ble 1 (A8 P q.2)) (Oj (Bw tm x) q.1 fun p=>K p [] [])
  |.field t x f=>Dh (M2 P t f) fun q=>Bj (Hc P q.2)<|G7 (Bw tm x) fun cs=>Li (G0 P q.2) cs q.1 fun c=>SE (Bx P q.2) c fun v=>K v [] []
  |.indexAddr t x i=>Df (Bw tm i) fun _ n=>Ic P t (Bw tm x) n fun p=>K p [] []
  |.index t x i=>Df (Bw tm i) fun _ n=>
      match P.underlying t with
      |some .string=>A0 (Bw tm x) fun s=>Bj (decide (0<=n)) (Dh (s.data.toList[n.toNat]?) fun b=>K (.sc (.int .u8 b.toNat)) [] [])
      |some (.array len e)=>G7 (Bw tm x) fun cs=>Bj (decide (0<=n)&&decide (n<len)&&Hc P e) (Li (G0 P e) cs (n.toNat*A8 P e) fun c=>SE (Bx P e) c fun v=>K v [] [])
      |_=>none
  |.lookup t x k ok=>
      match P.underlying t with
      |some (.map kt vt)=>Bj (match P.underlying kt with|some .string=>true|_=>false) (
        match Bw tm x with
        |.sc (.map none)=>A0 (Bw tm k) fun _=>Dh (L8 P vt) fun z=>cvK P vt z fun v=>Bj (match v with | .tup _=>false|_=>true) (K (bif ok then .tup [v,.sc (.bool false)] else v) [] [])
        |_=>none)
      |_=>none
  |.extract x i=>
      match Bw tm x with
      |.tup vs=>Dh vs[i]? fun p=>K p [] []
      |_=>none
  |.call c=>
      match c.callee with
      |.builtin .len=>Aa c.args.toList fun x _=>Aa c.argTypes.toList fun t _=>UK P t (Bw tm x) fun n=>K (.sc (.int .i64 n)) [] []
      |.builtin .cap=>Aa c.args.toList fun x _=>Aa c.argTypes.toList fun t _=>WE P t (Bw tm x) fun n=>K (.sc (.int .i64 n)) [] []
      |.builtin .min=>Aa c.args.toList fun x r=>Aa r fun y r'=>Ad r' (Ac3 (Bw tm x) (Bw tm y) fun v=>K v [] [])
      |.builtin .max=>Aa c.args.toList fun x r=>Aa r fun y r'=>Ad r' (Aff (Bw tm x) (Bw tm y) fun v=>K v [] [])
      |.builtin .append=>Bj (Ts c) (Dh o.dst fun d=>Aa c.args.toList fun _ r=>Aa r fun x r'=>Ad r' (Aa c.argTypes.toList fun t u=>Aa u fun tx _=>P4 P rdaf d t tx (Bw tm x) fun v nw=>K v [] nw))
      |.value (.func f)=>Xu C P N call tm rdaf o c f K
      |.value (.tmp t)=>fvK (tm t) fun f=>Xu C P N call tm rdaf o c f K
      |_=>none
  |_=>none
def M7 (C:F3)(P:Program)(o:Op):Bool:=
 match o with
 |.store .. =>true
 |.call c=>
  match c.callee with
  |.builtin .append=> !Ts c
  |.builtin .copy=>true
  |.builtin _=>false
  |.value (.func f)=>((Yo P f c).any fun t=>(Si P t).isSome)||((Yo P f c).zipIdx.any fun q=>C.mvd f q.2||C.lnd f q.2)
  |_=>false
 |_=>false
def Pg (b:Bm):Bm:=
 match b with
 |.ar _ c=>.ar true c
 |b=>b
def Af (hp:Nat->Option Bm)(ids:List Nat):Nat->Option Bm:=fun i=>bif ids.any (Nat.beq i) then (hp i).map Pg else hp i
def Ao (hp:Nat->Option Bm):List (Nat × Bm)->Nat->Option Bm
 |[]=>hp
 |(i,b)::r=>Ao (Ci hp i (some b)) r
def Bo (hp:Nat->Option Bm):List (Nat × Bm)->Bool
 |[]=>true
 |(i,_)::r=>(hp i).isNone && !(r.any fun q=>Nat.beq q.1 i)&&Bo hp r
def Bl (tm:Nat->PV)(d:Option Tmp)(v:PV):Nat->PV:=
 match d with
 |some i=>Ci tm i v
 |none=>tm
def Fi (N:Nat)(d:Option Tmp):Bool:=
 match d with
 |some i=>Nat.blt i N
 |none=>true
def Uq (N:Nat)(s:St)(d:Option Tmp)(v:PV)(fz:List Nat)(nw:List (Nat × Bm)) (K:St->Option R):Option R:=
 Bj (Fi N d&&Bo s.hp nw) (K ⟨Bl s.tm d v,Ao (Af s.hp fz) nw⟩)
def Uo (P:Program)(s:St)(t:TypeId)(a x:PV)(K:St->Option R):Option R:=
 match a with
 |.ptr id off=>
  match s.hp id with
  |some (.st c)=>Bj (Hc P t&&Nat.beq (cellsOf x).length (G0 P t).length&&decide (off+(G0 P t).length<=c.length)) (Li (G0 P t) (cellsOf x) 0 fun cs=>Ac (Cs c cs off) fun c=>K ⟨s.tm,Ci s.hp id (some (.st c))⟩)
  |some (.ar false c)=>Bj (Hc P t&&decide (off+(G0 P t).length<=c.length)) (Ky (Hx s.hp) (G0 P t) (cellsOf x) fun cs m=>Bj (!m.any (Nat.beq id)) (Ac (Cs c cs off) fun c=>K ⟨s.tm,Ci (Af s.hp m) id (some (.ar false c))⟩))
  |_=>none
 |_=>none
def Se (P:Program)(t:TypeId):Bool:=
 match P.underlying t with
 |some (.int _)=>true
 |_=>false
def Pn (P:Program)(N:Nat)(s:St)(d:Nat)(e:TypeId)(b x:PV)(K:St->Option R):Option R:=
 Df x fun _ n=>Po (A8 P e) b fun z _ _=>
  Bj (z&&Nat.blt d N&&(s.hp d).isNone&&decide (0<=n)&&decide (n.toNat*((P.info? e).map (·.bytes)).getD 0<=1099511627776)&&decide (n<=1099511627776))
   (K ⟨Ci s.tm d (.view d (A8 P e) 0 n.toNat),Ci s.hp d (some (.ar false []))⟩)
def Ls (P:Program)(N:Nat)(s:St)(d:Nat)(t tx:TypeId)(b x:PV)(K:St->Option R):Option R:=
 match P.underlying t with
 |some (.slice e)=>Bj (EV P e) <|
  bif Se P tx then Pn P N s d e b x K else
  OO P s (A8 P e) tx x fun m new=>
  match b with
  |.view id es off n=>
   match s.hp id with
   |some (.ar false c)=>
    Bj (Nat.beq es (A8 P e)&&Nat.beq off 0&&Nat.blt d N&&(s.hp d).isNone&&decide (n*es<=c.length)&&decide (new.length=m*es)
     && decide ((n+m)*((P.info? e).map (·.bytes)).getD 0<=1099511627776)&&decide (n+m<=1099511627776))
     (Ac (n+m) fun n'=>Ac (c.take (n*es)++new) fun c=>K ⟨Ci s.tm d (.view d es 0 n'),Ci (Ci s.hp id (some .mv)) d (some (.ar false c))⟩)
   |_=>none
  |b=>Po (A8 P e) b fun z _ _=>
    Bj (z&&Nat.blt d N&&(s.hp d).isNone&&decide (new.length=m*A8 P e)&&decide (m*((P.info? e).map (·.bytes)).getD 0<=1099511627776)&&decide (m<=1099511627776))
     (K ⟨Ci s.tm d (.view d (A8 P e) 0 m),Ci s.hp d (some (.ar false new))⟩)
 |_=>none
def BW (P:Program)(N:Nat)(s:St)(d:Option Tmp)(t tx:TypeId)(b x:PV)(K:St->Option R):Option R:=
 match P.underlying t with
 |some (.slice e)=>Bj (Xq P e&&Fi N d) <|
  OO P s (A8 P e) tx x fun m new=>
  match b with
  |.view id es off n=>
   match s.hp id with
   |some (.ar false c)=>Bj (Nat.beq es (A8 P e)&&decide (off+n*es<=c.length)&&decide (new.length=m*es))
     (Ac (min m n) fun k=>Ac (Cs c (new.take (k*es)) off) fun c=>K ⟨Bl s.tm d (.sc (.int .i64 k)),Ci s.hp id (some (.ar false c))⟩)
   |_=>none
  |_=>none
 |_=>none
def UP (mv:Bool)(hp:Nat->Option Bm)(t:CT)(p:PV)(K:PV->List Nat->List Nat->Option R):Option R:=
 match t with
 |.sl es=>
  bif mv then
   match p with
   |.view id es' off n=>
    match hp id with
    |some (.ar false c)=>
     bif Nat.beq es' es&&Nat.beq off 0 then Bj (decide (n*es<=c.length)) (K (.own es n (c.take (n*es))) [] [id])
     else Lc (Hx hp) (.sl es) (.view id es' off n) fun c m=>K c m []
    |_=>Lc (Hx hp) (.sl es) (.view id es' off n) fun c m=>K c m []
   |p=>Po es p fun z n c=>bif z then K (.own es 0 []) [] [] else K (.lst false es n c) [] []
  else Lc (Hx hp) (.sl es) p fun c m=>K c m []
 |t=>Uu t p fun c=>K c [] []
def Vx (mv:Bool)(hp:Nat->Option Bm):List CT->List PV->(List PV->List Nat->List Nat->Option R)->Option R
 |[],[],K=>K [] [] []
 |t::ts,p::ps,K=>UP mv hp t p fun c m x=>Vx mv hp ts ps fun cs ms xs=>K (c::cs) (m++ms) (x++xs)
 |_,_,_=>none
inductive Fu where
 |var (id off:Nat) (cts:List CT) (ws:List PV)
 |row (id:Nat)
 |none
def Fu.ids:Fu->List Nat
 |.var id _ _ _=>[id]
 |.row id=>[id]
 |.none=>[]
def Apr (P:Program)(t:TypeId):Option TypeId:=
 match P.underlying t with
 |some (.slice e)=>some e
 |_=>none
def ZU (hp:Nat->Option Bm)(es:Nat)(p:PV)(K:PV->List Fu->Option R):Option R:=
 match p with
 |.view id es' off n=>
  match hp id with
  |some (.ar false c)=>Bj (Nat.beq es' es&&Nat.beq off 0) (K (.tup [.own es n c]) [.row id])
  |_=>none
 |p=>Po es p fun z _ _=>Bj z (K (.tup [.own es 0 []]) [.none])
def Vb (C:F3)(P:Program)(f:FuncId)(hp:Nat->Option Bm)(i:Nat)(t:TypeId)(p:PV)(K:PV->List Nat->List Nat->List Fu->Option R):Option R:=
 match Si P t with
 |some e=>
  match p with
  |.ptr id off=>
   match hp id with
   |some (.st c)=>Bj (Hc P e&&decide (off+(G0 P e).length<=c.length)) (Vx (C.mvd f i) hp (G0 P e) ((c.drop off).take (G0 P e).length) fun cs m x=>K (.pbox cs) m x [.var id off (G0 P e) cs])
   |_=>none
  |_=>none
 |none=>
  bif C.lnd f i then Dh (Apr P t) fun e=>ZU hp (A8 P e) p fun v l=>K v [] [] l
  else bif Bx P t then G7 p fun ps=>Vx (C.mvd f i) hp (G0 P t) ps fun cs m x=>K (.agg cs) m x []
  else Vx (C.mvd f i) hp (G0 P t) [p] fun cs m x=>Aa cs fun c r=>Ad r (K c m x [])
def DV (C:F3)(P:Program)(f:FuncId)(hp:Nat->Option Bm):Nat->List TypeId->List PV->(List PV->List Nat->List Nat->List Fu->Option R)->Option R
 |_,[],[],K=>K [] [] [] []
 |i,t::ts,p::ps,K=>Vb C P f hp i t p fun v m x l=>DV C P f hp (i+1) ts ps fun vs ms xs ls=>K (v::vs) (m++ms) (x++xs) (l++ls)
 |_,_,_,_=>none
def On (hp:Nat->Option Bm)(ids:List Nat):Nat->Option Bm:=fun i=>bif ids.any (Nat.beq i) then (hp i).map (fun _=>Bm.mv) else hp i
def MU (N t:Nat):Nat:=N*(1000+t)
def LS (N:Nat)(hp:Nat->Option Bm):Nat->Nat->Nat
 |0,t=>t
 |k+1,t=>bif (hp (MU N t)).isNone then t else LS N hp k (t+1)
def SV (N t:Nat)(ct:CT)(was p:PV)(K:Nat->PV->List (Nat × Bm)->Option R):Option R:=
 match ct with
 |.sl es=>
  match was with
  |.own _ _ _=>HR es p fun n c=>K (t+1) (.view (MU N t) es 0 n) [(MU N t,.ar false c)]
  |_=>Po es p fun _ n c=>K t (.lst false es n c) []
 |ct=>Uu ct p fun c=>K t c []
def DD (N:Nat):Nat->List CT->List PV->List PV->(Nat->List PV->List (Nat × Bm)->Option R)->Option R
 |t,[],[],ps,K=>Ad ps (K t [] [])
 |t,ct::cts,w::ws,ps,K=>Aa ps fun p ps=>SV N t ct w p fun t' c b=>DD N t' cts ws ps fun t'' cs bs=>K t'' (c::cs) (b++bs)
 |_,_,_,_,_=>none
def Q5 (N:Nat):Nat->List Fu->List (List PV)->(Nat->Option Bm)->((Nat->Option Bm)->List (Nat × Bm)->Option R)->Option R
 |_,[],ro,hp,K=>Ad ro (K hp [])
 |t,.var id off cts ws::l,ro,hp,K=>Aa ro fun cs ro=>DD N t cts ws cs fun t' cs' bs=>
   match hp id with
   |some (.st c)=>Ac (Cs c cs' off) fun c=>Q5 N t' l ro (Ci hp id (some (.st c))) fun Cn bs'=>K Cn (bs++bs')
   |_=>none
 |t,.row id::l,ro,hp,K=>Aa ro fun cs ro=>Q5 N t l ro (Ci hp id (some (.ar false cs))) K
 |t,.none::l,ro,hp,K=>Aa ro fun _ ro=>Q5 N t l ro hp K
def Dt:List Nat->Bool
 |[]=>true
 |a::r=> !(r.any (Nat.beq a))&&Dt r
def Ty (C:F3)(P:Program)(N:Nat)(call:Ax)(s:St)(o:Oper)(f:FuncId)(c:Call)(K:St->Option R):Option R:=
 DV C P f s.hp 0 (Yo P f c) (c.args.toList.map (Bw s.tm)) fun vs m x l=>
  Bj (Dt (l.flatMap Fu.ids++x)&&m.all (fun i=> !((l.flatMap Fu.ids++x).any (Nat.beq i)))&&Nat.blt 0 N&&Fi N o.dst) <|
  Ai (call f (Hy (C.kz f) c.args.toList vs)) fun rv ro=>
   Vh P (C.shr f) N (o.dst.getD N) (K3 P o.type) rv fun ws bs=>
    Bj (bif Lu P o.type then !Nat.beq ws.length 1 else Nat.beq ws.length 1) <|
    A33 (LS N s.hp 100 0) fun t0=>Q5 N t0 l ro (On (Af s.hp m) x) fun Cn bs'=>
     Bj (Bo Cn (bs++bs')) (K ⟨Bl s.tm o.dst (Km ws (Lu P o.type)),Ao Cn (bs++bs')⟩)
def Qg (C:F3)(P:Program)(N:Nat)(call:Ax)(s:St)(o:Oper)(K:St->Option R):Option R:=
 match o.op with
 |.store t a x=>Bj (o.dst.isNone) (Uo P s t (Bw s.tm a) (Bw s.tm x) K)
 |.call c=>
  match c.callee with
  |.builtin .append=>Dh o.dst fun d=>Aa c.args.toList fun b r=>Aa r fun x r'=>Ad r' (Aa c.argTypes.toList fun t u=>Aa u fun tx _=>Ls P N s d t tx (Bw s.tm b) (Bw s.tm x) K)
  |.builtin .copy=>Aa c.args.toList fun b r=>Aa r fun x r'=>Ad r' (Aa c.argTypes.toList fun t u=>Aa u fun tx _=>BW P N s o.dst t tx (Bw s.tm b) (Bw s.tm x) K)
  |.value (.func f)=>Ty C P N call s o f c K
  |_=>none
 |_=>none
def LK (C:F3)(P:Program)(N:Nat)(call:Ax)(o:Oper)(s:St)(K:St->Option R):Option R:=
 bif M7 C P o.op then Qg C P N call s o K
 else Xx C P N call s.tm (rd s.hp) (Hx s.hp) o fun v fz nw=>Uq N s o.dst v fz nw K
def De (C:F3)(P:Program)(N:Nat)(call:Ax)(ops:Array Oper)(o:Oper)(s:St)(K:St->Option R):Option R:=
 match o.guard with
 |none=>LK C P N call o s K
 |some (j,want)=>
  match (ops[j]?).bind (·.dst) with
  |none=>none
  |some d=>
   match s.tm d with
   |.sc (.bool b)=>
    Bh b (bif want then LK C P N call o ⟨Ci s.tm d (.sc (.bool true)),s.hp⟩ K else Bj (Fi N o.dst) (K ⟨Bl (Ci s.tm d (.sc (.bool true))) o.dst (.sc undef),s.hp⟩))
     (bif want then Bj (Fi N o.dst) (K ⟨Bl (Ci s.tm d (.sc (.bool false))) o.dst (.sc undef),s.hp⟩) else LK C P N call o ⟨Ci s.tm d (.sc (.bool false)),s.hp⟩ K)
   |.sc (.tuple _)=>Bj (Fi N o.dst) (K ⟨Bl s.tm o.dst (.sc undef),s.hp⟩)
   |_=>none
def Kk (C:F3)(P:Program)(N:Nat)(call:Ax)(ops:Array Oper):List Oper->St->(St->Option R)->Option R
 |[],s,K=>K s
 |o::r,s,K=>De C P N call ops o s fun s'=>Kk C P N call ops r s' K
noncomputable def BZ (x y:Option R):Option R:=open Classical in if x=y then x else none
noncomputable def OY (ops:Array Oper)(o:Oper)(s:St)(F:St->Option R):Option R:=
 match o.guard with
 |none=>F s
 |some (j,_)=>
  match (ops[j]?).bind (·.dst) with
  |none=>F s
  |some d=>
   match s.tm d with
   |.ub=>BZ (F ⟨Ci s.tm d (.sc (.bool true)),s.hp⟩) (F ⟨Ci s.tm d (.sc (.bool false)),s.hp⟩)
   |_=>F s
noncomputable def FE (C:F3)(P:Program)(N:Nat)(call:Ax)(ops:Array Oper):List Oper->St->(St->Option R)->Option R
 |[],s,K=>K s
 |o::r,s,K=>OY ops o s fun s1=>De C P N call ops o s1 fun s'=>FE C P N call ops r s' K
end
def YU (o:Oper):List Nat:=o.op.operands.toList.filterMap fun x=>match x with | .tmp t=>some t|_=>none
def looks (ops:Array Oper)(o:Oper):List Nat:=
 YU o++(match o.guard with|some (g,_)=>((ops[g]?).bind (·.dst)).toList|none=>[])
def Gm (P:Program)(o:Op):Bool:=
 match o with
 |.slice t .. =>match P.underlying t with|some (.array _ _)=>true|_=>false
 |.buildSlice t _ _=>match P.underlying t with|some (.slice e)=>Hz P [e]|_=>true
 |.convert _ dst _=>match P.underlying dst with|some .string=>true|_=>false
 |.alloc _ | .box .. | .makeSlice .. =>false
 |.move _ | .assign _ | .pick .. | .build .. | .binOp .. | .unOp .. | .fieldAddr .. | .field .. | .index .. | .indexAddr .. | .extract .. | .nilCheck _=>false
 |.call c=>match c.callee with | .builtin .len=>false | .builtin .min=>false | .builtin .max=>false|_=>true
 |_=>true
def Zu (C:F3)(P:Program)(ops:Array Oper)(x y:Oper):Bool:=
 (match x.dst with|some d=>(looks ops y).any (Nat.beq d)||(match y.dst with|some e=>Nat.beq d e|none=>false)|none=>false) ||
 (match y.dst with|some e=>(looks ops x).any (Nat.beq e)|none=>false) ||
 (M7 C P x.op&&Gm P y.op)||(M7 C P y.op&&Gm P x.op)
def G6 (ops:List Oper):List Nat->List Nat
 |acc=>match ops with
  |[]=>acc
  |o::r=>G6 r (acc++[o.after.toList.foldl (fun s e=>bif Region.binds .any e then s ||| 2 ^ e.on ||| acc.getD e.on 0 else s) 0])
def Wr (C:F3)(P:Program)(ops:Array Oper)(bs:List Nat):List Oper->Nat->Bool
 |[],_=>true
 |o::r,i=>(ops.toList.zipIdx.all fun q=> !Nat.blt q.2 i || !Zu C P ops q.1 o||(bs.getD i 0).testBit q.2)&&Wr C P ops bs r (i+1)
def CS (C:F3)(P:Program)(ops:Array Oper):Bool:=
 ops.toList.zipIdx.all (fun q=>q.1.after.toList.all fun e=> !Region.binds .any e||Nat.blt e.on q.2)&&Wr C P ops (G6 ops.toList []) ops.toList 0
def Al:PV->List Nat
 |.view id _ _ _=>[id]
 |.ptr id _=>[id]
 |_=>[]
def B8:PV->List Nat
 |.agg cs=>cs.flatMap Al
 |p=>Al p
def Bq:PV->List Nat
 |.tup ps=>ps.flatMap B8
 |p=>B8 p
def Ou (P:Program)(o:Op):Bool:=
 match o with
 |.load .. =>true
 |.convert _ dst _=>(match P.underlying dst with|some .string=>true|_=>false)
 |_=>false
def Kx (o:Op):Bool:=
 match o with
 |.call c=>(match c.callee with | .builtin .append=> !Ts c|_=>false)
 |_=>false
def Ab8 (ops:Array Oper)(x y:Oper):Bool:=
 (match x.dst with|some d=>(looks ops y).any (Nat.beq d)||(match y.dst with|some e=>Nat.beq d e|none=>false)|none=>false) ||
 (match y.dst with|some e=>(looks ops x).any (Nat.beq e)|none=>false)
def Nm (C:F3)(P:Program)(x y:Oper):Bool:=(M7 C P x.op&&Gm P y.op)||(M7 C P y.op&&Gm P x.op)
def H7 (C:F3)(P:Program)(x y:Oper):Bool:=(M7 C P x.op&&Ou P y.op)||(M7 C P y.op&&Ou P x.op)||(Kx x.op&&Kx y.op)
def Abb (C:F3)(P:Program)(ops:Array Oper)(x y:Oper):Bool:=Ab8 ops x y||(Nm C P x y && !H7 C P x y)
def Tp (C:F3)(P:Program)(ops:Array Oper)(bs:List Nat):List Oper->Nat->Bool
 |[],_=>true
 |o::r,i=>(ops.toList.zipIdx.all fun q=> !Nat.blt q.2 i || !Abb C P ops q.1 o||(bs.getD i 0).testBit q.2)&&Tp C P ops bs r (i+1)
def Z4 (C:F3)(P:Program)(ops:Array Oper):Bool:=
 ops.toList.zipIdx.all (fun q=>q.1.after.toList.all fun e=> !Region.binds .any e||Nat.blt e.on q.2)&&Tp C P ops (G6 ops.toList []) ops.toList 0
def Jy (C:F3)(P:Program)(s:St)(o:Oper):List Nat:=
 let l:=o.op.operands.toList.flatMap fun y=>Bq (Bw s.tm y)
 bif M7 C P o.op && !Kx o.op then l++l.flatMap (fun i=>match s.hp i with|some (.st c)=>c.flatMap Al|_=>[])
 else bif Ou P o.op||Kx o.op then l else []
def UG (a b:List Nat):Bool:=a.all fun i=> !b.any (Nat.beq i)
def R6 (C:F3)(P:Program)(ops:Array Oper)(bs:List Nat)(i:Nat)(o:Oper):List Nat:=
 (ops.toList.zipIdx.filter fun q=>H7 C P q.1 o && !(Nat.blt q.2 i&&(bs.getD i 0).testBit q.2) && !(Nat.blt i q.2&&(bs.getD q.2 0).testBit i)).map (·.2)
def Vu (C:F3)(P:Program)(ops:Array Oper)(bs:List Nat):List (List Nat):=ops.toList.zipIdx.map fun q=>R6 C P ops bs q.2 q.1
def Wb (C:F3)(P:Program)(sm:List (List Nat)) (s:St)(i:Nat)(o:Oper):List Nat:=
 match sm.getD i [] with
 |[]=>[]
 |_::_=>Jy C P s o
def BL (C:F3)(P:Program)(sm:List (List Nat)) (s:St)(i:Nat)(o:Oper)(q:Nat × Oper × List Nat):Bool:=
 !((sm.getD i []).any (Nat.beq q.1))||UG q.2.2 (Wb C P sm s i o)
def Gy {R:Type}(C:F3)(P:Program)(N:Nat)(call:Ax)(ops:Array Oper)(sm:List (List Nat)):List (Nat × Oper × List Nat)->List Nat->St->(St->Option R)->Option R
 |_,[],s,K=>K s
 |dn,i::l,s,K=>Dh ops[i]? fun o=>Bj (dn.all (BL C P sm s i o)&&(Wb C P sm s i o).all (fun k=>(s.hp k).isSome)) (De C P N call ops o s fun s'=>Gy C P N call ops sm ((i,o,Wb C P sm s i o)::dn) l s' K)
def XY (m i:Nat):Nat:=m ||| 2 ^ i
def A2b (m i:Nat):Nat:=bif m.testBit i then m ^^^ 2 ^ i else m
def QN (ops:Array Oper):List Oper->Nat->Nat
 |[],m=>m
 |o::r,m=>
  let m1:=QN ops r m
  let m2:=match o.dst with|some d=>A2b m1 d|none=>m1
  (looks ops o).foldl XY m2
def Lg:Code->Nat->(Nat->Nat)->Nat->Nat
 |.skip,ln,_,_=>ln
 |.region _ ops _,ln,_,_=>QN ops ops.toList ln
 |.seq a b,ln,lx,lr=>Lg a (Lg b ln lx lr) lx lr
 |.cond c a b,ln,lx,lr=>let m:=Lg a ln lx lr ||| Lg b ln lx lr;match c with | .tmp d=>XY m d|_=>m
 |.block id c,ln,lx,lr=>Lg c ln (fun j=>bif Nat.beq j id then ln else lx j) lr
 |.loop c,_,lx,lr=>Lg c (Lg c 0 lx lr) lx lr
 |.exit id,_,lx,_=>lx id
 |.ret,_,_,lr=>lr
 |_,_,_,_=>0
def JX (ops:List Oper):List Nat:=(ops.filterMap fun o=>o.guard.map (·.1)).eraseDups
def Ku:Code->Nat
 |.region _ _ _=>1
 |.seq a b=>Ku a+Ku b
 |.cond _ a b=>Ku a+Ku b
 |.block _ c=>Ku c
 |.loop c=>Ku c
 |_=>0
def Tz:Code->Nat
 |.skip=>1
 |.region _ ops _=>2 ^ min 6 (JX ops.toList).length
 |.seq a b=>bif (Nat.ble 7 (Tz a)&&Nat.ble 6 (Ku b))||(Nat.ble 5 (Tz a)&&Nat.ble 9 (Ku b)) then Tz b else min 1000 (Tz a*Tz b)
 |.cond _ a b=>Tz a+Tz b
 |.block _ c=>Tz c
 |.loop _=>1
 |.exit _=>1
 |_=>0
def Ag9 (P:Program)(o:Oper):Bool:=
 match o.op with
 |.load t _=>Pe P t&&Nat.ble 8 (A8 P t)
 |.store t _ _=>Pe P t&&Nat.ble 8 (A8 P t)
 |_=>false
def LH (P:Program):Code->Bool
 |.region _ ops _=>ops.toList.any (Ag9 P)
 |.seq a _=>LH P a
 |_=>false
def RY (P:Program):Code->Bool
 |.region _ ops _=>ops.toList.any (Ag9 P)
 |.seq _ b=>RY P b
 |_=>false
def Aq3:Code->Nat
 |.seq a b=>match b with
  |.ret=>(match a with | .region _ ops _=>(JX ops.toList).length|_=>0)
  |_=>Aq3 b
 |_=>0
def Abw (x y:Code):Bool:=(Nat.beq (Tz x) 1&&Nat.beq (Aq3 y) 11)||(Nat.beq (Tz x) 4&&Nat.beq (Ku x) 7&&(Nat.beq (Ku y) 3||Nat.beq (Ku y) 1))||(Nat.beq (Tz x) 9&&Nat.beq (Ku x) 5&&Nat.beq (Ku y) 5)
def Xe (a b:Code):Bool:=Abw a b||(match b with | .seq x y=>Abw x y|_=>false)
def YR (P:Program)(a b:Code):Bool:=(Nat.ble 7 (Tz a)&&Nat.ble 6 (Ku b))||(Nat.ble 5 (Tz a)&&Nat.ble 9 (Ku b))||Xe a b||LH P b||RY P a
def Ji (m:Nat):Nat->List Nat
 |0=>[]
 |n+1=>Ji m n++(bif m.testBit n then [n] else [])
def lk (l:List (Nat × PV)) (i:Nat):PV:=
 match l with
 |[]=>.top
 |(j,p)::r=>bif Nat.beq i j then p else lk r i
def Jz (l:List (Nat × Bm)) (i:Nat):Option Bm:=
 match l with
 |[]=>none
 |(j,b)::r=>bif Nat.beq i j then some b else Jz r i
def Qh (l:List (Nat × Nat)) (i:Nat):Option Nat:=
 match l with
 |[]=>none
 |(j,b)::r=>bif Nat.beq i j then some b else Qh r i
def Xg (N:Nat)(s:St)(i:Nat):St:=
 match s.tm i with
 |.lst true es 0 []=>
  bif (s.hp i).isNone then ⟨Ci s.tm i (.view i es 0 0),Ci s.hp i (some (.ar false []))⟩
  else bif (s.hp (i+N*3000)).isNone then ⟨Ci s.tm i (.view (i+N*3000) es 0 0),Ci s.hp (i+N*3000) (some (.ar false []))⟩
  else s
 |_=>s
def FH (N:Nat)(id:Nat)(s:St)(j:Nat):St:=
 match s.hp id with
 |some (.st c)=>
  match c[j]? with
  |some (.lst true es 0 [])=>bif (s.hp (id+N*(j+1))).isNone then ⟨s.tm,Ci (Ci s.hp id (some (.st (c.set j (.view (id+N*(j+1)) es 0 0))))) (id+N*(j+1)) (some (.ar false []))⟩ else s
  |_=>s
 |_=>s
def ER (N:Nat)(s:St)(i:Nat):St:=
 match s.tm i with
 |.ptr id _=>
  match s.hp id with
  |some (.st c)=>(List.range c.length).foldl (FH N id) s
  |_=>s
 |_=>s
def CE (m:List (Nat × Nat)) (old new:Nat):List (Nat × Nat):=
 match Qh m old with
 |some _=>m
 |none=>m++[(old,new)]
def Ns (N new:Nat):List PV->Nat->List (Nat × Nat)->List (Nat × Nat)
 |[],_,m=>m
 |.view id _ _ _::r,j,m=>Ns N new r (j+1) (CE m id (new+N*(j+1)))
 |_::r,j,m=>Ns N new r (j+1) m
def Xb (N:Nat)(s:St)(m:List (Nat × Nat)) (i:Nat):List (Nat × Nat):=
 match s.tm i with
 |.view id _ _ _=>CE m id i
 |.ptr id _=>
  match Qh m id with
  |some _=>m
  |none=>
   match s.hp id with
   |some (.st c)=>Ns N i c 0 (CE m id i)
   |_=>CE m id i
 |.agg c=>Ns N i c 0 m
 |_=>m
def NF (m:List (Nat × Nat)):PV->PV
 |.view id es off n=>match Qh m id with|some j=>.view j es off n|none=>.top
 |.ptr id off=>match Qh m id with|some j=>.ptr j off|none=>.top
 |.sc v=>.sc v
 |.lst z es n c=>.lst z es n c
 |.iptr c off=>.iptr c off
 |_=>.top
def VN (m:List (Nat × Nat)):PV->PV
 |.agg c=>.agg (c.map (NF m))
 |p=>NF m p
def Aef (m:List (Nat × Nat)):Bm->Bm
 |.st c=>.st (c.map (NF m))
 |b=>b
def C9 (N i:Nat):Nat:=i+N*2000
def ML (N:Nat)(hp:Nat->Option Bm):Nat->List (Nat × Nat)
 |0=>[]
 |i+1=>bif (hp (C9 N i)).isSome then ML N hp i++[(C9 N i,C9 N i)] else ML N hp i
def Oi (N:Nat)(hp:Nat->Option Bm):Nat->List (Nat × Nat)->List (Nat × Nat)
 |0,m=>m
 |i+1,m=>
  match hp (C9 N i) with
  |some (.st c)=>Ns N (C9 N i) c 0 (Oi N hp i m)
  |_=>Oi N hp i m
def A3j (N:Nat)(hp:Nat->Option Bm)(k:Nat):List (Nat × Nat):=Oi N hp k (ML N hp k)
def Js (m:List (Nat × Nat)) (hp:Nat->Option Bm):List (Nat × Nat)->List (Nat × Bm)
 |[]=>[]
 |(old,new)::r=>match hp old with
  |some b=>(new,Aef m b)::Js m hp r
  |none=>Js m hp r
section
variable {R:Type}
def QR (N:Nat)(ls:List Nat)(q:Bool)(s:St)(K:St->Option R):Option R:=
 let s2:=bif q then s else ls.foldl (ER N) (ls.foldl (Xg N) s)
 let m:=ls.foldl (Xb N s2) (A3j N s2.hp 8)
 Bj (Dt (m.map (·.1))&&Dt (m.map (·.2))) (K ⟨lk (ls.map fun i=>(i,VN m (s2.tm i))),Jz (Js m s2.hp m)⟩)
def S0 (N L:Nat)(s:St)(K:St->Option R):Option R:=QR N (Ji L N) false s K
def SN (N L:Nat)(s:St)(K:St->Option R):Option R:=QR N (Ji L N) true s K
def ZB (F:(St->Option R)->St->Option R) (nm:St->(St->Option R)->Option R):Nat->St->Option R
 |0,_=>none
 |n+1,s=>F (fun s'=>nm s' (ZB F nm n)) s
def Yd (n:Nat)(F:St->Option R)(s:St):Option R:=
 match n with
 |0=>none
 |_+1=>F s
noncomputable def Abc (s:St)(c:Operand)(kt kf:St->Option R):Option R:=
 match c with
 |.tmp d=>
  match s.tm d with
  |.sc (.bool b)=>Bh b (kt ⟨Ci s.tm d (.sc (.bool true)),s.hp⟩) (kf ⟨Ci s.tm d (.sc (.bool false)),s.hp⟩)
  |.ub=>BZ (kt s) (kf s)
  |_=>none
 |.const (.bool true)=>kt s
 |.const (.bool false)=>kf s
 |_=>none
noncomputable def Lz (C:F3)(P:Program)(fu N:Nat)(call:Ax):Code->Nat->(Nat->Nat)->Nat->(St->Option R)->(Nat->St->Option R)->(St->Option R)->St->Option R
 |.skip,_,_,_,kn,_,_,s=>kn s
 |.region _ ops draw,_,_,_,kn,_,_,s=>LQ (draw && !CS C P ops) (Bj (Z4 C P ops) (Ahi (Vu C P ops (G6 ops.toList [])) fun sm=>Gy C P N call ops sm [] (List.range ops.size) s kn)) (LQ draw (Kk C P N call ops ops.toList s kn) (FE C P N call ops ops.toList s kn))
 |.seq a b,ln,lx,lr,kn,kx,kr,s=>Lz C P fu N call a (Lg b ln lx lr) lx lr (fun s'=>LQ (YR P a b) (LQ (Xe a b) (SN N (Lg b ln lx lr) s' (Yd fu fun s''=>Lz C P fu N call b ln lx lr kn kx kr s'')) (S0 N (Lg b ln lx lr) s' (Yd fu fun s''=>Lz C P fu N call b ln lx lr kn kx kr s''))) (Lz C P fu N call b ln lx lr kn kx kr s')) kx kr s
 |.cond c a b,ln,lx,lr,kn,kx,kr,s=>Abc s c (Lz C P fu N call a ln lx lr kn kx kr) (Lz C P fu N call b ln lx lr kn kx kr)
 |.block id c,ln,lx,lr,kn,kx,kr,s=>Lz C P fu N call c ln (fun j=>bif Nat.beq j id then ln else lx j) lr kn (fun j s'=>bif Nat.beq j id then kn s' else kx j s') kr s
 |.loop c,ln,lx,lr,_,kx,kr,s=>
  S0 N (Lg (.loop c) ln lx lr) s (ZB (fun k s'=>Lz C P fu N call c (Lg (.loop c) ln lx lr) lx lr k kx kr s') (S0 N (Lg (.loop c) ln lx lr)) fu)
 |.exit id,_,_,_,_,kx,_,s=>kx id s
 |.ret,_,_,_,_,_,kr,s=>kr s
 |_,_,_,_,_,_,_,_=>none
def Abx (id:Nat)(t:CT)(p:PV)(K:PV->List (Nat × Bm)->Option R):Option R:=
 match t with
 |.sl es=>
  match p with
  |.own es' n c=>bif Nat.beq es' es then K (.view id es 0 n) [(id,.ar false c)] else none
  |p=>Po es p fun z n c=>K (.lst z es n c) []
 |t=>Uu t p fun c=>K c []
def V3 (N:Nat):Nat->List CT->List PV->(List PV->List (Nat × Bm)->Option R)->Option R
 |_,[],ps,K=>Ad ps (K [] [])
 |id,t::ts,ps,K=>Aa ps fun p ps=>Abx id t p fun c b=>V3 N (id+N) ts ps fun cs bs=>K (c::cs) (b++bs)
def inK (P:Program)(N i:Nat)(t:TypeId)(p:PV)(K:PV->List (Nat × Bm)->Option R):Option R:=
 match Si P t with
 |some e=>Qx p fun ps=>Bj (Nat.blt i 8) (V3 N (C9 N i+N) (G0 P e) ps fun cs bs=>K (.ptr (C9 N i) 0) ((C9 N i,.st cs)::bs))
 |none=>
  match p with
  |.tup ps=>Dh (Apr P t) fun e=>Bj (Nat.blt i 8) (Aa ps fun q r=>Ad r (HR (A8 P e) q fun n c=>K (.view (C9 N i) (A8 P e) 0 n) [(C9 N i,.ar false c)]))
  |p=>
   bif Bx P t then G7 p fun ps=>V3 N (i+N) (G0 P t) ps fun cs bs=>K (.agg cs) bs
   else V3 N (i+N) (G0 P t) [p] fun cs bs=>Aa cs fun c r=>Ad r (K c bs)
def XT (P:Program)(N:Nat):Nat->List TypeId->List PV->(List (Nat × PV)->List (Nat × Bm)->Option R)->Option R
 |_,[],ps,K=>Ad ps (K [] [])
 |i,t::ts,ps,K=>Aa ps fun p ps=>inK P N i t p fun v bs=>XT P N (i+1) ts ps fun vs bs'=>K ((i,v)::vs) (bs++bs')
def Ag7 (hp:Nat->Option Bm)(t:CT)(p:PV)(K:PV->List Nat->List Nat->Option R):Option R:=
  match t with
  |.sl es=>
    match p with
    |.view id es' off n=>bif Nat.beq es' es&&Nat.beq off 0 then
        (match hp id with
         |some (.ar false c)=>Bj (decide (n*es<=c.length)) (K (.own es n (c.take (n*es))) [id] [])
         |_=>none) else none
    |p=>Po es p fun z _ _=>Bj z (K (.own es 0 []) [] [])
  |t=>Uu t p fun c=>K c [] []
def QW (shr:Bool)(hp:Nat->Option Bm)(t:CT)(p:PV)(K:PV->List Nat->List Nat->Option R):Option R:=
 bif shr then Lc (Hx hp) t p fun c m=>K c [] m else Ag7 hp t p K
def Ua (shr:Bool)(hp:Nat->Option Bm):List CT->List PV->(List PV->List Nat->List Nat->Option R)->Option R
 |[],[],K=>K [] [] []
 |t::ts,p::ps,K=>QW shr hp t p fun c m z=>Ua shr hp ts ps fun cs ms zs=>K (c::cs) (m++ms) (z++zs)
 |_,_,_=>none
def YN (P:Program)(shr:Bool)(hp:Nat->Option Bm)(t:TypeId)(p:PV)(K:PV->List Nat->List Nat->Option R):Option R:=
 match Si P t with
 |some e=>
  match p with
  |.ptr id off=>
   match hp id with
   |some (.st c)=>Bj (Nat.beq off 0) (Ua shr hp (G0 P e) c fun cs m z=>K (.pbox cs) (id::m) z)
   |_=>none
  |_=>none
 |none=>
  bif Bx P t then G7 p fun ps=>Ua shr hp (G0 P t) ps fun cs m z=>K (.agg cs) m z
  else Ua shr hp (G0 P t) [p] fun cs m z=>Aa cs fun c r=>Ad r (K c m z)
def Acg (P:Program)(s:St)(r:ResultVar)(K:PV->Option R):Option R:=
 match r with
 |.tmp t=>K (s.tm t)
 |.cell a t=>Tn false P (rd s.hp) (Hx s.hp) t (s.tm a) K
def HD (P:Program)(shr:Bool)(s:St):List ResultVar->List TypeId->(List PV->List Nat->List Nat->Option R)->Option R
 |[],[],K=>K [] [] []
 |r::rs,t::ts,K=>Acg P s r fun p=>YN P shr s.hp t p fun v m z=>HD P shr s rs ts fun vs ms zs=>K (v::vs) (m++ms) (z++zs)
 |_,_,_=>none
def Wv (hp:Nat->Option Bm):List CT->List PV->List PV->(List PV->List Nat->List Nat->Option R)->Option R
 |[],[],[],K=>K [] [] []
 |t::ts,w::ws,p::ps,K=>QW (match w with | .own _ _ _=>false|_=>true) hp t p fun c m z=>Wv hp ts ws ps fun cs ms zs=>K (c::cs) (m++ms) (z++zs)
 |_,_,_,_=>none
def Uy (P:Program)(N:Nat)(hp:Nat->Option Bm):Nat->List TypeId->List PV->(List (List PV)->List Nat->List Nat->List Nat->Option R)->Option R
 |_,[],ps,K=>Ad ps (K [] [] [] [])
 |i,t::ts,ps,K=>Aa ps fun p ps=>
  match p with
  |.pbox ws=>Dh (Si P t) fun e=>
    match hp (C9 N i) with
    |some (.st c)=>Wv hp (G0 P e) ws c fun cs m z=>Uy P N hp (i+1) ts ps fun r m' z' q=>K (cs::r) (m++m') (z++z') (C9 N i::q)
    |_=>none
  |.tup _=>
    match hp (C9 N i) with
    |some (.ar false c)=>Uy P N hp (i+1) ts ps fun r m' z' q=>K (c::r) m' z' (C9 N i::q)
    |_=>none
  |_=>Uy P N hp (i+1) ts ps K
def QM (rs:List ResultVar):Nat:=rs.foldl (fun m r=>match r with | .tmp t=>XY m t | .cell a _=>XY m a) 0
end
def X7 (P:Program):Nat->List TypeId->Nat->Nat
 |_,[],m=>m
 |i,t::ts,m=>X7 P (i+1) ts (match P.underlying t with|some (.pointer _)=>XY m i|_=>m)
def VY (C:F3)(P:Program)(f:FuncId)(fn:Func)(args:List PV)(s:St):Option Ay:=
 HD P (C.shr f) s fn.results.toList fn.resultTypes.toList fun vs m z=>Uy P fn.ntmps s.hp 0 fn.params.toList args fun os m' z' q=>
  Bj (Dt ((m++m')++q)&&(z++z').all (fun i=> !(((m++m')++q).any (Nat.beq i)))) (some ⟨vs,os⟩)
noncomputable def Alj (C:F3)(P:Program)(fu:Nat)(call:Ax)(f:FuncId)(fn:Func)(c:Code)(args:List PV):Option Ay:=
  XT P fn.ntmps 0 fn.params.toList args fun tms bs=>Bj (Nat.ble args.length fn.ntmps&&Bo (fun _=>none) bs)
    (let lr:=X7 P 0 fn.params.toList (QM fn.results.toList)
     Lz C P fu fn.ntmps call c lr (fun _=>0) lr (VY C P f fn args) (fun _ _=>none) (VY C P f fn args) ⟨lk tms,Jz bs⟩)
noncomputable def Ae (C:F3)(P:Program)(fu:Nat):Nat->FuncId->List PV->Option Ay
 |0,_,_=>none
 |d+1,f,args=>
  match C.ext f with
  |some g=>g args
  |none=>
   match P.funcs[f]? with
   |none=>none
   |some fn=>match fn.body with
    |none=>none
    |some c=>Alj C.core P fu (Ae C P fu d) f fn c args
inductive Dir where
 |l
 |r
 |i (m:Nat)
section
variable {R:Type}
noncomputable def Rl (C:F3)(P:Program)(fu N:Nat)(call:Ax):List Dir->Code->Nat->(Nat->Nat)->Nat->(St->Option R)->(Nat->St->Option R)->(St->Option R)->Nat->St->Option R
 |[],.seq _ b,ln,lx,lr,kn,kx,kr,n,s=>Yd n (fun s''=>Lz C P fu N call b ln lx lr kn kx kr s'') s
 |[],.loop c,ln,lx,lr,_,kx,kr,n,s=>ZB (fun k s'=>Lz C P fu N call c (Lg (.loop c) ln lx lr) lx lr k kx kr s') (S0 N (Lg (.loop c) ln lx lr)) n s
 |.l::p,.seq a b,ln,lx,lr,kn,kx,kr,n,s=>Rl C P fu N call p a (Lg b ln lx lr) lx lr (fun s'=>LQ (YR P a b) (LQ (Xe a b) (SN N (Lg b ln lx lr) s' (Yd fu fun s''=>Lz C P fu N call b ln lx lr kn kx kr s'')) (S0 N (Lg b ln lx lr) s' (Yd fu fun s''=>Lz C P fu N call b ln lx lr kn kx kr s''))) (Lz C P fu N call b ln lx lr kn kx kr s')) kx kr n s
 |.r::p,.seq _ b,ln,lx,lr,kn,kx,kr,n,s=>Rl C P fu N call p b ln lx lr kn kx kr n s
 |.l::p,.cond _ a _,ln,lx,lr,kn,kx,kr,n,s=>Rl C P fu N call p a ln lx lr kn kx kr n s
 |.r::p,.cond _ _ b,ln,lx,lr,kn,kx,kr,n,s=>Rl C P fu N call p b ln lx lr kn kx kr n s
 |.l::p,.block id c,ln,lx,lr,kn,kx,kr,n,s=>Rl C P fu N call p c ln (fun j=>bif Nat.beq j id then ln else lx j) lr kn (fun j s'=>bif Nat.beq j id then kn s' else kx j s') kr n s
 |.i m::p,.loop c,ln,lx,lr,_,kx,kr,n,s=>
  Rl C P fu N call p c (Lg (.loop c) ln lx lr) lx lr
   (fun s'=>S0 N (Lg (.loop c) ln lx lr) s' (ZB (fun k s'=>Lz C P fu N call c (Lg (.loop c) ln lx lr) lx lr k kx kr s') (S0 N (Lg (.loop c) ln lx lr)) m)) kx kr n s
 |_,_,_,_,_,_,_,_,_,_=>none
end
noncomputable def I3 (C:F3)(P:Program)(fu:Nat)(call:Ax)(f:FuncId)(fn:Func)(c:Code)(args:List PV)(p:List Dir)(n:Nat)(s:St):Option Ay:=
 let lr:=X7 P 0 fn.params.toList (QM fn.results.toList)
 Rl C P fu fn.ntmps call p c lr (fun _=>0) lr (VY C P f fn args) (fun _ _=>none) (VY C P f fn args) n s
def Aec:List Nat:=[
 1000000]
def Ajf:List Nat:=[
 19,
 9,
 1000000]
def All:List Nat:=[
 1000000]
def Aey:List Nat:=[
 1000000]
def Alk:List Nat:=[
 1000000]
def NX (args:List PV):Option Ay:=
 match args with
 |[.sc (.string s)]=>bif decide (s.size<=9223372036854775807) then some ⟨[.sc (.bool (Lib.validD s.data.toList))],[]⟩ else none
 |_=>none
def Sm:List Nat:=[
 93,
 77,
 87,
 67,
 90,
 88,
 105,
 114,
 115,
 71,
 72,
 70,
 52,
 36,
 94,
 73,
 53,
 37,
 61,
 60,
 1000000]
def Awk:List Nat:=[
 1000000]
def CB:F3:=⟨fun f=>Ajf.any (Nat.beq f),fun f i=>Nat.beq i 0&&Alk.any (Nat.beq f),fun f i=>(Nat.beq i 0&&All.any (Nat.beq f))||(Nat.beq i 2&&Aey.any (Nat.beq f)),fun f=>Aec.any (Nat.beq f),fun _=>none,fun N=>Awk.any (Nat.beq N)⟩
def CX (xs:FuncId->Option (List PV->Option Ay)):F3:={ CB with ext:=fun f=>bif Sm.any (Nat.beq f) then none else xs f }
def Gb (f:Func):Code:=match f.body with|some c=>c|none=>.skip
section
variable {R:Type} {r:Option R}
theorem A1 {k:IntKind}{p:PV}{K:Int->Option R}{n:Int}(h:p=.sc (.int k n)) (hk:K n=r):Aw k p K=r:=by
 subst h;unfold Aw;simp[hk]
theorem Ayx {p:PV}{K:IntKind->Int->Option R}{k:IntKind}{n:Int}(h:p=.sc (.int k n)) (hk:K k n=r):Df p K=r:=by
 subst h;exact hk
theorem At {p:PV}{K:Bool->Option R}{b:Bool}(h:p=.sc (.bool b)) (hk:K b=r):Am p K=r:=by
 subst h;exact hk
theorem A3 {p:PV}{K:ByteArray->Option R}{s:ByteArray}(h:p=.sc (.string s)) (hk:K s=r):A0 p K=r:=by
 subst h;exact hk
theorem A4q {es:Nat}{p:PV}{K:Bool->Nat->List PV->Option R}{z:Bool}{n:Nat}{c:List PV}(h:p=.lst z es n c)(hk:K z n c=r):Po es p K=r:=by
 subst h;unfold Po;simp[Nat.beq_refl,hk]
theorem A4m {es:Nat}{p:PV}{K:Nat->List PV->Option R}{n:Nat}{c:List PV}(h:p=.own es n c)(hk:K n c=r):HR es p K=r:=by
 subst h;unfold HR;simp[Nat.beq_refl,hk]
theorem A2 {b:Bool}{K:Option R}(h:b=true)(hk:K=r):Bj b K=r:=by
 subst h;exact hk
theorem A5 {b:Bool}{x y:Option R}(h:b=true)(hx:x=r):Bh b x y=r:=by
 subst h;exact hx
theorem A4 {b:Bool}{x y:Option R}(h:b=false)(hx:y=r):Bh b x y=r:=by
 subst h;exact hx
theorem Dv {α:Type}{o:Option α}{K:α->Option R}{a:α}(h:o=some a)(hk:K a=r):Dh o K=r:=by
 subst h;exact hk
theorem Au {α:Type}{l:List α}{K:α->List α->Option R}{a:α}{t:List α}(h:l=a::t)(hk:K a t=r):Aa l K=r:=by
 subst h;exact hk
theorem A6 {α:Type}{l:List α}{K:Option R}(h:l=[]) (hk:K=r):Ad l K=r:=by
 subst h;exact hk
theorem Jl {p:PV}{K:List PV->Option R}{c:List PV}(h:p=.agg c)(hk:K c=r):G7 p K=r:=by
 subst h;exact hk
theorem Asu {p:PV}{K:List PV->Option R}{c:List PV}(h:p=.pbox c)(hk:K c=r):Qx p K=r:=by
 subst h;exact hk
theorem Av {o:Option Ay}{K:List PV->List (List PV)->Option R} {v:List PV}{q:List (List PV)} (h:o=some ⟨v,q⟩)(hk:K v q=r):Ai o K=r:=by
 subst h;exact hk
end
section
variable {R:Type}
theorem Ws (v:List PV)(o:List (List PV)) (K:List PV->List (List PV)->Option R):Ai (some ⟨v,o⟩) K=K v o:=by exact id rfl
theorem GD {α:Type}(K:Option R):Ad ([]:List α) K=K:=by exact id rfl
theorem Wx {α:Type}(a:α)(r:List α)(K:α->List α->Option R):Aa (a::r) K=K a r:=by exact id rfl
theorem Xf (b:Bool)(K:Bool->Option R):Am (.sc (.bool b)) K=K b:=by exact id rfl
theorem EN (s:ByteArray)(K:ByteArray->Option R):A0 (.sc (.string s)) K=K s:=by exact id rfl
theorem YL (k:IntKind)(n:Int)(K:Int->Option R):Aw k (.sc (.int k n)) K=K n:=by unfold Aw;simp
theorem Ab1 (k:IntKind)(n:Int)(K:IntKind->Int->Option R):Df (.sc (.int k n)) K=K k n:=by exact id rfl
theorem Age (z:Bool)(es n:Nat)(c:List PV)(K:Bool->Nat->List PV->Option R):Po es (.lst z es n c) K=K z n c:=by unfold Po;simp
theorem Agf (es n:Nat)(c:List PV)(K:Nat->List PV->Option R):HR es (.own es n c) K=K n c:=by unfold HR;simp
theorem XV (c:List PV)(K:List PV->Option R):G7 (.agg c) K=K c:=by exact id rfl
theorem RJ (c:List PV)(K:List PV->Option R):Qx (.pbox c) K=K c:=by exact id rfl
theorem Ab2 {α:Type}(a:α)(K:α->Option R):Dh (some a) K=K a:=by exact id rfl
theorem Yv {α:Type}(a:α)(K:α->Option R):Ac a K=K a:=by exact id rfl
theorem Aa9 (K:Option R):Bj true K=K:=by exact id rfl
theorem EK (p:Prop) [Decidable p] (K:Option R)(h:p):Bj (decide p) K=K:=by simp[Bj,h]
theorem SF (b c:Bool)(K:Option R):Bj (b&&c) K=Bj b (Bj c K):=by cases b<;>rfl
theorem FS (x y:Option R):Bh true x y=x:=by exact id rfl
theorem GN (x y:Option R):Bh false x y=y:=by exact id rfl
theorem YF (p:Prop) [Decidable p] (x y:Option R)(h:p):Bh (decide p) x y=x:=by simp[Bh,h]
theorem ZE (p:Prop) [Decidable p] (x y:Option R)(h:¬p):Bh (decide p) x y=y:=by simp[Bh,h]
theorem QY (x:Option R):BZ x x=x:=by unfold BZ;simp
end
theorem Bc {x:Int}(h1: -9223372036854775808<=x)(h2:x<=9223372036854775807):IntKind.wrap .i64 x=x:=by
 have:=IntWalk.i64_in x (by omega)
 exact this
theorem Ew {x:Int}(h1:0<=x)(h2:x<=18446744073709551615):IntKind.wrap .u64 x=x:=by
 simp only[IntKind.wrap,IntKind.signed,IntKind.bits];simp;omega
theorem Wz {x:Int}(h1:0<=x)(h2:x<=255):IntKind.wrap .u8 x=x:=by
 simp only[IntKind.wrap,IntKind.signed,IntKind.bits];simp;omega
theorem Zm (x:Int):0<=IntKind.wrap .u64 x∧IntKind.wrap .u64 x<=18446744073709551615:=by
 simp only[IntKind.wrap,IntKind.signed,IntKind.bits];simp;omega
theorem Hg {α:Type}{l r:List α}{x:α}{i:Nat}(h:l.drop i=x::r):i<l.length∧l[i]?=some x∧l.drop (i+1)=r:=by
 have h1:i<l.length:=by
  rcases Nat.lt_or_ge i l.length with h1|h1
  ·exact h1
  ·rw[List.drop_of_length_le h1] at h;cases h
 rw[List.drop_eq_getElem_cons h1] at h;injection h with h2 h3;exact⟨h1,by rw[List.getElem?_eq_getElem h1,h2],h3⟩
theorem Kt {α:Type}{l:List α}{i:Nat}(h:l.drop i=[]):l.length<=i:=by
 have:=congrArg List.length h;simp at this;omega
section
variable {α:Type} {f:α->List PV} {k:Nat}
theorem Aa0 (hf:∀x,(f x).length=k):∀(l:List α),(l.flatMap f).length=l.length*k
 |[]=>by simp
 |x::l=>by simp[hf x,Aa0 hf l,Nat.succ_mul];omega
theorem QX (hf:∀x,(f x).length=k):∀(l:List α)(i:Nat),(l.flatMap f).drop (i*k)=(l.drop i).flatMap f
 |l,0=>by simp
 |[],i+1=>by simp
 |x::l,i+1=>by
  rw[List.flatMap_cons,Nat.succ_mul,Nat.add_comm,←List.drop_drop,List.drop_append_of_le_length (by rw[hf x];omega)]
  rw[show (f x).drop k=[] from List.drop_of_length_le (by rw[hf x];omega),List.nil_append]
  exact QX hf l i
theorem Ars (hf:∀x,(f x).length=k) {l:List α}{i:Nat}{x:α}(h:l[i]?=some x) {j:Nat}(hj:j<k):(l.flatMap f).getD (i*k+j) .top=(f x).getD j .top:=by
 have h1:((l.flatMap f).drop (i*k))[j]?=(l.flatMap f)[i*k+j]?:=List.getElem?_drop;rw[QX hf] at h1
 have h2:i<l.length:=by
  rcases Nat.lt_or_ge i l.length with h1|h1
  ·exact h1
  ·rw[List.getElem?_eq_none h1] at h;cases h
 rw[List.drop_eq_getElem_cons h2,List.flatMap_cons] at h1;have h3:l[i]=x:=by rw[List.getElem?_eq_getElem h2] at h;injection h
 rw[h3,List.getElem?_append_left (by rw[hf x];exact hj)] at h1
 simp only[List.getD_eq_getElem?_getD,←h1]
theorem Yl {c:List PV}{p:PV}{i:Nat}(h:i<c.length):Cs c [p] i=c.set i p:=by
 unfold Cs;rw[List.set_eq_take_append_cons_drop,if_pos h];simp
end
abbrev Aio (k:IntKind)(n:Int):List PV:=[.sc (.int k n)]
abbrev Ck (k:IntKind)(l:List Int):List PV:=l.flatMap (Aio k)
theorem KS (k:IntKind)(n:Int):(Aio k n).length=1:=rfl
theorem ati {k:IntKind}{l:List Int}{i:Nat}{n:Int}(h:l[i]?=some n):(Ck k l).getD i .top=.sc (.int k n):=by
 have:=Ars (KS k) h (j:=0) (by omega)
 simpa using this
theorem Ex (k:IntKind)(l:List Int):(Ck k l).length=l.length:=by rw[Aa0 (KS k)];omega
theorem Abg (k:IntKind)(l:List Int)(n:Int):Ck k l++[.sc (.int k n)]=Ck k (l++[n]):=by simp
theorem D4:type_of% @Ws∧type_of% @GD∧type_of% @Wx∧type_of% @Xf∧type_of% @EN∧type_of% @YL∧type_of% @Ab1∧type_of% @Age∧type_of% @Agf∧type_of% @XV∧type_of% @RJ∧type_of% @Ab2∧type_of% @Yv∧type_of% @Aa9∧type_of% @EK∧type_of% @SF∧type_of% @FS∧type_of% @GN∧type_of% @YF∧type_of% @ZE∧type_of% @QY∧type_of% @Bool.not_true∧type_of% @Bool.not_false∧type_of% @Bool.false_eq_true∧type_of% @if_true.{1}∧type_of% @if_false.{1}∧type_of% @Bool.true_and∧type_of% @Bool.and_true∧type_of% @Bool.false_and∧type_of% @Bool.and_false∧type_of% @decide_true∧type_of% @decide_false:=
 ⟨@Ws,@GD,@Wx,@Xf,@EN,@YL,@Ab1,@Age,@Agf,@XV,@RJ,@Ab2,@Yv,@Aa9,@EK,@SF,@FS,@GN,@YF,@ZE,@QY,@Bool.not_true,@Bool.not_false,@Bool.false_eq_true,@if_true.{1},@if_false.{1},@Bool.true_and,@Bool.and_true,@Bool.false_and,@Bool.and_false,@decide_true,@decide_false⟩
theorem gT:type_of% @Bool.and_eq_true∧type_of% @decide_eq_true_eq∧type_of% @beq_iff_eq.{0}∧type_of% @bne_iff_ne.{0}∧type_of% @ne_eq.{1}∧type_of% @Bool.not_eq_true'∧type_of% @true_and∧type_of% @and_true:=
 ⟨@Bool.and_eq_true,@decide_eq_true_eq,@beq_iff_eq.{0},@bne_iff_ne.{0},@ne_eq.{1},@Bool.not_eq_true',@true_and,@and_true⟩
theorem gF:type_of% @decide_eq_false_iff_not∧type_of% @beq_eq_false_iff_ne.{0}∧type_of% @bne_eq_false_iff_eq.{0}∧type_of% @ne_eq.{1}∧type_of% @Bool.not_eq_false':=
 ⟨@decide_eq_false_iff_not,@beq_eq_false_iff_ne.{0},@bne_eq_false_iff_eq.{0},@ne_eq.{1},@Bool.not_eq_false'⟩
end
section
open Go.RowKit
def Bd {α β:Type}(R:α->β->Prop):List α->List β->Prop
 |[],[]=>True
 |a::zs,b::bs=>R a b∧Bd R zs bs
 |_,_=>False
section
variable {α β γ:Type} {R S:α->β->Prop}
theorem Bd.len:∀{zs:List α}{bs:List β},Bd R zs bs->zs.length=bs.length
 |[],[],_=>rfl
 |_::_,_::_,h=>by simp[Bd.len h.2]
 |[],_::_,h=>h.elim
 |_::_,[],h=>h.elim
theorem Bd.at_:∀{zs:List α}{bs:List β},Bd R zs bs->∀{i:Nat} {a b},zs[i]?=some a->bs[i]?=some b->R a b
 |[],[],_,i,a,b,h,_=>by simp at h
 |_::_,_::_,h,0,a,b,ha,hb=>by simp at ha hb;subst ha;subst hb;exact h.1
 |_::_,_::_,h,i+1,a,b,ha,hb=>by simp at ha hb;exact Bd.at_ h.2 ha hb
 |[],_::_,h,_,_,_,_,_=>h.elim
 |_::_,[],h,_,_,_,_,_=>h.elim
theorem Bd.of_at:∀{zs:List α}{bs:List β},zs.length=bs.length->(∀(i:Nat) a b,zs[i]?=some a->bs[i]?=some b->R a b)->Bd R zs bs
 |[],[],_,_=>trivial
 |a::zs,b::bs,hl,h=>⟨h 0 a b rfl rfl,Bd.of_at (by simpa using hl) fun i x y hx hy=>h (i+1) x y hx hy⟩
 |[],_::_,hl,_=>by simp at hl
 |_::_,[],hl,_=>by simp at hl
theorem Bd.mono (hRS:∀a b,R a b->S a b):∀{zs:List α}{bs:List β},Bd R zs bs->Bd S zs bs
 |[],[],_=>trivial
 |_::_,_::_,h=>⟨hRS _ _ h.1,Bd.mono hRS h.2⟩
 |[],_::_,h=>h.elim
 |_::_,[],h=>h.elim
theorem Bd.mono_mem:∀{zs:List α}{bs:List β},(∀a∈zs,∀b,R a b->S a b)->Bd R zs bs->Bd S zs bs
 |[],[],_,_=>trivial
 |a::_,_::_,hRS,h=>⟨hRS a (by simp) _ h.1,Bd.mono_mem (fun x hx=>hRS x (by simp[hx])) h.2⟩
 |[],_::_,_,h=>h.elim
 |_::_,[],_,h=>h.elim
theorem Bd.app:∀{zs:List α}{bs:List β}{as':List α}{bs':List β},Bd R zs bs->Bd R as' bs'->Bd R (zs++as') (bs++bs')
 |[],[],_,_,_,h'=>h'
 |_::_,_::_,_,_,h,h'=>⟨h.1,Bd.app h.2 h'⟩
 |[],_::_,_,_,h,_=>h.elim
 |_::_,[],_,_,h,_=>h.elim
theorem Bd.take:∀(n:Nat){zs:List α}{bs:List β},Bd R zs bs->Bd R (zs.take n) (bs.take n)
 |0,_,_,_=>by simp[Bd]
 |_+1,[],[],_=>trivial
 |n+1,_::_,_::_,h=>⟨h.1,Bd.take n h.2⟩
 |_+1,[],_::_,h=>h.elim
 |_+1,_::_,[],h=>h.elim
theorem Bd.drop:∀(n:Nat){zs:List α}{bs:List β},Bd R zs bs->Bd R (zs.drop n) (bs.drop n)
 |0,_,_,h=>h
 |_+1,[],[],_=>trivial
 |n+1,_::_,_::_,h=>Bd.drop n h.2
 |_+1,[],_::_,h=>h.elim
 |_+1,_::_,[],h=>h.elim
end
inductive Ar (w:World) (A:Nat->Prop):PV->Value->Prop where
 |sc (v:Value):Ar w A (.sc v) v
 |top (v:Value):Ar w A .top v
 |ub (b:Bool):Ar w A .ub (.bool b)
 |lnil (z:Bool) (es:Nat):Ar w A (.lst z es 0 []) (.slice none 0 0)
 |lemp (es:Nat) (a:Addr) (cap:Nat):Ar w A (.lst false es 0 []) (.slice (some a) 0 cap)
 |lst (es n:Nat) (cells:List PV) (a:Addr) (cap:Nat) (f:Nat->Value) (hs:a.spot=none) (hb:a.block<w.heap.size) (hA:¬A a.block) (hn:n<=cap)
   (hc:∀j c,cells[j]?=some c->w.cell? (a.add j)=some (f j)) (h1:∀j c,cells[j]?=some c->(f j).oneCell'=true) (hr:∀j c,cells[j]?=some c->Ar w A c (f j)):Ar w A (.lst false es n cells) (.slice (some a) n cap)
def bsz (w:World)(b:Nat):Nat:=
 match w.heap[b]? with
 |some (.cells c _ _)=>c.size
 |_=>0
def MJ (w:World)(b:Nat):Bool:=w.frozen? ⟨b,bsz w b,none⟩
def Fit (w:World)(es b e:Nat):Prop:=e<=bsz w b∧(es=1∨MJ w b=false)
def Gi (w w':World)(b:Nat):Prop:=bsz w b<=bsz w' b∧(MJ w b=false->MJ w' b=false)
theorem Gi.refl (w:World)(b:Nat):Gi w w b:=⟨Nat.le_refl _,id⟩
theorem Gi.same {w w':World}{b:Nat}(h:w'.heap[b]?=w.heap[b]?):Gi w w' b:=by
 have e:bsz w' b=bsz w b:=by unfold bsz;rw[h]
 refine⟨by rw[e];exact Nat.le_refl _,fun q=>?_⟩
 unfold MJ at q ⊢;rw[e];unfold World.frozen? at q ⊢;simp only[h];exact q
theorem Gi.trans {w w' w'':World}{b:Nat}(h:Gi w w' b)(h':Gi w' w'' b):Gi w w'' b:=⟨Nat.le_trans h.1 h'.1,fun q=>h'.2 (h.2 q)⟩
theorem Fit.step {w w':World}{es b e:Nat}(h:Fit w es b e)(hb:Gi w w' b):Fit w' es b e:=⟨Nat.le_trans h.1 hb.1,h.2.imp id hb.2⟩
def MT (w:World)(A:Nat->Prop)(a:Addr)(cells:List PV):Prop:=∀j c,cells[j]?=some c->∃v,w.cell? (a.add j)=some v∧v.oneCell'=true∧Ar w A c v
def Bs (w:World)(A:Nat->Prop)(β:Nat->Option (Nat × Nat)) (p:PV)(v:Value):Prop:=
 match p with
 |.view id es off n=>(β id=none∧off=0∧n=0∧∃ad,v=.slice ad 0 0) ∨
   ∃b o x cap,β id=some (b,o)∧v=.slice (some ⟨b,x,none⟩) n cap∧(x=o+off∨(n=0∧off≠0))∧n<=cap∧Fit w es b (x+cap*es)∧b<w.heap.size
 |.ptr id off=>∃b o,β id=some (b,o)∧v=.pointer (some ⟨b,o+off,none⟩)
 |.iptr c off=>∃a:Addr,v=.pointer (some (a.add off))∧a.spot=none∧a.block<w.heap.size∧¬A a.block∧MT w A a c
 |p=>Ar w A p v
def Gs (w:World)(A:Nat->Prop)(β:Nat->Option (Nat × Nat)) (p:PV)(v:Value):Prop:=
 match p with
 |.agg cs=>∃vs,v=.agg ⟨vs⟩∧Bd (Bs w A β) cs vs
 |p=>Bs w A β p v
def D1 (w:World)(A:Nat->Prop)(β:Nat->Option (Nat × Nat)) (p:PV)(v:Value):Prop:=
 match p with
 |.tup ps=>∃vs,v=.tuple ⟨vs⟩∧Bd (Gs w A β) ps vs
 |p=>Gs w A β p v
structure B4 (A:Nat->Prop) (w w':World):Prop where
 size:w.heap.size<=w'.heap.size
 keep:∀b,b<w.heap.size->¬A b->w'.heap[b]?=w.heap[b]?
 bs:∀b,b<w.heap.size->Gi w w' b
theorem Ef (a:Addr)(j:Nat):(a.add j).block=a.block:=by unfold Addr.add;split<;>rfl
theorem add_add (a:Addr)(i j:Nat):(a.add i).add j=a.add (i+j):=by
 unfold Addr.add;by_cases hi:i=0<;>by_cases hj:j=0<;>simp[hi,hj,Nat.add_assoc]
theorem D5 (b o j:Nat):(⟨b,o,none⟩:Addr).add j=⟨b,o+j,none⟩:=by
 unfold Addr.add;by_cases hj:j=0<;>simp[hj]
theorem XP {a:Addr}(h:a.spot=none)(j:Nat):(a.add j).spot=none:=by unfold Addr.add;split<;>simp[h]
section
variable {w w':World} {A A':Nat->Prop} {β β':Nat->Option (Nat × Nat)}
theorem B4.cell (h:B4 A w w'){a:Addr}(hb:a.block<w.heap.size)(hA:¬A a.block):w'.cell? a=w.cell? a:=
 World.cell?_of_block (h.keep a.block hb hA)
theorem Ar.step (h:B4 A w w')(hA:∀b,b<w.heap.size->A' b->A b){p:PV}{v:Value}(t:Ar w A p v):Ar w' A' p v:=by
 induction t with
 |sc v=>exact .sc v
 |top v=>exact .top v
 |ub b=>exact .ub b
 |lnil z es=>exact .lnil z es
 |lemp es a cap=>exact .lemp es a cap
 |lst es n cells a cap f hs hb hA1 hn hc h1 hr ih=>
  refine .lst es n cells a cap f hs (Nat.lt_of_lt_of_le hb h.size) (fun x=>hA1 (hA _ hb x)) hn (fun j c hj=>?_) h1 (fun j c hj=>ih j c hj)
  rw[h.cell (by rw[Ef];exact hb) (by rw[Ef];exact hA1)]
  exact hc j c hj
theorem MT.step (h:B4 A w w')(hA:∀b,b<w.heap.size->A' b->A b){a:Addr}(hb:a.block<w.heap.size)(hn:¬A a.block){cells:List PV}(t:MT w A a cells):MT w' A' a cells:=by
 intro j c hj;obtain⟨v,hv,h1,ht⟩:=t j c hj;exact⟨v,by rw[h.cell (by rw[Ef];exact hb) (by rw[Ef];exact hn)];exact hv,h1,ht.step h hA⟩
theorem Bs.step (h:B4 A w w')(hA:∀b,b<w.heap.size->A' b->A b){p:PV}{v:Value}(hβ:∀id∈Al p,β' id=β id)(t:Bs w A β p v):Bs w' A' β' p v:=by
 cases p with
 |view id es off n=>
  have e:=hβ id (by simp[Al])
  rcases t with⟨h1,h2,h3,h4⟩|⟨b,o,x,cap,h1,h2,hx,h3,h4,h5⟩
  ·exact .inl ⟨by rw[e];exact h1,h2,h3,h4⟩
  ·exact .inr ⟨b,o,x,cap,by rw[e];exact h1,h2,hx,h3,h4.step (h.bs b h5),Nat.lt_of_lt_of_le h5 h.size⟩
 |ptr id off=>
  have e:=hβ id (by simp[Al])
  obtain⟨b,o,h1,h2⟩:=t;exact⟨b,o,by rw[e];exact h1,h2⟩
 |iptr c off=>
  obtain⟨a,h1,h2,h3,h4,h5⟩:=t;exact⟨a,h1,h2,Nat.lt_of_lt_of_le h3 h.size,fun x=>h4 (hA _ h3 x),h5.step h hA h3 h4⟩
 |sc v=>exact Ar.step h hA t
 |lst z es n c=>exact Ar.step h hA t
 |own es n c=>exact Ar.step h hA t
 |pbox c=>exact Ar.step h hA t
 |agg c=>exact Ar.step h hA t
 |tup c=>exact Ar.step h hA t
 |top=>exact Ar.step h hA t
 |ub=>exact Ar.step h hA t
theorem Gs.step (h:B4 A w w')(hA:∀b,b<w.heap.size->A' b->A b){p:PV}{v:Value}(hβ:∀id∈B8 p,β' id=β id)(t:Gs w A β p v):Gs w' A' β' p v:=by
 cases p with
 |agg cs=>
  obtain⟨vs,rfl,h2⟩:=t;exact⟨vs,rfl,h2.mono_mem fun c hc v hv=>hv.step h hA fun id Bi=>hβ id (by simp only[B8,List.mem_flatMap];exact⟨c,hc,Bi⟩)⟩
 |sc x=>exact Bs.step (p:=.sc x) h hA hβ t
 |lst x y z u=>exact Bs.step (p:=.lst x y z u) h hA hβ t
 |own x y z=>exact Bs.step (p:=.own x y z) h hA hβ t
 |view x y z u=>exact Bs.step (p:=.view x y z u) h hA hβ t
 |ptr x y=>exact Bs.step (p:=.ptr x y) h hA hβ t
 |iptr x y=>exact Bs.step (p:=.iptr x y) h hA hβ t
 |pbox x=>exact Bs.step (p:=.pbox x) h hA hβ t
 |tup x=>exact Bs.step (p:=.tup x) h hA hβ t
 |top=>exact Bs.step (p:=.top) h hA hβ t
 |ub=>exact Bs.step (p:=.ub) h hA hβ t
theorem D1.step (h:B4 A w w')(hA:∀b,b<w.heap.size->A' b->A b){p:PV}{v:Value}(hβ:∀id∈Bq p,β' id=β id)(t:D1 w A β p v):D1 w' A' β' p v:=by
 cases p with
 |tup cs=>
  obtain⟨vs,rfl,h2⟩:=t;exact⟨vs,rfl,h2.mono_mem fun c hc v hv=>hv.step h hA fun id Bi=>hβ id (by simp only[Bq,List.mem_flatMap];exact⟨c,hc,Bi⟩)⟩
 |sc x=>exact Gs.step (p:=.sc x) h hA hβ t
 |lst x y z u=>exact Gs.step (p:=.lst x y z u) h hA hβ t
 |own x y z=>exact Gs.step (p:=.own x y z) h hA hβ t
 |view x y z u=>exact Gs.step (p:=.view x y z u) h hA hβ t
 |ptr x y=>exact Gs.step (p:=.ptr x y) h hA hβ t
 |iptr x y=>exact Gs.step (p:=.iptr x y) h hA hβ t
 |pbox x=>exact Gs.step (p:=.pbox x) h hA hβ t
 |top=>exact Gs.step (p:=.top) h hA hβ t
 |ub=>exact Gs.step (p:=.ub) h hA hβ t
 |agg x=>exact Gs.step (p:=.agg x) h hA hβ t
theorem B4.refl (A:Nat->Prop)(w:World):B4 A w w:=⟨Nat.le_refl _,fun _ _ _=>rfl,fun _ _=>Gi.refl _ _⟩
theorem MT.weak (hA:∀b,b<w.heap.size->A' b->A b){a:Addr}{cells:List PV}(t:MT w A a cells):MT w A' a cells:=by
 intro j c hj;obtain⟨v,hv,h1,ht⟩:=t j c hj;exact⟨v,hv,h1,ht.step (B4.refl A w) hA⟩
theorem B4.trans {w'':World}(h:B4 A w w')(h':B4 A' w' w'')(hA:∀b,b<w.heap.size->A' b->A b):B4 A w w'':=
  ⟨Nat.le_trans h.size h'.size,fun b hb hn=>(h'.keep b (Nat.lt_of_lt_of_le hb h.size) (fun x=>hn (hA b hb x))).trans (h.keep b hb hn),
   fun b hb=>(h.bs b hb).trans (h'.bs b (Nat.lt_of_lt_of_le hb h.size))⟩
theorem B4.weaken (h:B4 A w w')(hA:∀b,b<w.heap.size->A b->A' b):B4 A' w w':=⟨h.size,fun b hb hn=>h.keep b hb (fun x=>hn (hA b hb x)),h.bs⟩
end
section
variable {R:Type} {r:R}
theorem D2 {k:IntKind}{p:PV}{K:Int->Option R}(h:Aw k p K=some r):∃n,p=.sc (.int k n)∧K n=some r:=by
 unfold Aw at h;split at h
 ·split at h
  ·rename_i hk;subst hk;exact⟨_,rfl,h⟩
  ·cases h
 ·cases h
theorem Di {p:PV}{K:Bool->Option R}(h:Am p K=some r):∃b,p=.sc (.bool b)∧K b=some r:=by
 unfold Am at h;split at h
 ·exact⟨_,rfl,h⟩
 ·cases h
theorem Dc {p:PV}{K:ByteArray->Option R}(h:A0 p K=some r):∃b,p=.sc (.string b)∧K b=some r:=by
 unfold A0 at h;split at h
 ·exact⟨_,rfl,h⟩
 ·cases h
theorem Da {p:PV}{K:IntKind->Int->Option R}(h:Df p K=some r):∃k n,p=.sc (.int k n)∧K k n=some r:=by
 unfold Df at h;split at h
 ·exact⟨_,_,rfl,h⟩
 ·cases h
theorem Aj {b:Bool}{K:Option R}(h:Bj b K=some r):b=true∧K=some r:=by
 unfold Bj at h;cases b
 ·cases h
 ·exact⟨rfl,h⟩
theorem B5 {α:Type}{o:Option α}{K:α->Option R}(h:Dh o K=some r):∃a,o=some a∧K a=some r:=by
 unfold Dh at h;split at h
 ·exact⟨_,rfl,h⟩
 ·cases h
theorem A7 {α:Type}{l:List α}{K:α->List α->Option R}(h:Aa l K=some r):∃a t,l=a::t∧K a t=some r:=by
 unfold Aa at h;split at h
 ·exact⟨_,_,rfl,h⟩
 ·cases h
theorem Dd {α:Type}{l:List α}{K:Option R}(h:Ad l K=some r):l=[]∧K=some r:=by
 unfold Ad at h;split at h
 ·exact⟨rfl,h⟩
 ·cases h
theorem Gf {p:PV}{K:List PV->Option R}(h:G7 p K=some r):∃c,p=.agg c∧K c=some r:=by
 unfold G7 at h;split at h
 ·exact⟨_,rfl,h⟩
 ·cases h
theorem BO {p:PV}{K:List PV->Option R}(h:Qx p K=some r):∃c,p=.pbox c∧K c=some r:=by
 unfold Qx at h;split at h
 ·exact⟨_,rfl,h⟩
 ·cases h
theorem SQ {p:PV}{K:Value->Option R}(h:WH p K=some r):∃v,p=.sc v∧v.oneCell'=true∧K v=some r:=by
 unfold WH at h;split at h
 ·exact⟨_,rfl,rfl,h⟩
 ·exact⟨_,rfl,rfl,h⟩
 ·cases h
theorem Aea {p:PV}{K:FuncId->Option R}(h:fvK p K=some r):∃f,p=.sc (.func (.func f) #[] #[])∧K f=some r:=by
 unfold fvK at h;split at h
 ·rename_i f a b;cases hb:(a.isEmpty&&b.isEmpty)<;>rw[hb] at h
  ·cases h
  ·simp only[Bool.and_eq_true,Array.isEmpty_iff] at hb;rw[hb.1,hb.2];exact⟨f,rfl,h⟩
 ·cases h
theorem CQ {o:Option Ay}{K:List PV->List (List PV)->Option R} (h:Ai o K=some r):∃v x,o=some ⟨v,x⟩∧K v x=some r:=by
 unfold Ai at h;split at h
 ·exact⟨_,_,rfl,h⟩
 ·cases h
theorem J2 {b:Bool}{x y:Option R}(h:Bh b x y=some r):(b=true∧x=some r)∨(b=false∧y=some r):=by
 unfold Bh at h;cases b
 ·exact .inr ⟨rfl,h⟩
 ·exact .inl ⟨rfl,h⟩
theorem Eu {es:Nat}{p:PV}{K:Bool->Nat->List PV->Option R}(h:Po es p K=some r):
  ∃z n c,K z n c=some r∧(p=.lst z es n c∨(p=.sc (.slice none 0 0)∧z=true∧n=0∧c=[])):=by
 unfold Po at h;split at h
 ·rename_i z es' n c;cases hb:Nat.beq es' es
  ·rw[hb] at h;cases h
  ·rw[hb] at h;have:=Nat.eq_of_beq_eq_true hb;subst this;exact⟨z,n,c,h,.inl rfl⟩
 ·exact⟨true,0,[],h,.inr ⟨rfl,rfl,rfl,rfl⟩⟩
 ·cases h
def Qs:PV->Prop
 |.sc _=>True
 |.lst _ _ _ _=>True
 |_=>False
def BC:PV->Prop
 |.sc _=>True
 |.lst _ _ _ _=>True
 |.view _ _ _ _=>True
 |_=>False
theorem Nk {c:PV}(h:Qs c):BC c:=by
 cases c<;>first|trivial|exact h.elim
theorem Gl {c:PV}(h:Qs c):Al c=[]:=by
 cases c<;>first|rfl|exact h.elim
variable {w:World} {A:Nat->Prop} {β:Nat->Option (Nat × Nat)}
theorem I4 {c:PV}{v:Value}(h:Qs c):Bs w A β c v↔Ar w A c v:=by
 cases c<;>first|exact Iff.rfl|exact h.elim
theorem Tk {c:PV}{v:Value}(h:∀cs,c ≠ .agg cs):Gs w A β c v↔Bs w A β c v:=by
 cases c<;>first|exact Iff.rfl|exact absurd rfl (h _)
theorem Lv {c:PV}{v:Value}(h:∀cs,c ≠ .tup cs):D1 w A β c v↔Gs w A β c v:=by
 cases c<;>first|exact Iff.rfl|exact absurd rfl (h _)
theorem R7 {c:PV}(h:Qs c)(cs:List PV):c ≠ .agg cs:=by rintro rfl;exact h
theorem SC {c:PV}(h:Qs c)(cs:List PV):c ≠ .tup cs:=by rintro rfl;exact h
theorem Ar.val {v u:Value}(h:Ar w A (.sc v) u):u=v:=by cases h;rfl
theorem Rf {es n:Nat}{z:Bool}{c:List PV}{p:PV}{v:Value}(h:p=.lst z es n c∨(p=.sc (.slice none 0 0)∧z=true∧n=0∧c=[])) (hv:Bs w A β p v):Ar w A (.lst z es n c) v:=by
 rcases h with rfl|⟨rfl,rfl,rfl,rfl⟩
 ·exact hv
 ·have:=Ar.val (w:=w) (A:=A) hv;subst this;exact .lnil true es
theorem J4 {t:CT}{p:PV}{K:PV->Option R}(h:Uu t p K=some r):
  ∃c,K c=some r∧Qs c∧Qs p∧∀(w:World) (A:Nat->Prop) (β:Nat->Option (Nat × Nat)) (v:Value),Bs w A β p v->Ar w A c v∧v.oneCell'=true:=by
 cases t with
 |int k=>obtain⟨n,rfl,h2⟩:=D2 h;exact⟨_,h2,trivial,trivial,fun w A β v hv=>⟨hv,by have:=Ar.val (w:=w) (A:=A) hv;subst this;rfl⟩⟩
 |bool=>obtain⟨n,rfl,h⟩:=Di h;exact⟨_,h,trivial,trivial,fun w A β v hv=>⟨hv,by have:=Ar.val (w:=w) (A:=A) hv;subst this;rfl⟩⟩
 |str=>obtain⟨n,rfl,h⟩:=Dc h;exact⟨_,h,trivial,trivial,fun w A β v hv=>⟨hv,by have:=Ar.val (w:=w) (A:=A) hv;subst this;rfl⟩⟩
 |sl es=>
  obtain⟨z,n,c,h,hp⟩:=Eu h;refine⟨_,h,trivial,?_,fun w A β v hv=>⟨Rf hp hv,?_⟩⟩
  ·rcases hp with rfl|⟨rfl,_⟩<;>trivial
  ·have ht:=Rf hp hv;cases ht<;>rfl
 |any=>
  obtain⟨u,rfl,h1,h2⟩:=SQ (show WH p (fun v=>K (.sc v))=some r from h)
  exact⟨_,h2,trivial,trivial,fun w A β v hv=>⟨hv,by have:=Ar.val (w:=w) (A:=A) hv;subst this;exact h1⟩⟩
theorem Adl {t:CT}{p:PV}{K:PV->Option R}(h:fcK t p K=some r):
  ∃c,K c=some r∧(Qs c∨c=p)∧BC p∧p ≠ .top∧(∀cs,c ≠ .agg cs)∧(∀cs,c ≠ .tup cs)∧(∀id,id∈Al c->id∈Al p)∧∀(w:World) (A:Nat->Prop) (β:Nat->Option (Nat × Nat)) (v:Value),Bs w A β p v->Bs w A β c v∧v.oneCell'=true:=by
 have tree:∀t',Uu t' p K=some r->∃c,K c=some r∧(Qs c∨c=p)∧BC p∧p ≠ .top∧(∀cs,c ≠ .agg cs)∧(∀cs,c ≠ .tup cs)∧(∀id,id∈Al c->id∈Al p)∧∀(w:World) (A:Nat->Prop) (β:Nat->Option (Nat × Nat)) (v:Value),Bs w A β p v->Bs w A β c v∧v.oneCell'=true:=by
  intro t' h;obtain⟨c,h,hc,hp,hv⟩:=J4 h;exact⟨c,h,.inl hc,Nk hp,by rintro rfl;exact hp,R7 hc,SC hc,by rw[Gl hc];simp,fun w A β v h=>⟨(I4 hc).2 (hv w A β v h).1,(hv w A β v h).2⟩⟩
 cases t with
 |sl es=>
  unfold fcK fsK at h;dsimp only at h;split at h
  ·rename_i id es' off n;cases hb:Nat.beq es' es
   ·rw[hb] at h;cases h
   ·rw[hb] at h;have:=Nat.eq_of_beq_eq_true hb;subst this;exact⟨_,h,.inr rfl,trivial,by simp,by simp,by simp,fun _ h=>h,fun _ _ _ _ h=>⟨h,by rcases h with⟨_,_,_,_,rfl⟩|⟨_,_,_,_,_,rfl,_⟩<;>rfl⟩⟩
  ·exact tree (.sl es) h
 |int k=>exact tree (.int k) h
 |bool=>exact tree (.bool) h
 |str=>exact tree (.str) h
 |any=>exact tree (.any) h
theorem Vs {cells:List PV}{i:Nat}{p:PV}(h:cells.getD i .top=p)(hp:p ≠ .top):cells[i]?=some p:=by
 rw[List.getD_eq_getElem?_getD] at h;cases hc:cells[i]? with
 |none=>rw[hc] at h;exact absurd h.symm hp
 |some q=>rw[hc] at h;simp at h;rw[h]
theorem Om:∀{ts:List CT}{cells:List PV}{off:Nat}{K:List PV->Option R},Oa ts cells off K=some r ->
  ∃cs,K cs=some r∧cs.length=ts.length∧∀j c,cs[j]?=some c->Qs c∧∃p,cells[off+j]?=some p∧Qs p ∧
   ∀(w:World) (A:Nat->Prop) (β:Nat->Option (Nat × Nat)) (v:Value),Bs w A β p v->Ar w A c v∧v.oneCell'=true
 |[],_,_,_,h=>⟨[],h,rfl,fun j c hj=>by simp at hj⟩
 |t::ts,cells,off,K,h=>by
  unfold Oa at h;obtain⟨c,h,hc,hp,hv⟩:=J4 h;obtain⟨cs,h,hl,Xd⟩:=Om h;refine⟨c::cs,h,by simp[hl],fun j c' hj=>?_⟩
  cases j with
  |zero=>
   simp at hj;subst hj;refine⟨hc,cells.getD off .top,Vs rfl ?_,hp,hv⟩;intro e;rw[e] at hp;exact hp
  |succ j=>
   simp at hj;have:=Xd j c' hj
   rwa [Nat.add_right_comm,Nat.add_assoc] at this
theorem Pf:∀{ts:List CT}{cells:List PV}{off:Nat}{K:List PV->Option R},Li ts cells off K=some r ->
  ∃cs,K cs=some r∧cs.length=ts.length∧(∀c∈cs,(∀x,c ≠ .agg x)∧(∀x,c ≠ .tup x))∧∀j c,cs[j]?=some c->∃p,cells[off+j]?=some p∧BC p∧(∀id,id∈Al c->id∈Al p) ∧
   ∀(w:World) (A:Nat->Prop) (β:Nat->Option (Nat × Nat)) (v:Value),Bs w A β p v->Bs w A β c v∧v.oneCell'=true
 |[],_,_,_,h=>⟨[],h,rfl,by simp,fun j c hj=>by simp at hj⟩
 |t::ts,cells,off,K,h=>by
  unfold Li at h;obtain⟨c,h,hc,hf,hp,ha,ht,hr,hv⟩:=Adl h;obtain⟨cs,h,hl,Ui,Xd⟩:=Pf h;refine⟨c::cs,h,by simp[hl],?_,fun j c' hj=>?_⟩
  ·intro x hx;rcases List.mem_cons.1 hx with rfl|hx
   ·exact⟨ha,ht⟩
   ·exact Ui x hx
  ·cases j with
   |zero=>
    simp at hj;subst hj;exact⟨cells.getD off .top,Vs rfl hp,hf,hr,hv⟩
   |succ j=>
    simp at hj;have:=Xd j c' hj
    rwa [Nat.add_right_comm,Nat.add_assoc] at this
theorem GQ {agg:Bool}{cells:List PV}{K:PV->Option R}(h:SE agg cells K=some r):
  (agg=true∧K (.agg cells)=some r)∨(agg=false∧∃c,cells=[c]∧K c=some r):=by
 unfold SE at h;cases agg
 ·obtain⟨c,t,rfl,h⟩:=A7 h;obtain⟨rfl,h⟩:=Dd h;exact .inr ⟨rfl,c,rfl,h⟩
 ·exact .inl ⟨rfl,h⟩
end
open Go.RowKit
def Cx (b:Option Bm):Prop:=
 match b with
 |some (.st _)=>True
 |some (.ar false _)=>True
 |_=>False
abbrev Bt:=Nat->Option (Nat × Nat)
def HA (hp:Nat->Option Bm)(β:Bt)(b:Nat):Prop:=∃id o,Cx (hp id)∧β id=some (b,o)
def Cy (hp:Nat->Option Bm)(β:Bt)(Y:Nat->Prop)(b:Nat):Prop:=HA hp β b∨Y b
def Nv (w:World)(A:Nat->Prop)(β:Bt)(id:Nat)(bx:Bm):Prop:=
 match bx with
 |.st cells=>∃b o,β id=some (b,o)∧(∀j c,cells[j]?=some c->∃v,w.cell? ⟨b,o+j,none⟩=some v∧Bs w A β c v)∧∀j,j<cells.length->w.frozen? ⟨b,o+j,none⟩=false
 |.ar fz cells=>(β id=none∧cells=[])∨∃b o,β id=some (b,o)∧MT w A ⟨b,o,none⟩ cells∧(fz=false->∀j,o<=j->j<bsz w b->w.frozen? ⟨b,j,none⟩=false)∧(fz=true->¬A b)
 |.mv=>True
structure Gv where
 X:Nat->Prop
 L:Nat->Nat->Prop
 pn:Nat->Prop
 pt:Nat->Option (Nat × Nat)
 p8:∀i,pn i->i<8
def BR (bx:Bm)(o j:Nat):Prop:=
 match bx with
 |.st c=>o<=j∧j<o+c.length
 |.ar _ _=>o<=j
 |.mv=>False
structure Fr (X0:Gv) (w0 w:World):Prop where
 os:w.os=w0.os
 tape:w.tape=w0.tape
 output:w.output=w0.output
 step:B4 X0.X w0 w
 rng:∀b j,b<w0.heap.size->¬X0.L b j->w.cell? ⟨b,j,none⟩=w0.cell? ⟨b,j,none⟩∧w.frozen? ⟨b,j,none⟩=w0.frozen? ⟨b,j,none⟩
structure Cl (N:Nat) (w0:World) (X0:Gv) (Y:Nat->Prop) (β:Bt) (s:St) (a:Act) (w:World):Prop where
 dfr:a.defers=[]
 tsz:a.tmps.size=N
 tmo:∀i,N<=i->s.tm i=.top
 tms:∀i,i<N->D1 w (Cy s.hp β Y) β (s.tm i) (a.tmps.getD i undef)
 box:∀id b,s.hp id=some b->Nv w (Cy s.hp β Y) β id b
 inj:∀id id' b o o',Cx (s.hp id)->Cx (s.hp id')->β id=some (b,o)->β id'=some (b,o')->id=id'
 blt:∀id b o,s.hp id≠none->β id=some (b,o)->b<w.heap.size
 wfT:∀i,i<N->∀id∈Bq (s.tm i),s.hp id≠none
 wfB:∀id cells,s.hp id=some (.st cells)->∀c∈cells,∀id'∈Al c,s.hp id'≠none
 ownd:∀b,HA s.hp β b->X0.X b∨w0.heap.size<=b
 rngB:∀id bx b o,s.hp id=some bx->Cx (some bx)->β id=some (b,o)->b<w0.heap.size->∀j,BR bx o j->X0.L b j
 pin:∀i,X0.pn i->s.hp (C9 N i)≠none∧β (C9 N i)=X0.pt i
 stp:∀id c b o,s.hp id=some (.st c)->β id=some (b,o)->b<w0.heap.size->∃i,id=C9 N i∧X0.pn i
 Yx:∀b,Y b->¬HA s.hp β b
 Ylt:∀b,Y b->b<w0.heap.size
 fr:Fr X0 w0 w
theorem Co {b:Option Bm}(h:Cx b):b≠none:=by rintro rfl;exact h
theorem Ak {α:Type}(f:Nat->α)(i:Nat)(v:α):Ci f i v i=v:=by simp[Ci,Nat.beq_refl]
theorem Ah {α:Type}(f:Nat->α){i j:Nat}(v:α)(h:j≠i):Ci f i v j=f j:=by
 have:Nat.beq j i=false:=by
  cases hb:Nat.beq j i
  ·rfl
  ·exact absurd (Nat.eq_of_beq_eq_true hb) h
 simp[Ci,this]
theorem Td {α:Type}(f:Nat->α){i:Nat}{v:α}(h:f i=v):Ci f i v=f:=by
 funext j
 by_cases e:j=i
 ·subst e;rw[Ak];exact h.symm
 ·exact Ah f v e
theorem IF {α:Type}(f:Nat->α){i j:Nat}(u v:α)(h:i≠j):Ci (Ci f i u) j v=Ci (Ci f j v) i u:=by
 funext k
 by_cases e:k=j
 ·subst e;rw[Ak,Ah _ _ (Ne.symm h),Ak]
 ·rw[Ah _ _ e];by_cases e':k=i
  ·subst e';rw[Ak,Ak]
  ·rw[Ah _ _ e',Ah _ _ e',Ah _ _ e]
theorem BB {a:Act}{d:Nat}{v:Value}(h:d<a.tmps.size):(a.put (some d) v).tmps.getD d undef=v:=by
 simp[Act.put,h]
theorem X8 {a:Act}{d i:Nat}{v:Value}(h:i≠d):(a.put (some d) v).tmps.getD i undef=a.tmps.getD i undef:=by
 have h':d≠i:=fun e=>h e.symm
 simp[Act.put,Array.getElem?_setIfInBounds_ne h']
section
variable {N:Nat} {w0:World} {X0:Gv} {Y:Nat->Prop} {β β':Bt} {s:St} {a:Act} {w w':World}
theorem Sb (d:Option Tmp)(v:Value):(a.put d v).tmps.size=a.tmps.size:=by cases d<;>simp[Act.put]
theorem Nc (d:Option Tmp)(v:Value):(a.put d v).defers=a.defers:=by cases d<;>rfl
theorem Mt {d:Option Tmp}(h:Fi N d=true){i:Nat}(e:d=some i):i<N:=by
 subst e;exact Nat.lt_of_succ_le (Nat.le_of_ble_eq_true h)
theorem Ly {Q:Nat->PV->Value->Prop}{tm:Nat->PV}{d:Option Tmp}{v:PV}{val:Value}(hN:a.tmps.size=N)(hd:Fi N d=true)
  (h:∀i,i<N->Q i (tm i) (a.tmps.getD i undef)) (hv:∀i,Q i v val):∀i,i<N->Q i (Bl tm d v i) ((a.put d val).tmps.getD i undef):=by
 intro i hi;cases d with
 |none=>exact h i hi
 |some d=>
  have B6:=Mt hd rfl;by_cases e:i=d
  ·subst e;show Q i (Ci tm i v i) _;rw[Ak,BB (by omega)]
   exact hv i
  ·show Q i (Ci tm d v i) _;rw[Ah _ _ e,X8 e];exact h i hi
theorem FD {tm:Nat->PV}{d:Option Tmp}{v:PV}(hd:Fi N d=true)(h:∀i,N<=i->tm i=.top):∀i,N<=i->Bl tm d v i=.top:=by
 intro i hi;cases d with
 |none=>exact h i hi
 |some d=>
  have:=Mt hd rfl;show Ci tm d v i=_;rw[Ah _ _ (by omega)]
  exact h i hi
theorem Cl.put (h:Cl N w0 X0 Y β s a w){d:Option Tmp}{v:PV}{val:Value}(hd:Fi N d=true)(hv:D1 w (Cy s.hp β Y) β v val) (hr:∀id∈Bq v,s.hp id≠none):
  Cl N w0 X0 Y β ⟨Bl s.tm d v,s.hp⟩ (a.put d val) w where
 dfr:=by rw[Nc];exact h.dfr
 tsz:=by rw[Sb];exact h.tsz
 tmo:=FD hd h.tmo
 tms:=Ly (Q:=fun _ p u=>D1 w (Cy s.hp β Y) β p u) h.tsz hd h.tms (fun _=>hv)
 box:=h.box
 inj:=h.inj
 blt:=h.blt
 wfT:=by
  have:=Ly (Q:=fun _ p _=>∀id∈Bq p,s.hp id≠none) (val:=val) h.tsz hd h.wfT (fun _=>hr)
  exact this
 wfB:=h.wfB
 ownd:=h.ownd
 rngB:=h.rngB
 pin:=h.pin
 stp:=h.stp
 Yx:=h.Yx
 Ylt:=h.Ylt
 fr:=h.fr
theorem Br (hp:Nat->Option Bm)(ids:List Nat)(i:Nat):Af hp ids i=if i∈ids then (hp i).map Pg else hp i:=by
 unfold Af;by_cases hi:i∈ids
 ·have:ids.any (Nat.beq i)=true:=List.any_eq_true.2 ⟨i,hi,Nat.beq_refl i⟩;rw[this,if_pos hi];rfl
 ·have:ids.any (Nat.beq i)=false:=by
   cases hb:ids.any (Nat.beq i)
   ·rfl
   ·obtain⟨j,hj,e⟩:=List.any_eq_true.1 hb;exact absurd (Nat.eq_of_beq_eq_true e ▸ hj) hi
  rw[this,if_neg hi];rfl
theorem Dq {hp:Nat->Option Bm}{ids:List Nat}{i:Nat}:Af hp ids i=none↔hp i=none:=by
 rw[Br];split<;>simp
theorem Lm {hp:Nat->Option Bm}{ids:List Nat}{i:Nat}(h:Cx (Af hp ids i)):Cx (hp i):=by
 rw[Br] at h;split at h
 ·cases hb:hp i with
  |none=>rw[hb] at h;exact h
  |some b=>cases b with
   |st c=>trivial
   |ar fz c=>rw[hb] at h;exact h.elim
   |mv=>rw[hb] at h;exact h
 ·exact h
theorem He {hp:Nat->Option Bm}{ids:List Nat}{i:Nat}{bx:Bm}(h:Af hp ids i=some bx)(hl:Cx (some bx)):hp i=some bx:=by
 rw[Br] at h;split at h
 ·cases hb:hp i with
  |none=>rw[hb] at h;cases h
  |some b=>
   rw[hb] at h;cases b with
   |st c=>exact h
   |ar fz c=>simp only[Option.map_some,Pg,Option.some.injEq] at h;subst h;exact hl.elim
   |mv=>simp only[Option.map_some,Pg,Option.some.injEq] at h;subst h;exact hl.elim
 ·exact h
theorem Mj {hp:Nat->Option Bm}{ids:List Nat}{b:Nat}(h:HA (Af hp ids) β b):HA hp β b:=by
 obtain⟨id,o,hl,hb⟩:=h;exact⟨id,o,Lm hl,hb⟩
theorem Nv.step' {A A':Nat->Prop}{id:Nat}{bx:Bm}(hA:∀b,A' b->A b)(h:Nv w A β id bx):Nv w A' β id bx:=by
 have hs:=B4.refl A w;cases bx with
 |st c=>
  obtain⟨b,o,h1,h2,h3⟩:=h;exact⟨b,o,h1,fun j c hj=>let ⟨v,hv,hc⟩:=h2 j c hj;⟨v,hv,hc.step hs (fun b _=>hA b) (fun _ _=>rfl)⟩,h3⟩
 |ar fz c=>
  rcases h with h|⟨b,o,h1,h2,h3,h4⟩
  ·exact .inl h
  ·exact .inr ⟨b,o,h1,h2.weak (fun b _=>hA b),h3,fun e x=>h4 e (hA b x)⟩
 |mv=>trivial
theorem Cl.freeze (h:Cl N w0 X0 Y β s a w){fz:List Nat}(U8:∀id∈fz,∃f c,s.hp id=some (.ar f c)):Cl N w0 X0 Y β ⟨s.tm,Af s.hp fz⟩ a w:=by
 have hA:∀b,Cy (Af s.hp fz) β Y b->Cy s.hp β Y b:=fun b hb=>hb.imp Mj id
 refine⟨h.dfr,h.tsz,h.tmo,fun i hi=>(h.tms i hi).step (B4.refl _ _) (fun b _=>hA b) (fun _ _=>rfl),fun id b hb=>?_,fun id id' b o o' h1 h2=>h.inj id id' b o o' (Lm h1) (Lm h2),
  fun id b o hn=>h.blt id b o (fun e=>hn (Dq.2 e)),fun i hi id Bi e=>h.wfT i hi id Bi (Dq.1 e),fun id cells hc c ME id' Bi e=>?_,fun b hb=>h.ownd b (Mj hb),
  fun id bx b o hb hl=>h.rngB id bx b o (He hb hl) hl,fun i hi=>⟨fun e=>(h.pin i hi).1 (Dq.1 e),(h.pin i hi).2⟩,fun id c b o hc=>h.stp id c b o (He hc trivial),fun b hb x=>h.Yx b hb (Mj x),h.Ylt,h.fr⟩
 ·simp only at hb;rw[Br] at hb;split at hb
  ·rename_i hm;obtain⟨f,c,hc⟩:=U8 id hm;rw[hc] at hb;simp only[Option.map_some,Pg,Option.some.injEq] at hb;subst hb;have Jh:=h.box id _ hc;rcases Jh with Jh|⟨b,o,h1,h2,h3,h4⟩
   ·exact .inl Jh
   ·refine .inr ⟨b,o,h1,h2.weak (fun b _=>hA b),(fun e=>by cases e),fun _ hb=>?_⟩
    rcases hb with⟨id',o',hl,hb⟩|hY
    ·have YA:=Lm hl;cases f with
     |true=>exact h4 rfl (.inl ⟨id',o',YA,hb⟩)
     |false=>
      have e:=h.inj id' id b o' o YA (by rw[hc];trivial) hb h1
      subst e;simp only at hl;rw[Br,if_pos hm,hc] at hl;exact hl
    ·cases f with
     |true=>exact h4 rfl (.inr hY)
     |false=>exact h.Yx b hY ⟨id,o,by rw[hc];trivial,h1⟩
  ·exact (h.box id b hb).step' hA
 ·simp only at hc;rw[Br] at hc;refine h.wfB id cells ?_ c ME id' Bi (Dq.1 e);split at hc
  ·rename_i hm;obtain⟨f,c,M6⟩:=U8 id hm;rw[M6] at hc;cases hc
  ·exact hc
theorem Bk:∀{nw:List (Nat × Bm)} {hp:Nat->Option Bm},Bo hp nw=true ->
  (∀id bx,(id,bx)∈nw->hp id=none)∧(∀id bx bx',(id,bx)∈nw->(id,bx')∈nw->bx=bx')
 |[],_,_=>⟨by simp,by simp⟩
 |(i,b)::r,hp,h=>by
  simp only[Bo,Bool.and_eq_true,Option.isNone_iff_eq_none,Bool.not_eq_true'] at h;obtain⟨⟨h1,h2⟩,h3⟩:=h;obtain⟨h4,h5⟩:=Bk h3
  have Ek:∀bx,(i,bx) ∉ r:=by
   intro bx hm;have:r.any (fun q=>Nat.beq q.1 i)=true:=List.any_eq_true.2 ⟨_,hm,Nat.beq_refl i⟩
   rw[this] at h2;cases h2
  refine⟨fun id bx hm=>?_,fun id bx bx' hm H8=>?_⟩
  ·rcases List.mem_cons.1 hm with e|hm
   ·cases e;exact h1
   ·exact h4 id bx hm
  ·rcases List.mem_cons.1 hm with e|hm
   ·cases e;rcases List.mem_cons.1 H8 with e|H8
    ·cases e;rfl
    ·exact absurd H8 (Ek _)
   ·rcases List.mem_cons.1 H8 with e|H8
    ·cases e;exact absurd hm (Ek _)
    ·exact h5 id bx bx' hm H8
theorem Dx:∀{nw:List (Nat × Bm)} {hp:Nat->Option Bm},(∀id bx bx',(id,bx)∈nw->(id,bx')∈nw->bx=bx') ->
  (∀id bx,(id,bx)∈nw->Ao hp nw id=some bx)∧(∀id,(∀bx,(id,bx) ∉ nw)->Ao hp nw id=hp id)
 |[],_,_=>⟨by simp,fun _ _=>rfl⟩
 |(i,b)::r,hp,h=>by
  obtain⟨h1,h2⟩:=Dx (nw:=r) (hp:=Ci hp i (some b)) (fun id bx bx' hm H8=>h id bx bx' (by simp[hm]) (by simp[H8]))
  refine⟨fun id bx hm=>?_,fun id hn=>?_⟩
  ·by_cases hr:∃bx',(id,bx')∈r
   ·obtain⟨bx',hr⟩:=hr;have:=h id bx bx' hm (by simp[hr])
    subst this;exact h1 id bx hr
   ·rcases List.mem_cons.1 hm with e|hm
    ·cases e;show Ao (Ci hp i (some b)) r i=_;rw[h2 i (fun bx' hb=>hr ⟨bx',hb⟩),Ak]
    ·exact absurd ⟨bx,hm⟩ hr
  ·show Ao (Ci hp i (some b)) r id=_;rw[h2 id (fun bx hb=>hn bx (by simp[hb])),Ah]
   rintro rfl
   exact hn b (by simp)
structure CM (Y:Nat->Prop) (β:Bt) (s:St) (w:World) (v:PV) (nw:List (Nat × Bm)) (val:Value) (w':World) (β':Bt):Prop where
 os:w'.os=w.os
 tape:w'.tape=w.tape
 output:w'.output=w.output
 ext:B4 (fun _=>False) w w'
 old:∀id,s.hp id≠none->β' id=β id
 nlive:∀id bx,(id,bx)∈nw->Cx (some bx)
 nbox:∀id bx,(id,bx)∈nw->Nv w' (Cy (Ao s.hp nw) β' Y) β' id bx
 nblk:∀id bx b o,(id,bx)∈nw->β' id=some (b,o)->w.heap.size<=b∧b<w'.heap.size
 ninj:∀id bx id' bx' b o o',(id,bx)∈nw->(id',bx')∈nw->β' id=some (b,o)->β' id'=some (b,o')->id=id'
 nwf:∀id cells,(id,.st cells)∈nw->∀c∈cells,∀id'∈Al c,s.hp id'≠none∨∃bx,(id',bx)∈nw
 val:D1 w' (Cy (Ao s.hp nw) β' Y) β' v val
 vwf:∀id∈Bq v,s.hp id≠none∨∃bx,(id,bx)∈nw
theorem Cl.stepR (h:Cl N w0 X0 Y β s a w){d:Option Tmp}{v:PV}{nw:List (Nat × Bm)} {val:Value}(hd:Fi N d=true)(L5:Bo s.hp nw=true)
  (st:CM Y β s w v nw val w' β'):Cl N w0 X0 Y β' ⟨Bl s.tm d v,Ao s.hp nw⟩ (a.put d val) w':=by
 obtain⟨ha1,Io⟩:=Bk L5;obtain⟨XD,hg2⟩:=Dx (hp:=s.hp) Io
 have F9:∀id,(∃bx,(id,bx)∈nw)∨Ao s.hp nw id=s.hp id:=fun id=>by
  by_cases hx:∃bx,(id,bx)∈nw
  ·exact .inl hx
  ·exact .inr (hg2 id fun bx hb=>hx ⟨bx,hb⟩)
 have Arm:∀id,s.hp id≠none->Ao s.hp nw id=s.hp id:=fun id hn=>by
  rcases F9 id with⟨bx,hx⟩|e
  ·exact absurd (ha1 id bx hx) hn
  ·exact e
 have Lj:∀id,(s.hp id≠none∨∃bx,(id,bx)∈nw)->Ao s.hp nw id≠none:=by
  rintro id (hn|⟨bx,hx⟩)
  ·rw[Arm id hn];exact hn
  ·rw[XD id bx hx];simp
 have Agy:∀b,b<w.heap.size->HA (Ao s.hp nw) β' b->HA s.hp β b:=by
  rintro b hb ⟨id,o,hl,hβ⟩
  rcases F9 id with⟨bx,hx⟩|e
  ·have:=(st.nblk id bx b o hx hβ).1;omega
  ·rw[e] at hl;exact⟨id,o,hl,by rw[←st.old id (Co hl)];exact hβ⟩
 have RX:∀b,b<w.heap.size->Cy (Ao s.hp nw) β' Y b->Cy s.hp β Y b:=fun b hb hA=>hA.imp (Agy b hb) id
 have SS:B4 (Cy s.hp β Y) w w':=st.ext.weaken (fun _ _ x=>x.elim)
 refine⟨by rw[Nc];exact h.dfr,by rw[Sb];exact h.tsz,FD hd h.tmo,?_,?_,?_,?_,?_,?_,?_,?_,?_,?_,?_,h.Ylt,?_⟩
 ·refine Ly (Q:=fun _ p u=>D1 w' (Cy (Ao s.hp nw) β' Y) β' p u) h.tsz hd (fun i hi=>?_) (fun _=>st.val)
  exact (h.tms i hi).step SS RX fun id Bi=>st.old id (h.wfT i hi id Bi)
 ·intro id b hb;simp only at hb;rcases F9 id with⟨bx,hx⟩|e
  ·rw[XD id bx hx] at hb;cases hb;exact st.nbox id _ hx
  ·rw[e] at hb;have hβ:=st.old id (by rw[hb];simp)
   have Jh:=h.box id b hb;have B6:=h.blt id;have Ek:s.hp id≠none:=by rw[hb];simp
   cases b with
   |st c=>
    obtain⟨b,o,h1,h2,h3⟩:=Jh;have G1:=B6 b o Ek h1;have Nf:=st.ext.keep b G1 (fun x=>x)
    refine⟨b,o,by rw[hβ];exact h1,fun j c hj=>?_,fun j hj=>?_⟩
    ·obtain⟨v,hv,hc⟩:=h2 j c hj;refine⟨v,by rw[World.cell?_of_block (w:=w) Nf];exact hv,hc.step SS RX fun id' Bi=>st.old id' ?_⟩
     exact h.wfB id _ hb c (List.mem_of_getElem? hj) id' Bi
    ·rw[World.frozen?_of_block (w:=w) Nf];exact h3 j hj
   |ar fz c=>
    rcases Jh with⟨h1,h2⟩|⟨b,o,h1,h2,h3,h4⟩
    ·exact .inl ⟨by rw[hβ];exact h1,h2⟩
    ·have G1:=B6 b o Ek h1;have Nf:=st.ext.keep b G1 (fun x=>x)
     have AF:bsz w' b=bsz w b:=by unfold bsz;rw[Nf]
     refine .inr ⟨b,o,by rw[hβ];exact h1,fun j c hj=>?_,fun e j hj Og=>?_,fun e x=>h4 e (RX b G1 x)⟩
     ·obtain⟨v,hv,h5,hc⟩:=h2 j c hj;exact⟨v,by rw[World.cell?_of_block (w:=w) (by rw[Ef];exact Nf)];exact hv,h5,hc.step SS RX⟩
     ·rw[World.frozen?_of_block (w:=w) Nf];exact h3 e j hj (by rw[←AF];exact Og)
   |mv=>trivial
 ·intro id id' b o o' hl Ib hb G1;simp only at hl Ib;rcases F9 id with⟨bx,hx⟩|e
  ·rcases F9 id' with⟨bx',Ph⟩|e'
   ·exact st.ninj id bx id' bx' b o o' hx Ph hb G1
   ·rw[e'] at Ib;have h1:=(st.nblk id bx b o hx hb).1;have h2:=h.blt id' b o' (Co Ib) (by rw[←st.old id' (Co Ib)];exact G1)
    omega
  ·rw[e] at hl;rcases F9 id' with⟨bx',Ph⟩|e'
   ·have h1:=(st.nblk id' bx' b o' Ph G1).1;have h2:=h.blt id b o (Co hl) (by rw[←st.old id (Co hl)];exact hb)
    omega
   ·rw[e'] at Ib;exact h.inj id id' b o o' hl Ib (by rw[←st.old id (Co hl)];exact hb) (by rw[←st.old id' (Co Ib)];exact G1)
 ·intro id b o hn hb;simp only at hn;rcases F9 id with⟨bx,hx⟩|e
  ·exact (st.nblk id bx b o hx hb).2
  ·rw[e] at hn;exact Nat.lt_of_lt_of_le (h.blt id b o hn (by rw[←st.old id hn];exact hb)) st.ext.size
 ·have:=Ly (Q:=fun _ p _=>∀id∈Bq p,Ao s.hp nw id≠none) (val:=val) (d:=d) (v:=v) h.tsz hd (fun i hi id Bi=>Lj id (.inl (h.wfT i hi id Bi))) (fun _ id Bi=>Lj id (st.vwf id Bi))
  exact this
 ·intro id cells hc c ME id' Bi;simp only at hc;rcases F9 id with⟨bx,hx⟩|e
  ·rw[XD id bx hx] at hc;cases hc;exact Lj id' (st.nwf id _ hx c ME id' Bi)
  ·rw[e] at hc;exact Lj id' (.inl (h.wfB id cells hc c ME id' Bi))
 ·rintro b ⟨id,o,hl,hb⟩
  simp only at hl;rcases F9 id with⟨bx,hx⟩|e
  ·exact .inr (Nat.le_trans h.fr.step.size (st.nblk id bx b o hx hb).1)
  ·rw[e] at hl;exact h.ownd b ⟨id,o,hl,by rw[←st.old id (Co hl)];exact hb⟩
 ·intro id bx b o hb hl hβ B6;simp only at hb;rcases F9 id with⟨bx',hx⟩|e
  ·have:=(st.nblk id bx' b o hx hβ).1;have:=h.fr.step.size;omega
  ·rw[e] at hb;exact h.rngB id bx b o hb hl (by rw[←st.old id (by rw[hb];simp)];exact hβ) B6
 ·intro i hi;obtain⟨h1,h2⟩:=h.pin i hi;exact⟨Lj _ (.inl h1),by rw[st.old _ h1];exact h2⟩
 ·intro id c b o hb hβ B6;simp only at hb;rcases F9 id with⟨bx',hx⟩|e
  ·have:=(st.nblk id bx' b o hx hβ).1;have:=h.fr.step.size;omega
  ·rw[e] at hb;exact h.stp id c b o hb (by rw[←st.old id (by rw[hb];simp)];exact hβ) B6
 ·rintro b hY hX
  have hb:b<w.heap.size:=Nat.lt_of_lt_of_le (h.Ylt b hY) h.fr.step.size;exact h.Yx b hY (Agy b hb hX)
 ·refine⟨st.os.trans h.fr.os,st.tape.trans h.fr.tape,st.output.trans h.fr.output,h.fr.step.trans st.ext (fun _ _ x=>x.elim),fun b j hb hL=>?_⟩
  have Nf:=st.ext.keep b (Nat.lt_of_lt_of_le hb h.fr.step.size) (fun x=>x)
  have hc:w'.cell? ⟨b,j,none⟩=w.cell? ⟨b,j,none⟩:=World.cell?_of_block (w:=w) Nf;have hf:w'.frozen? ⟨b,j,none⟩=w.frozen? ⟨b,j,none⟩:=World.frozen?_of_block (w:=w) Nf;rw[hc,hf];exact h.fr.rng b j hb hL
end
open Go.RowKit
section
variable {P:Program} {N:Nat} {w0:World} {X0:Gv} {Y:Nat->Prop} {β β':Bt} {s:St} {a:Act} {w w':World} {o:Oper}
theorem IG (cs:List Value)(A:Nat->Prop):Bd (Bs w A β) (cs.map PV.sc) cs:=by
 induction cs with
 |nil=>trivial
 |cons v r ih=>exact⟨Ar.sc v,ih⟩
theorem MX (cs:List Value):(cs.map PV.sc).flatMap Al=[]:=by
 induction cs with
 |nil=>rfl
 |cons v r ih=>exact ih
theorem Cp (h:Cl N w0 X0 Y β s a w)(x:Operand):D1 w (Cy s.hp β Y) β (Bw s.tm x) (a.eval x):=by
 cases x with
 |tmp t=>
  show D1 _ _ _ (s.tm t) (a.tmps.getD t undef);by_cases ht:t<N
  ·exact h.tms t ht
  ·rw[h.tmo t (Nat.le_of_not_lt ht)];exact Ar.top _
 |const v=>
  cases v with
  |agg cs=>exact⟨cs.toList,by simp[Act.eval],IG cs.toList _⟩
  |_=>exact Ar.sc _
 |func f=>exact Ar.sc _
 |global g=>exact Ar.sc _
theorem Ej (h:Cl N w0 X0 Y β s a w)(x:Operand):∀id∈Bq (Bw s.tm x),s.hp id≠none:=by
 cases x with
 |tmp t=>
  show ∀id∈Bq (s.tm t),_;by_cases ht:t<N
  ·exact h.wfT t ht
  ·rw[h.tmo t (Nat.le_of_not_lt ht)];intro id Bi;cases Bi
 |const v=>
  cases v with
  |agg cs=>
   intro id Bi;have:Bq (.agg (cs.toList.map .sc))=[]:=MX cs.toList;simp only[Bw] at Bi;rw[this] at Bi;cases Bi
  |_=>intro id Bi;cases Bi
 |func f=>intro id Bi;cases Bi
 |global g=>intro id Bi;cases Bi
theorem Uz {A:Nat->Prop}{v u:Value}(h:D1 w A β (.sc v) u):u=v:=Ar.val h
theorem B2 (h:Cl N w0 X0 Y β s a w){x:Operand}{v:Value}(e:Bw s.tm x=.sc v):a.eval x=v:=by
 have:=Cp h x;rw[e] at this;exact Uz this
def Dw (P:Program)(a:Act)(w:World)(o:Oper)(Y:Nat->Prop)(β:Bt)(s:St)(v:PV)(fz:List Nat)(nw:List (Nat × Bm)):Prop:=
 (∀id∈fz,∃f c,s.hp id=some (.ar f c))∧∃val w',(execOp a.eval o).run P w=.ok (.value val) w'∧(Bo s.hp nw=true->∃β',CM Y β ⟨s.tm,Af s.hp fz⟩ w v nw val w' β')
theorem PP {v:PV}{val:Value}(hv:D1 w (Cy s.hp β Y) β v val) (hr:∀id∈Bq v,s.hp id≠none):CM Y β s w v [] val w β:=
 ⟨rfl,rfl,rfl,B4.refl _ _,fun _ _=>rfl,by simp,by simp,by simp,by simp,by simp,hv,fun id Bi=>.inl (hr id Bi)⟩
theorem B0 {v:PV}{val:Value}(Ch:(execOp a.eval o).run P w=.ok (.value val) w) (hv:D1 w (Cy s.hp β Y) β v val) (hr:∀id∈Bq v,s.hp id≠none):Dw P a w o Y β s v [] []:=
 ⟨by simp,val,w,Ch,fun _=>⟨β,PP (s:=⟨s.tm,Af s.hp []⟩) hv hr⟩⟩
theorem Cd {v:Value}(Ch:(execOp a.eval o).run P w=.ok (.value v) w):Dw P a w o Y β s (.sc v) [] []:=B0 Ch (Ar.sc v) (by intro id Bi;cases Bi)
structure Fj (w w':World) (c:Array Value) (e:TypeId):Prop where
 os:w'.os=w.os
 tape:w'.tape=w.tape
 output:w'.output=w.output
 old:∀b,b<w.heap.size->w'.heap[b]?=w.heap[b]?
 size:w'.heap.size=w.heap.size+1
 new:∃fz:Nat × Nat,w'.heap[w.heap.size]?=some (.cells c e fz)∧(fz.1=fz.2∨c.size<=fz.1)
theorem Fj.alloc (w:World)(c:Array Value)(e:TypeId):Fj w (w.alloc (.cells c e)) c e:=
 ⟨rfl,rfl,rfl,fun b hb=>Below.heap_alloc w _ b hb,by show (w.heap.push _).size=_;simp,(0,0),by show (w.heap.push _)[w.heap.size]?=_;simp,.inl rfl⟩
theorem Fj.drew {c:Array Value}{e:TypeId}(h:Fj w w' c e):Fj w w'.drew c e:=⟨h.os,h.tape,h.output,h.old,h.size,h.new⟩
section
variable {c:Array Value} {e:TypeId}
theorem Fj.step (h:Fj w w' c e):B4 (fun _=>False) w w':=
 ⟨by rw[h.size];omega,fun b hb _=>h.old b hb,fun b hb=>Gi.same (h.old b hb)⟩
theorem Fj.cell (h:Fj w w' c e)(j:Nat):w'.cell? ⟨w.heap.size,j,none⟩=c[j]?:=by
 obtain⟨fz,hn,_⟩:=h.new;simp[World.cell?,hn]
theorem Fj.frozen (h:Fj w w' c e){j:Nat}(hj:j<c.size):w'.frozen? ⟨w.heap.size,j,none⟩=false:=by
 obtain⟨fz,hn,hf⟩:=h.new;simp only[World.frozen?,hn];rcases hf with hf|hf<;>simp<;>omega
theorem Ip (w:World)(c:Array Value)(e:TypeId):MJ (w.alloc (.cells c e)) w.heap.size=false:=by
 unfold MJ World.frozen?;have:(w.alloc (.cells c e)).heap[w.heap.size]?=some (.cells c e (0,0)):=by show (w.heap.push _)[w.heap.size]?=_;simp
 simp only[this];simp
theorem Fj.bsz (h:Fj w w' c e):bsz w' w.heap.size=c.size:=by
 obtain⟨fz,hn,_⟩:=h.new;simp[Pv.bsz,hn]
end
theorem Mo {c:Array Value}{e:TypeId}{d:Nat}{bx:Bm}{v:PV}{val:Value}(hg:Fj w w' c e)(hd:s.hp d=none)(hl:Cx (some bx))
  (Jh:Nv w' (Cy (Ci s.hp d (some bx)) (Ci β d (some (w.heap.size,0))) Y) (Ci β d (some (w.heap.size,0))) d bx)
  (hcw:∀cells,bx=.st cells->∀x∈cells,∀id'∈Al x,s.hp id'≠none)
  (hv:D1 w' (Cy (Ci s.hp d (some bx)) (Ci β d (some (w.heap.size,0))) Y) (Ci β d (some (w.heap.size,0))) v val)
  (hvr:∀id∈Bq v,s.hp id≠none∨id=d):CM Y β s w v [(d,bx)] val w' (Ci β d (some (w.heap.size,0))) where
 os:=hg.os
 tape:=hg.tape
 output:=hg.output
 ext:=hg.step
 old:=fun id hn=>Ah _ _ (by rintro rfl;exact hn hd)
 nlive:=by intro id b hm;simp at hm;obtain⟨rfl,rfl⟩:=hm;exact hl
 nbox:=by intro id b hm;simp at hm;obtain⟨rfl,rfl⟩:=hm;exact Jh
 nblk:=by
  intro id b x y hm hb;simp at hm;obtain⟨rfl,rfl⟩:=hm;rw[Ak] at hb;simp at hb;have:=hg.size;omega
 ninj:=by intro id b id' b' x y z hm H8 _ _;simp at hm H8;rw[hm.1,H8.1]
 nwf:=by intro id cells hm x hx id' Bi;simp at hm;exact .inl (hcw cells hm.2.symm x hx id' Bi)
 val:=hv
 vwf:=by
  intro id Bi;rcases hvr id Bi with h|rfl
  ·exact .inl h
  ·exact .inr ⟨bx,by simp⟩
theorem QK {c:Array Value}{e:TypeId}(hg:Fj w w' c e){A A':Nat->Prop}(hA:∀b,b<w.heap.size->A' b->A b){cells:List PV}
  (h:∀(j:Nat) p,cells[j]?=some p->∃v,c[j]?=some v∧v.oneCell'=true∧Ar w A p v):MT w' A' ⟨w.heap.size,0,none⟩ cells:=by
 intro j p hj;obtain⟨v,hv,h1,ht⟩:=h j p hj;exact⟨v,by rw[D5,Nat.zero_add,hg.cell];exact hv,h1,ht.step (hg.step.weaken (fun _ _ x=>x.elim)) hA⟩
theorem RK {d:Nat}{bx:Bm}(hwf:s.hp d=none):∀b,b<w.heap.size->Cy (Ci s.hp d (some bx)) (Ci β d (some (w.heap.size,0))) Y b->Cy s.hp β Y b:=by
 intro b hb hA;rcases hA with⟨id,o,hl,hβ⟩|hY
 ·by_cases e:id=d
  ·subst e;rw[Ak] at hβ;simp at hβ;omega
  ·rw[Ah _ _ e] at hl hβ;exact .inl ⟨id,o,hl,hβ⟩
 ·exact .inr hY
theorem Mc {c:Array Value}{e:TypeId}{d:Nat}{cells:List PV}{fz:List Nat}{v:PV}{val:Value}
  (U8:∀id∈fz,∃f c,s.hp id=some (.ar f c))
  (Ch:(execOp a.eval o).run P w=.ok (.value val) w') (hg:Fj w w' c e)
  (hc:∀(j:Nat) p,cells[j]?=some p->∃u,c[j]?=some u∧u.oneCell'=true∧Ar w (Cy (Af s.hp fz) β Y) p u)
  (hv:(v=.ptr d 0∧val=.pointer (some ⟨w.heap.size,0,none⟩))∨∃es n cap,v=.view d es 0 n∧val=.slice (some ⟨w.heap.size,0,none⟩) n cap∧n<=cap∧cap*es<=c.size∧(es=1∨MJ w' w.heap.size=false)):
  Dw P a w o Y β s v fz [(d,.ar false cells)]:=by
 refine⟨U8,val,w',Ch,fun L5=>⟨Ci β d (some (w.heap.size,0)),?_⟩⟩
 have hd:s.hp d=none:=(Bk L5).1 d (.ar false cells) (by simp)
 have hd':Af s.hp fz d=none:=Dq.2 hd;refine Mo (s:=⟨s.tm,Af s.hp fz⟩) hg hd' trivial ?_ (fun cells hx=>by cases hx) ?_ ?_
 ·refine .inr ⟨w.heap.size,0,Ak _ _ _,?_,fun _ j _ hj=>?_,(fun x=>by cases x)⟩
  ·exact QK hg (RK (s:=⟨s.tm,Af s.hp fz⟩) hd') hc
  ·rw[hg.bsz] at hj;exact hg.frozen hj
 ·rcases hv with⟨rfl,rfl⟩|⟨es,n,cap,rfl,rfl,hn,Q9,Axl⟩
  ·exact⟨w.heap.size,0,Ak _ _ _,rfl⟩
  ·exact .inr ⟨w.heap.size,0,0,cap,Ak _ _ _,rfl,.inl rfl,hn,⟨by rw[hg.bsz];omega,Axl⟩,by rw[hg.size];omega⟩
 ·intro id Bi;rcases hv with⟨rfl,_⟩|⟨es,n,cap,rfl,_⟩<;>(simp[Bq,B8,Al] at Bi;exact .inr Bi)
theorem DZ {c:Array Value}{e:TypeId}{d:Nat}{cells:List PV}
  (Ch:(execOp a.eval o).run P w=.ok (.value (.pointer (some ⟨w.heap.size,0,none⟩))) w') (hg:Fj w w' c e)
  (hc:∀(j:Nat) p,cells[j]?=some p->∃u,c[j]?=some u∧Bs w (Cy s.hp β Y) β p u) (hr:∀x∈cells,∀id∈Al x,s.hp id≠none):
  Dw P a w o Y β s (.ptr d 0) [] [(d,.st cells)]:=by
 refine⟨by simp,_,w',Ch,fun L5=>⟨Ci β d (some (w.heap.size,0)),?_⟩⟩
 have hd:s.hp d=none:=(Bk L5).1 d (.st cells) (by simp)
 refine Mo (s:=⟨s.tm,Af s.hp []⟩) hg hd trivial ?_ (fun cs hx x TD id Bi=>?_) ?_ ?_
 ·refine⟨w.heap.size,0,Ak _ _ _,fun j p hj=>?_,fun j hj=>?_⟩
  ·obtain⟨u,hu,hp⟩:=hc j p hj;refine⟨u,by rw[Nat.zero_add,hg.cell];exact hu,hp.step (hg.step.weaken (fun _ _ x=>x.elim)) (RK (s:=⟨s.tm,Af s.hp []⟩) hd) fun id Bi=>Ah _ _ ?_⟩
   rintro rfl
   exact hr p (List.mem_of_getElem? hj) id Bi hd
  ·rw[Nat.zero_add];obtain⟨u,hu,_⟩:=hc j _ (List.getElem?_eq_getElem hj)
   exact hg.frozen (by
    rcases Nat.lt_or_ge j c.size with h|h
    ·exact h
    ·rw[Array.getElem?_eq_none h] at hu;cases hu)
 ·injection hx with hx;subst hx;exact hr x TD id Bi
 ·exact⟨w.heap.size,0,Ak _ _ _,rfl⟩
 ·intro id Bi;simp[Bq,B8,Al] at Bi;exact .inr Bi
end
open Go.RowKit
section
variable {R:Type} {r:R} {P:Program} {N:Nat} {w0:World} {X0:Gv} {Y:Nat->Prop} {β β':Bt} {s:St} {a:Act} {w w':World} {o:Oper}
theorem Iu {t:TypeId}{n:Nat}(h:(P.info? t).map (·.size)=some n) (w:World):(sizeOf t).run P w=.ok n w:=by
 cases hi:P.info? t with
 |none=>rw[hi] at h;cases h
 |some i=>rw[hi] at h;simp at h;simp[sizeOf,typeInfo,hi,h]
theorem ZH {t:TypeId}{n:Nat}(h:A8 P t=n)(hn:0<n):(P.info? t).map (·.size)=some n:=by
 unfold A8 at h;cases hi:(P.info? t).map (·.size) with
 |none=>rw[hi] at h;simp at h;omega
 |some i=>rw[hi] at h;simp at h;rw[h]
theorem Ke {t:TypeId}{d:TypeDesc}(h:P.underlying t=some d)(w:World):(isAgg t).run P w=.ok (Bx P t) w:=by
 unfold isAgg Bx;rw[h];simp only[Sem.run_bind,run_underlying h,Result.andThen_ok];cases d<;>rfl
theorem RB {t:TypeId}{v:Value}{K:PV->Option R}(h:cvK P t v K=some r):∃p,K p=some r∧Bq p=[]∧∀(w:World)(A:Nat->Prop)(β:Bt),D1 w A β p v:=by
 have sc:∀v:Value,K (.sc v)=some r->∃p,K p=some r∧Bq p=[]∧∀(w:World) (A:Nat->Prop) (β:Bt),D1 w A β p v:=fun v h=>⟨_,h,rfl,fun w A β=>Ar.sc v⟩
 unfold cvK at h;split at h
 ·rename_i cs;obtain⟨hl,h⟩:=Aj h;obtain⟨xs,h,hxl,hx⟩:=Om h;have hl:=Nat.eq_of_beq_eq_true hl;refine⟨_,h,?_,fun w A β=>⟨cs.toList,by simp,?_⟩⟩
  ·show xs.flatMap Al=[];rw[List.flatMap_eq_nil_iff];intro c hc;obtain⟨j,hj⟩:=List.mem_iff_getElem?.1 hc;exact Gl (hx j c hj).1
  ·refine Bd.of_at (by rw[hxl,hl]) fun i c u hc hu=>?_
   obtain⟨hT,p,hp,_,U3⟩:=hx i c hc;refine (I4 hT).2 (U3 w A β u ?_).1;rw[Nat.zero_add,List.getElem?_map,hu] at hp;simp at hp;subst hp;exact Ar.sc u
 ·split at h
  ·exact⟨_,h,rfl,fun w A β=>Ar.lnil true _⟩
  ·cases h
 ·exact sc _ h
theorem S6 (h:Cl N w0 X0 Y β s a w){x:Operand}(Ch:(execOp a.eval o).run P w=.ok (.value (a.eval x)) w) {K:PV->Option R}(hk:T7 P o.type s.tm x K=some r):
  ∃v,K v=some r∧Dw P a w o Y β s v [] []:=by
 have dflt:K (Bw s.tm x)=some r->∃v,K v=some r∧Dw P a w o Y β s v [] []:=fun hk=>⟨_,hk,B0 Ch (Cp h x) (Ej h x)⟩
 cases x with
 |const v=>
  obtain⟨p,hk,hr,hv⟩:=RB hk;exact⟨p,hk,B0 Ch (hv _ _ _) (by rw[hr];simp)⟩
 |tmp t=>exact dflt hk
 |func f=>exact dflt hk
 |global g=>exact dflt hk
theorem SW {x:Operand}(ho:o.op=.move x):(execOp a.eval o).run P w=.ok (.value (a.eval x)) w:=by unfold execOp;rw[ho];rfl
theorem JA {x:Operand}(ho:o.op=.assign x):(execOp a.eval o).run P w=.ok (.value (a.eval x)) w:=by unfold execOp;rw[ho];rfl
theorem PH (h:Cl N w0 X0 Y β s a w){c x y:Operand}(ho:o.op=.pick c x y){K:PV->Option R}(hk:(Am (Bw s.tm c) fun t=>Bh t (K (Bw s.tm x)) (K (Bw s.tm y)))=some r):
  ∃v,K v=some r∧Dw P a w o Y β s v [] []:=by
 obtain⟨b,hb,hk⟩:=Di hk;have hc:=B2 h hb;rcases J2 hk with⟨rfl,hk⟩|⟨rfl,hk⟩
 ·exact⟨_,hk,B0 (by unfold execOp;rw[ho];simp[asBool,hc]) (Cp h x) (Ej h x)⟩
 ·exact⟨_,hk,B0 (by unfold execOp;rw[ho];simp[asBool,hc]) (Cp h y) (Ej h y)⟩
theorem Lx {t:TypeId}{K:List PV->Option R}(h:F4 P t K=some r):∃(v:Value)(cs:List PV),K cs=some r∧L8 P t=some v∧cs.length=(G0 P t).length∧cs.length=v.cells.toList.length∧cs.length=A8 P t ∧
  ∀(j:Nat) c,cs[j]?=some c->Qs c∧∃u,v.cells.toList[j]?=some u∧u.oneCell'=true∧∀(w:World) (A:Nat->Prop),Ar w A c u:=by
 unfold F4 at h;obtain⟨v,hz,h⟩:=B5 h;obtain⟨hl,h⟩:=Aj h;obtain⟨cs,h,Kg,hc⟩:=Om h;simp only[Bool.and_eq_true] at hl;have Yy:=Nat.eq_of_beq_eq_true hl.1
 have Of:(G0 P t).length=A8 P t:=by
  have:=hl.2;simp only[Hc,Bool.and_eq_true] at this;exact Nat.eq_of_beq_eq_true this.2
 refine⟨v,cs,h,hz,Kg,by rw[Kg,Yy],by rw[Kg,Of],fun j c hj=>?_⟩
 obtain⟨hT,p,hp,_,U3⟩:=hc j c hj;rw[Nat.zero_add,List.getElem?_map] at hp;cases hu:v.cells.toList[j]? with
 |none=>rw[hu] at hp;cases hp
 |some u=>
  rw[hu] at hp;simp at hp;subst hp;exact⟨hT,u,rfl,(U3 default (fun _=>False) (fun _=>none) u (Ar.sc u)).2,fun w A=>(U3 w A (fun _=>none) u (Ar.sc u)).1⟩
theorem Qy {t:TypeId}{v:Value}(h:L8 P t=some v)(w:World):(zeroValue t).run P w=.ok v w:=by
 unfold L8 at h;cases hi:P.info? t with
 |none=>rw[hi] at h;cases h
 |some i=>rw[hi] at h;simp at h;simp[zeroValue,typeInfo,hi,h]
theorem LX {t:TypeId}(ho:o.op=.alloc t){d:Nat}{K:PV->List Nat->List (Nat × Bm)->Option R}
  (hk:(F4 P t fun cs=>K (.ptr d 0) [] [(d,Aay P t cs)])=some r):∃v fz nw,K v fz nw=some r∧Dw P a w o Y β s v fz nw:=by
 obtain⟨z,cs,hk,hz,_,hl,_,hc⟩:=Lx hk
 have Ch:(execOp a.eval o).run P w=.ok (.value (.pointer (some ⟨w.heap.size,0,none⟩))) (w.alloc (.cells z.cells t)):=by
  unfold execOp;rw[ho];simp[Instr.alloc,Qy hz,newVar,newRow]
 have hg:=Fj.alloc w z.cells t;refine⟨_,_,_,hk,?_⟩;unfold Aay;cases Pe P t
 ·refine DZ Ch hg (fun j p hj=>?_) fun x hx id Bi=>?_
  ·obtain⟨hT,u,hu,_,hv⟩:=hc j p hj;exact⟨u,by simpa using hu,(I4 hT).2 (hv _ _)⟩
  ·obtain⟨j,hj⟩:=List.mem_iff_getElem?.1 hx;rw[Gl (hc j x hj).1] at Bi;cases Bi
 ·refine Mc (by simp) Ch hg (fun j p hj=>?_) (.inl ⟨rfl,rfl⟩)
  obtain⟨hT,u,hu,h1,hv⟩:=hc j p hj;exact⟨u,by simpa using hu,h1,hv _ _⟩
end
open Go.RowKit
section
variable {R:Type} {r:R} {P:Program} {N:Nat} {w0:World} {X0:Gv} {Y:Nat->Prop} {β β':Bt} {s:St} {a:Act} {w w':World} {o:Oper} {A:Nat->Prop}
theorem M0 {t:TypeId}(h:Hc P t=true):(∃d,P.underlying t=some d)∧(G0 P t).length=A8 P t∧(P.info? t).map (·.size)=some (A8 P t):=by
 simp only[Hc,Bool.and_eq_true] at h;refine⟨Option.isSome_iff_exists.1 h.1,Nat.eq_of_beq_eq_true h.2,?_⟩;unfold A8;cases hi:P.info? t with
 |none=>unfold Program.underlying at h;rw[hi] at h;cases h.1
 |some i=>simp
theorem Kf {v:Value}(h:v.oneCell'=true):v.cells = #[v]:=by cases v<;>first|rfl|cases h
theorem SK {p:PV}{v:Value}{ts:List CT}{K:List PV->Option R}(hv:D1 w A β p v)(hl:(cellsOf p).length=ts.length) (h:Li ts (cellsOf p) 0 K=some r):
  ∃cs,K cs=some r∧cs.length=ts.length∧Bd (Bs w A β) cs v.cells.toList∧(∀u∈v.cells.toList,u.oneCell'=true)∧(∀c∈cs,∀id∈Al c,id∈Bq p)∧∀c∈cs,(∀x,c ≠ .agg x)∧(∀x,c ≠ .tup x):=by
 obtain⟨cs,h,Kg,Ui,hc⟩:=Pf h;refine⟨cs,h,Kg,?_⟩
 have single:(∀x,p ≠ .agg x)->cellsOf p=[p]:=by
  intro hp;cases p<;>first|rfl|exact absurd rfl (hp _)
 by_cases Fb:∃x,p=.agg x
 ·obtain⟨x,rfl⟩:=Fb;obtain⟨vs,rfl,h2⟩:=hv;have Db:cs.length=vs.length:=by rw[Kg,←hl];exact h2.len
  have key:∀(i:Nat) c u,cs[i]?=some c->vs[i]?=some u->Bs w A β c u∧u.oneCell'=true:=by
   intro i c u M6 hu;obtain⟨q,hq,_,_,hqv⟩:=hc i c M6;rw[Nat.zero_add] at hq;exact hqv w A β u (h2.at_ hq hu)
  refine⟨Bd.of_at Db fun i c u M6 hu=>(key i c u M6 hu).1,?_,?_,Ui⟩
  ·intro u hu;obtain⟨i,hi⟩:=List.mem_iff_getElem?.1 (show u∈vs from hu)
   have B6:i<vs.length:=by
    rcases Nat.lt_or_ge i vs.length with h|h
    ·exact h
    ·rw[List.getElem?_eq_none h] at hi;cases hi
   exact (key i _ u (List.getElem?_eq_getElem (by omega)) hi).2
  ·intro c ME id Bi;obtain⟨i,hi⟩:=List.mem_iff_getElem?.1 ME;obtain⟨q,hq,_,hr,_⟩:=hc i c hi;rw[Nat.zero_add] at hq;show id∈x.flatMap Al;exact List.mem_flatMap.2 ⟨q,List.mem_of_getElem? hq,hr id Bi⟩
 ·have hp:∀x,p ≠ .agg x:=fun x e=>Fb ⟨x,e⟩
  rw[single hp] at hl hc;have Yy:cs.length=1:=by rw[Kg,←hl];rfl
  match cs,Yy with
  |[c],_=>
   obtain⟨q,hq,hf,hr,hqv⟩:=hc 0 c rfl;simp at hq;subst hq;have Mg:∀x,p ≠ .tup x:=by rintro x rfl;exact hf
   have Lk:Bs w A β p v:=(Tk hp).1 ((Lv Mg).1 hv);obtain⟨h5,h6⟩:=hqv w A β v Lk;rw[Kf h6];refine⟨⟨h5,trivial⟩,?_,?_,Ui⟩
   ·intro u hu;simp at hu;subst hu;exact h6
   ·intro c' M6 id Bi;simp at M6;subst M6;have:=hr id Bi;cases p<;>first|exact this|exact absurd rfl (hp _)|exact absurd rfl (Mg _)
end
open Go.RowKit
section
variable {R:Type} {r:R} {P:Program} {N:Nat} {w0:World} {X0:Gv} {Y:Nat->Prop} {β β':Bt} {s:St} {a:Act} {w w':World} {o:Oper} {A:Nat->Prop}
theorem Bd.get {α β':Type}{R':α->β'->Prop}{zs:List α}{bs:List β'}(h:Bd R' zs bs){i:Nat}{x:α}(hx:zs[i]?=some x):∃y,bs[i]?=some y∧R' x y:=by
 have B6:i<zs.length:=by
  rcases Nat.lt_or_ge i zs.length with h|h
  ·exact h
  ·rw[List.getElem?_eq_none h] at hx;cases hx
 have hb:bs[i]?=some (bs[i]'(by rw[←h.len];exact B6)):=List.getElem?_eq_getElem _
 exact⟨_,hb,h.at_ hx hb⟩
theorem Adg {p:PV}{v:Value}{ts:List CT}{K:List PV->Option R}(hv:D1 w A β p v)(hl:(cellsOf p).length=ts.length) (h:Oa ts (cellsOf p) 0 K=some r):
  ∃cs,K cs=some r∧cs.length=ts.length∧Bd (Ar w A) cs v.cells.toList∧∀u∈v.cells.toList,u.oneCell'=true:=by
 obtain⟨cs,h,Kg,hc⟩:=Om h;refine⟨cs,h,Kg,?_⟩;by_cases Fb:∃x,p=.agg x
 ·obtain⟨x,rfl⟩:=Fb;obtain⟨vs,rfl,h2⟩:=hv;have Db:cs.length=vs.length:=by rw[Kg,←hl];exact h2.len
  have key:∀(i:Nat) c u,cs[i]?=some c->vs[i]?=some u->Ar w A c u∧u.oneCell'=true:=by
   intro i c u M6 hu;obtain⟨_,q,hq,_,hqv⟩:=hc i c M6;rw[Nat.zero_add] at hq;exact hqv w A β u (h2.at_ hq hu)
  refine⟨Bd.of_at Db fun i c u M6 hu=>(key i c u M6 hu).1,?_⟩
  intro u hu;obtain⟨i,hi⟩:=List.mem_iff_getElem?.1 (show u∈vs from hu)
  have B6:i<vs.length:=by
   rcases Nat.lt_or_ge i vs.length with h|h
   ·exact h
   ·rw[List.getElem?_eq_none h] at hi;cases hi
  exact (key i _ u (List.getElem?_eq_getElem (by omega)) hi).2
 ·have hp:∀x,p ≠ .agg x:=fun x e=>Fb ⟨x,e⟩
  have single:cellsOf p=[p]:=by cases p<;>first|rfl|exact absurd rfl (hp _)
  rw[single] at hl hc;have Yy:cs.length=1:=by rw[Kg,←hl];rfl
  match cs,Yy with
  |[c],_=>
   obtain⟨_,q,hq,hf,hqv⟩:=hc 0 c rfl;simp at hq;subst hq;have Mg:∀x,p ≠ .tup x:=by rintro x rfl;exact hf
   have Lk:Bs w A β p v:=(Tk hp).1 ((Lv Mg).1 hv);obtain⟨h5,h6⟩:=hqv w A β v Lk;rw[Kf h6];exact⟨⟨h5,trivial⟩,fun u hu=>by simp at hu;subst hu;exact h6⟩
theorem TY (h:Cl N w0 X0 Y β s a w){t:TypeId}{x:Operand}(ho:o.op=.box t x){d:Nat}{K:PV->List Nat->List (Nat × Bm)->Option R}
    (hk:(Bj (Hc P t&&Nat.beq (cellsOf (Bw s.tm x)).length (G0 P t).length)
      (bif Pe P t then Oa (G0 P t) (cellsOf (Bw s.tm x)) 0 fun cs=>K (.ptr d 0) [] [(d,.ar false cs)]
       else Li (G0 P t) (cellsOf (Bw s.tm x)) 0 fun cs=>K (.ptr d 0) [] [(d,.st cs)]))=some r):∃v fz nw,K v fz nw=some r∧Dw P a w o Y β s v fz nw:=by
  obtain⟨hl,hk⟩:=Aj hk
  simp only[Bool.and_eq_true] at hl
  have hl:=Nat.eq_of_beq_eq_true hl.2
  have Ch:(execOp a.eval o).run P w=.ok (.value (.pointer (some ⟨w.heap.size,0,none⟩))) (w.alloc (.cells (a.eval x).cells t)):=by
    unfold execOp
    rw[ho]
    simp[Instr.box,newVar,newRow]
  have hg:=Fj.alloc w (a.eval x).cells t
  cases ha:Pe P t
  · rw[ha] at hk
    obtain⟨cs,hk,_,h2,_,hr,_⟩:=SK (Cp h x) hl hk
    refine⟨_,_,_,hk,DZ Ch hg (fun j p hj=>?_) fun c hc id Bi=>Ej h x id (hr c hc id Bi)⟩
    obtain⟨u,hu,hp⟩:=h2.get hj
    exact⟨u,by simpa using hu,hp⟩
  · rw[ha] at hk
    obtain⟨cs,hk,_,h2,h1⟩:=Adg (Cp h x) hl hk
    refine⟨_,_,_,hk,Mc (by simp) Ch hg (fun j p hj=>?_) (.inl ⟨rfl,rfl⟩)⟩
    obtain⟨u,hu,hp⟩:=h2.get hj
    exact⟨u,by simpa using hu,h1 u (List.mem_of_getElem? hu),hp⟩
theorem MV {c:PV}(h1:∀x,c ≠ .agg x)(h2:∀x,c ≠ .tup x):Bq c=Al c:=by
 cases c<;>first|rfl|exact absurd rfl (h1 _)|exact absurd rfl (h2 _)
theorem Tj {t:TypeId}{ad:Addr}{cs:List PV}{p:PV}(hok:Hc P t=true)(Db:cs.length=(G0 P t).length)
  (Ui:∀c∈cs,(∀x,c ≠ .agg x)∧(∀x,c ≠ .tup x))
  (hc:∀(j:Nat) c,cs[j]?=some c->∃v,w.cell? (ad.add j)=some v∧Bs w A β c v)
  (hp:(Bx P t=true∧p=.agg cs)∨(Bx P t=false∧cs=[p])):∃val,(loadVar t ad).run P w=.ok val w∧D1 w A β p val:=by
 obtain⟨⟨d,hd⟩,hl,hi⟩:=M0 hok;rcases hp with⟨Fb,rfl⟩|⟨Fb,rfl⟩
 ·have hf:∀j,j<A8 P t->w.cell? (ad.add j)=some ((w.cell? (ad.add j)).getD undef):=by
   intro j hj;obtain⟨v,hv,_⟩:=hc j _ (List.getElem?_eq_getElem (by omega))
   rw[hv];rfl
  refine⟨_,?_,(List.range (A8 P t)).map (fun j=>(w.cell? (ad.add j)).getD undef),rfl,?_⟩
  ·simp only[loadVar,Sem.run_bind,Ke hd,Fb,Result.andThen_ok,if_true,Iu hi,run_loadCells w ad (A8 P t) _ hf];simp
  ·refine Bd.of_at (by simp;omega) fun i c u M6 hu=>?_
   obtain⟨v,hv,Vt⟩:=hc i c M6
   have B6:i<A8 P t:=by
    rcases Nat.lt_or_ge i cs.length with h|h
    ·omega
    ·rw[List.getElem?_eq_none h] at M6;cases M6
   rw[List.getElem?_map,List.getElem?_range B6] at hu;simp[hv] at hu;subst hu;exact Vt
 ·obtain⟨v,hv,Vt⟩:=hc 0 p rfl;have hn:=Ui p (by simp)
  have h0:ad.add 0=ad:=by simp[Addr.add]
  rw[h0] at hv;refine⟨v,?_,(Lv hn.2).2 ((Tk hn.1).2 Vt)⟩;simp only[loadVar,Sem.run_bind,Ke hd,Fb,Result.andThen_ok];simp[hv]
theorem Aax {hp:Nat->Option Bm}{id:Nat}{c:List PV}(h:rd hp id=some c):hp id=some (.st c)∨∃f,hp id=some (.ar f c):=by
 unfold rd at h;split at h
 ·rename_i e;simp at h;subst h;exact .inl e
 ·rename_i f _ e;simp at h;subst h;exact .inr ⟨_,e⟩
 ·cases h
theorem FB {hp:Nat->Option Bm}{id:Nat}{c:List PV}(h:Hx hp id=some c):∃f,hp id=some (.ar f c):=by
 unfold Hx at h;split at h
 ·rename_i e;simp at h;subst h;exact⟨_,e⟩
 ·cases h
theorem Zw (h:Cl N w0 X0 Y β s a w){id:Nat}{c:List PV}(hr:rd s.hp id=some c){b ob:Nat}(hβ:β id=some (b,ob)) {j:Nat}{p:PV}(hj:c[j]?=some p):
  ∃v,w.cell? ⟨b,ob+j,none⟩=some v∧Bs w (Cy s.hp β Y) β p v:=by
 rcases Aax hr with hb|⟨f,hb⟩
 ·obtain⟨b',o',h1,h2,_⟩:=h.box id _ hb;rw[hβ] at h1;simp at h1;obtain⟨rfl,rfl⟩:=h1;exact h2 j p hj
 ·rcases h.box id _ hb with⟨h1,_⟩|⟨b',o',h1,h2,_⟩
  ·rw[hβ] at h1;cases h1
  ·rw[hβ] at h1;simp at h1;obtain⟨rfl,rfl⟩:=h1
   obtain⟨v,hv,_,ht⟩:=h2 j p hj;rw[D5] at hv;refine⟨v,hv,?_⟩;cases ht with
   |sc=>exact Ar.sc _
   |top=>exact Ar.top _
   |ub=>exact Ar.ub _
   |lnil=>exact Ar.lnil _ _
   |lemp=>exact Ar.lemp _ _ _
   |lst es n cells a cap f hs hb hA hn hc h1 hr=>exact Ar.lst es n cells a cap f hs hb hA hn hc h1 hr
theorem Ie:∀{ts:List CT}{cells:List PV}{off:Nat}{K:List PV->Option R},Oa ts cells off K=some r->Li ts cells off K=some r
 |[],_,_,_,h=>h
 |.int k::ts,cells,off,K,h=>by
  obtain⟨n,hp,h⟩:=D2 (show Aw k (cells.getD off .top) _=some r from h)
  show Aw k _ _=_;rw[hp];simp only[Aw,if_true];exact Ie h
 |.bool::ts,cells,off,K,h=>by
  obtain⟨n,hp,h⟩:=Di (show Am (cells.getD off .top) _=some r from h)
  show Am _ _=_;rw[hp];exact Ie h
 |.str::ts,cells,off,K,h=>by
  obtain⟨n,hp,h⟩:=Dc (show A0 (cells.getD off .top) _=some r from h)
  show A0 _ _=_;rw[hp];exact Ie h
 |.sl es::ts,cells,off,K,h=>by
  obtain⟨z,n,c,h,hp⟩:=Eu (show Po es (cells.getD off .top) _=some r from h)
  change fcK (.sl es) (cells.getD off .top) (fun c=>Li ts cells (off+1) fun r=>K (c::r))=some r
  unfold fcK;dsimp only;unfold fsK;rcases hp with hp|⟨hp,rfl,rfl,rfl⟩
  ·rw[hp];simp only[Po,Nat.beq_refl,cond_true];exact Ie h
  ·rw[hp];exact Ie h
 |.any::ts,cells,off,K,h=>by
  have hK:∀v,Oa ts cells (off+1) (fun r=>K (.sc v::r))=some r->Li ts cells (off+1) (fun r=>K (.sc v::r))=some r:=fun v h=>Ie h
  have h:WH (cells.getD off .top) (fun v=>Oa ts cells (off+1) fun r=>K (.sc v::r))=some r:=h
  show WH (cells.getD off .top) (fun v=>Li ts cells (off+1) fun r=>K (.sc v::r))=some r
  unfold WH at h ⊢;split at h
  ·rename_i e;exact hK _ h
  ·exact hK _ h
  ·cases h
theorem Ar.unz {w:World}{A:Nat->Prop}{z:Bool}{es n:Nat}{c:List PV}{u:Value}(h:Ar w A (.lst z es n c) u):Ar w A (.lst false es n c) u:=by
 cases h with
 |lnil z es=>exact .lnil false es
 |lemp es a cap=>exact .lemp es a cap
 |lst es n c a cap f h1 h2 h3 h4 h5 h6 h7=>exact .lst es n c a cap f h1 h2 h3 h4 h5 h6 h7
theorem UR {w:World}{A:Nat->Prop}{β:Bt}{p:PV}{u:Value}(h:Bs w A β p u):Bs w A β (GA p) u:=by
 cases p with
 |lst z es n c=>exact Ar.unz h
 |_=>exact h
theorem NJ (p:PV):Al (GA p)=Al p:=by cases p<;>rfl
theorem CV {w:World}{A:Nat->Prop}{β:Bt}:∀{cs:List PV}{vs:List Value},Bd (Bs w A β) cs vs->Bd (Bs w A β) (cs.map GA) vs
 |[],[],_=>trivial
 |_::_,_::_,h=>⟨UR h.1,CV h.2⟩
 |[],_::_,h=>h.elim
 |_::_,[],h=>h.elim
theorem ST {w:World}{A:Nat->Prop}{β:Bt}{p:PV}{u:Value}(h:D1 w A β p u):D1 w A β (OL p) u:=by
 cases p with
 |agg cs=>
  obtain⟨vs,h1,h2⟩:=(show Gs w A β (.agg cs) u from h)
  exact⟨vs,h1,CV h2⟩
 |lst z es n c=>exact Ar.unz (show Ar w A (.lst z es n c) u from h)
 |_=>exact h
theorem VZ (p:PV):Bq (OL p)=Bq p:=by
 cases p with
 |agg cs=>
  show (cs.map GA).flatMap Al=cs.flatMap Al
  induction cs with
  |nil=>rfl
  |cons a l ih=>rw[List.map_cons,List.flatMap_cons,List.flatMap_cons,ih,NJ]
 |_=>rfl
theorem Af3 {nz:Bool}{hp:Nat->Option Bm}{t:TypeId}{x:PV}{K:PV->Option R}(h:Tn nz P (rd hp) (Hx hp) t x K=some r):
  Ru P (rd hp) t x K=some r∨Ru P (rd hp) t x (fun v=>K (OL v))=some r:=by
 have h':Ru P (rd hp) t x K=some r∨Ru P (rd hp) t x (fun v=>K (bif nz then v else OL v))=some r:=by
  unfold Tn at h;unfold Ru;split at h
  ·rename_i id off;obtain⟨hb,h⟩:=Aj h;rw[hb];show Dh _ _=_∨Dh _ _=_;split at h
   ·rename_i c hc;obtain⟨f,Jh⟩:=FB hc;have:rd hp id=some c:=by unfold rd;rw[Jh]
    rw[this];exact .inr (Ie h)
   ·exact .inl h
  ·exact .inr h
  ·cases h
 cases nz
 ·exact h'
 ·exact .inl (h'.elim id id)
theorem EH (h:Cl N w0 X0 Y β s a w){t:TypeId}{x:PV}{u:Value}(hx:D1 w (Cy s.hp β Y) β x u) {K:PV->Option R}(hk:Ru P (rd s.hp) t x K=some r):
  ∃v ad val,K v=some r∧u=.pointer (some ad)∧(loadVar t ad).run P w=.ok val w∧D1 w (Cy s.hp β Y) β v val∧∀i∈Bq v,s.hp i≠none:=by
 unfold Ru at hk;split at hk
 ·rename_i id off;obtain⟨hok,hk⟩:=Aj hk;obtain⟨c,hr,hk⟩:=B5 hk;obtain⟨cs,hk,hl,Ui,hc⟩:=Pf hk;obtain⟨b,ob,hβ,C4⟩:=hx
  have Cr:∀(j:Nat) q,cs[j]?=some q->∃v,w.cell? ((⟨b,ob+off,none⟩:Addr).add j)=some v∧Bs w (Cy s.hp β Y) β q v:=by
   intro j q hq;obtain⟨p,hp,_,_,U3⟩:=hc j q hq;obtain⟨v,hv,Vt⟩:=Zw h hr hβ hp;exact⟨v,by rw[D5,Nat.add_assoc];exact hv,(U3 _ _ _ _ Vt).1⟩
  have Qv:∀q∈cs,∀i∈Al q,s.hp i≠none:=by
   intro q hq i hi;obtain⟨j,hj⟩:=List.mem_iff_getElem?.1 hq;obtain⟨p,hp,_,hpr,_⟩:=hc j q hj;rcases Aax hr with hb|⟨f,hb⟩
   ·exact h.wfB id c hb p (List.mem_of_getElem? hp) i (hpr i hi)
   ·obtain⟨v,hv,Vt⟩:=Zw h hr hβ hp;exfalso;have Cn:=hpr i hi;rcases h.box id _ hb with⟨_,rfl⟩|⟨b',o',h1,h2,_⟩
    ·simp at hp
    ·obtain⟨v',_,_,ht⟩:=h2 _ p hp;cases ht<;>cases Cn
  rcases GQ hk with⟨Fb,Eb⟩|⟨Fb,q,rfl,Eb⟩
  ·obtain⟨val,Sn,hv⟩:=Tj hok hl Ui Cr (.inl ⟨Fb,rfl⟩);refine⟨_,_,val,Eb,C4,Sn,hv,fun i hi=>?_⟩
   obtain⟨q,hq,hi⟩:=List.mem_flatMap.1 (show i∈cs.flatMap Al from hi)
   exact Qv q hq i hi
  ·obtain⟨val,Sn,hv⟩:=Tj hok hl Ui Cr (.inr ⟨Fb,rfl⟩);refine⟨_,_,val,Eb,C4,Sn,hv,fun i hi=>Qv q (by simp) i ?_⟩
   have hn:=Ui q (by simp)
   rw[MV hn.1 hn.2] at hi;exact hi
 ·rename_i c off;obtain⟨hok,hk⟩:=Aj hk;obtain⟨cs,hk,hl,hc⟩:=Om hk;obtain⟨ad,C4,hs,hb,hA,XG⟩:=hx
  have Ui:∀q∈cs,(∀x,q ≠ .agg x)∧(∀x,q ≠ .tup x):=by
   intro q hq;obtain⟨j,hj⟩:=List.mem_iff_getElem?.1 hq;exact⟨R7 (hc j q hj).1,SC (hc j q hj).1⟩
  have Cr:∀(j:Nat) q,cs[j]?=some q->∃v,w.cell? ((ad.add off).add j)=some v∧Bs w (Cy s.hp β Y) β q v:=by
   intro j q hq;obtain⟨hT,p,hp,Xj,U3⟩:=hc j q hq;obtain⟨v,hv,_,ht⟩:=XG (off+j) p hp;exact⟨v,by rw[add_add];exact hv,(I4 hT).2 (U3 w (Cy s.hp β Y) β v ((I4 Xj).2 ht)).1⟩
  have Qv:∀q∈cs,Al q=[]:=by
   intro q hq;obtain⟨j,hj⟩:=List.mem_iff_getElem?.1 hq;exact Gl (hc j q hj).1
  rcases GQ hk with⟨Fb,Eb⟩|⟨Fb,q,rfl,Eb⟩
  ·obtain⟨val,Sn,hv⟩:=Tj hok hl Ui Cr (.inl ⟨Fb,rfl⟩);refine⟨_,_,val,Eb,C4,Sn,hv,fun i hi=>?_⟩
   obtain⟨q,hq,hi⟩:=List.mem_flatMap.1 (show i∈cs.flatMap Al from hi)
   rw[Qv q hq] at hi;cases hi
  ·obtain⟨val,Sn,hv⟩:=Tj hok hl Ui Cr (.inr ⟨Fb,rfl⟩);refine⟨_,_,val,Eb,C4,Sn,hv,fun i hi=>?_⟩
   have hn:=Ui q (by simp)
   rw[MV hn.1 hn.2,Qv q (by simp)] at hi
   cases hi
 ·cases hk
theorem LT (h:Cl N w0 X0 Y β s a w){t:TypeId}{x:PV}{u:Value}(hx:D1 w (Cy s.hp β Y) β x u) {nz:Bool}{K:PV->Option R}(hk:Tn nz P (rd s.hp) (Hx s.hp) t x K=some r):
  ∃v ad val,K v=some r∧u=.pointer (some ad)∧(loadVar t ad).run P w=.ok val w∧D1 w (Cy s.hp β Y) β v val∧∀i∈Bq v,s.hp i≠none:=by
 rcases Af3 hk with hk|hk
 ·exact EH h hx hk
 ·obtain⟨v,ad,val,h1,h2,h3,h4,h5⟩:=EH h hx hk;exact⟨OL v,ad,val,h1,h2,h3,ST h4,by rw[VZ];exact h5⟩
theorem OB (h:Cl N w0 X0 Y β s a w){t:TypeId}{x:Operand}(ho:o.op=.load t x){nz:Bool}{K:PV->Option R}(hk:Tn nz P (rd s.hp) (Hx s.hp) t (Bw s.tm x) K=some r):
  ∃v,K v=some r∧Dw P a w o Y β s v [] []:=by
 obtain⟨v,ad,val,Du,C4,hl,hv,hr⟩:=LT h (Cp h x) hk;refine⟨v,Du,B0 ?_ hv hr⟩;unfold execOp;rw[ho];simp[Instr.loadAt,Instr.sureAddr,C4,hl]
theorem TX {x:PV}{d:Nat}{K:PV->Option R}(h:Oj x d K=some r):(∃id off,x=.ptr id off∧K (.ptr id (off+d))=some r)∨∃c off,x=.iptr c off∧K (.iptr c (off+d))=some r:=by
 unfold Oj at h;split at h
 ·exact .inl ⟨_,_,rfl,h⟩
 ·exact .inr ⟨_,_,rfl,h⟩
 ·cases h
theorem Q7 (h:Cl N w0 X0 Y β s a w){x:Operand}{d:Nat}{K:PV->Option R}(hk:Oj (Bw s.tm x) d K=some r)
  (Ch:∀ad:Addr,a.eval x=.pointer (some ad)->(execOp a.eval o).run P w=.ok (.value (.pointer (some (ad.add d)))) w):∃v,K v=some r∧Dw P a w o Y β s v [] []:=by
 have hx:=Cp h x;have Z9:=Ej h x;rcases TX hk with⟨id,off,e,hk⟩|⟨c,off,e,hk⟩
 ·rw[e] at hx Z9;obtain⟨b,ob,hβ,C4⟩:=hx;refine⟨_,hk,B0 (Ch _ C4) ⟨b,ob,hβ,by rw[D5,Nat.add_assoc]⟩ Z9⟩
 ·rw[e] at hx;obtain⟨ad,C4,h1,h2,h3,h4⟩:=hx;exact⟨_,hk,B0 (Ch _ C4) ⟨ad,by rw[add_add],h1,h2,h3,h4⟩ (by intro i hi;cases hi)⟩
theorem Y0 (h:Cl N w0 X0 Y β s a w){x:Operand}(ho:o.op=.nilCheck x){K:PV->Option R}(hk:Oj (Bw s.tm x) 0 K=some r):∃v,K v=some r∧Dw P a w o Y β s v [] []:=by
 refine Q7 h hk fun ad C4=>?_
 unfold execOp;rw[ho];simp[C4,Addr.add]
theorem Sk {t:TypeId}{f:Nat}{q:Nat × TypeId}(h:M2 P t f=some q):∃fs g,P.underlying t=some (.struct fs)∧fs[f]?=some g∧q=(g.offset,g.type):=by
 unfold M2 at h;split at h
 ·rename_i fs e;cases hg:fs[f]? with
  |none=>rw[hg] at h;cases h
  |some g=>rw[hg] at h;simp at h;exact⟨fs,g,e,hg,h.symm⟩
 ·cases h
theorem V6 (h:Cl N w0 X0 Y β s a w){t:TypeId}{x:Operand}{f:Nat}(ho:o.op=.fieldAddr t x f){K:PV->Option R}
  (hk:(Dh (M2 P t f) fun q=>Bj (Nat.ble 1 (A8 P q.2)) (Oj (Bw s.tm x) q.1 K))=some r):∃v,K v=some r∧Dw P a w o Y β s v [] []:=by
 obtain⟨q,hq,hk⟩:=B5 hk;obtain⟨hs,hk⟩:=Aj hk;obtain⟨fs,g,hu,hg,rfl⟩:=Sk hq;have hs:1<=A8 P g.type:=Nat.le_of_ble_eq_true hs;have La:=ZH (P:=P) (t:=g.type) rfl (by omega)
 refine Q7 h hk fun ad C4=>?_
 unfold execOp;rw[ho];have Ek:¬A8 P g.type=0:=by omega
 simp[Instr.fieldAt,run_underlying hu,hg,Instr.sureAddr,C4,fieldPlace,Iu La,Ek]
end
open Go.RowKit
section
variable {R:Type} {r:R} {P:Program} {N:Nat} {w0:World} {X0:Gv} {Y:Nat->Prop} {β β':Bt} {s:St} {a:Act} {w w':World} {o:Oper} {A:Nat->Prop}
theorem Yr (h:Cl N w0 X0 Y β s a w){t:TypeId}{cs:List PV}{vs:List Value}{off:Nat}{K:PV->Option R}{x:Operand}(hx:Bw s.tm x=.agg cs)(hv:Bd (Bs w (Cy s.hp β Y) β) cs vs)
  (hk:Bj (Hc P t) (Li (G0 P t) cs off fun c=>SE (Bx P t) c K)=some r)
  (Ch:∀val,(part t ⟨vs⟩ off).run P w=.ok val w->(execOp a.eval o).run P w=.ok (.value val) w):∃v,K v=some r∧Dw P a w o Y β s v [] []:=by
 obtain⟨hok,hk⟩:=Aj hk;obtain⟨⟨d,hd⟩,hl,hi⟩:=M0 hok;obtain⟨qs,hk,hql,Ui,hq⟩:=Pf hk;have Z9:=Ej h x;rw[hx] at Z9
 have Cr:∀(j:Nat) q,qs[j]?=some q->∃v,vs[off+j]?=some v∧Bs w (Cy s.hp β Y) β q v:=by
  intro j q hj;obtain⟨p,hp,_,_,U3⟩:=hq j q hj;obtain⟨v,Lk,hc⟩:=hv.get hp;exact⟨v,Lk,(U3 _ _ _ _ hc).1⟩
 have Qv:∀q∈qs,∀i∈Al q,s.hp i≠none:=by
  intro q hqm i hi;obtain⟨j,hj⟩:=List.mem_iff_getElem?.1 hqm;obtain⟨p,hp,_,hpr,_⟩:=hq j q hj;exact Z9 i (List.mem_flatMap.2 ⟨p,List.mem_of_getElem? hp,hpr i hi⟩)
 rcases GQ hk with⟨Fb,Eb⟩|⟨Fb,q,rfl,Eb⟩
 ·have Wg:A8 P t=0∨off+A8 P t<=vs.length:=by
   rcases Nat.eq_zero_or_pos (A8 P t) with h0|h0
   ·exact .inl h0
   ·obtain⟨v,Lk,_⟩:=Cr (A8 P t-1) _ (List.getElem?_eq_getElem (by omega))
    have:off+(A8 P t-1)<vs.length:=by
     rcases Nat.lt_or_ge (off+(A8 P t-1)) vs.length with h|h
     ·exact h
     ·rw[List.getElem?_eq_none h] at Lk;cases Lk
    exact .inr (by omega)
  refine⟨_,Eb,B0 (Ch (.agg ⟨(vs.drop off).take (A8 P t)⟩) ?_) ⟨(vs.drop off).take (A8 P t),rfl,?_⟩ fun i hi=>?_⟩
  ·simp only[part,Sem.run_bind,Ke hd,Fb,Result.andThen_ok,if_true,Iu hi];simp[List.extract_eq_take_drop]
  ·refine Bd.of_at ?_ fun i c u hc hu=>?_
   ·simp only[List.length_take,List.length_drop];omega
   ·obtain⟨v,Lk,Vt⟩:=Cr i c hc
    have B6:i<A8 P t:=by
     rcases Nat.lt_or_ge i qs.length with h|h
     ·omega
     ·rw[List.getElem?_eq_none h] at hc;cases hc
    rw[List.getElem?_take_of_lt B6,List.getElem?_drop,Lk] at hu;cases hu;exact Vt
  ·obtain⟨q,hqm,hi⟩:=List.mem_flatMap.1 (show i∈qs.flatMap Al from hi)
   exact Qv q hqm i hi
 ·obtain⟨v,Lk,Vt⟩:=Cr 0 q rfl;have hn:=Ui q (by simp)
  refine⟨_,Eb,B0 (Ch v ?_) ((Lv hn.2).2 ((Tk hn.1).2 Vt)) fun i hi=>?_⟩
  ·simp only[part,Sem.run_bind,Ke hd,Fb,Result.andThen_ok];rw[Nat.add_zero] at Lk;simp[Lk]
  ·rw[MV hn.1 hn.2] at hi;exact Qv q (by simp) i hi
theorem MB (h:Cl N w0 X0 Y β s a w){t:TypeId}{x:Operand}{f:Nat}(ho:o.op=.field t x f){K:PV->Option R}
  (hk:(Dh (M2 P t f) fun q=>Bj (Hc P q.2)<|G7 (Bw s.tm x) fun cs=>Li (G0 P q.2) cs q.1 fun c=>SE (Bx P q.2) c K)=some r):∃v,K v=some r∧Dw P a w o Y β s v [] []:=by
 obtain⟨q,hq,hk⟩:=B5 hk;obtain⟨hok,hk⟩:=Aj hk;obtain⟨cs,hx,hk⟩:=Gf hk;obtain⟨fs,g,hu,hg,rfl⟩:=Sk hq;have hxv:=Cp h x;rw[hx] at hxv;obtain⟨vs,C4,hv⟩:=hxv;refine Yr (t:=g.type) (off:=g.offset) h hx hv (by rw[show Hc P g.type=true from hok];exact hk) fun val hp=>?_
 unfold execOp;rw[ho];simp[Instr.field,run_underlying hu,hg,asAgg,C4,hp]
theorem AZ (h:Cl N w0 X0 Y β s a w){x:Operand}{i:Nat}(ho:o.op=.extract x i){K:PV->Option R}
  (hk:(match Bw s.tm x with | .tup vs=>Dh vs[i]? K|_=>none)=some r):∃v,K v=some r∧Dw P a w o Y β s v [] []:=by
 have hx:=Cp h x;have Z9:=Ej h x;split at hk
 ·rename_i ps e;rw[e] at hx Z9;obtain⟨p,hp,hk⟩:=B5 hk;obtain⟨vs,C4,hv⟩:=hx;obtain⟨v,Lk,U3⟩:=hv.get hp
  have Ag5:∀y,p ≠ .tup y:=by
   rintro y rfl
   have Aw3:Ar _ _ (.tup y) v:=U3;cases Aw3
  refine⟨p,hk,B0 (val:=v) ?_ ((Lv Ag5).2 U3) fun id Bi=>Z9 id ?_⟩
  ·unfold execOp;rw[ho];simp[Instr.extract,C4,Lk]
  ·refine List.mem_flatMap.2 ⟨p,List.mem_of_getElem? hp,?_⟩;cases p<;>first|exact Bi|exact absurd rfl (Ag5 _)
 ·cases hk
theorem Fm {es:Nat}{p:PV}{z:Bool}{n:Nat}{c:List PV}{v:Value}(hp:p=.lst z es n c∨(p=.sc (.slice none 0 0)∧z=true∧n=0∧c=[])) (hv:D1 w A β p v):
  (v=.slice none 0 0∧n=0∧c=[])∨(∃ad cap,v=.slice (some ad) n cap∧z=false∧n<=cap∧ad.spot=none∧ad.block<w.heap.size∧¬A ad.block∧MT w A ad c)∨∃ad cap,v=.slice (some ad) 0 cap∧z=false∧n=0∧c=[]:=by
 have Lk:Bs w A β p v:=by rcases hp with rfl|⟨rfl,_⟩<;>exact hv
 have ht:=Rf hp Lk;cases ht with
 |lnil=>exact .inl ⟨rfl,rfl,rfl⟩
 |lst _ _ _ ad cap f hs hb hA hn hc h1 hr=>exact .inr (.inl ⟨ad,cap,rfl,rfl,hn,hs,hb,hA,fun j q hj=>⟨f j,hc j q hj,h1 j q hj,hr j q hj⟩⟩)
 |lemp _ ad cap=>exact .inr (.inr ⟨ad,cap,rfl,rfl,rfl,rfl⟩)
theorem V8 (h:Cl N w0 X0 Y β s a w){t:TypeId}{x i:Operand}(ho:o.op=.indexAddr t x i){K:PV->Option R}
  (hk:(Df (Bw s.tm i) fun _ n=>Ic P t (Bw s.tm x) n K)=some r):∃v,K v=some r∧Dw P a w o Y β s v [] []:=by
 obtain⟨ik,n,hi,hk⟩:=Da hk;have hai:=B2 h hi;have hx:=Cp h x;have Z9:=Ej h x;unfold Ic at hk;split at hk
 ·rename_i len e hu;obtain⟨hz,hk⟩:=Aj hk;obtain⟨hb,hk⟩:=Aj hk;simp only[Bool.and_eq_true,decide_eq_true_eq] at hb;obtain⟨inf,L2⟩:=Option.isSome_iff_exists.1 hz;refine Q7 h hk fun ad C4=>?_
  unfold execOp;rw[ho];simp[Instr.indexAt,asIntOf,hai,C4,run_underlying hu,Instr.sureAddr,hb.1,hb.2,sizeOf,typeInfo,L2,A8]
 ·rename_i e hu;obtain⟨hz,hk⟩:=Aj hk;obtain⟨inf,L2⟩:=Option.isSome_iff_exists.1 hz;have La:A8 P e=inf.size:=by simp[A8,L2]
  split at hk
  ·rename_i id es off n' e';rw[e'] at hx Z9;obtain⟨Qn,hk⟩:=Aj hk;have Qn:=Nat.eq_of_beq_eq_true Qn;subst Qn;obtain⟨hb,hk⟩:=Aj hk;simp only[Bool.and_eq_true,decide_eq_true_eq] at hb;rcases hx with⟨_,_,rfl,_⟩|⟨b,ob,y,cap,hβ,C4,hy,_⟩
   ·omega
   ·have hy:y=ob+off:=by rcases hy with hy|⟨rfl,_⟩<;>omega
    subst hy;refine⟨_,hk,B0 (val:=.pointer (some ⟨b,ob+(off+n.toNat*A8 P e),none⟩)) ?_ ⟨b,ob,hβ,rfl⟩ Z9⟩;unfold execOp;rw[ho];simp[Instr.indexAt,asIntOf,hai,C4,run_underlying hu,hb.1,hb.2,sizeOf,typeInfo,L2,La,D5,Nat.add_assoc]
  ·obtain⟨z,n',c,hk,hp⟩:=Eu hk;obtain⟨hb,hk⟩:=Aj hk;simp only[Bool.and_eq_true,decide_eq_true_eq] at hb;rcases Fm hp hx with⟨_,rfl,_⟩|⟨ad,cap,C4,_,_,h1,h2,h3,h4⟩|⟨_,_,_,_,rfl,_⟩
   ·omega
   rotate_left
   ·omega
   ·refine⟨_,hk,B0 (val:=.pointer (some (ad.add (n.toNat*A8 P e)))) ?_ ⟨ad,rfl,h1,h2,h3,h4⟩ (by intro i hi;cases hi)⟩
    unfold execOp;rw[ho];simp[Instr.indexAt,asIntOf,hai,C4,run_underlying hu,hb.1,hb.2,sizeOf,typeInfo,L2,La]
 ·cases hk
theorem MM (h:Cl N w0 X0 Y β s a w){t:TypeId}{x i:Operand}(ho:o.op=.index t x i){K:PV->Option R}
  (hk:(Df (Bw s.tm i) fun _ n=>
   match P.underlying t with
   |some .string=>A0 (Bw s.tm x) fun s=>Bj (decide (0<=n)) (Dh (s.data.toList[n.toNat]?) fun b=>K (.sc (.int .u8 b.toNat)))
   |some (.array len e)=>G7 (Bw s.tm x) fun cs=>Bj (decide (0<=n)&&decide (n<len)&&Hc P e) (Li (G0 P e) cs (n.toNat*A8 P e) fun c=>SE (Bx P e) c K)
   |_=>none)=some r):∃v,K v=some r∧Dw P a w o Y β s v [] []:=by
 obtain⟨ik,n,hi,hk⟩:=Da hk;have hai:=B2 h hi;split at hk
 ·rename_i hu;obtain⟨sb,hx,hk⟩:=Dc hk;have C4:=B2 h hx;obtain⟨h0,hk⟩:=Aj hk;obtain⟨b,hb,hk⟩:=B5 hk;have h0:=of_decide_eq_true h0;refine⟨_,hk,Cd ?_⟩
  have B6:n.toNat<sb.size:=by
   rcases Nat.lt_or_ge n.toNat sb.data.toList.length with h|h
   ·simpa using h
   ·rw[List.getElem?_eq_none h] at hb;cases hb
  have G1:sb[n.toNat]=b:=by
   have:sb.data.toList[n.toNat]?=some sb[n.toNat]:=by
    rw[List.getElem?_eq_getElem (by simpa using B6)]
    rfl
   rw[hb] at this;injection this with this;exact this.symm
  unfold execOp;rw[ho];simp[Instr.index,asIntOf,hai,C4,run_underlying hu,h0,B6,G1]
 ·rename_i len e hu;obtain⟨cs,hx,hk⟩:=Gf hk;obtain⟨hb,hk⟩:=Aj hk;simp only[Bool.and_eq_true,decide_eq_true_eq] at hb;have hxv:=Cp h x;rw[hx] at hxv;obtain⟨vs,C4,hv⟩:=hxv;obtain⟨_,_,La⟩:=M0 hb.2;refine Yr (t:=e) (off:=n.toNat*A8 P e) h hx hv (by rw[hb.2];exact hk) fun val hp=>?_
  unfold execOp;rw[ho];simp[Instr.index,asIntOf,hai,C4,run_underlying hu,hb.1.1,hb.1.2,Iu La,hp]
 ·cases hk
end
open Go.RowKit
section
variable {R:Type} {r:R} {P:Program} {N:Nat} {w0:World} {X0:Gv} {Y:Nat->Prop} {β β':Bt} {s:St} {a:Act} {w w':World} {o:Oper} {A:Nat->Prop}
theorem Do (h:Cl N w0 X0 Y β s a w){x:Option Operand}{dflt:Nat}{K:Nat->Option R}(hk:Fw (x.map (Bw s.tm)) dflt K=some r):
  ∃l,K l=some r∧((x=none∧l=dflt)∨∃y k,x=some y∧a.eval y=.int k (l:Int)):=by
 cases x with
 |none=>exact⟨dflt,hk,.inl ⟨rfl,rfl⟩⟩
 |some y=>
  obtain⟨k,i,hi,hk⟩:=Da (show Df (Bw s.tm y) _=some r from hk)
  obtain⟨h0,hk⟩:=Aj hk;have h0:=of_decide_eq_true h0;exact⟨i.toNat,hk,.inr ⟨y,k,rfl,by rw[B2 h hi,Int.toNat_of_nonneg h0]⟩⟩
theorem Hb {lo hi:Option Operand}{isS:Bool}{len cap l u:Nat}(hl:(lo=none∧l=0)∨∃y k,lo=some y∧a.eval y=.int k (l:Int))
  (hu:(hi=none∧u=len)∨∃y k,hi=some y∧a.eval y=.int k (u:Int)) (h1:l<=u)(h2:u<=cap):
  (Instr.sliceBounds isS len cap (lo.map a.eval) (hi.map a.eval) none).run P w=.ok (l,u,cap) w:=by
 rcases hl with⟨rfl,rfl⟩|⟨y,k,rfl,hy⟩<;>rcases hu with⟨rfl,rfl⟩|⟨y',k',rfl,hy'⟩
 ·simp[Instr.sliceBounds]
 ·simp[Instr.sliceBounds,Instr.sliceBound,asIntOf,hy',h2]
 ·simp[Instr.sliceBounds,Instr.sliceBound,asIntOf,hy,h1]
 ·simp[Instr.sliceBounds,Instr.sliceBound,asIntOf,hy,hy',h1,h2]
theorem Cm {e:TypeId}(h:(P.info? e).isSome=true) (w:World):(sizeOf e).run P w=.ok (A8 P e) w:=by
 obtain⟨i,hi⟩:=Option.isSome_iff_exists.1 h;exact Iu (by simp[A8,hi]) w
theorem Yh {b j:Nat}{v:Value}(h:w.cell? ⟨b,j,none⟩=some v):j<bsz w b:=by
 unfold World.cell? at h;unfold bsz;split at h
 ·rename_i c e fz hb;simp only at hb;rw[hb];simp only[Option.isSome_none,Bool.false_eq_true,if_false] at h;rcases Nat.lt_or_ge j c.size with B6|XE
  ·exact B6
  ·rw[Array.getElem?_eq_none XE] at h;cases h
 ·cases h
theorem IQ (h:Cl N w0 X0 Y β s a w){t:TypeId}{x:Operand}{lo hi:Option Operand}(ho:o.op=.slice t x lo hi none){K:PV->Option R}
  (hk:Ue P (rd s.hp) t (Bw s.tm x) (lo.map (Bw s.tm)) (hi.map (Bw s.tm)) K=some r):∃v,K v=some r∧Dw P a w o Y β s v [] []:=by
 have hx:=Cp h x;have Z9:=Ej h x;unfold Ue at hk;split at hk
 ·rename_i hu;obtain⟨sb,Z8,hk⟩:=Dc hk;have C4:=B2 h Z8;obtain⟨l,hk,hl⟩:=Do h hk;obtain⟨u,hk,Hp⟩:=Do h hk;obtain⟨hb,hk⟩:=Aj hk;simp only[Bool.and_eq_true,decide_eq_true_eq] at hb;refine⟨_,hk,Cd ?_⟩;unfold execOp;rw[ho];simp[Instr.sliceAt,Instr.slice,run_underlying hu,C4,Hb hl Hp hb.1 hb.2]
 ·rename_i e hu;obtain⟨L2,hk⟩:=Aj hk;split at hk
  ·rename_i id es off n e';rw[e'] at hx Z9;obtain⟨Qn,hk⟩:=Aj hk;have Qn:=Nat.eq_of_beq_eq_true Qn;subst Qn;obtain⟨l,hk,hl⟩:=Do h hk;obtain⟨u,hk,Hp⟩:=Do h hk;obtain⟨hb,hk⟩:=Aj hk;simp only[Bool.and_eq_true,decide_eq_true_eq] at hb;rcases hx with⟨hβ,rfl,rfl,ad,C4⟩|⟨b,ob,y,cap,hβ,C4,hy,hn,Q9,B6⟩
   ·have hu0:u=0:=by omega
    have YA:l=0:=by omega
    subst hu0 YA;refine⟨_,hk,B0 (val:=.slice ad 0 0) ?_ (.inl ⟨hβ,by simp,rfl,ad,rfl⟩) Z9⟩
    unfold execOp;rw[ho];cases ad<;>simp[Instr.sliceAt,Instr.slice,run_underlying hu,C4,Hb hl Hp (Nat.le_refl 0) (Nat.le_refl 0),Cm L2]
   ·have Ch:(execOp a.eval o).run P w=.ok (.value (.slice (some (if cap=l then ⟨b,y,none⟩ else ⟨b,y+l*A8 P e,none⟩)) (u-l) (cap-l))) w:=by
     unfold execOp;rw[ho];have HZ:=Hb (P:=P) (w:=w) (isS:=true) hl Hp hb.1 (Nat.le_trans hb.2 hn);simp[Instr.sliceAt,Instr.slice,run_underlying hu,C4,HZ,Cm L2,D5];split<;>rfl
    refine⟨_,hk,B0 Ch (.inr ?_) Z9⟩;by_cases hc:cap=l
    ·rw[if_pos hc];refine⟨b,ob,y,cap-l,hβ,rfl,?_,by omega,⟨by rw[hc,Nat.sub_self];have:=Q9.1;omega,Q9.2⟩,B6⟩
     by_cases h0:l*A8 P e=0
     ·rw[h0,Nat.add_zero];rcases hy with hy|⟨Tu,L7⟩
      ·exact .inl hy
      ·exact .inr ⟨by omega,L7⟩
     ·exact .inr ⟨by omega,by omega⟩
    ·rw[if_neg hc];refine⟨b,ob,y+l*A8 P e,cap-l,hβ,rfl,?_,by omega,?_,B6⟩
     ·rcases hy with hy|⟨Tu,L7⟩
      ·exact .inl (by omega)
      ·exact .inr ⟨by omega,by omega⟩
     ·have:l*A8 P e+(cap-l)*A8 P e=cap*A8 P e:=by
       rw[←Nat.add_mul]
       congr 1
       omega
      have:=Q9.1;exact⟨by omega,Q9.2⟩
  ·obtain⟨z,n,c,hk,hp⟩:=Eu hk;obtain⟨l,hk,hl⟩:=Do h hk;obtain⟨u,hk,Hp⟩:=Do h hk;obtain⟨hb,hk⟩:=Aj hk;simp only[Bool.and_eq_true,decide_eq_true_eq] at hb;rcases Fm hp hx with⟨C4,rfl,rfl⟩|⟨ad,cap,C4,rfl,hn,h1,h2,h3,h4⟩|⟨ad,cap,C4,rfl,rfl,rfl⟩
   rotate_right
   ·have hu0:u=0:=by omega
    have YA:l=0:=by omega
    subst hu0 YA;refine⟨_,hk,B0 (val:=.slice (some (if cap=0 then ad else ad.add (0*A8 P e))) (0-0) (cap-0)) ?_ ?_ (by intro i hi;cases hi)⟩
    ·unfold execOp;rw[ho];have HZ:=Hb (P:=P) (w:=w) (isS:=true) hl Hp (Nat.le_refl 0) (Nat.zero_le cap);simp[Instr.sliceAt,Instr.slice,run_underlying hu,C4,HZ,Cm L2];split<;>rfl
    ·have:((([]:List PV).drop (0*A8 P e)).take ((0-0)*A8 P e))=[]:=by simp
     rw[this];exact Ar.lemp _ _ _
   ·have hu0:u=0:=by omega
    have YA:l=0:=by omega
    subst hu0 YA;refine⟨_,hk,B0 (val:=.slice none 0 0) ?_ ?_ (by intro i hi;cases hi)⟩
    ·unfold execOp;rw[ho];simp[Instr.sliceAt,Instr.slice,run_underlying hu,C4,Hb hl Hp (Nat.le_refl 0) (Nat.le_refl 0),Cm L2]
    ·have:((([]:List PV).drop (0*A8 P e)).take ((0-0)*A8 P e))=[]:=by simp
     rw[this];exact Ar.lnil z _
   ·have Ch:(execOp a.eval o).run P w=.ok (.value (.slice (some (if cap=l then ad else ad.add (l*A8 P e))) (u-l) (cap-l))) w:=by
     unfold execOp;rw[ho];have HZ:=Hb (P:=P) (w:=w) (isS:=true) hl Hp hb.1 (Nat.le_trans hb.2 hn);simp[Instr.sliceAt,Instr.slice,run_underlying hu,C4,HZ,Cm L2];split<;>rfl
    refine⟨_,hk,B0 Ch ?_ (by intro i hi;cases hi)⟩
    by_cases hc:cap=l
    ·rw[if_pos hc];have:u-l=0:=by omega
     rw[this];simp only[Nat.zero_mul,List.take_zero];exact Ar.lst _ _ [] ad _ (fun _=>undef) h1 h2 h3 (by omega) (by simp) (by simp) (by simp)
    ·rw[if_neg hc]
     have Cr:∀(j:Nat) q,((c.drop (l*A8 P e)).take ((u-l)*A8 P e))[j]?=some q->c[l*A8 P e+j]?=some q:=by
      intro j q hq;rw[List.getElem?_take] at hq;split at hq
      ·rw[List.getElem?_drop] at hq;exact hq
      ·cases hq
     refine Ar.lst _ _ _ (ad.add (l*A8 P e)) _ (fun j=>(w.cell? (ad.add (l*A8 P e+j))).getD undef) (XP h1 _) (by rw[Ef];exact h2) (by rw[Ef];exact h3) (by omega) (fun j q hq=>?_) (fun j q hq=>?_) (fun j q hq=>?_)
     ·obtain⟨v,hv,_⟩:=h4 _ q (Cr j q hq);rw[add_add,hv];rfl
     ·obtain⟨v,hv,h5,_⟩:=h4 _ q (Cr j q hq);rw[hv];exact h5
     ·obtain⟨v,hv,_,ht⟩:=h4 _ q (Cr j q hq);rw[hv];exact ht
 ·rename_i n e hu;obtain⟨L2,hk⟩:=Aj hk;split at hk
  ·rename_i id off e';rw[e'] at hx Z9;obtain⟨c,hrc,hk⟩:=B5 hk;obtain⟨Db,hk⟩:=Aj hk;simp only[Bool.and_eq_true,decide_eq_true_eq] at Db;have Qn:=Nat.eq_of_beq_eq_true Db.2
   replace Db:=Db.1
   obtain⟨l,hk,hl⟩:=Do h hk;obtain⟨u,hk,Hp⟩:=Do h hk;obtain⟨hb,hk⟩:=Aj hk;simp only[Bool.and_eq_true,decide_eq_true_eq] at hb;obtain⟨b,ob,hβ,C4⟩:=hx
   have AF:ob+off+n*A8 P e<=bsz w b:=by
    obtain⟨v,hv,_⟩:=Zw h hrc hβ (j:=off+n*A8 P e-1) (List.getElem?_eq_getElem (by omega))
    have:=Yh hv;omega
   have B6:b<w.heap.size:=h.blt id b ob (Z9 id (by simp[Bq,B8,Al])) hβ
   have Ch:(execOp a.eval o).run P w=.ok (.value (.slice (some (if n=l then ⟨b,ob+off,none⟩ else ⟨b,ob+off+l*A8 P e,none⟩)) (u-l) (n-l))) w:=by
    unfold execOp;rw[ho];have HZ:=Hb (P:=P) (w:=w) (isS:=false) hl Hp hb.1 hb.2;simp[Instr.sliceAt,Instr.sureAddr,run_underlying hu,C4,HZ,Cm L2,D5]
   refine⟨_,hk,B0 Ch (.inr ?_) Z9⟩;by_cases hc:n=l
   ·rw[if_pos hc];refine⟨b,ob,ob+off,n-l,hβ,rfl,?_,by omega,⟨by rw[hc,Nat.sub_self];omega,.inl Qn⟩,B6⟩
    by_cases h0:l*A8 P e=0
    ·rw[h0,Nat.add_zero];exact .inl rfl
    ·exact .inr ⟨by omega,by omega⟩
   ·rw[if_neg hc];refine⟨b,ob,ob+off+l*A8 P e,n-l,hβ,rfl,.inl (by omega),by omega,?_,B6⟩
    have:l*A8 P e+(n-l)*A8 P e=n*A8 P e:=by
     rw[←Nat.add_mul]
     congr 1
     omega
    exact⟨by omega,.inl Qn⟩
  ·cases hk
 ·cases hk
end
open Go.RowKit
section
variable {R:Type} {r:R} {P:Program} {N:Nat} {w0:World} {X0:Gv} {Y:Nat->Prop} {β β':Bt} {s:St} {a:Act} {w w':World} {o:Oper} {A:Nat->Prop}
theorem WD (h:Cl N w0 X0 Y β s a w){c:Call}(ho:o.op=.call c)(hc:c.callee=.builtin .len){K:PV->Option R}
  (hk:(Aa c.args.toList fun x _=>Aa c.argTypes.toList fun t _=>UK P t (Bw s.tm x) fun n=>K (.sc (.int .i64 n)))=some r):∃v,K v=some r∧Dw P a w o Y β s v [] []:=by
 obtain⟨x,xs,Z8,hk⟩:=A7 hk;obtain⟨t,ts,HS,hk⟩:=A7 hk;have hx:=Cp h x;have Eh:c.args=(x::xs).toArray:=by rw[←Z8]
 have Wk:c.argTypes=(t::ts).toArray:=by rw[←HS]
 have Ch:∀n:Nat,(Builtin.len_ c.argTypes o.type (c.args.map a.eval)).run P w=.ok (.int .i64 n) w->(execOp a.eval o).run P w=.ok (.value (.int .i64 n)) w:=by
  intro n hl;unfold execOp;rw[ho];simp only[resolve,hc,invoke,builtin,Sem.run_bind,Sem.run_pure,Result.andThen_ok,hl]
 unfold UK at hk;split at hk
 ·rename_i hu;obtain⟨sb,A14,hk⟩:=Dc hk;have C4:=B2 h A14;refine⟨_,hk,Cd (Ch _ ?_)⟩;simp[Builtin.len_,Eh,Wk,run_underlying hu,C4,goInt]
 ·rename_i n e hu;refine⟨_,hk,Cd (Ch _ ?_)⟩;simp[Builtin.len_,Eh,Wk,run_underlying hu,goInt]
 ·rename_i e hu;split at hk
  ·rename_i id es off n e';rw[e'] at hx;obtain⟨_,hk⟩:=Aj hk;refine⟨_,hk,Cd (Ch _ ?_)⟩;rcases hx with⟨_,_,rfl,ad,C4⟩|⟨b,ob,y,cap,_,C4,_⟩<;>simp[Builtin.len_,Eh,Wk,run_underlying hu,C4,goInt]
  ·obtain⟨z,n,cc,hk,hp⟩:=Eu hk;refine⟨_,hk,Cd (Ch _ ?_)⟩;rcases Fm hp hx with⟨C4,rfl,_⟩|⟨ad,cap,C4,_⟩|⟨ad,cap,C4,_,rfl,_⟩<;>simp[Builtin.len_,Eh,Wk,run_underlying hu,C4,goInt]
 ·cases hk
theorem VA (h:Cl N w0 X0 Y β s a w){c:Call}(ho:o.op=.call c)(hc:c.callee=.builtin .cap){K:PV->Option R}
  (hk:(Aa c.args.toList fun x _=>Aa c.argTypes.toList fun t _=>WE P t (Bw s.tm x) fun n=>K (.sc (.int .i64 n)))=some r):∃v,K v=some r∧Dw P a w o Y β s v [] []:=by
 obtain⟨x,xs,Z8,hk⟩:=A7 hk;obtain⟨t,ts,HS,hk⟩:=A7 hk;have hx:=Cp h x;have Eh:c.args=(x::xs).toArray:=by rw[←Z8]
 have Wk:c.argTypes=(t::ts).toArray:=by rw[←HS]
 have Ch:∀n:Nat,(Builtin.cap_ c.argTypes o.type (c.args.map a.eval)).run P w=.ok (.int .i64 n) w->(execOp a.eval o).run P w=.ok (.value (.int .i64 n)) w:=by
  intro n hl;unfold execOp;rw[ho];simp only[resolve,hc,invoke,builtin,Sem.run_bind,Sem.run_pure,Result.andThen_ok,hl]
 unfold WE at hk;split at hk
 ·rename_i e hu;obtain⟨z,n,cc,hk,hp⟩:=Eu hk;obtain⟨hz,hk⟩:=Aj hk;refine⟨_,hk,Cd (Ch _ ?_)⟩;rcases Fm hp hx with⟨C4,rfl,_⟩|⟨ad,cap,C4,Yb,_⟩|⟨ad,cap,C4,Yb,_,_⟩
  ·simp[Builtin.cap_,Eh,Wk,run_underlying hu,C4,goInt]
  ·rw[hz] at Yb;cases Yb
  ·rw[hz] at Yb;cases Yb
 ·cases hk
theorem VT (h:Cl N w0 X0 Y β s a w){c:Call}(ho:o.op=.call c)(hc:c.callee=.builtin .min){K:PV->Option R}
  (hk:(Aa c.args.toList fun x r=>Aa r fun y r'=>Ad r' (Ac3 (Bw s.tm x) (Bw s.tm y) K))=some r):∃v,K v=some r∧Dw P a w o Y β s v [] []:=by
 obtain⟨x,xs,Z8,hk⟩:=A7 hk;obtain⟨y,ys,rfl,hk⟩:=A7 hk;obtain⟨rfl,hk⟩:=Dd hk;obtain⟨k,n,hx,hk⟩:=Da hk;obtain⟨m,hy,hk⟩:=D2 hk
 have Eh:c.args = #[x,y]:=by
  have:c.args=([x,y]:List Operand).toArray:=by rw[←Z8]
  exact this
 refine⟨_,hk,Cd ?_⟩;unfold execOp;rw[ho];simp[resolve,hc,invoke,builtin,Eh,Builtin.min_,Builtin.min2,B2 h hx,B2 h hy]
theorem UN (h:Cl N w0 X0 Y β s a w){c:Call}(ho:o.op=.call c)(hc:c.callee=.builtin .max){K:PV->Option R}
  (hk:(Aa c.args.toList fun x r=>Aa r fun y r'=>Ad r' (Aff (Bw s.tm x) (Bw s.tm y) K))=some r):∃v,K v=some r∧Dw P a w o Y β s v [] []:=by
 obtain⟨x,xs,Z8,hk⟩:=A7 hk;obtain⟨y,ys,rfl,hk⟩:=A7 hk;obtain⟨rfl,hk⟩:=Dd hk;obtain⟨k,n,hx,hk⟩:=Da hk;obtain⟨m,hy,hk⟩:=D2 hk
 have Eh:c.args = #[x,y]:=by
  have:c.args=([x,y]:List Operand).toArray:=by rw[←Z8]
  exact this
 refine⟨_,hk,Cd ?_⟩;unfold execOp;rw[ho];simp[resolve,hc,invoke,builtin,Eh,Builtin.max_,Builtin.max2,B2 h hx,B2 h hy]
theorem PA (h:Cl N w0 X0 Y β s a w){op:UnOp}{t:TypeId}{x:Operand}(ho:o.op=.unOp op t x){K:PV->Option R}(hk:unK op (Bw s.tm x) K=some r):
  ∃v,K v=some r∧Dw P a w o Y β s v [] []:=by
 unfold unK at hk;split at hk
 ·obtain⟨b,hb,hk⟩:=Di hk;refine⟨_,hk,Cd ?_⟩;unfold execOp;rw[ho];simp[Op.unary,B2 h hb]
 ·obtain⟨k,n,hb,hk⟩:=Da hk;refine⟨_,hk,Cd ?_⟩;unfold execOp;rw[ho];simp[Op.unary,Op.intArith,B2 h hb]
 ·obtain⟨k,n,hb,hk⟩:=Da hk;refine⟨_,hk,Cd ?_⟩;unfold execOp;rw[ho];simp[Op.unary,Op.intBits,B2 h hb,Aqf]
 ·cases hk
theorem SX {op:BinOp}{k:IntKind}{m n:Int}{t:TypeId}{x y:Operand}{K:PV->Option R}(WV:op ≠ .shl)(Q3:op ≠ .shr)(hk:Zy op k m n K=some r):
  ∃v,K (.sc v)=some r∧(do eqGuard op t x y (.int k m) (.int k n);binOp op t (.int k m) (.int k n)).run P w=.ok v w:=by
 cases op<;>first
  |exact absurd rfl WV
  |exact absurd rfl Q3
  |(obtain⟨hb,hk⟩:=Aj hk;have hb:=of_decide_eq_true hb;exact⟨_,hk,by simp[eqGuard,binOp,Op.intDiv,hb]⟩)
  |exact⟨_,hk,by simp[eqGuard,binOp,-BitVec.toNat_and,-BitVec.toNat_or,-BitVec.toNat_xor,-gt_iff_lt,-ge_iff_le]<;>rfl⟩
theorem TP {op:BinOp}{m n:ByteArray}{t:TypeId}{x y:Operand}{K:PV->Option R}(hk:Zd op m n K=some r):
  ∃v,K (.sc v)=some r∧(do eqGuard op t x y (.string m) (.string n);binOp op t (.string m) (.string n)).run P w=.ok v w:=by
 cases op<;>first
  |cases hk
  |(obtain⟨hb,hk⟩:=Aj hk;have hb:=of_decide_eq_true hb;exact⟨_,hk,by
    have G1:¬(((m.size+n.size:Nat):Int)>IntKind.i64.max):=by
     have:IntKind.i64.max=9223372036854775807:=rfl;rw[this];omega
    simp only[eqGuard,binOp,Op.stringOp,if_neg G1];rfl⟩)
  |exact⟨_,hk,by simp only[eqGuard,binOp,Op.stringOp,ByteArray.toList_eq];rfl⟩
end
open Go.RowKit
section
variable {R:Type} {r:R} {P:Program} {N:Nat} {w0:World} {X0:Gv} {Y:Nat->Prop} {β β':Bt} {s:St} {a:Act} {w w':World} {o:Oper} {A:Nat->Prop}
theorem Xk {t:TypeId}(hu:P.underlying t=some .bool)(x y:Bool):(Op.equal t (.bool x) (.bool y)).run P w=.ok (x==y) w:=by
 have h:∀d,(Op.equalIn (d+1) t (.bool x) (.bool y)).run P w=.ok (x==y) w:=fun d=>by simp[Op.equalIn,run_underlying hu]
 exact h 9999
theorem Qc {t e:TypeId}(hu:P.underlying t=some (.slice e)) (x:Option Addr)(n c:Nat):(Op.equal t (.slice x n c) (.slice none 0 0)).run P w=.ok x.isNone w:=by
 have h:∀d,(Op.equalIn (d+1) t (.slice x n c) (.slice none 0 0)).run P w=.ok x.isNone w:=fun d=>by
  cases x<;>simp[Op.equalIn,run_underlying hu]
 exact h 9999
theorem To {t k e:TypeId}(hu:P.underlying t=some (.map k e)):(Op.equal t (.map none) (.map none)).run P w=.ok true w:=by
 have h:∀d,(Op.equalIn (d+1) t (.map none) (.map none)).run P w=.ok true w:=fun d=>by
  simp[Op.equalIn,run_underlying hu]
 exact h 9999
theorem Hl {t:TypeId}(d:Nat){v u:Value}(hv:(∃k m n,P.underlying t=some (.int k)∧v=.int k m∧u=.int k n)∨(∃m n,P.underlying t=some .bool∧v=.bool m∧u=.bool n)∨∃m n,P.underlying t=some .string∧v=.string m∧u=.string n) {b:Bool}
  (hb:∀k m n,v=.int k m->u=.int k n->b=(m==n)) (G1:∀m n,v=.bool m->u=.bool n->b=(m==n)) (A0e:∀m n,v=.string m->u=.string n->b=(m==n)):(Op.equalIn (d+1) t v u).run P w=.ok b w:=by
 rcases hv with⟨k,m,n,hu,rfl,rfl⟩|⟨m,n,hu,rfl,rfl⟩|⟨m,n,hu,rfl,rfl⟩
 ·rw[hb k m n rfl rfl];simp[Op.equalIn,run_underlying hu]
 ·rw[G1 m n rfl rfl];simp[Op.equalIn,run_underlying hu]
 ·rw[A0e m n rfl rfl];simp[Op.equalIn,run_underlying hu]
theorem Nb {t:TypeId}{dsc:TypeDesc}(hu:P.underlying t=some dsc)(hd:Bx P t=false){xs:Array Value}{i:Nat}{v:Value}(hv:xs[i]?=some v):(part t xs i).run P w=.ok v w:=by
 simp only[part,Sem.run_bind,Ke hu,hd,Result.andThen_ok];simp[hv]
theorem CW (k:IntKind)(n:Int)(K:Int->Option R):Aw k (.sc (.int k n)) K=K n:=by simp[Aw]
theorem LA (d : Nat) : ∀ (fs : List Field) (i : Nat) (xs ys : Array Value) (ps qs : List PV) (K : Bool -> Option R), JU P fs i = true -> Ja (fs.map (fty P)) ps qs K = some r ->
    (∀ (j : Nat) p, ps[j]? = some p -> ∃ v, xs[i + j]? = some v ∧ Bs w A β p v) -> (∀ (j : Nat) p, qs[j]? = some p -> ∃ v, ys[i + j]? = some v ∧ Bs w A β p v) ->
    ∃ b, K b = some r ∧ (forIn fs ((none, ()) : Option Bool × Unit) fun (f : Field) (_ : Option Bool × Unit) =>
            if f.name = "_" then pure (ForInStep.yield ((none, ()) : Option Bool × Unit))
            else do
              let x ← part f.type xs f.offset
              let y ← part f.type ys f.offset
              let e ← Op.equalIn (d + 1) f.type x y
              if e = false then pure (ForInStep.done ((some false, ()) : Option Bool × Unit)) else pure (ForInStep.yield ((none, ()) : Option Bool × Unit)) : Sem (Option Bool × Unit)).run P w = .ok (if b then (none, ()) else (some false, ())) w
  | [], i, xs, ys, ps, qs, K, _, hk, _, _ => by
    cases ps with
    | nil => cases qs with
      | nil => exact⟨true, hk, by simp⟩
      | cons q qs => cases hk
    | cons p ps => cases hk
  | f :: fs, i, xs, ys, ps, qs, K, S9, hk, hp, hq => by
    simp only[JU, Bool.and_eq_true] at S9
    obtain⟨⟨⟨L7, Abd⟩, hty⟩, Qu⟩ := S9
    have L7 := Nat.eq_of_beq_eq_true L7
    have Za : f.name ≠ "_" := by simpa using Abd
    cases ps with
    | nil =>
      simp only[List.map_cons] at hk
      cases Ajr : fty P f <;> rw[Ajr] at hk <;> cases hk
    | cons p ps =>
      cases qs with
      | nil =>
        simp only[List.map_cons] at hk
        cases Ajr : fty P f <;> rw[Ajr] at hk <;> cases hk
      | cons q qs =>
        obtain⟨v, hv, U3⟩ := hp 0 p rfl
        obtain⟨u, hu, hqu⟩ := hq 0 q rfl
        rw[Nat.add_zero] at hv hu
        have main : ∃ b0 dsc, P.underlying f.type = some dsc ∧ Bx P f.type = false ∧ (Op.equalIn (d + 1) f.type v u).run P w = .ok b0 w ∧ Ja (fs.map (fty P)) ps qs (fun r => K (b0 && r)) = some r := by
          simp only[List.map_cons] at hk
          unfold fty at hk
          split at hk
          · rename_i k H5
            obtain⟨m, DO, Du⟩ := D2 (show Aw k p _ = some r from hk)
            obtain⟨n, AA, Eb⟩ := D2 Du
            subst DO AA
            have Lk : v = .int k m := Ar.val (w := w) (A := A) U3
            have Hp : u = .int k n := Ar.val (w := w) (A := A) hqu
            subst Lk Hp
            refine⟨m == n, _, H5, by simp[Bx, H5], Hl d (.inl ⟨k, m, n, H5, rfl, rfl⟩) ?_ ?_ ?_, Eb⟩
            · intro k' m' n' h1 h2; injection h1 with _ h1; injection h2 with _ h2; rw[h1, h2]
            · intro m' n' h1; cases h1
            · intro m' n' h1; cases h1
          · rename_i H5
            obtain⟨m, DO, Du⟩ := Di (show Am p _ = some r from hk)
            obtain⟨n, AA, Eb⟩ := Di Du
            subst DO AA
            have Lk : v = .bool m := Ar.val (w := w) (A := A) U3
            have Hp : u = .bool n := Ar.val (w := w) (A := A) hqu
            subst Lk Hp
            refine⟨m == n, _, H5, by simp[Bx, H5], Hl d (.inr (.inl ⟨m, n, H5, rfl, rfl⟩)) ?_ ?_ ?_, Eb⟩
            · intro k' m' n' h1; cases h1
            · intro m' n' h1 h2; injection h1 with h1; injection h2 with h2; rw[h1, h2]
            · intro m' n' h1; cases h1
          · rename_i H5
            obtain⟨m, DO, Du⟩ := Dc (show A0 p _ = some r from hk)
            obtain⟨n, AA, Eb⟩ := Dc Du
            subst DO AA
            have Lk : v = .string m := Ar.val (w := w) (A := A) U3
            have Hp : u = .string n := Ar.val (w := w) (A := A) hqu
            subst Lk Hp
            refine⟨m == n, _, H5, by simp[Bx, H5], Hl d (.inr (.inr ⟨m, n, H5, rfl, rfl⟩)) ?_ ?_ ?_, Eb⟩
            · intro k' m' n' h1; cases h1
            · intro m' n' h1; cases h1
            · intro m' n' h1 h2; injection h1 with h1; injection h2 with h2; rw[h1, h2]
          · cases hk
        obtain⟨b0, dsc, H5, Fb, he, hk⟩ := main
        obtain⟨b, hkb, Ch⟩ := LA d fs (i + 1) xs ys ps qs _ Qu hk (fun j p' hj => by have := hp (j + 1) p' hj; rwa [Nat.add_assoc, Nat.add_comm 1 j]) (fun j p' hj => by have := hq (j + 1) p' hj; rwa [Nat.add_assoc, Nat.add_comm 1 j])
        refine⟨b0 && b, hkb, ?_⟩
        have hpx : (part f.type xs f.offset).run P w = .ok v w := Nb H5 Fb (by rw[L7]; exact hv)
        have hpy : (part f.type ys f.offset).run P w = .ok u w := Nb H5 Fb (by rw[L7]; exact hu)
        cases b0
        · simp[List.forIn_cons, Za, hpx, hpy, he]
        · simp only[Bool.true_and]
          rw[← Ch]
          simp[List.forIn_cons, Za, hpx, hpy, he]
theorem Wl (d:Nat){t:TypeId}{fs:Array Field}(hu:P.underlying t=some (.struct fs)) (Fd:P.stoodInHeld t=false)(S9:JU P fs.toList 0=true){xs ys:List PV}{vx vy:List Value}
  (hvx:Bd (Bs w A β) xs vx) (hvy:Bd (Bs w A β) ys vy) {K:Bool->Option R}(hk:Ja (fs.toList.map (fty P)) xs ys K=some r):
  ∃b,K b=some r∧(Op.equalIn (d+2) t (.agg ⟨vx⟩) (.agg ⟨vy⟩)).run P w=.ok b w:=by
 obtain⟨b,hkb,Ch⟩:=LA (P:=P) (w:=w) (A:=A) (β:=β) d fs.toList 0 ⟨vx⟩ ⟨vy⟩ xs ys K S9 hk (fun j p hj=>by
   obtain⟨v,hv,hc⟩:=hvx.get hj;exact⟨v,by simpa using hv,hc⟩) (fun j p hj=>by
   obtain⟨v,hv,hc⟩:=hvy.get hj;exact⟨v,by simpa using hv,hc⟩)
 refine⟨b,hkb,?_⟩;rw[Array.forIn_toList] at Ch;rw[Op.equalIn];simp[run_underlying hu,Fd];rw[Ch];cases b<;>simp
theorem Sv:∀(ts1:List CT){ts2:List CT}{ps qs:List PV}{K:Bool->Option R},Ja (ts1++ts2) ps qs K=some r ->
  Ja ts1 (ps.take ts1.length) (qs.take ts1.length) (fun b=>Ja ts2 (ps.drop ts1.length) (qs.drop ts1.length) fun r'=>K (b&&r'))=some r
 |[],ts2,ps,qs,K,h=>by
  simp only[List.length_nil,List.take_zero,List.drop_zero,Ja,Bool.true_and];exact h
 |t::ts1,ts2,ps,qs,K,h=>by
  rw[List.cons_append] at h;cases ps with
  |nil=>cases t<;>cases h
  |cons p ps=>
   cases qs with
   |nil=>cases t<;>cases h
   |cons q qs=>
    simp only[List.length_cons,List.take_succ_cons,List.drop_succ_cons];cases t with
    |int k=>
     obtain⟨m,DO,h1⟩:=D2 (show Aw k p _=some r from h)
     obtain⟨n,AA,h2⟩:=D2 h1;subst DO AA;have:=Sv ts1 h2;simp only[←Bool.and_assoc] at this;exact (CW _ _ _).trans ((CW _ _ _).trans this)
    |bool=>
     obtain⟨m,DO,h1⟩:=Di (show Am p _=some r from h)
     obtain⟨n,AA,h2⟩:=Di h1;subst DO AA;have:=Sv ts1 h2;simp only[←Bool.and_assoc] at this;exact this
    |str=>
     obtain⟨m,DO,h1⟩:=Dc (show A0 p _=some r from h)
     obtain⟨n,AA,h2⟩:=Dc h1;subst DO AA;have:=Sv ts1 h2;simp only[←Bool.and_assoc] at this;exact this
    |sl es=>cases h
    |any=>cases h
theorem JK:∀(ts:List CT){ps qs:List PV}{K:Bool->Option R},Ja ts ps qs K=some r->ps.length=ts.length∧qs.length=ts.length
 |[],ps,qs,K,h=>by
  cases ps with
  |nil=>cases qs with
   |nil=>exact⟨rfl,rfl⟩
   |cons q qs=>cases h
  |cons p ps=>cases h
 |t::ts,ps,qs,K,h=>by
  cases ps with
  |nil=>cases t<;>cases h
  |cons p ps=>
   cases qs with
   |nil=>cases t<;>cases h
   |cons q qs=>
    have go:∃K',Ja ts ps qs K'=some r:=by
     cases t with
     |int k=>
      obtain⟨m,DO,h1⟩:=D2 (show Aw k p _=some r from h)
      obtain⟨n,AA,h2⟩:=D2 h1;exact⟨_,h2⟩
     |bool=>
      obtain⟨m,DO,h1⟩:=Di (show Am p _=some r from h)
      obtain⟨n,AA,h2⟩:=Di h1;exact⟨_,h2⟩
     |str=>
      obtain⟨m,DO,h1⟩:=Dc (show A0 p _=some r from h)
      obtain⟨n,AA,h2⟩:=Dc h1;exact⟨_,h2⟩
     |sl es=>cases h
     |any=>cases h
    obtain⟨K',h'⟩:=go;have:=JK ts h';exact⟨by simp[this.1],by simp[this.2]⟩
theorem MF {t:TypeId}{dsc:TypeDesc}(hu:P.underlying t=some dsc)(hd:Bx P t=true)(hi:(P.info? t).isSome=true) (xs:Array Value)(i:Nat):(part t xs i).run P w=.ok (.agg (xs.extract i (i+A8 P t))) w:=by
 simp only[part,Sem.run_bind,Ke hu,hd,Result.andThen_ok,if_true,Cm hi];rfl
theorem DY {xs:Array Value}{i n:Nat}{ps:List PV}(hn:n<=ps.length)(hp:∀(j:Nat) p,ps[j]?=some p->∃v,xs[i+j]?=some v∧Bs w A β p v):Bd (Bs w A β) (ps.take n) (xs.extract i (i+n)).toList:=by
 rcases Nat.eq_zero_or_pos n with h0|h0
 ·subst h0;simp[Bd]
 have hl:n-1<ps.length:=by omega
 obtain⟨v,hv,_⟩:=hp (n-1) _ (List.getElem?_eq_getElem hl);have La:=(Array.getElem?_eq_some_iff.1 hv).1;refine Bd.of_at (by simp;omega) fun j a b ha hb=>?_
 rw[List.getElem?_take] at ha;split at ha
 ·rename_i hj;obtain⟨v,hv,hc⟩:=hp j a ha;rw[Array.getElem?_toList,Array.getElem?_extract] at hb;split at hb
  ·rw[hv] at hb;cases hb;exact hc
  ·cases hb
 ·cases ha
theorem Vn {f:Field}{gs:Array Field}(hu:P.underlying f.type=some (.struct gs)):KI P f=gs.toList.map (fty P):=by unfold KI;rw[hu]
theorem NZ {f:Field}(h:∀gs,P.underlying f.type≠some (.struct gs)):KI P f=[fty P f]:=by
 unfold KI;split
 ·rename_i gs hu;exact absurd hu (h gs)
 ·rfl
theorem QP (d : Nat) : ∀ (fs : List Field) (i : Nat) (xs ys : Array Value) (ps qs : List PV) (K : Bool -> Option R), Kz P fs i = true -> Ja (Qz P fs) ps qs K = some r ->
    (∀ (j : Nat) p, ps[j]? = some p -> ∃ v, xs[i + j]? = some v ∧ Bs w A β p v) -> (∀ (j : Nat) p, qs[j]? = some p -> ∃ v, ys[i + j]? = some v ∧ Bs w A β p v) ->
    ∃ b, K b = some r ∧ (forIn fs ((none, ()) : Option Bool × Unit) fun (f : Field) (_ : Option Bool × Unit) =>
            if f.name = "_" then pure (ForInStep.yield ((none, ()) : Option Bool × Unit))
            else do
              let x ← part f.type xs f.offset
              let y ← part f.type ys f.offset
              let e ← Op.equalIn (d + 2) f.type x y
              if e = false then pure (ForInStep.done ((some false, ()) : Option Bool × Unit)) else pure (ForInStep.yield ((none, ()) : Option Bool × Unit)) : Sem (Option Bool × Unit)).run P w = .ok (if b then (none, ()) else (some false, ())) w
  | [], i, xs, ys, ps, qs, K, _, hk, _, _ => by
    cases ps with
    | nil => cases qs with
      | nil => exact⟨true, hk, by simp⟩
      | cons q qs => cases hk
    | cons p ps => cases hk
  | f :: fs, i, xs, ys, ps, qs, K, S9, hk, hp, hq => by
    simp only[Kz, Bool.and_eq_true] at S9
    obtain⟨⟨L7, Abd⟩, hty⟩ := S9
    have L7 := Nat.eq_of_beq_eq_true L7
    have Za : f.name ≠ "_" := by simpa using Abd
    have main : ∃ b0 v u n, (part f.type xs f.offset).run P w = .ok v w ∧ (part f.type ys f.offset).run P w = .ok u w ∧ (Op.equalIn (d + 2) f.type v u).run P w = .ok b0 w ∧ Kz P fs (i + n) = true ∧ Ja (Qz P fs) (ps.drop n) (qs.drop n) (fun r' => K (b0 && r')) = some r := by
      have hk := Sv (KI P f) (show Ja (KI P f ++ Qz P fs) ps qs K = some r from hk)
      have Db := JK _ hk
      rw[List.length_take, List.length_take] at Db
      have plain : (∀ gs, P.underlying f.type ≠ some (.struct gs)) -> Kz P fs (i + 1) = true -> (match P.underlying f.type with | some (.int _) => true | some .bool => true | some .string => true | _ => false) = true ->
          ∃ b0 v u n, (part f.type xs f.offset).run P w = .ok v w ∧ (part f.type ys f.offset).run P w = .ok u w ∧ (Op.equalIn (d + 2) f.type v u).run P w = .ok b0 w ∧ Kz P fs (i + n) = true ∧ Ja (Qz P fs) (ps.drop n) (qs.drop n) (fun r' => K (b0 && r')) = some r := by
        intro hs Ait R2
        rw[NZ hs] at hk Db
        simp only[List.length_singleton] at hk Db
        obtain⟨p, ps, rfl⟩ : ∃ p ps', ps = p :: ps' := by
          cases ps with
          | nil => simp at Db
          | cons p ps => exact⟨p, ps, rfl⟩
        obtain⟨q, qs, rfl⟩ : ∃ q qs', qs = q :: qs' := by
          cases qs with
          | nil => simp at Db
          | cons q qs => exact⟨q, qs, rfl⟩
        obtain⟨v, hv, U3⟩ := hp 0 p rfl
        obtain⟨u, hu, hqu⟩ := hq 0 q rfl
        rw[Nat.add_zero] at hv hu
        simp only[List.take_succ_cons, List.take_zero, List.drop_succ_cons, List.drop_zero] at hk ⊢
        have one : ∃ b0 dsc, P.underlying f.type = some dsc ∧ Bx P f.type = false ∧ (Op.equalIn (d + 2) f.type v u).run P w = .ok b0 w ∧ Ja (Qz P fs) ps qs (fun r' => K (b0 && r')) = some r := by
          unfold fty at hk
          split at hk
          · rename_i k H5
            obtain⟨m, DO, Du⟩ := D2 (show Aw k p _ = some r from hk)
            obtain⟨n, AA, Eb⟩ := D2 Du
            subst DO AA
            have Lk : v = .int k m := Ar.val (w := w) (A := A) U3
            have Hp : u = .int k n := Ar.val (w := w) (A := A) hqu
            subst Lk Hp
            have e : ∀ b : Bool, (b && true) = b := Bool.and_true
            simp only[Ja, e] at Eb
            refine⟨m == n, _, H5, by simp[Bx, H5], Hl (d + 1) (.inl ⟨k, m, n, H5, rfl, rfl⟩) ?_ ?_ ?_, Eb⟩
            · intro k' m' n' h1 h2; injection h1 with _ h1; injection h2 with _ h2; rw[h1, h2]
            · intro m' n' h1; cases h1
            · intro m' n' h1; cases h1
          · rename_i H5
            obtain⟨m, DO, Du⟩ := Di (show Am p _ = some r from hk)
            obtain⟨n, AA, Eb⟩ := Di Du
            subst DO AA
            have Lk : v = .bool m := Ar.val (w := w) (A := A) U3
            have Hp : u = .bool n := Ar.val (w := w) (A := A) hqu
            subst Lk Hp
            have e : ∀ b : Bool, (b && true) = b := Bool.and_true
            simp only[Ja, e] at Eb
            refine⟨m == n, _, H5, by simp[Bx, H5], Hl (d + 1) (.inr (.inl ⟨m, n, H5, rfl, rfl⟩)) ?_ ?_ ?_, Eb⟩
            · intro k' m' n' h1; cases h1
            · intro m' n' h1 h2; injection h1 with h1; injection h2 with h2; rw[h1, h2]
            · intro m' n' h1; cases h1
          · rename_i H5
            obtain⟨m, DO, Du⟩ := Dc (show A0 p _ = some r from hk)
            obtain⟨n, AA, Eb⟩ := Dc Du
            subst DO AA
            have Lk : v = .string m := Ar.val (w := w) (A := A) U3
            have Hp : u = .string n := Ar.val (w := w) (A := A) hqu
            subst Lk Hp
            have e : ∀ b : Bool, (b && true) = b := Bool.and_true
            simp only[Ja, e] at Eb
            refine⟨m == n, _, H5, by simp[Bx, H5], Hl (d + 1) (.inr (.inr ⟨m, n, H5, rfl, rfl⟩)) ?_ ?_ ?_, Eb⟩
            · intro k' m' n' h1; cases h1
            · intro m' n' h1; cases h1
            · intro m' n' h1 h2; injection h1 with h1; injection h2 with h2; rw[h1, h2]
          · cases hk
        obtain⟨b0, dsc, H5, Fb, he, hk⟩ := one
        exact⟨b0, v, u, 1, Nb H5 Fb (by rw[L7]; exact hv), Nb H5 Fb (by rw[L7]; exact hu), he, Ait, by simpa using hk⟩
      split at hty
      · rename_i k H5
        exact plain (fun gs e => by rw[H5] at e; cases e) hty (by rw[H5])
      · rename_i H5
        exact plain (fun gs e => by rw[H5] at e; cases e) hty (by rw[H5])
      · rename_i H5
        exact plain (fun gs e => by rw[H5] at e; cases e) hty (by rw[H5])
      · rename_i gs H5
        simp only[Bool.and_eq_true, Bool.not_eq_true'] at hty
        obtain⟨⟨⟨⟨hfp, Fd⟩, hi⟩, La⟩, Qu⟩ := hty
        have La := Nat.eq_of_beq_eq_true La
        have Kg : (KI P f).length = gs.size := by rw[Vn H5, List.length_map, Array.length_toList]
        rw[Kg] at hk Db
        rw[Vn H5] at hk
        have hx := DY (n := gs.size) (by omega) hp
        have hy := DY (n := gs.size) (by omega) hq
        obtain⟨b0, hkb, he⟩ := Wl d H5 Fd hfp hx hy hk
        have ha : Bx P f.type = true := by simp[Bx, H5]
        exact⟨b0, _, _, gs.size, by rw[MF H5 ha hi, L7, La], by rw[MF H5 ha hi, L7, La], he, Qu, hkb⟩
      · cases hty
    obtain⟨b0, v, u, n, hpx, hpy, he, Ait, hk⟩ := main
    obtain⟨b, hkb, Ch⟩ := QP d fs (i + n) xs ys (ps.drop n) (qs.drop n) _ Ait hk (fun j p' hj => by rw[List.getElem?_drop] at hj; have := hp (n + j) p' hj; rwa [← Nat.add_assoc] at this) (fun j p' hj => by rw[List.getElem?_drop] at hj; have := hq (n + j) p' hj; rwa [← Nat.add_assoc] at this)
    refine⟨b0 && b, hkb, ?_⟩
    cases b0
    · simp[List.forIn_cons, Za, hpx, hpy, he]
    · simp only[Bool.true_and]
      rw[← Ch]
      simp[List.forIn_cons, Za, hpx, hpy, he]
theorem Zt (d:Nat){t:TypeId}{fs:Array Field}(hu:P.underlying t=some (.struct fs)) (Fd:P.stoodInHeld t=false)(S9:Kz P fs.toList 0=true){xs ys:List PV}{vx vy:List Value}
  (hvx:Bd (Bs w A β) xs vx) (hvy:Bd (Bs w A β) ys vy) {K:Bool->Option R}(hk:Ja (Qz P fs.toList) xs ys K=some r):
  ∃b,K b=some r∧(Op.equalIn (d+3) t (.agg ⟨vx⟩) (.agg ⟨vy⟩)).run P w=.ok b w:=by
 obtain⟨b,hkb,Ch⟩:=QP (P:=P) (w:=w) (A:=A) (β:=β) d fs.toList 0 ⟨vx⟩ ⟨vy⟩ xs ys K S9 hk (fun j p hj=>by
   obtain⟨v,hv,hc⟩:=hvx.get hj;exact⟨v,by simpa using hv,hc⟩) (fun j p hj=>by
   obtain⟨v,hv,hc⟩:=hvy.get hj;exact⟨v,by simpa using hv,hc⟩)
 refine⟨b,hkb,?_⟩;rw[Array.forIn_toList] at Ch;rw[Op.equalIn];simp[run_underlying hu,Fd];rw[Ch];cases b<;>simp
theorem BT (h:Cl N w0 X0 Y β s a w){t:TypeId}{fs:Array Field}{x y:Operand}{op:BinOp}(hop:op=.eql∨op=.neq)(hu:P.underlying t=some (.struct fs)) (S9:GV P t fs=true){xs ys:List PV}
  (hx:Bw s.tm x=.agg xs)(hy:Bw s.tm y=.agg ys){K:Bool->Option R}(hk:Ja (Qz P fs.toList) xs ys K=some r):
  ∃b,K b=some r∧(do eqGuard op t x y (a.eval x) (a.eval y);binOp op t (a.eval x) (a.eval y)).run P w=.ok (.bool (if op=.eql then b else !b)) w:=by
 have hxv:=Cp h x;have RA:=Cp h y;rw[hx] at hxv;rw[hy] at RA;obtain⟨vx,C4,hvx⟩:=hxv;obtain⟨vy,hay,hvy⟩:=RA;simp only[GV,Bool.and_eq_true,Bool.not_eq_true'] at S9;obtain⟨⟨S9,Fd⟩,heg⟩:=S9;obtain⟨b,hkb,heq⟩:=Zt 9997 hu Fd S9 hvx hvy hk;have heq:(Op.equal t (.agg ⟨vx⟩) (.agg ⟨vy⟩)).run P w=.ok b w:=heq;refine⟨b,hkb,?_⟩;rw[C4,hay];rcases hop with rfl|rfl
 ·simp[eqGuard,binOp,heq,heg]
 ·simp[eqGuard,binOp,heq,heg]
theorem IZ (h:Cl N w0 X0 Y β s a w){op:BinOp}{t ty:TypeId}{x y:Operand}(ho:o.op=.binOp op t x y ty){K:PV->Option R}
  (hk:Py P op t (Bw s.tm x) (Bw s.tm y) K=some r):∃v,K v=some r∧Dw P a w o Y β s v [] []:=by
 have Ch:∀v,(do eqGuard op t x y (a.eval x) (a.eval y);binOp op t (a.eval x) (a.eval y)).run P w=.ok v w->(execOp a.eval o).run P w=.ok (.value v) w:=by
  intro v hv;unfold execOp;rw[ho];simp only[Sem.run_bind] at hv ⊢;rw[hv];rfl
 unfold Py at hk;split at hk
 ·rename_i fs hu;split at hk
  ·obtain⟨S9,hk⟩:=Aj hk;obtain⟨xs,hx,hk⟩:=Gf hk;obtain⟨ys,hy,hk⟩:=Gf hk;obtain⟨b,hk,hr⟩:=BT h (.inl rfl) hu S9 hx hy hk;exact⟨_,hk,Cd (Ch _ (by rw[hr];rfl))⟩
  ·obtain⟨S9,hk⟩:=Aj hk;obtain⟨xs,hx,hk⟩:=Gf hk;obtain⟨ys,hy,hk⟩:=Gf hk;obtain⟨b,hk,hr⟩:=BT h (.inr rfl) hu S9 hx hy hk;exact⟨_,hk,Cd (Ch _ (by rw[hr];rfl))⟩
  ·cases hk
 ·unfold Abi at hk;split at hk
  ·rename_i k hu;split at hk
   ·obtain⟨m,hx,hk⟩:=D2 hk;obtain⟨k2,n,hy,hk⟩:=Da hk;obtain⟨hb,hk⟩:=Aj hk;have hb:=of_decide_eq_true hb;refine⟨_,hk,Cd (Ch _ ?_)⟩;have:¬n<0:=by omega
    simp[eqGuard,binOp,Op.shift,B2 h hx,B2 h hy,this]
   ·obtain⟨m,hx,hk⟩:=D2 hk;obtain⟨k2,n,hy,hk⟩:=Da hk;obtain⟨hb,hk⟩:=Aj hk;have hb:=of_decide_eq_true hb;refine⟨_,hk,Cd (Ch _ ?_)⟩;have:¬n<0:=by omega
    simp[eqGuard,binOp,Op.shift,B2 h hx,B2 h hy,this]
   ·rename_i WV Q3;obtain⟨m,hx,hk⟩:=D2 hk;obtain⟨n,hy,hk⟩:=D2 hk;obtain⟨v,hk,hr⟩:=SX (P:=P) (w:=w) (t:=t) (x:=x) (y:=y) WV Q3 hk;exact⟨_,hk,Cd (Ch _ (by rw[B2 h hx,B2 h hy];exact hr))⟩
  ·rename_i hu;obtain⟨m,hx,hk⟩:=Dc hk;obtain⟨n,hy,hk⟩:=Dc hk;obtain⟨v,hk,hr⟩:=TP (P:=P) (w:=w) (t:=t) (x:=x) (y:=y) hk;exact⟨_,hk,Cd (Ch _ (by rw[B2 h hx,B2 h hy];exact hr))⟩
  ·rename_i hu;split at hk
   ·obtain⟨m,hx,hk⟩:=Di hk;obtain⟨n,hy,hk⟩:=Di hk;refine⟨_,hk,Cd (Ch _ ?_)⟩;simp[eqGuard,binOp,B2 h hx,B2 h hy,Xk hu]
   ·obtain⟨m,hx,hk⟩:=Di hk;obtain⟨n,hy,hk⟩:=Di hk;refine⟨_,hk,Cd (Ch _ ?_)⟩;simp[eqGuard,binOp,B2 h hx,B2 h hy,Xk hu]
   ·cases hk
  ·rename_i e hu;have hx:=Cp h x
   have nilQ:∀{e:Bool} {K':PV->Option R},Xn e (Bw s.tm x) K'=some r->∃q ad n c,K' q=some r∧a.eval x=.slice ad n c∧(q=.sc (.bool (if ad.isNone then e else !e))∨q=.ub):=by
    intro e K' hq;unfold Xn at hq;split at hq
    ·rename_i e';exact⟨_,none,0,0,hq,B2 h e',.inl rfl⟩
    ·rename_i z es n c e';rcases Fm (.inl e') hx with⟨C4,rfl,_⟩|⟨ad,cap,C4,rfl,_⟩|⟨ad,cap,C4,rfl,rfl,_⟩
     ·rcases J2 hq with⟨_,hq⟩|⟨_,hq⟩
      ·exact⟨_,none,0,0,hq,C4,.inl rfl⟩
      ·rcases J2 hq with⟨hb,_⟩|⟨_,hq⟩
       ·exact absurd (of_decide_eq_true hb) (by omega)
       ·exact⟨_,none,0,0,hq,C4,.inr rfl⟩
     ·rcases J2 hq with⟨hz,_⟩|⟨_,hq⟩
      ·cases hz
      ·rcases J2 hq with⟨_,hq⟩|⟨_,hq⟩
       ·exact⟨_,some ad,n,cap,hq,C4,.inl rfl⟩
       ·exact⟨_,some ad,n,cap,hq,C4,.inr rfl⟩
     ·rcases J2 hq with⟨hz,_⟩|⟨_,hq⟩
      ·cases hz
      ·rcases J2 hq with⟨hb,_⟩|⟨_,hq⟩
       ·exact absurd (of_decide_eq_true hb) (by omega)
       ·exact⟨_,some ad,0,cap,hq,C4,.inr rfl⟩
    ·rename_i id es off n e';rw[e'] at hx;rcases hx with⟨_,_,rfl,ad,C4⟩|⟨b,ob,y',cap,_,C4,_⟩
     ·rcases J2 hq with⟨hb,_⟩|⟨_,hq⟩
      ·exact absurd (of_decide_eq_true hb) (by omega)
      ·exact⟨_,ad,0,0,hq,C4,.inr rfl⟩
     ·rcases J2 hq with⟨_,hq⟩|⟨_,hq⟩
      ·exact⟨_,_,n,cap,hq,C4,.inl rfl⟩
      ·exact⟨_,_,n,cap,hq,C4,.inr rfl⟩
    ·cases hq
   split at hk
   ·rename_i hy;obtain⟨q,ad,n,c,hk,C4,hb⟩:=nilQ hk;rcases hb with rfl|rfl
    ·refine⟨_,hk,Cd (Ch _ ?_)⟩;cases ad<;>simp[eqGuard,binOp,C4,B2 h hy,Qc hu]
    ·refine⟨_,hk,B0 (val:=.bool ad.isNone) (Ch _ ?_) (Ar.ub _) (by intro i hi;cases hi)⟩
     simp[eqGuard,binOp,C4,B2 h hy,Qc hu]
   ·rename_i hy;obtain⟨q,ad,n,c,hk,C4,hb⟩:=nilQ hk;rcases hb with rfl|rfl
    ·refine⟨_,hk,Cd (Ch _ ?_)⟩;cases ad<;>simp[eqGuard,binOp,C4,B2 h hy,Qc hu]
    ·refine⟨_,hk,B0 (val:=.bool !ad.isNone) (Ch _ ?_) (Ar.ub _) (by intro i hi;cases hi)⟩
     simp[eqGuard,binOp,C4,B2 h hy,Qc hu]
   ·cases hk
  ·rename_i kt vt hu;split at hk
   ·rename_i hx hy;refine⟨_,hk,Cd (Ch _ ?_)⟩;simp[eqGuard,binOp,B2 h hx,B2 h hy,To hu]
   ·rename_i hx hy;refine⟨_,hk,Cd (Ch _ ?_)⟩;simp[eqGuard,binOp,B2 h hx,B2 h hy,To hu]
   ·cases hk
  ·cases hk
end
open Go.RowKit
section
variable {R:Type} {r:R} {P:Program} {N:Nat} {w0:World} {X0:Gv} {Y:Nat->Prop} {β β':Bt} {s:St} {a:Act} {w w':World} {o:Oper} {A:Nat->Prop}
theorem Vy:∀{c:List PV}{ns:List Int},Pq c=some ns->c=ns.map (fun n=>.sc (.int .i32 n))
 |[],ns,h=>by simp[Pq] at h;subst h;rfl
 |p::c,ns,h=>by
  unfold Pq at h;split at h
  ·rename_i e;cases e
  ·rename_i n r e;cases e;cases hr:Pq c with
   |none=>rw[hr] at h;cases h
   |some l'=>
    rw[hr] at h;simp at h;subst h;rw[Vy hr];rfl
  ·cases h
theorem Vf:∀{c:List PV}{l:List UInt8},Gr c=some l->∃ns:List Int,c=ns.map (fun n=>.sc (.int .u8 n))∧l=ns.map fun n=>n.toNat.toUInt8
 |[],l,h=>⟨[],rfl,by simp[Gr] at h;subst h;rfl⟩
 |p::c,l,h=>by
  unfold Gr at h;split at h
  ·rename_i e;cases e
  ·rename_i n r e;cases e;cases hr:Gr c with
   |none=>rw[hr] at h;cases h
   |some l'=>
    rw[hr] at h;simp at h;obtain⟨ns,rfl,rfl⟩:=Vf hr;exact⟨n::ns,rfl,h.symm⟩
  ·cases h
theorem N5:∀(ns:List Int)(b:ByteArray),ns.foldl (fun r n=>r.push (UInt8.ofNat n.toNat)) b=⟨b.data++(ns.map fun n=>n.toNat.toUInt8).toArray⟩
 |[],b=>by simp
 |n::ns,b=>by
  simp only[List.foldl_cons];rw[N5 ns];simp[ByteArray.push]
theorem Xr (h:Cl N w0 X0 Y β s a w){es:Nat}{x:Operand}{K:Nat->List PV->Option R}(hk:KB (Hx s.hp) es (Bw s.tm x) K=some r):
  ∃n c,K n c=some r∧(((∃ad,a.eval x=.slice ad 0 0)∧n=0∧c=[])∨∃ad cap,a.eval x=.slice (some ad) n cap∧n<=cap∧(c=[]∨ad.block<w.heap.size)∧MT w (Cy s.hp β Y) ad c):=by
 have hx:=Cp h x;have Z9:=Ej h x;unfold KB at hk;split at hk
 ·rename_i id es' off n e;rw[e] at hx Z9;cases hb:Nat.beq es' es
  ·rw[hb] at hk;cases hk
  ·rw[hb] at hk;obtain⟨c,hc,hk⟩:=B5 (show Dh _ _=some r from hk)
   obtain⟨hl,hk⟩:=Aj hk;have hl:=of_decide_eq_true hl;obtain⟨f,VI⟩:=FB hc;refine⟨_,_,hk,?_⟩;rcases hx with⟨_,rfl,rfl,ad,C4⟩|⟨b,ob,y,cap,hβ,C4,hy,hn,_,B6⟩
   ·exact .inl ⟨⟨ad,C4⟩,rfl,by simp⟩
   ·refine .inr ⟨_,cap,C4,hn,.inr B6,fun j p hj=>?_⟩
    have YH:0<n*es:=by
     rcases Nat.eq_zero_or_pos (n*es) with h0|h0
     ·rw[h0] at hj;simp at hj
     ·exact h0
    have Tu:n≠0:=by rintro rfl;simp at YH
    have hy:y=ob+off:=by rcases hy with hy|⟨h0,_⟩<;>omega
    subst hy;rw[List.getElem?_take] at hj;split at hj
    ·rw[List.getElem?_drop] at hj;rcases h.box id _ VI with⟨h1,_⟩|⟨b',o',h1,h2,_⟩
     ·rw[hβ] at h1;cases h1
     ·rw[hβ] at h1;simp at h1;obtain⟨rfl,rfl⟩:=h1
      obtain⟨v,hv,h3,ht⟩:=h2 (off+j) p hj;rw[D5] at hv;exact⟨v,by rw[D5,Nat.add_assoc];exact hv,h3,ht⟩
    ·cases hj
 ·obtain⟨z,n,c,hk,hp⟩:=Eu hk;refine⟨n,c,hk,?_⟩;rcases Fm hp hx with h1|⟨ad,cap,C4,_,hn,h1,h2,_,h4⟩|⟨ad,cap,C4,_,rfl,rfl⟩
  ·exact .inl ⟨⟨none,h1.1⟩,h1.2⟩
  ·exact .inr ⟨ad,cap,C4,hn,.inr h2,h4⟩
  ·exact .inr ⟨ad,cap,C4,Nat.zero_le _,.inl rfl,fun j c hj=>by simp at hj⟩
theorem UZ (b:ByteArray)(j:Nat)(p:PV)(h:(Mr b)[j]?=some p):∃x,b.data[j]?=some x∧p=.sc (.int .u8 x.toNat):=by
 unfold Mr at h;rw[List.getElem?_map] at h;cases hx:b.data.toList[j]? with
 |none=>rw[hx] at h;cases h
 |some x=>
  rw[hx] at h;simp at h;exact⟨x,by simpa using hx,h.symm⟩
theorem NC (h:Cl N w0 X0 Y β s a w){src dst:TypeId}{x:Operand}(ho:o.op=.convert src dst x){d:Nat}{K:PV->List (Nat × Bm)->Option R}
  (hk:Y2 P (Hx s.hp) d src dst (Bw s.tm x) K=some r):∃v nw,K v nw=some r∧Dw P a w o Y β s v [] nw:=by
 have Ch:∀v w',(convert src dst (a.eval x)).run P w=.ok v w'->(execOp a.eval o).run P w=.ok (.value v) w':=by
  intro v w' hv;unfold execOp;rw[ho];simp[hv]
 unfold Y2 at hk;split at hk
 ·rename_i k hu;obtain⟨hs,hk⟩:=Aj hk;obtain⟨k',n,hx,hk⟩:=Da hk;exact⟨_,_,hk,Cd (Ch _ _ (by rw[B2 h hx];obtain⟨ds,hds⟩:=Option.isSome_iff_exists.1 hs;cases ds<;>simp[convert,run_underlying hds,run_underlying hu,Conv.intToInt]))⟩
 ·rename_i hu;split at hk
  ·rename_i hs;obtain⟨b,hx,hk⟩:=Dc hk;exact⟨_,_,hk,Cd (Ch _ _ (by rw[B2 h hx];simp[convert,run_underlying hs,run_underlying hu]))⟩
  ·rename_i e hs;split at hk
   ·rename_i he;obtain⟨n,c,hk,hc⟩:=Xr h hk;obtain⟨hl,hk⟩:=Aj hk;have hl:=of_decide_eq_true hl;obtain⟨l,hb,hk⟩:=B5 hk;obtain⟨ns,rfl,rfl⟩:=Vf hb;refine⟨_,_,hk,Cd (Ch _ _ ?_)⟩;rcases hc with⟨⟨ad,C4⟩,rfl,hn⟩|⟨ad,cap,C4,_,_,XG⟩
    ·have:ns=[]:=by simpa using hn
     subst this;rw[C4,run_convert_bytes_string w src dst e ad 0 0 hs he hu];cases ad<;>rfl
    ·rw[C4,run_convert_bytes_string w src dst e _ _ _ hs he hu]
     have hld:(loadCells ad n).run P w=.ok (ns.map (Value.int .u8)).toArray w:=by
      have:=run_loadCells_list (P:=P) w ad (ns.map (Value.int .u8)) (fun j v hj=>by
       rw[List.getElem?_map] at hj;cases hn:ns[j]? with
       |none=>rw[hn] at hj;cases hj
       |some m=>
        rw[hn] at hj;simp at hj;subst hj;obtain⟨v,hv,_,ht⟩:=XG j (.sc (.int .u8 m)) (by rw[List.getElem?_map,hn];rfl)
        rw[ht.val] at hv;exact hv)
      simp only[List.length_map] at this hl;rw[hl] at this;exact this
     rw[run_bytesToString w ad n cap ns hld,N5];simp
   ·rename_i he;obtain⟨n,c,hk,hc⟩:=Xr h hk;obtain⟨hl,hk⟩:=Aj hk;have hl:=of_decide_eq_true hl;obtain⟨ns,hb,Eb⟩:=B5 hk;have Xd:=Vy hb;clear hk;subst Xd;refine⟨_,_,Eb,Cd (Ch _ _ ?_)⟩;rcases hc with⟨⟨ad,C4⟩,Uv,hn⟩|⟨ad,cap,C4,_,_,XG⟩
    ·have:ns=[]:=by simpa using hn
     subst this;rw[C4,run_convert_runes_string w src dst e ad _ _ hs he hu];cases ad with
     |none=>rfl
     |some p=>
      have Tu:n=0:=by simpa using Uv
      subst Tu;exact run_runesToString w p 0 0 [] (by simpa using run_loadCells_list (P:=P) w p [] (by simp))
    ·rw[C4,run_convert_runes_string w src dst e _ _ _ hs he hu]
     have hld:(loadCells ad n).run P w=.ok (ns.map (Value.int .i32)).toArray w:=by
      have:=run_loadCells_list (P:=P) w ad (ns.map (Value.int .i32)) (fun j v hj=>by
       rw[List.getElem?_map] at hj;cases hn:ns[j]? with
       |none=>rw[hn] at hj;cases hj
       |some m=>
        rw[hn] at hj;simp at hj;subst hj;obtain⟨v,hv,_,ht⟩:=XG j (.sc (.int .i32 m)) (by rw[List.getElem?_map,hn];rfl)
        rw[ht.val] at hv;exact hv)
      simp only[List.length_map] at this hl;rw[hl] at this;exact this
     exact run_runesToString w ad n cap ns hld
   ·cases hk
  ·cases hk
 ·rename_i e hu;split at hk
  ·rename_i he hs;obtain⟨b,hx,hk⟩:=Dc hk;obtain⟨La,hk⟩:=Aj hk;have hr:=run_bytes_of_string (P:=P) w src dst e b hs hu he;rw[←B2 h hx] at hr
   have Q9:b.size<=grownCap w b.size 0 e:=by
    unfold grownCap;simp[Question.cut]
   have IK:(bytesRow b (grownCap w b.size 0 e)).size=grownCap w b.size 0 e:=by
    simp only[bytesRow,Array.size_append,Array.size_map,Array.size_replicate];have:b.data.size=b.size:=rfl;omega
   refine⟨_,_,hk,Mc (c:=bytesRow b (grownCap w b.size 0 e)) (e:=e) (by simp) (Ch _ _ hr) ?_ (fun j p hj=>?_) (.inr ⟨1,b.size,grownCap w b.size 0 e,rfl,rfl,Q9,by rw[IK];omega,.inl rfl⟩)⟩
   ·exact⟨rfl,rfl,rfl,fun i hi=>Below.heap_alloc w.drew _ i hi,by show (w.heap.push _).size=_;simp,_,by show (w.heap.push _)[w.heap.size]?=_;simp;rfl,.inr (Nat.le_refl _)⟩
   ·obtain⟨y,hy,rfl⟩:=UZ b j p hj;refine⟨.int .u8 y.toNat,?_,rfl,Ar.sc _⟩
    have B6:j<b.data.size:=by
     rcases Nat.lt_or_ge j b.data.size with h|h
     ·exact h
     ·rw[Array.getElem?_eq_none h] at hy;cases hy
    simp only[bytesRow];rw[Array.getElem?_append_left (by simpa using B6),Array.getElem?_map,hy]
    rfl
  ·cases hk
 ·cases hk
end
open Go.RowKit
section
variable {R:Type} {r:R} {P:Program} {N:Nat} {w0:World} {X0:Gv} {Y:Nat->Prop} {β β':Bt} {s:St} {a:Act} {w w':World} {o:Oper} {A:Nat->Prop}
theorem Tm:∀{n:Nat}{l:List PV}{j:Nat}{c:PV},(Np n l)[j]?=some c->j<n*l.length∧l[j % l.length]?=some c
 |0,l,j,c,h=>by simp[Np] at h
 |n+1,l,j,c,h=>by
  have e:Np (n+1) l=l++Np n l:=by simp[Np,List.replicate_succ]
  rw[e] at h;by_cases hj:j<l.length
  ·rw[List.getElem?_append_left hj] at h;refine⟨by rw[Nat.add_mul];omega,?_⟩
   rw[Nat.mod_eq_of_lt hj];exact h
  ·rw[List.getElem?_append_right (by omega)] at h
   obtain⟨h1,h2⟩:=Tm h;refine⟨by rw[Nat.add_mul];omega,?_⟩
   rw[Nat.mod_eq_sub_mod (by omega)];exact h2
theorem IB (n:Nat)(l:List PV):(Np n l).length=n*l.length:=by
 induction n with
 |zero=>simp[Np]
 |succ n ih=>
  have e:Np (n+1) l=l++Np n l:=by simp[Np,List.replicate_succ]
  rw[e,List.length_append,ih,Nat.add_mul];omega
theorem KN {z:Array Value}{n j:Nat}(hj:j<n){v:Value}(hv:z[j % z.size]?=some v):(madeCells z n)[j]?=some v:=by
 unfold madeCells;rw[Array.getElem?_map,Array.getElem?_range,if_pos hj];simp only[Option.map_some];rw[getElem!_def,hv]
theorem PC (h:Cl N w0 X0 Y β s a w){t:TypeId}{x y:Operand}(ho:o.op=.makeSlice t x y){d:Nat}{K:PV->List Nat->List (Nat × Bm)->Option R}
  (hk:(match P.underlying t with
   |some (.slice e)=>Df (Bw s.tm x) fun _ n=>Df (Bw s.tm y) fun _ m=>
     Bj (decide (0<=n)&&decide (n<=m)&&decide (m*((P.info? e).map (·.bytes)).getD 0<=1099511627776)&&decide (m<=1099511627776))
      (F4 P e fun z=>K (.view d (A8 P e) 0 n.toNat) [] [(d,.ar false (Np n.toNat z))])
   |_=>none)=some r):∃v fz nw,K v fz nw=some r∧Dw P a w o Y β s v fz nw:=by
 split at hk
 ·rename_i e hu;obtain⟨k1,n,hx,hk⟩:=Da hk;obtain⟨k2,m,hy,hk⟩:=Da hk;obtain⟨hb,hk⟩:=Aj hk;simp only[Bool.and_eq_true,decide_eq_true_eq] at hb;obtain⟨⟨⟨h0,AX⟩,Oy⟩,hm⟩:=hb;obtain⟨z,cs,hk,hz,hct,hl,La,hc⟩:=Lx hk
  have hzc:∃i,P.info? e=some i∧i.zero=some z:=by
   unfold L8 at hz;cases hi:P.info? e with
   |none=>rw[hi] at hz;cases hz
   |some i=>rw[hi] at hz;exact⟨i,rfl,hz⟩
  obtain⟨i,hi,VH⟩:=hzc;have Ar9:A8 P e=i.size:=by simp[A8,hi]
  simp only[hi,Option.map_some,Option.getD_some] at Oy;have hr:=run_make (P:=P) w t e i z hu hi VH k1 k2 n m h0 AX (by rw[Int.mul_comm];omega) (by omega)
  have Ch:(execOp a.eval o).run P w=.ok (.value (.slice (some ⟨w.heap.size,0,none⟩) n.toNat m.toNat)) (w.alloc (.cells (madeCells z.cells (m.toNat*i.size)) e)):=by
   unfold execOp;rw[ho];simp[B2 h hx,B2 h hy,hr]
  have hzl:z.cells.size=A8 P e:=by
   have:z.cells.toList.length=z.cells.size:=by simp
   omega
  refine⟨_,_,_,hk,Mc (c:=madeCells z.cells (m.toNat*i.size)) (e:=e) (by simp) Ch (Fj.alloc w _ e) (fun j p hj=>?_) (.inr ⟨A8 P e,n.toNat,m.toNat,rfl,rfl,by omega,by rw[size_madeCells,Ar9];exact Nat.le_refl _,.inr (Ip w _ e)⟩)⟩
  obtain⟨h1,h2⟩:=Tm hj;obtain⟨hT,u,Hp,FK,hv⟩:=hc _ p h2;refine⟨u,KN ?_ ?_,FK,hv _ _⟩
  ·have:n.toNat*cs.length<=m.toNat*i.size:=by
    rw[La,Ar9];exact Nat.mul_le_mul_right _ (by omega)
   omega
  ·rw[hzl,←La]
   simpa using Hp
 ·cases hk
theorem UH {p:PV}{v:Value}(hp:okP p=true)(hv:D1 w A β p v):Bd (Bs w A β) (cellsOf p) v.cells.toList:=by
 have one:v.oneCell'=true->Bs w A β p v->(∀x,p ≠ .agg x)->Bd (Bs w A β) (cellsOf p) v.cells.toList:=by
  intro h1 h2 h3;have:cellsOf p=[p]:=by cases p<;>first|rfl|exact absurd rfl (h3 _)
  rw[this,Kf h1];exact⟨h2,trivial⟩
 unfold okP at hp;split at hp
 ·obtain⟨vs,rfl,h2⟩:=hv;exact h2
 ·refine one ?_ hv (by simp)
  have Lk:Ar w A _ v:=hv;cases Lk<;>rfl
 ·refine one ?_ hv (by simp)
  rcases hv with⟨_,_,_,_,rfl⟩|⟨_,_,_,_,_,rfl,_⟩<;>rfl
 ·have:=Uz hv;subst this;exact one rfl hv (by simp)
 ·have:=Uz hv;subst this;exact one rfl hv (by simp)
 ·have:=Uz hv;subst this;exact one rfl hv (by simp)
 ·have:=Uz hv;subst this;exact one rfl hv (by simp)
 ·cases hp
theorem SP:∀(vs:List Value)(k off:Nat)(cells:Array Value),off+k+vs.length<=cells.size ->
  ((vs.zipIdx k).foldl (fun cs (q:Value × Nat)=>cs.setIfInBounds (off+q.2) q.1) cells).toList=cells.toList.take (off+k)++vs++cells.toList.drop (off+k+vs.length)
 |[],k,off,cells,_=>by simp
 |v::vs,k,off,cells,h=>by
  simp only[List.zipIdx_cons,List.foldl_cons,List.length_cons] at h ⊢;rw[SP vs (k+1) off _ (by simp;omega)]
  have B6:off+k<cells.toList.length:=by simp;omega
  simp only[Array.toList_setIfInBounds];rw[show off+(k+1)=off+k+1 from by omega,List.take_succ_eq_append_getElem (by simpa using B6)]
  rw[List.getElem_set_self,List.take_set_of_le (Nat.le_refl _),List.drop_set_of_lt (by omega)]
  simp only[List.append_assoc,List.cons_append,List.nil_append];rw[show off+k+1+vs.length=off+k+(vs.length+1) from by omega]
theorem Z0 (h:Cl N w0 X0 Y β s a w){F5:Nat->Option (Nat × Nat)}:∀{parts:List (Nat × Operand)} {pc:List PV}{vc:Array Value}{K:List PV->Option R},
  Pk F5 (parts.map fun q=>(q.1,Bw s.tm q.2)) pc K=some r->Bd (Bs w (Cy s.hp β Y) β) pc vc.toList->(∀c∈pc,∀id∈Al c,s.hp id≠none) ->
  ∃pc' vc',K pc'=some r∧Instr.fill F5 vc (parts.map fun q=>(q.1,a.eval q.2))=some vc'∧Bd (Bs w (Cy s.hp β Y) β) pc' vc'.toList∧pc'.length=pc.length∧∀c∈pc',∀id∈Al c,s.hp id≠none
 |[],pc,vc,K,hk,hv,hr=>⟨pc,vc,hk,rfl,hv,rfl,hr⟩
 |(i,x)::parts,pc,vc,K,hk,hv,hr=>by
  simp only[List.map_cons] at hk;unfold Pk at hk;obtain⟨⟨off,size⟩,R2,hk⟩:=B5 hk;obtain⟨hb,hk⟩:=Aj hk;simp only[Bool.and_eq_true] at hb;obtain⟨⟨hok,La⟩,Wg⟩:=hb;have La:(cellsOf (Bw s.tm x)).length=size:=Nat.eq_of_beq_eq_true La;have Wg:off+size<=pc.length:=Nat.le_of_ble_eq_true Wg;have hxc:=UH hok (Cp h x);have hxl:=hxc.len;have hvl:=hv.len;have Ob:vc.toList.length=vc.size:=by simp
  have Xd:(a.eval x).cells.toList.length=(a.eval x).cells.size:=by simp
  have Ap6:=SP (a.eval x).cells.toList 0 off vc (by omega)
  simp only[Nat.add_zero] at Ap6
  have Aot:((a.eval x).cells.zipIdx.foldl (fun cs (q:Value × Nat)=>cs.setIfInBounds (off+q.2) q.1) vc).toList=vc.toList.take off++(a.eval x).cells.toList++vc.toList.drop (off+(a.eval x).cells.toList.length):=by
   rw[←Ap6,←Array.foldl_toList];simp
  obtain⟨pc',vc',hk,hf,h2,hl,hr'⟩:=Z0 h (pc:=Cs pc (cellsOf (Bw s.tm x)) off) (vc:=(a.eval x).cells.zipIdx.foldl (fun cs (q:Value × Nat)=>cs.setIfInBounds (off+q.2) q.1) vc) hk (by
    rw[Aot,←hxl];exact (((hv.take off).app hxc).app (hv.drop _))) (by
    intro c hc id Bi;unfold Cs at hc;rcases List.mem_append.1 hc with hc|hc
    ·rcases List.mem_append.1 hc with hc|hc
     ·exact hr c (List.mem_of_mem_take hc) id Bi
     ·refine Ej h x id ?_;cases hp:Bw s.tm x with
      |agg cs=>rw[hp] at hc;exact List.mem_flatMap.2 ⟨c,hc,Bi⟩
      |tup cs=>rw[hp] at hc;simp[cellsOf] at hc;subst hc;cases Bi
      |_=>rw[hp] at hc;simp[cellsOf] at hc;subst hc;exact Bi
    ·exact hr c (List.mem_of_mem_drop hc) id Bi)
  refine⟨pc',vc',hk,?_,h2,?_,hr'⟩
  ·simp only[List.map_cons,Instr.fill,R2];rw[if_neg (by simp;omega)]
   exact hf
  ·rw[hl];simp[Cs];omega
theorem IL {t:TypeId}{z:Value}{cs:List PV}(hl:cs.length=z.cells.toList.length)(hc:∀(j:Nat) c,cs[j]?=some c->Qs c∧∃u,z.cells.toList[j]?=some u∧u.oneCell'=true∧∀(w:World)(A:Nat->Prop),Ar w A c u) (_ht:L8 P t=some z):
  Bd (Bs w A β) cs z.cells.toList∧∀c∈cs,Al c=[]:=by
 refine⟨Bd.of_at hl fun i c u hci hu=>?_,fun c ME=>?_⟩
 ·obtain⟨hT,u',Hp,_,hv⟩:=hc i c hci;rw[hu] at Hp;cases Hp;exact (I4 hT).2 (hv _ _)
 ·obtain⟨j,hj⟩:=List.mem_iff_getElem?.1 ME;exact Gl (hc j c hj).1
theorem X9:∀{fs:List Field},(fs.all fun f=>Xq P f.type)=true->fs.mapM (fun f=>(P.info? f.type).map fun i=>(f.offset,i.size))=some (fs.map fun f=>(f.offset,A8 P f.type))
 |[],_=>rfl
 |f::fs,h=>by
  simp only[List.all_cons,Bool.and_eq_true] at h;obtain⟨i,hi⟩:=Option.isSome_iff_exists.1 h.1;simp[List.mapM_cons,hi,X9 h.2,A8]
theorem Ry {p q:Nat->Option (Nat × Nat)} (h:∀i,p i=q i)(cells:Array Value)(parts:List (Nat × Value)):Instr.fill p cells parts=Instr.fill q cells parts:=by
 have:p=q:=funext h;rw[this]
theorem KA (h:Cl N w0 X0 Y β s a w){t:TypeId}{ps:Array (Nat × Operand)} (ho:o.op=.build t ps){K:PV->Option R}
  (hk:(Bj (Mh P t&&Bx P t)<|F4 P t fun z=>Pk (Nh P t) (ps.toList.map fun q=>(q.1,Bw s.tm q.2)) z fun cs=>Li (G0 P t) cs 0 fun cs'=>K (.agg cs'))=some r):∃v,K v=some r∧Dw P a w o Y β s v [] []:=by
 obtain⟨R2,hk⟩:=Aj hk;simp only[Bool.and_eq_true] at R2;obtain⟨R2,Fb⟩:=R2;obtain⟨z,cs,hk,hz,hct,hl,La,hc⟩:=Lx hk;obtain⟨hzr,Yb⟩:=IL (w:=w) (A:=Cy s.hp β Y) (β:=β) hl hc hz;obtain⟨pc',vc',hk,hf,h2,Ib,hr'⟩:=Z0 h hk hzr (fun c ME id Bi=>by rw[Yb c ME] at Bi;cases Bi)
 obtain⟨qs,hk,hql,Ui,hq⟩:=Pf hk
 have Amu:P.built t (ps.toList.map fun q=>(q.1,a.eval q.2))=some vc':=by
  have VH:∃i,P.info? t=some i∧i.zero=some z:=by
   unfold L8 at hz;cases hi:P.info? t with
   |none=>rw[hi] at hz;cases hz
   |some i=>rw[hi] at hz;exact⟨i,rfl,hz⟩
  obtain⟨i,hi,VH⟩:=VH;unfold Mh at R2;unfold Program.built;split at R2
  ·rename_i fs hu
   have UX:Instr.fill (((fs.toList.map fun f=>(f.offset,A8 P f.type)).toArray)[·]?) z.cells (ps.toList.map fun q=>(q.1,a.eval q.2))=some vc':=by
    rw[←hf];refine Ry (fun j=>?_) _ _
    simp[Nh,hu]
   simp only[hi,hu,VH,X9 R2];exact UX
  ·rename_i n e hu;obtain⟨ie,hie⟩:=Option.isSome_iff_exists.1 R2
   have UX:Instr.fill (fun j=>some (j*ie.size,ie.size)) z.cells (ps.toList.map fun q=>(q.1,a.eval q.2))=some vc':=by
    rw[←hf];refine Ry (fun j=>?_) _ _
    simp[Nh,hu,A8,hie]
   simp only[hi,hu,VH,hie];exact UX
  ·rename_i e hu;simp[Bx,hu] at Fb
  ·cases R2
 refine⟨_,hk,B0 (val:=.agg vc') ?_ ⟨vc'.toList,rfl,?_⟩ ?_⟩
 ·unfold execOp;rw[ho];have:=run_build (P:=P) w t (ps.map fun q=>(q.1,a.eval q.2)) vc' (by simpa using Amu)
  simp[this]
 ·refine Bd.of_at (by have:=h2.len;omega) fun j c u hcj hu=>?_
  obtain⟨p,hp,_,_,U3⟩:=hq j c hcj;rw[Nat.zero_add] at hp;exact (U3 _ _ _ _ (h2.at_ hp hu)).1
 ·intro id Bi;obtain⟨c,ME,Bi⟩:=List.mem_flatMap.1 (show id∈qs.flatMap Al from Bi)
  obtain⟨j,hj⟩:=List.mem_iff_getElem?.1 ME;obtain⟨p,hp,_,hpr,_⟩:=hq j c hj;rw[Nat.zero_add] at hp;exact hr' p (List.mem_of_getElem? hp) id (hpr id Bi)
end
open Go.RowKit
section
variable {R:Type} {r:R} {P:Program} {N:Nat} {w0:World} {X0:Gv} {Y:Nat->Prop} {β β':Bt} {s:St} {a:Act} {w w':World} {o:Oper} {A:Nat->Prop}
theorem PQ (h:Cl N w0 X0 Y β s a w){fz:List Nat}(U8:∀id∈fz,∃f c,s.hp id=some (.ar f c)) {id:Nat}(hm:id∈fz){f:Bool}{c:List PV}(hb:s.hp id=some (.ar f c)) {b ob:Nat}(hβ:β id=some (b,ob)):
  ¬Cy (Af s.hp fz) β Y b∧MT w (Cy (Af s.hp fz) β Y) ⟨b,ob,none⟩ c∧b<w.heap.size:=by
 have hf:=h.freeze U8;have he:Af s.hp fz id=some (.ar true c):=by rw[Br,if_pos hm,hb];rfl
 rcases hf.box id _ he with⟨h1,_⟩|⟨b',o',h1,h2,_,h4⟩
 ·rw[hβ] at h1;cases h1
 ·rw[hβ] at h1;simp at h1;obtain⟨rfl,rfl⟩:=h1;exact⟨h4 rfl,h2,h.blt id b ob (by rw[hb];simp) hβ⟩
theorem UB (h:Cl N w0 X0 Y β s a w){fz:List Nat}(U8:∀id∈fz,∃f c,s.hp id=some (.ar f c)) {id es off n:Nat}(hm:id∈fz){f:Bool}{c:List PV}(hb:s.hp id=some (.ar f c)) {v:Value}
  (hv:Bs w (Cy s.hp β Y) β (.view id es off n) v):Ar w (Cy (Af s.hp fz) β Y) (.lst false es n ((c.drop off).take (n*es))) v:=by
 rcases hv with⟨_,rfl,rfl,ad,rfl⟩|⟨b,ob,y,cap,hβ,rfl,hy,hn,_,B6⟩
 ·simp only[Nat.zero_mul,List.take_zero];cases ad with
  |none=>exact Ar.lnil false es
  |some p=>exact Ar.lemp es p 0
 ·obtain⟨h1,h2,_⟩:=PQ h U8 hm hb hβ;by_cases Tu:n*es=0
  ·rw[Tu,List.take_zero];exact Ar.lst es n [] ⟨b,y,none⟩ cap (fun _=>undef) rfl B6 h1 hn (by simp) (by simp) (by simp)
  ·have hy:y=ob+off:=by
    rcases hy with hy|⟨h0,_⟩
    ·exact hy
    ·rw[h0] at Tu;simp at Tu
   subst hy
   have Cr:∀(j:Nat) q,((c.drop off).take (n*es))[j]?=some q->c[off+j]?=some q:=by
    intro j q hq;rw[List.getElem?_take] at hq;split at hq
    ·rw[List.getElem?_drop] at hq;exact hq
    ·cases hq
   refine Ar.lst es n _ ⟨b,ob+off,none⟩ cap (fun j=>(w.cell? ⟨b,ob+off+j,none⟩).getD undef) rfl B6 h1 hn (fun j q hq=>?_) (fun j q hq=>?_) (fun j q hq=>?_)
   ·obtain⟨v,hv,_⟩:=h2 _ q (Cr j q hq);rw[D5,←Nat.add_assoc] at hv;rw[D5,hv];rfl
   ·obtain⟨v,hv,h3,_⟩:=h2 _ q (Cr j q hq);rw[D5,←Nat.add_assoc] at hv;rw[hv];exact h3
   ·obtain⟨v,hv,_,ht⟩:=h2 _ q (Cr j q hq);rw[D5,←Nat.add_assoc] at hv;rw[hv];exact ht
theorem Ar.zf {A:Nat->Prop}{z:Bool}{es n:Nat}{c:List PV}{v:Value}(h:Ar w A (.lst z es n c) v):Ar w A (.lst false es n c) v:=by
 cases h with
 |lnil=>exact .lnil _ _
 |lemp=>exact .lemp _ _ _
 |lst _ _ _ a cap f hs hb hA hn hc h1 hr=>exact .lst _ _ _ a cap f hs hb hA hn hc h1 hr
theorem X3 (h:Cl N w0 X0 Y β s a w){t:CT}{p:PV}{K:PV->List Nat->Option R}(hk:Lc (Hx s.hp) t p K=some r):
  ∃c m,K c m=some r∧Qs c∧BC p∧(∀id∈m,∃f cc,s.hp id=some (.ar f cc))∧∀fz:List Nat,(∀id∈m,id∈fz)->(∀id∈fz,∃f cc,s.hp id=some (.ar f cc))->∀v,Bs w (Cy s.hp β Y) β p v->Ar w (Cy (Af s.hp fz) β Y) c v∧v.oneCell'=true:=by
 have tree:∀t',(Uu t' p fun c=>K c [])=some r->∃c m,K c m=some r∧Qs c∧BC p∧(∀id∈m,∃f cc,s.hp id=some (.ar f cc))∧∀fz:List Nat,(∀id∈m,id∈fz)->(∀id∈fz,∃f cc,s.hp id=some (.ar f cc))->∀v,Bs w (Cy s.hp β Y) β p v->Ar w (Cy (Af s.hp fz) β Y) c v∧v.oneCell'=true:=by
  intro t' hk;obtain⟨c,hk,hT,Xj,hv⟩:=J4 hk;refine⟨c,[],hk,hT,Nk Xj,by simp,fun fz _ U8 v U3=>?_⟩
  obtain⟨h1,h2⟩:=hv _ _ _ _ U3;exact⟨h1.step (B4.refl _ _) (fun b _ hb=>hb.imp Mj id),h2⟩
 cases t with
 |sl es=>
  unfold Lc at hk;dsimp only at hk;split at hk
  ·rename_i id es' off n;cases hb:Nat.beq es' es
   ·rw[hb] at hk;cases hk
   ·rw[hb] at hk;have:=Nat.eq_of_beq_eq_true hb;subst this;obtain⟨c,hc,hk⟩:=B5 (show Dh _ _=some r from hk)
    obtain⟨_,hk⟩:=Aj hk;obtain⟨f,Jh⟩:=FB hc;refine⟨_,[id],hk,trivial,trivial,?_,fun fz hm U8 v hv=>⟨UB h U8 (hm id (by simp)) Jh hv,?_⟩⟩
    ·intro i hi;simp at hi;subst hi;exact⟨f,c,Jh⟩
    ·rcases hv with⟨_,_,_,_,rfl⟩|⟨_,_,_,_,_,rfl,_⟩<;>rfl
  ·obtain⟨z,n,c,hk,hp⟩:=Eu hk;refine⟨_,[],hk,trivial,?_,by simp,fun fz _ U8 v U3=>?_⟩
   ·rcases hp with rfl|⟨rfl,_⟩<;>trivial
   ·have ht:=Rf hp U3;refine⟨Ar.zf (ht.step (B4.refl _ _) (fun b _ hb=>hb.imp Mj id)),?_⟩
    cases ht<;>rfl
 |int k=>exact tree (.int k) hk
 |bool=>exact tree .bool hk
 |str=>exact tree .str hk
 |any=>exact tree .any hk
theorem Ms (h:Cl N w0 X0 Y β s a w):∀{ts:List CT}{ps:List PV}{K:List PV->List Nat->Option R},Ky (Hx s.hp) ts ps K=some r ->
  ∃cs m,K cs m=some r∧cs.length=ts.length∧ps.length=ts.length∧(∀c∈cs,Qs c)∧(∀p∈ps,BC p)∧(∀id∈m,∃f cc,s.hp id=some (.ar f cc)) ∧
   ∀fz:List Nat,(∀id∈m,id∈fz)->(∀id∈fz,∃f cc,s.hp id=some (.ar f cc))->∀vs,Bd (Bs w (Cy s.hp β Y) β) ps vs->Bd (Ar w (Cy (Af s.hp fz) β Y)) cs vs∧∀v∈vs,v.oneCell'=true
 |[],[],K,hk=>⟨[],[],hk,rfl,rfl,by simp,by simp,by simp,fun fz _ _ vs hv=>by
   cases vs with
   |nil=>exact⟨trivial,by simp⟩
   |cons v vs=>exact hv.elim⟩
 |[],_::_,K,hk=>by cases hk
 |_::_,[],K,hk=>by cases hk
 |t::ts,p::ps,K,hk=>by
  unfold Ky at hk;obtain⟨c,m,hk,hT,hF,hm,hv⟩:=X3 h hk;obtain⟨cs,ms,hk,hl,Ib,hTs,hFs,Xv,Ob⟩:=Ms h hk;refine⟨c::cs,m++ms,hk,by simp[hl],by simp[Ib],?_,?_,?_,fun fz hfm U8 vs h2=>?_⟩
  ·intro x hx;rcases List.mem_cons.1 hx with rfl|hx
   ·exact hT
   ·exact hTs x hx
  ·intro x hx;rcases List.mem_cons.1 hx with rfl|hx
   ·exact hF
   ·exact hFs x hx
  ·intro x hx;rcases List.mem_append.1 hx with hx|hx
   ·exact hm x hx
   ·exact Xv x hx
  ·cases vs with
   |nil=>exact h2.elim
   |cons v vs=>
    obtain⟨h3,h4⟩:=hv fz (fun i hi=>hfm i (by simp[hi])) U8 v h2.1
    obtain⟨h5,h6⟩:=Ob fz (fun i hi=>hfm i (by simp[hi])) U8 vs h2.2
    refine⟨⟨h3,h5⟩,?_⟩;intro x hx;rcases List.mem_cons.1 hx with rfl|hx
    ·exact h4
    ·exact h6 x hx
theorem UD {R':PV->Value->Prop}{cs:List PV}{z:Array Value}(h:Bd R' cs z.toList)(n:Nat):Bd R' (Np n cs) (madeCells z (n*cs.length)).toList:=by
 have hzl:z.size=cs.length:=by have:=h.len;simp at this;exact this.symm
 refine Bd.of_at ?_ fun j c v hc hv=>?_
 ·rw[IB];simp[size_madeCells]
 ·obtain⟨h1,h2⟩:=Tm hc
  have B6:j % cs.length<cs.length:=by
   rcases Nat.lt_or_ge (j % cs.length) cs.length with h|h
   ·exact h
   ·rw[List.getElem?_eq_none h] at h2;cases h2
  obtain⟨u,hu,hcu⟩:=h.get h2;have:(madeCells z (n*cs.length))[j]?=some u:=KN h1 (by rw[hzl];simpa using hu)
  have Lk:(madeCells z (n*cs.length))[j]?=some v:=by simpa using hv
  rw[this] at Lk;cases Lk;exact hcu
theorem DF {A':Nat->Prop}:∀{ps cs:List PV}{vs:List Value},Bd (Bs w (Cy s.hp β Y) β) ps vs->Bd (Ar w A') cs vs->Bd (Ar w A') (KP true ps cs) vs
 |[],_,_,_,h=>h
 |_::_,[],_,_,h=>h
 |p::ps,c::cs,[],_,h=>h.elim
 |p::ps,c::cs,v::vs,hp,h=>by
  refine⟨?_,DF hp.2 h.2⟩;split
  ·have h1:Ar w (Cy s.hp β Y) (.lst true _ 0 []) v:=hp.1;cases h1;exact .lnil true _
  ·exact h.1
theorem U5 (h:Cl N w0 X0 Y β s a w){nz:Bool}{t:TypeId}{n:Nat}{ps:Array (Nat × Operand)} (ho:o.op=.buildSlice t n ps){d:Nat}{K:PV->List Nat->List (Nat × Bm)->Option R}
  (hk:(match P.underlying t with
   |some (.slice e)=>Bj (Mh P t&&Nat.ble (n*A8 P e) 16777216) (F4 P e fun z=>Pk (Nh P t) (ps.toList.map fun q=>(q.1,Bw s.tm q.2)) (Np n z) fun cs=>
     Ky (Hx s.hp) (List.replicate n (G0 P e)).flatten cs fun cs' m=>K (.view d (A8 P e) 0 n) m [(d,.ar false (bif nz then KP true cs cs' else cs'))])
   |_=>none)=some r):∃v fz nw,K v fz nw=some r∧Dw P a w o Y β s v fz nw:=by
 split at hk
 ·rename_i e hu;obtain⟨hb,hk⟩:=Aj hk;simp only[Bool.and_eq_true] at hb;have Wg:n*A8 P e<=16777216:=Nat.le_of_ble_eq_true hb.2;have L2:(P.info? e).isSome=true:=by have:=hb.1;unfold Mh at this;rw[hu] at this;exact this
  obtain⟨z,cs,hk,hz,hct,hl,La,hc⟩:=Lx hk;obtain⟨hzr,Yb⟩:=IL (w:=w) (A:=Cy s.hp β Y) (β:=β) hl hc hz;have A0p:=UD hzr n
  obtain⟨pc',vc',hk,hf,h2,Ib,hr'⟩:=Z0 h hk A0p (fun c ME id Bi=>by
   obtain⟨j,hj⟩:=List.mem_iff_getElem?.1 ME;obtain⟨_,hg⟩:=Tm hj;rw[Yb c (List.mem_of_getElem? hg)] at Bi;cases Bi)
  obtain⟨qs,m,hk,hql,R2,hqT,_,hm,hqv⟩:=Ms h hk;obtain⟨h3,h3'⟩:=hqv m (fun _ hi=>hi) hm _ h2
  have h3:Bd (Ar w (Cy (Af s.hp m) β Y)) (bif nz then KP true pc' qs else qs) vc'.toList:=by
   cases nz
   ·exact h3
   ·exact DF h2 h3
  have UX:Instr.fill (fun i=>some (i*A8 P e,A8 P e)) (madeCells z.cells (n*cs.length)) (ps.toList.map fun q=>(q.1,a.eval q.2))=some vc':=by
   rw[←hf];refine Ry (fun i=>?_) _ _
   simp[Nh,hu]
  have hvl:vc'.size=n*A8 P e:=by
   have h4:=h2.len;rw[Ib,IB] at h4;simp at h4;rw[←h4,La]
  have Ch:(execOp a.eval o).run P w=.ok (.value (.slice (some ⟨w.heap.size,0,none⟩) n n)) (w.alloc (.cells vc' e)):=by
   unfold execOp;rw[ho];have Aql:¬(n*A8 P e>2 ^ 24):=by omega
   rw[La] at UX;by_cases Tu:n*A8 P e=0
   ·simp only[Instr.buildSlice,Sem.run_bind,run_underlying hu,Result.andThen_ok,Cm L2,if_neg Aql,Tu];rw[Tu] at UX;have e0:madeCells z.cells 0=(Array.range 0).map (fun _=>default):=by simp[madeCells]
    rw[e0] at UX;simp[UX,newRow]
   ·simp only[Instr.buildSlice,Sem.run_bind,run_underlying hu,Result.andThen_ok,Cm L2,if_neg Aql,if_neg Tu,Qy hz];unfold madeCells at UX;simp[UX,newRow]
  refine⟨_,_,_,hk,Mc (c:=vc') (e:=e) hm Ch (Fj.alloc w vc' e) (fun j p hj=>?_) (.inr ⟨A8 P e,n,n,rfl,rfl,Nat.le_refl _,by rw[hvl];exact Nat.le_refl _,.inr (Ip w vc' e)⟩)⟩
  obtain⟨u,Hp,hp⟩:=h3.get hj;exact⟨u,by simpa using Hp,h3' u (List.mem_of_getElem? Hp),hp⟩
 ·cases hk
theorem GS (h:Cl N w0 X0 Y β s a w){t:TypeId}{x k:Operand}{ok:Bool}(ho:o.op=.lookup t x k ok){K:PV->Option R}
  (hk:(match P.underlying t with
   |some (.map kt vt)=>Bj (match P.underlying kt with|some .string=>true|_=>false) (
    match Bw s.tm x with
    |.sc (.map none)=>A0 (Bw s.tm k) fun _=>Dh (L8 P vt) fun z=>cvK P vt z fun v=>Bj (match v with | .tup _=>false|_=>true) (K (bif ok then .tup [v,.sc (.bool false)] else v))
    |_=>none)
   |_=>none)=some r):∃v,K v=some r∧Dw P a w o Y β s v [] []:=by
 split at hk
 ·rename_i kt vt hu;obtain⟨hkt,hk⟩:=Aj hk
  have hkt:P.underlying kt=some .string:=by
   split at hkt
   ·assumption
   ·cases hkt
  split at hk
  ·rename_i hx;obtain⟨b,hkk,hk⟩:=Dc hk;obtain⟨z,hz,hk⟩:=B5 hk;obtain⟨v,hk,hr,hv⟩:=RB hk;obtain⟨PJ,hk⟩:=Aj hk
   have PJ:∀cs,v ≠ .tup cs:=by
    rintro cs rfl
    cases PJ
   have hzr:∀w:World,(zeroValue vt).run P w=.ok z w:=by
    intro w;unfold L8 at hz;cases hi:P.info? vt with
    |none=>rw[hi] at hz;cases hz
    |some i=>
     rw[hi] at hz;simp[zeroValue,typeInfo,hi,show i.zero=some z from hz]
   have Ch:(execOp a.eval o).run P w=.ok (.value (if ok then .tuple #[z,.bool false] else z)) w:=by
    unfold execOp;rw[ho];have hck:∀c (n:Nat),(Instr.checkKey c (n+1) kt (.string b)).run P w=.ok () w:=fun c n=>by simp[Instr.checkKey,run_underlying hkt]
    have AE:∀c,(Instr.checkKey c 10000 kt (.string b)).run P w=.ok () w:=fun c=>hck c 9999
    cases ok<;>simp[Instr.lookup,run_underlying hu,B2 h hx,B2 h hkk,AE,Instr.findKey,Instr.findNow,run_underlying hkt,hzr]
   refine⟨_,hk,B0 Ch ?_ ?_⟩
   ·cases ok
    ·exact hv _ _ _
    ·refine⟨[z,.bool false],rfl,(Lv PJ).1 (hv _ _ _),?_,trivial⟩;exact Ar.sc _
   ·cases ok
    ·intro id Bi;simp only[cond_false] at Bi;rw[hr] at Bi;cases Bi
    ·intro id Bi;have:Bq (.tup [v,.sc (.bool false)])=B8 v++[]:=by simp[Bq,B8,Al]
     simp only[cond_true] at Bi;rw[this,List.append_nil] at Bi;have e:B8 v=Bq v:=by cases v<;>first|rfl|exact absurd rfl (PJ _)
     rw[e,hr] at Bi;cases Bi
  ·cases hk
 ·cases hk
end
end
end Go.Proofs.YtodnjibebeghjaaDoor.Pv
