/-
  The proof of DataBaseBack, part 1.
-/
import Derived.Orders
import Derived.LoopN
import Derived.Below
import Derived.Laws.Cover4
import Derived.Lib.ValidU
import Derived.Lib.Bytealg
import Derived.IntWalk
import Derived.WalkKit
import Derived.WalkLawsBesides
import Derived.Laws.IdiomStrings
import Derived.Laws.MakeOwn
import Derived.Laws.Tables
set_option linter.unusedSimpArgs false
set_option linter.unusedVariables false
namespace Go.Proofs.YtodnjibebeghjaaDoor.Pv
section
inductive PV where
 |sc (v:Value)
 |lst (z:Bool) (es n:Nat) (cells:List PV)
 |own (es n:Nat) (cells:List PV)
 |view (id es off n:Nat)
 |ptr (id off:Nat)
 |iptr (cells:List PV) (off:Nat)
 |pbox (cells:List PV)
 |agg (cells:List PV)
 |tup (vs:List PV)
 |top
 |ub
inductive Bk where
 |st (cells:List PV)
 |ar (fz:Bool) (cells:List PV)
 |mv
structure St where
 tm:Nat->PV
 hp:Nat->Option Bk
structure A4 where
 vals:List PV
 outs:List (List PV)
structure Fk where
 shr:FuncId->Bool
 mvd:FuncId->Nat->Bool
 lnd:FuncId->Nat->Bool
 kz:FuncId->Bool
 ext:FuncId->Option (List PV->Option A4)
 nz:Nat->Bool
def Fk.core (C:Fk):Fk:={ C with ext:=fun _=>none }
def Cg {α:Type}(f:Nat->α)(i:Nat)(v:α):Nat->α:=fun j=>bif Nat.beq j i then v else f j
def rd (hp:Nat->Option Bk)(id:Nat):Option (List PV):=
 match hp id with
 |some (.st c)=>some c
 |some (.ar _ c)=>some c
 |_=>none
def Hb (hp:Nat->Option Bk)(id:Nat):Option (List PV):=
 match hp id with
 |some (.ar _ c)=>some c
 |_=>none
inductive CT where
 |int (k:IntKind)
 |bool
 |str
 |sl (es:Nat)
 |any
def A6 (P:Program)(t:TypeId):Nat:=((P.info? t).map (·.size)).getD 0
def Bw (P:Program)(t:TypeId):Bool:=
 match P.underlying t with
 |some (.struct _)=>true
 |some (.array _ _)=>true
 |_=>false
def Ahy (P:Program):Nat->TypeId->List CT
 |0,_=>[]
 |d+1,t=>
  match P.underlying t with
  |some (.int k)=>[.int k]
  |some .bool=>[.bool]
  |some .string=>[.str]
  |some (.slice e)=>[.sl (A6 P e)]
  |some (.struct fs)=>fs.toList.flatMap fun f=>Ahy P d f.type
  |some (.array n e)=>(List.replicate n (Ahy P d e)).flatten
  |_=>[.any]
abbrev Gi (P:Program)(t:TypeId):List CT:=Ahy P 9 t
def G0 (P:Program)(t:TypeId):Bool:=(P.underlying t).isSome&&Nat.beq (Gi P t).length (A6 P t)
abbrev Ayr (k:IntKind)(a b:Int):Int:=k.wrap (BitVec.ofInt k.bits a &&& BitVec.ofInt k.bits b).toNat
abbrev ior (k:IntKind)(a b:Int):Int:=k.wrap (BitVec.ofInt k.bits a ||| BitVec.ofInt k.bits b).toNat
abbrev Asb (k:IntKind)(a b:Int):Int:=k.wrap (BitVec.ofInt k.bits a ^^^ BitVec.ofInt k.bits b).toNat
abbrev Aej (k:IntKind)(a b:Int):Int:=k.wrap (BitVec.ofInt k.bits a &&& ~~~BitVec.ofInt k.bits b).toNat
abbrev Se (k:IntKind)(a b:Int):Int:=k.wrap (a*2 ^ (min b.toNat k.bits))
abbrev WV (k:IntKind)(a b:Int):Int:=a.fdiv (2 ^ (min b.toNat k.bits))
abbrev Aqf (k:IntKind)(n:Int):Int:=k.wrap (BitVec.ofInt k.bits (if k.signed then -1 else k.max) ^^^ BitVec.ofInt k.bits n).toNat
section
variable {R:Type}
def Aw (k:IntKind)(p:PV)(K:Int->Option R):Option R:=
 match p with
 |.sc (.int k' n)=>if k'=k then K n else none
 |_=>none
def Ap (p:PV)(K:Bool->Option R):Option R:=
 match p with
 |.sc (.bool b)=>K b
 |_=>none
def Ax (p:PV)(K:ByteArray->Option R):Option R:=
 match p with
 |.sc (.string s)=>K s
 |_=>none
def Pz (es:Nat)(p:PV)(K:Bool->Nat->List PV->Option R):Option R:=
 match p with
 |.lst z es' n c=>bif Nat.beq es' es then K z n c else none
 |.sc (.slice none 0 0)=>K true 0 []
 |_=>none
def fsK (es:Nat)(p:PV)(K:PV->Option R):Option R:=
 match p with
 |.view id es' off n=>bif Nat.beq es' es then K (.view id es off n) else none
 |p=>Pz es p fun z n c=>K (.lst z es n c)
def FM (es:Nat)(p:PV)(K:Nat->List PV->Option R):Option R:=
 match p with
 |.own es' n c=>bif Nat.beq es' es then K n c else none
 |_=>none
def Bl (b:Bool)(K:Option R):Option R:=bif b then K else none
abbrev Ac {α:Type}(x:α)(K:α->Option R):Option R:=K x
def GK (b:Bool)(x y:Option R):Option R:=bif b then x else y
abbrev Ayv (x:Nat)(K:Nat->Option R):Option R:=K x
def Afy (x:List (List Nat)) (K:List (List Nat)->Option R):Option R:=K x
def Bi (b:Bool)(x y:Option R):Option R:=bif b then x else y
def Dg {α:Type}(o:Option α)(K:α->Option R):Option R:=
 match o with
 |some a=>K a
 |none=>none
def Aa {α:Type}(l:List α)(K:α->List α->Option R):Option R:=
 match l with
 |a::r=>K a r
 |[]=>none
def Ad {α:Type}(l:List α)(K:Option R):Option R:=
 match l with
 |[]=>K
 |_::_=>none
def Gw (p:PV)(K:List PV->Option R):Option R:=
 match p with
 |.agg c=>K c
 |_=>none
def Sf (p:PV)(K:List PV->Option R):Option R:=
 match p with
 |.pbox c=>K c
 |_=>none
def Aj (r:Option A4)(K:List PV->List (List PV)->Option R):Option R:=
 match r with
 |some ⟨v,o⟩=>K v o
 |none=>none
def SK (p:PV)(K:Value->Option R):Option R:=
 match p with
 |.sc (.func f a b)=>K (.func f a b)
 |.sc (.map none)=>K (.map none)
 |_=>none
def fvK (p:PV)(K:FuncId->Option R):Option R:=
 match p with
 |.sc (.func (.func f) a b)=>bif a.isEmpty&&b.isEmpty then K f else none
 |_=>none
def Tk (t:CT)(p:PV)(K:PV->Option R):Option R:=
 match t with
 |.int k=>Aw k p fun n=>K (.sc (.int k n))
 |.bool=>Ap p fun b=>K (.sc (.bool b))
 |.str=>Ax p fun s=>K (.sc (.string s))
 |.sl es=>Pz es p fun z n c=>K (.lst z es n c)
 |.any=>SK p fun v=>K (.sc v)
def fcK (t:CT)(p:PV)(K:PV->Option R):Option R:=
 match t with
 |.sl es=>fsK es p K
 |t=>Tk t p K
def M4:List CT->List PV->Nat->(List PV->Option R)->Option R
 |[],_,_,K=>K []
 |t::ts,cells,off,K=>Tk t (cells.getD off .top) fun c=>M4 ts cells (off+1) fun r=>K (c::r)
def Kk:List CT->List PV->Nat->(List PV->Option R)->Option R
 |[],_,_,K=>K []
 |t::ts,cells,off,K=>fcK t (cells.getD off .top) fun c=>Kk ts cells (off+1) fun r=>K (c::r)
def OU (agg:Bool)(cells:List PV)(K:PV->Option R):Option R:=
 bif agg then K (.agg cells) else Aa cells fun c r=>Ad r (K c)
def cellsOf:PV->List PV
 |.agg c=>c
 |p=>[p]
def cvK (P:Program)(t:TypeId)(v:Value)(K:PV->Option R):Option R:=
 match v with
 |.agg cs=>Bl (Nat.beq cs.toList.length (Gi P t).length) (M4 (Gi P t) (cs.toList.map .sc) 0 fun c=>K (.agg c))
 |.slice none 0 0=>
  match P.underlying t with
  |some (.slice e)=>K (.lst true (A6 P e) 0 [])
  |_=>none
 |v=>K (.sc v)
end
def Bu (tm:Nat->PV):Operand->PV
 |.tmp t=>tm t
 |.const (.agg cs)=>.agg (cs.toList.map .sc)
 |.const v=>.sc v
 |.func f=>.sc (.func (.func f) #[] #[])
 |.global g=>.sc (.pointer (some ⟨g,0,none⟩))
section
variable {R:Type}
def C8 (p:PV)(K:IntKind->Int->Option R):Option R:=
 match p with
 |.sc (.int k n)=>K k n
 |_=>none
def HC (rdf:Nat->Option (List PV)) (es:Nat)(p:PV)(K:Nat->List PV->Option R):Option R:=
 match p with
 |.view id es' off n=>bif Nat.beq es' es then Dg (rdf id) fun c=>Bl (decide (off+n*es<=c.length)) (K n ((c.drop off).take (n*es))) else none
 |p=>Pz es p fun _ n c=>K n c
def Kl (rdf:Nat->Option (List PV)) (t:CT)(p:PV)(K:PV->List Nat->Option R):Option R:=
 match t with
 |.sl es=>
  match p with
  |.view id es' off n=>bif Nat.beq es' es then Dg (rdf id) fun c=>Bl (decide (off+n*es<=c.length)) (K (.lst false es n ((c.drop off).take (n*es))) [id]) else none
  |p=>Pz es p fun _ n c=>K (.lst false es n c) []
 |t=>Tk t p fun c=>K c []
def J2 (rdf:Nat->Option (List PV)):List CT->List PV->(List PV->List Nat->Option R)->Option R
 |[],[],K=>K [] []
 |t::ts,p::ps,K=>Kl rdf t p fun c m=>J2 rdf ts ps fun cs ms=>K (c::cs) (m++ms)
 |_,_,_=>none
def JW (k:Bool):List PV->List PV->List PV
  |p::ps,c::cs=>
    (match k,p with
     |true,.lst true es 0 []=>.lst true es 0 []
     |_,_=>c)::JW k ps cs
  |_,cs=>cs
def NB (P:Program)(rdf:Nat->Option (List PV)) (t:TypeId)(p:PV)(K:PV->List Nat->Option R):Option R:=
 bif Bw P t then Gw p fun ps=>J2 rdf (Gi P t) ps fun cs m=>K (.agg cs) m
 else J2 rdf (Gi P t) [p] fun cs m=>Aa cs fun c r=>Ad r (K c m)
def X4 (P:Program)(rdf:Nat->Option (List PV)):List TypeId->List PV->(List PV->List Nat->Option R)->Option R
 |[],[],K=>K [] []
 |t::ts,p::ps,K=>NB P rdf t p fun v m=>X4 P rdf ts ps fun vs ms=>K (v::vs) (m++ms)
 |_,_,_=>none
def YW (shr:Bool)(id:Nat)(t:CT)(p:PV)(K:PV->List (Nat × Bk)->Option R):Option R:=
 match t with
 |.sl es=>bif shr then Pz es p fun _ n c=>K (.lst false es n c) [] else FM es p fun n c=>K (.view id es 0 n) [(id,.ar false c)]
 |t=>Tk t p fun c=>K c []
def Lx (shr:Bool)(N:Nat):Nat->List CT->List PV->(List PV->List (Nat × Bk)->Option R)->Option R
 |_,[],ps,K=>Ad ps (K [] [])
 |id,t::ts,ps,K=>Aa ps fun p ps=>YW shr id t p fun c b=>Lx shr N (id+N) ts ps fun cs bs=>K (c::cs) (b++bs)
def Sk (P:Program)(t:TypeId):Option TypeId:=
 match P.underlying t with
 |some (.pointer e)=>some e
 |_=>none
def HO (P:Program)(t:TypeId):Nat:=
 match Sk P t with
 |some e=>1+(Gi P e).length
 |none=>(Gi P t).length
def SG (P:Program)(shr:Bool)(N:Nat)(id:Nat)(t:TypeId)(p:PV)(K:PV->List (Nat × Bk)->Option R):Option R:=
 match Sk P t with
 |some e=>Sf p fun ps=>Lx shr N (id+N) (Gi P e) ps fun cs bs=>K (.ptr id 0) ((id,.st cs)::bs)
 |none=>
 bif Bw P t then Gw p fun ps=>Lx shr N id (Gi P t) ps fun cs bs=>K (.agg cs) bs
 else Lx shr N id (Gi P t) [p] fun cs bs=>Aa cs fun c r=>Ad r (K c bs)
def Ur (P:Program)(shr:Bool)(N:Nat):Nat->List TypeId->List PV->(List PV->List (Nat × Bk)->Option R)->Option R
 |_,[],ps,K=>Ad ps (K [] [])
 |id,t::ts,ps,K=>Aa ps fun p ps=>SG P shr N id t p fun v bs=>Ur P shr N (id+N*HO P t) ts ps fun vs bs'=>K (v::vs) (bs++bs')
def Kc (P:Program)(t:TypeId):List TypeId:=
 match P.underlying t with
 |some (.tuple ts)=>ts.toList
 |_=>[t]
def Ju (vs:List PV)(t:Bool):PV:=bif t then .tup vs else vs.headD .top
def Ky (P:Program)(t:TypeId):Bool:=
 match P.underlying t with
 |some (.tuple _)=>true
 |_=>false
def Ade (op:BinOp)(a b:Int)(K:Bool->Option R):Option R:=
 match op with
 |.eql=>K (a==b)
 |.neq=>K (a != b)
 |.lss=>K (decide (a<b))
 |.leq=>K (decide (a<=b))
 |.gtr=>K (decide (a>b))
 |.geq=>K (decide (a>=b))
 |_=>none
def V5 (op:BinOp)(k:IntKind)(a b:Int)(K:PV->Option R):Option R:=
 match op with
 |.add=>Ac ((k.wrap (a+b))) fun n=>K (.sc (.int k n))
 |.sub=>Ac ((k.wrap (a-b))) fun n=>K (.sc (.int k n))
 |.mul=>Ac ((k.wrap (a*b))) fun n=>K (.sc (.int k n))
 |.quo=>Bl (decide (b≠0)) (Ac ((k.wrap (a.tdiv b))) fun n=>K (.sc (.int k n)))
 |.rem=>Bl (decide (b≠0)) (Ac ((a.tmod b)) fun n=>K (.sc (.int k n)))
 |.and=>Ac (Ayr k a b) fun n=>K (.sc (.int k n))
 |.or=>Ac (ior k a b) fun n=>K (.sc (.int k n))
 |.xor=>Ac (Asb k a b) fun n=>K (.sc (.int k n))
 |.andNot=>Ac (Aej k a b) fun n=>K (.sc (.int k n))
 |op=>Ade op a b fun r=>K (.sc (.bool r))
def Wr (op:BinOp)(x y:ByteArray)(K:PV->Option R):Option R:=
 match op with
 |.add=>Bl (decide (x.size+y.size<=9223372036854775807)) (Ac (x++y) fun s=>K (.sc (.string s)))
 |.eql=>K (.sc (.bool (x.data.toList==y.data.toList)))
 |.neq=>K (.sc (.bool !(x.data.toList==y.data.toList)))
 |.lss=>K (.sc (.bool (Op.bytesLess x.data.toList y.data.toList)))
 |.leq=>K (.sc (.bool (Op.bytesLess x.data.toList y.data.toList||x.data.toList==y.data.toList)))
 |.gtr=>K (.sc (.bool !(Op.bytesLess x.data.toList y.data.toList||x.data.toList==y.data.toList)))
 |.geq=>K (.sc (.bool !(Op.bytesLess x.data.toList y.data.toList)))
 |_=>none
def X6 (e:Bool)(p:PV)(K:PV->Option R):Option R:=
 match p with
 |.sc (.slice none 0 0)=>K (.sc (.bool e))
 |.lst z _ n _=>Bi z (K (.sc (.bool e))) (Bi (decide (0<n)) (K (.sc (.bool !e))) (K .ub))
 |.view _ _ _ n=>Bi (decide (0<n)) (K (.sc (.bool !e))) (K .ub)
 |_=>none
def HR (P:Program):List Field->Nat->Bool
 |[],_=>true
 |f::r,i=>Nat.beq f.offset i&&(f.name != "_")&&(match P.underlying f.type with|some (.int _)=>true|some .bool=>true|some .string=>true|_=>false)&&HR P r (i+1)
def Kb (P:Program):List Field->Nat->Bool
  |[],_=>true
  |f::r,i=>Nat.beq f.offset i&&(f.name != "_") &&
    (match P.underlying f.type with
     |some (.int _)=>Kb P r (i+1)
     |some .bool=>Kb P r (i+1)
     |some .string=>Kb P r (i+1)
     |some (.struct gs)=>HR P gs.toList 0 && !P.stoodInHeld f.type&&(P.info? f.type).isSome&&Nat.beq (A6 P f.type) gs.size&&Kb P r (i+gs.size)
     |_=>false)
def FA (P:Program)(t:TypeId)(fs:Array Field):Bool:=Kb P fs.toList 0 && !P.stoodInHeld t && !P.eqGuardType P.depth t
def ZM (P:Program)(f:Field):CT:=
 match P.underlying f.type with
 |some (.int k)=>.int k
 |some .bool=>.bool
 |some .string=>.str
 |_=>.any
def IG (P:Program)(f:Field):List CT:=
 match P.underlying f.type with
 |some (.struct gs)=>gs.toList.map (ZM P)
 |_=>[ZM P f]
def Ph (P:Program):List Field->List CT
 |[]=>[]
 |f::r=>IG P f++Ph P r
def Io:List CT->List PV->List PV->(Bool->Option R)->Option R
 |[],[],[],K=>K true
 |.int k::ts,p::ps,q::qs,K=>Aw k p fun a=>Aw k q fun b=>Io ts ps qs fun r=>K ((a==b)&&r)
 |.bool::ts,p::ps,q::qs,K=>Ap p fun a=>Ap q fun b=>Io ts ps qs fun r=>K ((a==b)&&r)
 |.str::ts,p::ps,q::qs,K=>Ax p fun a=>Ax q fun b=>Io ts ps qs fun r=>K ((a==b)&&r)
 |_,_,_,_=>none
def XF (P:Program)(op:BinOp)(t:TypeId)(x y:PV)(K:PV->Option R):Option R:=
 match P.underlying t with
 |some (.int k)=>
  match op with
  |.shl=>Aw k x fun a=>C8 y fun _ b=>Bl (decide (0<=b)) (Ac (Se k a b) fun n=>K (.sc (.int k n)))
  |.shr=>Aw k x fun a=>C8 y fun _ b=>Bl (decide (0<=b)) (Ac (WV k a b) fun n=>K (.sc (.int k n)))
  |op=>Aw k x fun a=>Aw k y fun b=>V5 op k a b K
 |some .string=>Ax x fun a=>Ax y fun b=>Wr op a b K
 |some .bool=>
  match op with
  |.eql=>Ap x fun a=>Ap y fun b=>K (.sc (.bool (a==b)))
  |.neq=>Ap x fun a=>Ap y fun b=>K (.sc (.bool !(a==b)))
  |_=>none
 |some (.slice _)=>
  match op,y with
  |.eql,.sc (.slice none 0 0)=>X6 true x K
  |.neq,.sc (.slice none 0 0)=>X6 false x K
  |_,_=>none
 |some (.map _ _)=>
  match op,x,y with
  |.eql,.sc (.map none),.sc (.map none)=>K (.sc (.bool true))
  |.neq,.sc (.map none),.sc (.map none)=>K (.sc (.bool false))
  |_,_,_=>none
 |_=>none
def Of (P:Program)(op:BinOp)(t:TypeId)(x y:PV)(K:PV->Option R):Option R:=
 match P.underlying t with
 |some (.struct fs)=>
  match op with
  |.eql=>Bl (FA P t fs) (Gw x fun xs=>Gw y fun ys=>Io (Ph P fs.toList) xs ys fun b=>K (.sc (.bool b)))
  |.neq=>Bl (FA P t fs) (Gw x fun xs=>Gw y fun ys=>Io (Ph P fs.toList) xs ys fun b=>K (.sc (.bool !b)))
  |_=>none
 |_=>XF P op t x y K
def unK (op:UnOp)(x:PV)(K:PV->Option R):Option R:=
 match op with
 |.not=>Ap x fun b=>K (.sc (.bool !b))
 |.neg=>C8 x fun k n=>Ac (k.wrap (0-n)) fun n=>K (.sc (.int k n))
 |.xor=>C8 x fun k n=>Ac (Aqf k n) fun n=>K (.sc (.int k n))
 |_=>none
def Gq:List PV->Option (List UInt8)
 |[]=>some []
 |.sc (.int .u8 n)::r=>(Gq r).map (n.toNat.toUInt8 :: ·)
 |_::_=>none
def Ov:List PV->Option (List Int)
 |[]=>some []
 |.sc (.int .i32 n)::r=>(Ov r).map (n :: ·)
 |_::_=>none
def L0 (s:ByteArray):List PV:=s.data.toList.map fun b=>.sc (.int .u8 b.toNat)
def We (P:Program)(rdf:Nat->Option (List PV)) (d:Nat)(src dst:TypeId)(x:PV)(K:PV->List (Nat × Bk)->Option R):Option R:=
 match P.underlying dst with
 |some (.int k)=>Bl (P.underlying src).isSome (C8 x fun _ n=>Ac (k.wrap n) fun n=>K (.sc (.int k n)) [])
 |some .string=>
  match P.underlying src with
  |some .string=>Ax x fun s=>K (.sc (.string s)) []
  |some (.slice e)=>
   match P.underlying e with
   |some (.int .u8)=>HC rdf 1 x fun n c=>Bl (decide (c.length=n)) (Dg (Gq c) fun b=>K (.sc (.string ⟨b.toArray⟩)) [])
   |some (.int .i32)=>HC rdf 1 x fun n c=>Bl (decide (c.length=n)) (Dg (Ov c) fun ns=>Ac (runesBytes ns) fun s=>K (.sc (.string s)) [])
   |_=>none
  |_=>none
 |some (.slice e)=>
  match P.underlying e,P.underlying src with
  |some (.int .u8),some .string=>Ax x fun s=>Bl (decide (s.size<=1099511627776)) (K (.view d 1 0 s.size) [(d,.ar false (L0 s))])
  |_,_=>none
 |_=>none
def Fh (p:Option PV)(dflt:Nat)(K:Nat->Option R):Option R:=
 match p with
 |none=>K dflt
 |some p=>C8 p fun _ i=>Bl (decide (0<=i)) (K i.toNat)
def Tt (P:Program)(rdf:Nat->Option (List PV)) (t:TypeId)(x:PV)(lo hi:Option PV)(K:PV->Option R):Option R:=
 match P.underlying t with
 |some .string=>Ax x fun s=>Fh lo 0 fun l=>Fh hi s.size fun h=>Bl (decide (l<=h)&&decide (h<=s.size)) (Ac (s.extract l h) fun s=>K (.sc (.string s)))
 |some (.slice e)=>Bl (P.info? e).isSome (
  match x with
  |.view id es off n=>Bl (Nat.beq es (A6 P e)) (Fh lo 0 fun l=>Fh hi n fun h=>Bl (decide (l<=h)&&decide (h<=n)) (Ac (off+l*es) fun o=>Ac (h-l) fun n=>K (.view id es o n)))
  |x=>Pz (A6 P e) x fun z n c=>Fh lo 0 fun l=>Fh hi n fun h=>Bl (decide (l<=h)&&decide (h<=n)) (Ac (h-l) fun n=>Ac ((c.drop (l*A6 P e)).take (n*A6 P e)) fun c=>K (.lst z (A6 P e) n c)))
 |some (.array n e)=>Bl (P.info? e).isSome (
  match x with
  |.ptr id off=>Dg (rdf id) fun c=>Bl (decide (1<=n*A6 P e)&&decide (off+n*A6 P e<=c.length)&&Nat.beq (A6 P e) 1)<|Fh lo 0 fun l=>Fh hi n fun h=>Bl (decide (l<=h)&&decide (h<=n)) (Ac (off+l*A6 P e) fun o=>Ac (h-l) fun n=>K (.view id (A6 P e) o n))
  |_=>none)
 |_=>none
def Oi (P:Program)(d:Nat)(t:TypeId)(x:PV)(lo hi mx:Option PV)(K:PV->List (Nat × Bk)->Option R):Option R:=
 match P.underlying t with
 |some (.slice e)=>Bl ((P.info? e).isSome&&hi.isSome) (
  match x with
  |.view _ es _ n=>Bl (Nat.beq es (A6 P e)) (Fh lo 0 fun l=>Fh hi n fun h=>Fh mx n fun m=>Bl (Nat.beq l m&&Nat.beq h m&&decide (m<=n)) (K (.view d (A6 P e) 0 0) [(d,.ar false [])]))
  |x=>Pz (A6 P e) x fun _ n _=>Fh lo 0 fun l=>Fh hi n fun h=>Fh mx n fun m=>Bl (Nat.beq l m&&Nat.beq h m&&decide (m<=n)) (K (.view d (A6 P e) 0 0) [(d,.ar false [])]))
 |_=>none
def Nj (x:PV)(d:Nat)(K:PV->Option R):Option R:=
 match x with
 |.ptr id off=>K (.ptr id (off+d))
 |.iptr c off=>K (.iptr c (off+d))
 |_=>none
def Xp (P:Program)(e:TypeId):Bool:=(P.info? e).isSome
def Ly (P:Program)(t:TypeId)(f:Nat):Option (Nat × TypeId):=
 match P.underlying t with
 |some (.struct fs)=>(fs[f]?).map fun g=>(g.offset,g.type)
 |_=>none
def Hs (P:Program)(t:TypeId)(x:PV)(i:Int)(K:PV->Option R):Option R:=
 match P.underlying t with
 |some (.array n e)=>Bl (Xp P e) (Bl (decide (0<=i)&&decide (i<n)) (Nj x (i.toNat*A6 P e) K))
 |some (.slice e)=>Bl (Xp P e) (
  match x with
  |.view id es off n=>Bl (Nat.beq es (A6 P e)) (Bl (decide (0<=i)&&decide (i<n)) (K (.ptr id (off+i.toNat*es))))
  |x=>Pz (A6 P e) x fun _ n c=>Bl (decide (0<=i)&&decide (i<n)) (K (.iptr c (i.toNat*A6 P e))))
 |_=>none
def Qg (P:Program)(rdf:Nat->Option (List PV)) (t:TypeId)(x:PV)(K:PV->Option R):Option R:=
 match x with
 |.ptr id off=>Bl (G0 P t) (Dg (rdf id) fun c=>Kk (Gi P t) c off fun cs=>OU (Bw P t) cs K)
 |.iptr c off=>Bl (G0 P t) (M4 (Gi P t) c off fun cs=>OU (Bw P t) cs K)
 |_=>none
def ET:PV->PV
 |.lst _ es n c=>.lst false es n c
 |p=>p
def MH:PV->PV
 |.agg cs=>.agg (cs.map ET)
 |p=>ET p
def Ru (nz:Bool)(P:Program)(rdf rdaf:Nat->Option (List PV)) (t:TypeId)(x:PV)(K:PV->Option R):Option R:=
 match x with
 |.ptr id off=>Bl (G0 P t) (
  match rdaf id with
  |some c=>M4 (Gi P t) c off fun cs=>OU (Bw P t) cs fun v=>K (bif nz then v else MH v)
  |none=>Dg (rdf id) fun c=>Kk (Gi P t) c off fun cs=>OU (Bw P t) cs K)
 |.iptr c off=>Bl (G0 P t) (M4 (Gi P t) c off fun cs=>OU (Bw P t) cs fun v=>K (bif nz then v else MH v))
 |_=>none
def Co (cells new:List PV)(off:Nat):List PV:=cells.take off++new++cells.drop (off+new.length)
def okP:PV->Bool
 |.agg _=>true
 |.lst _ _ _ _=>true
 |.view _ _ _ _=>true
 |.sc (.int _ _)=>true
 |.sc (.bool _)=>true
 |.sc (.string _)=>true
 |.sc (.slice none 0 0)=>true
 |_=>false
def Nw (Fl:Nat->Option (Nat × Nat)):List (Nat × PV)->List PV->(List PV->Option R)->Option R
 |[],cells,K=>K cells
 |(i,p)::r,cells,K=>Dg (Fl i) fun q=>Bl (okP p&&Nat.beq (cellsOf p).length q.2&&Nat.ble (q.1+q.2) cells.length) (Ac (Co cells (cellsOf p) q.1) fun cells=>Nw Fl r cells K)
def L5 (P:Program)(t:TypeId)(i:Nat):Option (Nat × Nat):=
 match P.underlying t with
 |some (.struct fs)=>(fs[i]?).map fun f=>(f.offset,A6 P f.type)
 |some (.array _ e)=>some (i*A6 P e,A6 P e)
 |some (.slice e)=>some (i*A6 P e,A6 P e)
 |_=>none
def Lq (P:Program)(t:TypeId):Bool:=
 match P.underlying t with
 |some (.struct fs)=>fs.toList.all fun f=>Xp P f.type
 |some (.array _ e)=>Xp P e
 |some (.slice e)=>Xp P e
 |_=>false
def K7 (P:Program)(t:TypeId):Option Value:=(P.info? t).bind (·.zero)
def Fq (P:Program)(t:TypeId)(K:List PV->Option R):Option R:=
 Dg (K7 P t) fun v=>Bl (Nat.beq v.cells.toList.length (Gi P t).length&&G0 P t) (M4 (Gi P t) (v.cells.toList.map .sc) 0 K)
def Ni (P:Program)(t:TypeId):Bool:=
 match P.underlying t with
 |some (.array _ _)=>true
 |_=>false
def XO (P:Program)(t:TypeId)(cells:List PV):Bk:=bif Ni P t then .ar false cells else .st cells
def Mg (n:Nat)(l:List PV):List PV:=(List.replicate n l).flatten
def Abc (a b:PV)(K:PV->Option R):Option R:=C8 a fun k x=>Aw k b fun y=>Ac (if y<x then y else x) fun n=>K (.sc (.int k n))
def Ad5 (a b:PV)(K:PV->Option R):Option R:=C8 a fun k x=>Aw k b fun y=>Ac (if x<y then y else x) fun n=>K (.sc (.int k n))
def RT (P:Program)(t:TypeId)(x:PV)(K:Nat->Option R):Option R:=
 match P.underlying t with
 |some .string=>Ax x fun s=>K s.size
 |some (.array n _)=>K n
 |some (.slice e)=>
  match x with
  |.view _ es _ n=>Bl (Nat.beq es (A6 P e)) (K n)
  |x=>Pz (A6 P e) x fun _ n _=>K n
 |_=>none
end
abbrev A7:=FuncId->List PV->Option A4
section
variable {R:Type}
def Hh (P:Program)(ts:List TypeId):Bool:=ts.any fun t=>(Sk P t).isSome||(Gi P t).any fun c=>match c with | .sl _=>true|_=>false
def Tu (P:Program)(t:TypeId)(tm:Nat->PV)(x:Operand)(K:PV->Option R):Option R:=
 match x with
 |.const v=>cvK P t v K
 |x=>K (Bu tm x)
def DL (P:Program)(e:TypeId):Bool:=
 match P.info? e with
 |some i=>(match i.zero with|some z=>Nat.beq z.cells.size i.size|none=>false)
 |none=>false
def MG (P:Program)(rdaf:Nat->Option (List PV)) (es:Nat)(t:TypeId)(x:PV)(K:Nat->List PV->Option R):Option R:=
 match P.underlying t with
 |some .string=>Bl (Nat.beq es 1) (Ax x fun b=>K b.size (L0 b))
 |some (.slice _)=>HC rdaf es x K
 |_=>none
abbrev LD (P:Program)(s:St)(es:Nat)(t:TypeId)(x:PV)(K:Nat->List PV->Option R):Option R:=MG P (Hb s.hp) es t x K
def Re (c:Call):Bool:=
 match c.args.toList with
 |.const (.slice none 0 0)::_=>true
 |_=>false
def Om (P:Program)(rdaf:Nat->Option (List PV)) (d:Nat)(t tx:TypeId)(x:PV)(K:PV->List (Nat × Bk)->Option R):Option R:=
 match P.underlying t with
 |some (.slice e)=>Bl (DL P e) <|
  MG P rdaf (A6 P e) tx x fun m new=>
   Bl (decide (new.length=m*A6 P e)&&decide (m*((P.info? e).map (·.bytes)).getD 0<=1099511627776)&&decide (m<=1099511627776)) (K (.view d (A6 P e) 0 m) [(d,.ar false new)])
 |_=>none
def G6 (k:Bool):List Operand->List PV->List PV
  |x::xs,p::ps=>
    (match x,p with
     |.const (.slice none 0 0),.lst z es 0 []=>.lst (k||z) es 0 []
     |_,p=>p)::G6 k xs ps
  |_,ps=>ps
def QS (P:Program)(t:TypeId)(x:PV)(K:Nat->Option R):Option R:=
 match P.underlying t with
 |some (.slice e)=>Pz (A6 P e) x fun z _ _=>Bl z (K 0)
 |_=>none
def Xj (P:Program)(f:FuncId)(c:Call):List TypeId:=
 match P.funcs[f]? with
 |some fn=>fn.params.toList
 |none=>c.argTypes.toList
def Wd (C:Fk)(P:Program)(N:Nat)(call:A7)(tm:Nat->PV)(rdaf:Nat->Option (List PV)) (o:Oper)(c:Call)(f:FuncId)(K:PV->List Nat->List (Nat × Bk)->Option R):Option R:=
 X4 P rdaf (Xj P f c) (c.args.toList.map (Bu tm)) fun vs m=>
  Aj (call f (G6 (C.kz f) c.args.toList vs)) fun rv ro=>Ad ro (Bl (Nat.blt 0 N)<|Ur P (C.shr f) N (o.dst.getD 0) (Kc P o.type) rv fun ws bs=>
   Bl (bif Ky P o.type then !Nat.beq ws.length 1 else Nat.beq ws.length 1)<|K (Ju ws (Ky P o.type)) (bif Hh P (Kc P o.type) then m else []) bs)
def Yr (C:Fk)(P:Program)(N:Nat)(call:A7)(tm:Nat->PV)(rdf rdaf:Nat->Option (List PV)) (o:Oper)(K:PV->List Nat->List (Nat × Bk)->Option R):Option R:=
  match o.op with
  |.move x=>Tu P o.type tm x fun p=>K p [] []
  |.assign x=>Tu P o.type tm x fun p=>K p [] []
  |.pick c a b=>Ap (Bu tm c) fun t=>Bi t (K (Bu tm a) [] []) (K (Bu tm b) [] [])
  |.alloc t=>Dg o.dst fun d=>Fq P t fun cs=>K (.ptr d 0) [] [(d,XO P t cs)]
  |.box t x=>Dg o.dst fun d=>Bl (G0 P t&&Nat.beq (cellsOf (Bu tm x)).length (Gi P t).length)
      (bif Ni P t then M4 (Gi P t) (cellsOf (Bu tm x)) 0 fun cs=>K (.ptr d 0) [] [(d,.ar false cs)]
       else Kk (Gi P t) (cellsOf (Bu tm x)) 0 fun cs=>K (.ptr d 0) [] [(d,.st cs)])
  |.build t ps=>Bl (Lq P t&&Bw P t)<|Fq P t fun z=>Nw (L5 P t) (ps.toList.map fun q=>(q.1,Bu tm q.2)) z fun cs=>Kk (Gi P t) cs 0 fun cs'=>K (.agg cs') [] []
  |.buildSlice t n ps=>Dg o.dst fun d=>
      match P.underlying t with
      |some (.slice e)=>Bl (Lq P t&&Nat.ble (n*A6 P e) 16777216) (Fq P e fun z=>Nw (L5 P t) (ps.toList.map fun q=>(q.1,Bu tm q.2)) (Mg n z) fun cs=>
          J2 rdaf (List.replicate n (Gi P e)).flatten cs fun cs' m=>K (.view d (A6 P e) 0 n) m [(d,.ar false (bif C.nz N then JW true cs cs' else cs'))])
      |_=>none
  |.load t a=>Ru (C.nz N) P rdf rdaf t (Bu tm a) fun v=>K v [] []
  |.nilCheck x=>Nj (Bu tm x) 0 fun p=>K p [] []
  |.binOp op t x y _=>
      Of P op t (Bu tm x) (Bu tm y) fun v=>K v [] []
  |.unOp op _ x=>unK op (Bu tm x) fun v=>K v [] []
  |.convert src dst x=>We P rdaf (o.dst.getD 0) src dst (Bu tm x) fun v b=>Dg o.dst fun _=>K v [] b
  |.makeSlice t l c=>Dg o.dst fun d=>
      match P.underlying t with
      |some (.slice e)=>C8 (Bu tm l) fun _ n=>C8 (Bu tm c) fun _ m=>
          Bl (decide (0<=n)&&decide (n<=m)&&decide (m*((P.info? e).map (·.bytes)).getD 0<=1099511627776)&&decide (m<=1099511627776))
            (Fq P e fun z=>K (.view d (A6 P e) 0 n.toNat) [] [(d,.ar false (Mg n.toNat z))])
      |_=>none
  |.slice t x lo hi mx=>
      match mx with
      |none=>Tt P rdf t (Bu tm x) (lo.map (Bu tm)) (hi.map (Bu tm)) fun v=>K v [] []
      |some m=>Dg o.dst fun d=>Oi P d t (Bu tm x) (lo.map (Bu tm)) (hi.map (Bu tm)) (some (Bu tm m)) fun v nw=>K v [] nw
  |.fieldAddr t x f=>Dg (Ly P t f) fun q=>Bl (Nat.ble 1 (A6 P q.2)) (Nj (Bu tm x) q.1 fun p=>K p [] [])
  |.field t x f=>Dg (Ly P t f) fun q=>Bl (G0 P q.2)<|Gw (Bu tm x) fun cs=>Kk (Gi P q.2) cs q.1 fun c=>OU (Bw P q.2) c fun v=>K v [] []
  |.indexAddr t x i=>C8 (Bu tm i) fun _ n=>Hs P t (Bu tm x) n fun p=>K p [] []
  |.index t x i=>C8 (Bu tm i) fun _ n=>
      match P.underlying t with
      |some .string=>Ax (Bu tm x) fun s=>Bl (decide (0<=n)) (Dg (s.data.toList[n.toNat]?) fun b=>K (.sc (.int .u8 b.toNat)) [] [])
      |some (.array len e)=>Gw (Bu tm x) fun cs=>Bl (decide (0<=n)&&decide (n<len)&&G0 P e) (Kk (Gi P e) cs (n.toNat*A6 P e) fun c=>OU (Bw P e) c fun v=>K v [] [])
      |_=>none
  |.lookup t x k ok=>
      match P.underlying t with
      |some (.map kt vt)=>Bl (match P.underlying kt with|some .string=>true|_=>false) (
        match Bu tm x with
        |.sc (.map none)=>Ax (Bu tm k) fun _=>Dg (K7 P vt) fun z=>cvK P vt z fun v=>Bl (match v with | .tup _=>false|_=>true) (K (bif ok then .tup [v,.sc (.bool false)] else v) [] [])
        |_=>none)
      |_=>none
  |.extract x i=>
      match Bu tm x with
      |.tup vs=>Dg vs[i]? fun p=>K p [] []
      |_=>none
  |.call c=>
      match c.callee with
      |.builtin .len=>Aa c.args.toList fun x _=>Aa c.argTypes.toList fun t _=>RT P t (Bu tm x) fun n=>K (.sc (.int .i64 n)) [] []
      |.builtin .cap=>Aa c.args.toList fun x _=>Aa c.argTypes.toList fun t _=>QS P t (Bu tm x) fun n=>K (.sc (.int .i64 n)) [] []
      |.builtin .min=>Aa c.args.toList fun x r=>Aa r fun y r'=>Ad r' (Abc (Bu tm x) (Bu tm y) fun v=>K v [] [])
      |.builtin .max=>Aa c.args.toList fun x r=>Aa r fun y r'=>Ad r' (Ad5 (Bu tm x) (Bu tm y) fun v=>K v [] [])
      |.builtin .append=>Bl (Re c) (Dg o.dst fun d=>Aa c.args.toList fun _ r=>Aa r fun x r'=>Ad r' (Aa c.argTypes.toList fun t u=>Aa u fun tx _=>Om P rdaf d t tx (Bu tm x) fun v nw=>K v [] nw))
      |.value (.func f)=>Wd C P N call tm rdaf o c f K
      |.value (.tmp t)=>fvK (tm t) fun f=>Wd C P N call tm rdaf o c f K
      |_=>none
  |_=>none
def Mc (C:Fk)(P:Program)(o:Op):Bool:=
 match o with
 |.store .. =>true
 |.call c=>
  match c.callee with
  |.builtin .append=> !Re c
  |.builtin .copy=>true
  |.builtin _=>false
  |.value (.func f)=>((Xj P f c).any fun t=>(Sk P t).isSome)||((Xj P f c).zipIdx.any fun q=>C.mvd f q.2||C.lnd f q.2)
  |_=>false
 |_=>false
def Nk (b:Bk):Bk:=
 match b with
 |.ar _ c=>.ar true c
 |b=>b
def Ae (hp:Nat->Option Bk)(ids:List Nat):Nat->Option Bk:=fun i=>bif ids.any (Nat.beq i) then (hp i).map Nk else hp i
def Am (hp:Nat->Option Bk):List (Nat × Bk)->Nat->Option Bk
 |[]=>hp
 |(i,b)::r=>Am (Cg hp i (some b)) r
def Bn (hp:Nat->Option Bk):List (Nat × Bk)->Bool
 |[]=>true
 |(i,_)::r=>(hp i).isNone && !(r.any fun q=>Nat.beq q.1 i)&&Bn hp r
def Bh (tm:Nat->PV)(d:Option Tmp)(v:PV):Nat->PV:=
 match d with
 |some i=>Cg tm i v
 |none=>tm
def E4 (N:Nat)(d:Option Tmp):Bool:=
 match d with
 |some i=>Nat.blt i N
 |none=>true
def Tl (N:Nat)(s:St)(d:Option Tmp)(v:PV)(fz:List Nat)(nw:List (Nat × Bk)) (K:St->Option R):Option R:=
 Bl (E4 N d&&Bn s.hp nw) (K ⟨Bh s.tm d v,Am (Ae s.hp fz) nw⟩)
def Tn (P:Program)(s:St)(t:TypeId)(a x:PV)(K:St->Option R):Option R:=
 match a with
 |.ptr id off=>
  match s.hp id with
  |some (.st c)=>Bl (G0 P t&&Nat.beq (cellsOf x).length (Gi P t).length&&decide (off+(Gi P t).length<=c.length)) (Kk (Gi P t) (cellsOf x) 0 fun cs=>Ac (Co c cs off) fun c=>K ⟨s.tm,Cg s.hp id (some (.st c))⟩)
  |some (.ar false c)=>Bl (G0 P t&&decide (off+(Gi P t).length<=c.length)) (J2 (Hb s.hp) (Gi P t) (cellsOf x) fun cs m=>Bl (!m.any (Nat.beq id)) (Ac (Co c cs off) fun c=>K ⟨s.tm,Cg (Ae s.hp m) id (some (.ar false c))⟩))
  |_=>none
 |_=>none
def Rc (P:Program)(t:TypeId):Bool:=
 match P.underlying t with
 |some (.int _)=>true
 |_=>false
def Nm (P:Program)(N:Nat)(s:St)(d:Nat)(e:TypeId)(b x:PV)(K:St->Option R):Option R:=
 C8 x fun _ n=>Pz (A6 P e) b fun z _ _=>
  Bl (z&&Nat.blt d N&&(s.hp d).isNone&&decide (0<=n)&&decide (n.toNat*((P.info? e).map (·.bytes)).getD 0<=1099511627776)&&decide (n<=1099511627776))
   (K ⟨Cg s.tm d (.view d (A6 P e) 0 n.toNat),Cg s.hp d (some (.ar false []))⟩)
def Kz (P:Program)(N:Nat)(s:St)(d:Nat)(t tx:TypeId)(b x:PV)(K:St->Option R):Option R:=
 match P.underlying t with
 |some (.slice e)=>Bl (DL P e) <|
  bif Rc P tx then Nm P N s d e b x K else
  LD P s (A6 P e) tx x fun m new=>
  match b with
  |.view id es off n=>
   match s.hp id with
   |some (.ar false c)=>
    Bl (Nat.beq es (A6 P e)&&Nat.beq off 0&&Nat.blt d N&&(s.hp d).isNone&&decide (n*es<=c.length)&&decide (new.length=m*es)
     && decide ((n+m)*((P.info? e).map (·.bytes)).getD 0<=1099511627776)&&decide (n+m<=1099511627776))
     (Ac (n+m) fun n'=>Ac (c.take (n*es)++new) fun c=>K ⟨Cg s.tm d (.view d es 0 n'),Cg (Cg s.hp id (some .mv)) d (some (.ar false c))⟩)
   |_=>none
  |b=>Pz (A6 P e) b fun z _ _=>
    Bl (z&&Nat.blt d N&&(s.hp d).isNone&&decide (new.length=m*A6 P e)&&decide (m*((P.info? e).map (·.bytes)).getD 0<=1099511627776)&&decide (m<=1099511627776))
     (K ⟨Cg s.tm d (.view d (A6 P e) 0 m),Cg s.hp d (some (.ar false new))⟩)
 |_=>none
def AL (P:Program)(N:Nat)(s:St)(d:Option Tmp)(t tx:TypeId)(b x:PV)(K:St->Option R):Option R:=
 match P.underlying t with
 |some (.slice e)=>Bl (Xp P e&&E4 N d) <|
  LD P s (A6 P e) tx x fun m new=>
  match b with
  |.view id es off n=>
   match s.hp id with
   |some (.ar false c)=>Bl (Nat.beq es (A6 P e)&&decide (off+n*es<=c.length)&&decide (new.length=m*es))
     (Ac (min m n) fun k=>Ac (Co c (new.take (k*es)) off) fun c=>K ⟨Bh s.tm d (.sc (.int .i64 k)),Cg s.hp id (some (.ar false c))⟩)
   |_=>none
  |_=>none
 |_=>none
def RA (mv:Bool)(hp:Nat->Option Bk)(t:CT)(p:PV)(K:PV->List Nat->List Nat->Option R):Option R:=
 match t with
 |.sl es=>
  bif mv then
   match p with
   |.view id es' off n=>
    match hp id with
    |some (.ar false c)=>
     bif Nat.beq es' es&&Nat.beq off 0 then Bl (decide (n*es<=c.length)) (K (.own es n (c.take (n*es))) [] [id])
     else Kl (Hb hp) (.sl es) (.view id es' off n) fun c m=>K c m []
    |_=>Kl (Hb hp) (.sl es) (.view id es' off n) fun c m=>K c m []
   |p=>Pz es p fun z n c=>bif z then K (.own es 0 []) [] [] else K (.lst false es n c) [] []
  else Kl (Hb hp) (.sl es) p fun c m=>K c m []
 |t=>Tk t p fun c=>K c [] []
def Us (mv:Bool)(hp:Nat->Option Bk):List CT->List PV->(List PV->List Nat->List Nat->Option R)->Option R
 |[],[],K=>K [] [] []
 |t::ts,p::ps,K=>RA mv hp t p fun c m x=>Us mv hp ts ps fun cs ms xs=>K (c::cs) (m++ms) (x++xs)
 |_,_,_=>none
inductive Fe where
 |var (id off:Nat) (cts:List CT) (ws:List PV)
 |row (id:Nat)
 |none
def Fe.ids:Fe->List Nat
 |.var id _ _ _=>[id]
 |.row id=>[id]
 |.none=>[]
def Ap5 (P:Program)(t:TypeId):Option TypeId:=
 match P.underlying t with
 |some (.slice e)=>some e
 |_=>none
def VE (hp:Nat->Option Bk)(es:Nat)(p:PV)(K:PV->List Fe->Option R):Option R:=
 match p with
 |.view id es' off n=>
  match hp id with
  |some (.ar false c)=>Bl (Nat.beq es' es&&Nat.beq off 0) (K (.tup [.own es n c]) [.row id])
  |_=>none
 |p=>Pz es p fun z _ _=>Bl z (K (.tup [.own es 0 []]) [.none])
def Tr (C:Fk)(P:Program)(f:FuncId)(hp:Nat->Option Bk)(i:Nat)(t:TypeId)(p:PV)(K:PV->List Nat->List Nat->List Fe->Option R):Option R:=
 match Sk P t with
 |some e=>
  match p with
  |.ptr id off=>
   match hp id with
   |some (.st c)=>Bl (G0 P e&&decide (off+(Gi P e).length<=c.length)) (Us (C.mvd f i) hp (Gi P e) ((c.drop off).take (Gi P e).length) fun cs m x=>K (.pbox cs) m x [.var id off (Gi P e) cs])
   |_=>none
  |_=>none
 |none=>
  bif C.lnd f i then Dg (Ap5 P t) fun e=>VE hp (A6 P e) p fun v l=>K v [] [] l
  else bif Bw P t then Gw p fun ps=>Us (C.mvd f i) hp (Gi P t) ps fun cs m x=>K (.agg cs) m x []
  else Us (C.mvd f i) hp (Gi P t) [p] fun cs m x=>Aa cs fun c r=>Ad r (K c m x [])
def BC (C:Fk)(P:Program)(f:FuncId)(hp:Nat->Option Bk):Nat->List TypeId->List PV->(List PV->List Nat->List Nat->List Fe->Option R)->Option R
 |_,[],[],K=>K [] [] [] []
 |i,t::ts,p::ps,K=>Tr C P f hp i t p fun v m x l=>BC C P f hp (i+1) ts ps fun vs ms xs ls=>K (v::vs) (m++ms) (x++xs) (l++ls)
 |_,_,_,_=>none
def N3 (hp:Nat->Option Bk)(ids:List Nat):Nat->Option Bk:=fun i=>bif ids.any (Nat.beq i) then (hp i).map (fun _=>Bk.mv) else hp i
def KI (N t:Nat):Nat:=N*(1000+t)
def FX (N:Nat)(hp:Nat->Option Bk):Nat->Nat->Nat
 |0,t=>t
 |k+1,t=>bif (hp (KI N t)).isNone then t else FX N hp k (t+1)
def QT (N t:Nat)(ct:CT)(was p:PV)(K:Nat->PV->List (Nat × Bk)->Option R):Option R:=
 match ct with
 |.sl es=>
  match was with
  |.own _ _ _=>FM es p fun n c=>K (t+1) (.view (KI N t) es 0 n) [(KI N t,.ar false c)]
  |_=>Pz es p fun _ n c=>K t (.lst false es n c) []
 |ct=>Tk ct p fun c=>K t c []
def BK (N:Nat):Nat->List CT->List PV->List PV->(Nat->List PV->List (Nat × Bk)->Option R)->Option R
 |t,[],[],ps,K=>Ad ps (K t [] [])
 |t,ct::cts,w::ws,ps,K=>Aa ps fun p ps=>QT N t ct w p fun t' c b=>BK N t' cts ws ps fun t'' cs bs=>K t'' (c::cs) (b++bs)
 |_,_,_,_,_=>none
def Qp (N:Nat):Nat->List Fe->List (List PV)->(Nat->Option Bk)->((Nat->Option Bk)->List (Nat × Bk)->Option R)->Option R
 |_,[],ro,hp,K=>Ad ro (K hp [])
 |t,.var id off cts ws::l,ro,hp,K=>Aa ro fun cs ro=>BK N t cts ws cs fun t' cs' bs=>
   match hp id with
   |some (.st c)=>Ac (Co c cs' off) fun c=>Qp N t' l ro (Cg hp id (some (.st c))) fun Ck bs'=>K Ck (bs++bs')
   |_=>none
 |t,.row id::l,ro,hp,K=>Aa ro fun cs ro=>Qp N t l ro (Cg hp id (some (.ar false cs))) K
 |t,.none::l,ro,hp,K=>Aa ro fun _ ro=>Qp N t l ro hp K
def Do:List Nat->Bool
 |[]=>true
 |a::r=> !(r.any (Nat.beq a))&&Do r
def S8 (C:Fk)(P:Program)(N:Nat)(call:A7)(s:St)(o:Oper)(f:FuncId)(c:Call)(K:St->Option R):Option R:=
 BC C P f s.hp 0 (Xj P f c) (c.args.toList.map (Bu s.tm)) fun vs m x l=>
  Bl (Do (l.flatMap Fe.ids++x)&&m.all (fun i=> !((l.flatMap Fe.ids++x).any (Nat.beq i)))&&Nat.blt 0 N&&E4 N o.dst) <|
  Aj (call f (G6 (C.kz f) c.args.toList vs)) fun rv ro=>
   Ur P (C.shr f) N (o.dst.getD N) (Kc P o.type) rv fun ws bs=>
    Bl (bif Ky P o.type then !Nat.beq ws.length 1 else Nat.beq ws.length 1) <|
    Ayv (FX N s.hp 100 0) fun t0=>Qp N t0 l ro (N3 (Ae s.hp m) x) fun Ck bs'=>
     Bl (Bn Ck (bs++bs')) (K ⟨Bh s.tm o.dst (Ju ws (Ky P o.type)),Am Ck (bs++bs')⟩)
def Oy (C:Fk)(P:Program)(N:Nat)(call:A7)(s:St)(o:Oper)(K:St->Option R):Option R:=
 match o.op with
 |.store t a x=>Bl (o.dst.isNone) (Tn P s t (Bu s.tm a) (Bu s.tm x) K)
 |.call c=>
  match c.callee with
  |.builtin .append=>Dg o.dst fun d=>Aa c.args.toList fun b r=>Aa r fun x r'=>Ad r' (Aa c.argTypes.toList fun t u=>Aa u fun tx _=>Kz P N s d t tx (Bu s.tm b) (Bu s.tm x) K)
  |.builtin .copy=>Aa c.args.toList fun b r=>Aa r fun x r'=>Ad r' (Aa c.argTypes.toList fun t u=>Aa u fun tx _=>AL P N s o.dst t tx (Bu s.tm b) (Bu s.tm x) K)
  |.value (.func f)=>S8 C P N call s o f c K
  |_=>none
 |_=>none
def GM (C:Fk)(P:Program)(N:Nat)(call:A7)(o:Oper)(s:St)(K:St->Option R):Option R:=
 bif Mc C P o.op then Oy C P N call s o K
 else Yr C P N call s.tm (rd s.hp) (Hb s.hp) o fun v fz nw=>Tl N s o.dst v fz nw K
def Da (C:Fk)(P:Program)(N:Nat)(call:A7)(ops:Array Oper)(o:Oper)(s:St)(K:St->Option R):Option R:=
 match o.guard with
 |none=>GM C P N call o s K
 |some (j,want)=>
  match (ops[j]?).bind (·.dst) with
  |none=>none
  |some d=>
   match s.tm d with
   |.sc (.bool b)=>
    Bi b (bif want then GM C P N call o ⟨Cg s.tm d (.sc (.bool true)),s.hp⟩ K else Bl (E4 N o.dst) (K ⟨Bh (Cg s.tm d (.sc (.bool true))) o.dst (.sc undef),s.hp⟩))
     (bif want then Bl (E4 N o.dst) (K ⟨Bh (Cg s.tm d (.sc (.bool false))) o.dst (.sc undef),s.hp⟩) else GM C P N call o ⟨Cg s.tm d (.sc (.bool false)),s.hp⟩ K)
   |.sc (.tuple _)=>Bl (E4 N o.dst) (K ⟨Bh s.tm o.dst (.sc undef),s.hp⟩)
   |_=>none
def Kg (C:Fk)(P:Program)(N:Nat)(call:A7)(ops:Array Oper):List Oper->St->(St->Option R)->Option R
 |[],s,K=>K s
 |o::r,s,K=>Da C P N call ops o s fun s'=>Kg C P N call ops r s' K
noncomputable def AR (x y:Option R):Option R:=open Classical in if x=y then x else none
noncomputable def LO (ops:Array Oper)(o:Oper)(s:St)(F:St->Option R):Option R:=
 match o.guard with
 |none=>F s
 |some (j,_)=>
  match (ops[j]?).bind (·.dst) with
  |none=>F s
  |some d=>
   match s.tm d with
   |.ub=>AR (F ⟨Cg s.tm d (.sc (.bool true)),s.hp⟩) (F ⟨Cg s.tm d (.sc (.bool false)),s.hp⟩)
   |_=>F s
noncomputable def EB (C:Fk)(P:Program)(N:Nat)(call:A7)(ops:Array Oper):List Oper->St->(St->Option R)->Option R
 |[],s,K=>K s
 |o::r,s,K=>LO ops o s fun s1=>Da C P N call ops o s1 fun s'=>EB C P N call ops r s' K
end
def ZW (o:Oper):List Nat:=o.op.operands.toList.filterMap fun x=>match x with | .tmp t=>some t|_=>none
def looks (ops:Array Oper)(o:Oper):List Nat:=
 ZW o++(match o.guard with|some (g,_)=>((ops[g]?).bind (·.dst)).toList|none=>[])
def F7 (P:Program)(o:Op):Bool:=
 match o with
 |.slice t .. =>match P.underlying t with|some (.array _ _)=>true|_=>false
 |.buildSlice t _ _=>match P.underlying t with|some (.slice e)=>Hh P [e]|_=>true
 |.convert _ dst _=>match P.underlying dst with|some .string=>true|_=>false
 |.alloc _ | .box .. | .makeSlice .. =>false
 |.move _ | .assign _ | .pick .. | .build .. | .binOp .. | .unOp .. | .fieldAddr .. | .field .. | .index .. | .indexAddr .. | .extract .. | .nilCheck _=>false
 |.call c=>match c.callee with | .builtin .len=>false | .builtin .min=>false | .builtin .max=>false|_=>true
 |_=>true
def Xf (C:Fk)(P:Program)(ops:Array Oper)(x y:Oper):Bool:=
 (match x.dst with|some d=>(looks ops y).any (Nat.beq d)||(match y.dst with|some e=>Nat.beq d e|none=>false)|none=>false) ||
 (match y.dst with|some e=>(looks ops x).any (Nat.beq e)|none=>false) ||
 (Mc C P x.op&&F7 P y.op)||(Mc C P y.op&&F7 P x.op)
def Gn (ops:List Oper):List Nat->List Nat
 |acc=>match ops with
  |[]=>acc
  |o::r=>Gn r (acc++[o.after.toList.foldl (fun s e=>bif Region.binds .any e then s ||| 2 ^ e.on ||| acc.getD e.on 0 else s) 0])
def V0 (C:Fk)(P:Program)(ops:Array Oper)(bs:List Nat):List Oper->Nat->Bool
 |[],_=>true
 |o::r,i=>(ops.toList.zipIdx.all fun q=> !Nat.blt q.2 i || !Xf C P ops q.1 o||(bs.getD i 0).testBit q.2)&&V0 C P ops bs r (i+1)
def AO (C:Fk)(P:Program)(ops:Array Oper):Bool:=
 ops.toList.zipIdx.all (fun q=>q.1.after.toList.all fun e=> !Region.binds .any e||Nat.blt e.on q.2)&&V0 C P ops (Gn ops.toList []) ops.toList 0
def Al:PV->List Nat
 |.view id _ _ _=>[id]
 |.ptr id _=>[id]
 |_=>[]
def B5:PV->List Nat
 |.agg cs=>cs.flatMap Al
 |p=>Al p
def Bq:PV->List Nat
 |.tup ps=>ps.flatMap B5
 |p=>B5 p
def Nx (P:Program)(o:Op):Bool:=
 match o with
 |.load .. =>true
 |.convert _ dst _=>(match P.underlying dst with|some .string=>true|_=>false)
 |_=>false
def J7 (o:Op):Bool:=
 match o with
 |.call c=>(match c.callee with | .builtin .append=> !Re c|_=>false)
 |_=>false
def VD (ops:Array Oper)(x y:Oper):Bool:=
 (match x.dst with|some d=>(looks ops y).any (Nat.beq d)||(match y.dst with|some e=>Nat.beq d e|none=>false)|none=>false) ||
 (match y.dst with|some e=>(looks ops x).any (Nat.beq e)|none=>false)
def Mq (C:Fk)(P:Program)(x y:Oper):Bool:=(Mc C P x.op&&F7 P y.op)||(Mc C P y.op&&F7 P x.op)
def Ho (C:Fk)(P:Program)(x y:Oper):Bool:=(Mc C P x.op&&Nx P y.op)||(Mc C P y.op&&Nx P x.op)||(J7 x.op&&J7 y.op)
def WF (C:Fk)(P:Program)(ops:Array Oper)(x y:Oper):Bool:=VD ops x y||(Mq C P x y && !Ho C P x y)
def Rk (C:Fk)(P:Program)(ops:Array Oper)(bs:List Nat):List Oper->Nat->Bool
 |[],_=>true
 |o::r,i=>(ops.toList.zipIdx.all fun q=> !Nat.blt q.2 i || !WF C P ops q.1 o||(bs.getD i 0).testBit q.2)&&Rk C P ops bs r (i+1)
def Xw (C:Fk)(P:Program)(ops:Array Oper):Bool:=
 ops.toList.zipIdx.all (fun q=>q.1.after.toList.all fun e=> !Region.binds .any e||Nat.blt e.on q.2)&&Rk C P ops (Gn ops.toList []) ops.toList 0
def I6 (C:Fk)(P:Program)(s:St)(o:Oper):List Nat:=
 let l:=o.op.operands.toList.flatMap fun y=>Bq (Bu s.tm y)
 bif Mc C P o.op && !J7 o.op then l++l.flatMap (fun i=>match s.hp i with|some (.st c)=>c.flatMap Al|_=>[])
 else bif Nx P o.op||J7 o.op then l else []
def SM (a b:List Nat):Bool:=a.all fun i=> !b.any (Nat.beq i)
def Rp (C:Fk)(P:Program)(ops:Array Oper)(bs:List Nat)(i:Nat)(o:Oper):List Nat:=
 (ops.toList.zipIdx.filter fun q=>Ho C P q.1 o && !(Nat.blt q.2 i&&(bs.getD i 0).testBit q.2) && !(Nat.blt i q.2&&(bs.getD q.2 0).testBit i)).map (·.2)
def U0 (C:Fk)(P:Program)(ops:Array Oper)(bs:List Nat):List (List Nat):=ops.toList.zipIdx.map fun q=>Rp C P ops bs q.2 q.1
def U6 (C:Fk)(P:Program)(sm:List (List Nat)) (s:St)(i:Nat)(o:Oper):List Nat:=
 match sm.getD i [] with
 |[]=>[]
 |_::_=>I6 C P s o
def Zo (C:Fk)(P:Program)(sm:List (List Nat)) (s:St)(i:Nat)(o:Oper)(q:Nat × Oper × List Nat):Bool:=
 !((sm.getD i []).any (Nat.beq q.1))||SM q.2.2 (U6 C P sm s i o)
def Gb {R:Type}(C:Fk)(P:Program)(N:Nat)(call:A7)(ops:Array Oper)(sm:List (List Nat)):List (Nat × Oper × List Nat)->List Nat->St->(St->Option R)->Option R
 |_,[],s,K=>K s
 |dn,i::l,s,K=>Dg ops[i]? fun o=>Bl (dn.all (Zo C P sm s i o)&&(U6 C P sm s i o).all (fun k=>(s.hp k).isSome)) (Da C P N call ops o s fun s'=>Gb C P N call ops sm ((i,o,U6 C P sm s i o)::dn) l s' K)
def YU (m i:Nat):Nat:=m ||| 2 ^ i
def Asw (m i:Nat):Nat:=bif m.testBit i then m ^^^ 2 ^ i else m
def OX (ops:Array Oper):List Oper->Nat->Nat
 |[],m=>m
 |o::r,m=>
  let m1:=OX ops r m
  let m2:=match o.dst with|some d=>Asw m1 d|none=>m1
  (looks ops o).foldl YU m2
def Kp:Code->Nat->(Nat->Nat)->Nat->Nat
 |.skip,ln,_,_=>ln
 |.region _ ops _,ln,_,_=>OX ops ops.toList ln
 |.seq a b,ln,lx,lr=>Kp a (Kp b ln lx lr) lx lr
 |.cond c a b,ln,lx,lr=>let m:=Kp a ln lx lr ||| Kp b ln lx lr;match c with | .tmp d=>YU m d|_=>m
 |.block id c,ln,lx,lr=>Kp c ln (fun j=>bif Nat.beq j id then ln else lx j) lr
 |.loop c,_,lx,lr=>Kp c (Kp c 0 lx lr) lx lr
 |.exit id,_,lx,_=>lx id
 |.ret,_,_,lr=>lr
 |_,_,_,_=>0
def GH (ops:List Oper):List Nat:=(ops.filterMap fun o=>o.guard.map (·.1)).eraseDups
def Ka:Code->Nat
 |.region _ _ _=>1
 |.seq a b=>Ka a+Ka b
 |.cond _ a b=>Ka a+Ka b
 |.block _ c=>Ka c
 |.loop c=>Ka c
 |_=>0
def Ta:Code->Nat
 |.skip=>1
 |.region _ ops _=>2 ^ min 6 (GH ops.toList).length
 |.seq a b=>bif (Nat.ble 7 (Ta a)&&Nat.ble 6 (Ka b))||(Nat.ble 5 (Ta a)&&Nat.ble 9 (Ka b)) then Ta b else min 1000 (Ta a*Ta b)
 |.cond _ a b=>Ta a+Ta b
 |.block _ c=>Ta c
 |.loop _=>1
 |.exit _=>1
 |_=>0
def Aen (P:Program)(o:Oper):Bool:=
 match o.op with
 |.load t _=>Ni P t&&Nat.ble 8 (A6 P t)
 |.store t _ _=>Ni P t&&Nat.ble 8 (A6 P t)
 |_=>false
def HS (P:Program):Code->Bool
 |.region _ ops _=>ops.toList.any (Aen P)
 |.seq a _=>HS P a
 |_=>false
def QE (P:Program):Code->Bool
 |.region _ ops _=>ops.toList.any (Aen P)
 |.seq _ b=>QE P b
 |_=>false
def Apf:Code->Nat
 |.seq a b=>match b with
  |.ret=>(match a with | .region _ ops _=>(GH ops.toList).length|_=>0)
  |_=>Apf b
 |_=>0
def XI (x y:Code):Bool:=(Nat.beq (Ta x) 1&&Nat.beq (Apf y) 11)||(Nat.beq (Ta x) 4&&Nat.beq (Ka x) 7&&(Nat.beq (Ka y) 3||Nat.beq (Ka y) 1))||(Nat.beq (Ta x) 9&&Nat.beq (Ka x) 5&&Nat.beq (Ka y) 5)
def Vz (a b:Code):Bool:=XI a b||(match b with | .seq x y=>XI x y|_=>false)
def VP (P:Program)(a b:Code):Bool:=(Nat.ble 7 (Ta a)&&Nat.ble 6 (Ka b))||(Nat.ble 5 (Ta a)&&Nat.ble 9 (Ka b))||Vz a b||HS P b||QE P a
def Iv (m:Nat):Nat->List Nat
 |0=>[]
 |n+1=>Iv m n++(bif m.testBit n then [n] else [])
def lk (l:List (Nat × PV)) (i:Nat):PV:=
 match l with
 |[]=>.top
 |(j,p)::r=>bif Nat.beq i j then p else lk r i
def Kn (l:List (Nat × Bk)) (i:Nat):Option Bk:=
 match l with
 |[]=>none
 |(j,b)::r=>bif Nat.beq i j then some b else Kn r i
def O8 (l:List (Nat × Nat)) (i:Nat):Option Nat:=
 match l with
 |[]=>none
 |(j,b)::r=>bif Nat.beq i j then some b else O8 r i
def Vy (N:Nat)(s:St)(i:Nat):St:=
 match s.tm i with
 |.lst true es 0 []=>
  bif (s.hp i).isNone then ⟨Cg s.tm i (.view i es 0 0),Cg s.hp i (some (.ar false []))⟩
  else bif (s.hp (i+N*3000)).isNone then ⟨Cg s.tm i (.view (i+N*3000) es 0 0),Cg s.hp (i+N*3000) (some (.ar false []))⟩
  else s
 |_=>s
def EO (N:Nat)(id:Nat)(s:St)(j:Nat):St:=
 match s.hp id with
 |some (.st c)=>
  match c[j]? with
  |some (.lst true es 0 [])=>bif (s.hp (id+N*(j+1))).isNone then ⟨s.tm,Cg (Cg s.hp id (some (.st (c.set j (.view (id+N*(j+1)) es 0 0))))) (id+N*(j+1)) (some (.ar false []))⟩ else s
  |_=>s
 |_=>s
def DA (N:Nat)(s:St)(i:Nat):St:=
 match s.tm i with
 |.ptr id _=>
  match s.hp id with
  |some (.st c)=>(List.range c.length).foldl (EO N id) s
  |_=>s
 |_=>s
def BP (m:List (Nat × Nat)) (old new:Nat):List (Nat × Nat):=
 match O8 m old with
 |some _=>m
 |none=>m++[(old,new)]
def Mp (N new:Nat):List PV->Nat->List (Nat × Nat)->List (Nat × Nat)
 |[],_,m=>m
 |.view id _ _ _::r,j,m=>Mp N new r (j+1) (BP m id (new+N*(j+1)))
 |_::r,j,m=>Mp N new r (j+1) m
def V2 (N:Nat)(s:St)(m:List (Nat × Nat)) (i:Nat):List (Nat × Nat):=
 match s.tm i with
 |.view id _ _ _=>BP m id i
 |.ptr id _=>
  match O8 m id with
  |some _=>m
  |none=>
   match s.hp id with
   |some (.st c)=>Mp N i c 0 (BP m id i)
   |_=>BP m id i
 |.agg c=>Mp N i c 0 m
 |_=>m
def MI (m:List (Nat × Nat)):PV->PV
 |.view id es off n=>match O8 m id with|some j=>.view j es off n|none=>.top
 |.ptr id off=>match O8 m id with|some j=>.ptr j off|none=>.top
 |.sc v=>.sc v
 |.lst z es n c=>.lst z es n c
 |.iptr c off=>.iptr c off
 |_=>.top
def RW (m:List (Nat × Nat)):PV->PV
 |.agg c=>.agg (c.map (MI m))
 |p=>MI m p
def Acc (m:List (Nat × Nat)):Bk->Bk
 |.st c=>.st (c.map (MI m))
 |b=>b
def C5 (N i:Nat):Nat:=i+N*2000
def JJ (N:Nat)(hp:Nat->Option Bk):Nat->List (Nat × Nat)
 |0=>[]
 |i+1=>bif (hp (C5 N i)).isSome then JJ N hp i++[(C5 N i,C5 N i)] else JJ N hp i
def Nq (N:Nat)(hp:Nat->Option Bk):Nat->List (Nat × Nat)->List (Nat × Nat)
 |0,m=>m
 |i+1,m=>
  match hp (C5 N i) with
  |some (.st c)=>Mp N (C5 N i) c 0 (Nq N hp i m)
  |_=>Nq N hp i m
def Asz (N:Nat)(hp:Nat->Option Bk)(k:Nat):List (Nat × Nat):=Nq N hp k (JJ N hp k)
def I7 (m:List (Nat × Nat)) (hp:Nat->Option Bk):List (Nat × Nat)->List (Nat × Bk)
 |[]=>[]
 |(old,new)::r=>match hp old with
  |some b=>(new,Acc m b)::I7 m hp r
  |none=>I7 m hp r
section
variable {R:Type}
def OL (N:Nat)(ls:List Nat)(q:Bool)(s:St)(K:St->Option R):Option R:=
 let s2:=bif q then s else ls.foldl (DA N) (ls.foldl (Vy N) s)
 let m:=ls.foldl (V2 N s2) (Asz N s2.hp 8)
 Bl (Do (m.map (·.1))&&Do (m.map (·.2))) (K ⟨lk (ls.map fun i=>(i,RW m (s2.tm i))),Kn (I7 m s2.hp m)⟩)
def Si (N L:Nat)(s:St)(K:St->Option R):Option R:=OL N (Iv L N) false s K
def QA (N L:Nat)(s:St)(K:St->Option R):Option R:=OL N (Iv L N) true s K
def YI (F:(St->Option R)->St->Option R) (nm:St->(St->Option R)->Option R):Nat->St->Option R
 |0,_=>none
 |n+1,s=>F (fun s'=>nm s' (YI F nm n)) s
def Wv (n:Nat)(F:St->Option R)(s:St):Option R:=
 match n with
 |0=>none
 |_+1=>F s
noncomputable def XS (s:St)(c:Operand)(kt kf:St->Option R):Option R:=
 match c with
 |.tmp d=>
  match s.tm d with
  |.sc (.bool b)=>Bi b (kt ⟨Cg s.tm d (.sc (.bool true)),s.hp⟩) (kf ⟨Cg s.tm d (.sc (.bool false)),s.hp⟩)
  |.ub=>AR (kt s) (kf s)
  |_=>none
 |.const (.bool true)=>kt s
 |.const (.bool false)=>kf s
 |_=>none
noncomputable def K4 (C:Fk)(P:Program)(fu N:Nat)(call:A7):Code->Nat->(Nat->Nat)->Nat->(St->Option R)->(Nat->St->Option R)->(St->Option R)->St->Option R
 |.skip,_,_,_,kn,_,_,s=>kn s
 |.region _ ops draw,_,_,_,kn,_,_,s=>GK (draw && !AO C P ops) (Bl (Xw C P ops) (Afy (U0 C P ops (Gn ops.toList [])) fun sm=>Gb C P N call ops sm [] (List.range ops.size) s kn)) (GK draw (Kg C P N call ops ops.toList s kn) (EB C P N call ops ops.toList s kn))
 |.seq a b,ln,lx,lr,kn,kx,kr,s=>K4 C P fu N call a (Kp b ln lx lr) lx lr (fun s'=>GK (VP P a b) (GK (Vz a b) (QA N (Kp b ln lx lr) s' (Wv fu fun s''=>K4 C P fu N call b ln lx lr kn kx kr s'')) (Si N (Kp b ln lx lr) s' (Wv fu fun s''=>K4 C P fu N call b ln lx lr kn kx kr s''))) (K4 C P fu N call b ln lx lr kn kx kr s')) kx kr s
 |.cond c a b,ln,lx,lr,kn,kx,kr,s=>XS s c (K4 C P fu N call a ln lx lr kn kx kr) (K4 C P fu N call b ln lx lr kn kx kr)
 |.block id c,ln,lx,lr,kn,kx,kr,s=>K4 C P fu N call c ln (fun j=>bif Nat.beq j id then ln else lx j) lr kn (fun j s'=>bif Nat.beq j id then kn s' else kx j s') kr s
 |.loop c,ln,lx,lr,_,kx,kr,s=>
  Si N (Kp (.loop c) ln lx lr) s (YI (fun k s'=>K4 C P fu N call c (Kp (.loop c) ln lx lr) lx lr k kx kr s') (Si N (Kp (.loop c) ln lx lr)) fu)
 |.exit id,_,_,_,_,kx,_,s=>kx id s
 |.ret,_,_,_,_,_,kr,s=>kr s
 |_,_,_,_,_,_,_,_=>none
def Aac (id:Nat)(t:CT)(p:PV)(K:PV->List (Nat × Bk)->Option R):Option R:=
 match t with
 |.sl es=>
  match p with
  |.own es' n c=>bif Nat.beq es' es then K (.view id es 0 n) [(id,.ar false c)] else none
  |p=>Pz es p fun z n c=>K (.lst z es n c) []
 |t=>Tk t p fun c=>K c []
def Ue (N:Nat):Nat->List CT->List PV->(List PV->List (Nat × Bk)->Option R)->Option R
 |_,[],ps,K=>Ad ps (K [] [])
 |id,t::ts,ps,K=>Aa ps fun p ps=>Aac id t p fun c b=>Ue N (id+N) ts ps fun cs bs=>K (c::cs) (b++bs)
def inK (P:Program)(N i:Nat)(t:TypeId)(p:PV)(K:PV->List (Nat × Bk)->Option R):Option R:=
 match Sk P t with
 |some e=>Sf p fun ps=>Bl (Nat.blt i 8) (Ue N (C5 N i+N) (Gi P e) ps fun cs bs=>K (.ptr (C5 N i) 0) ((C5 N i,.st cs)::bs))
 |none=>
  match p with
  |.tup ps=>Dg (Ap5 P t) fun e=>Bl (Nat.blt i 8) (Aa ps fun q r=>Ad r (FM (A6 P e) q fun n c=>K (.view (C5 N i) (A6 P e) 0 n) [(C5 N i,.ar false c)]))
  |p=>
   bif Bw P t then Gw p fun ps=>Ue N (i+N) (Gi P t) ps fun cs bs=>K (.agg cs) bs
   else Ue N (i+N) (Gi P t) [p] fun cs bs=>Aa cs fun c r=>Ad r (K c bs)
def YE (P:Program)(N:Nat):Nat->List TypeId->List PV->(List (Nat × PV)->List (Nat × Bk)->Option R)->Option R
 |_,[],ps,K=>Ad ps (K [] [])
 |i,t::ts,ps,K=>Aa ps fun p ps=>inK P N i t p fun v bs=>YE P N (i+1) ts ps fun vs bs'=>K ((i,v)::vs) (bs++bs')
def Afd (hp:Nat->Option Bk)(t:CT)(p:PV)(K:PV->List Nat->List Nat->Option R):Option R:=
  match t with
  |.sl es=>
    match p with
    |.view id es' off n=>bif Nat.beq es' es&&Nat.beq off 0 then
        (match hp id with
         |some (.ar false c)=>Bl (decide (n*es<=c.length)) (K (.own es n (c.take (n*es))) [id] [])
         |_=>none) else none
    |p=>Pz es p fun z _ _=>Bl z (K (.own es 0 []) [] [])
  |t=>Tk t p fun c=>K c [] []
def PH (shr:Bool)(hp:Nat->Option Bk)(t:CT)(p:PV)(K:PV->List Nat->List Nat->Option R):Option R:=
 bif shr then Kl (Hb hp) t p fun c m=>K c [] m else Afd hp t p K
def S6 (shr:Bool)(hp:Nat->Option Bk):List CT->List PV->(List PV->List Nat->List Nat->Option R)->Option R
 |[],[],K=>K [] [] []
 |t::ts,p::ps,K=>PH shr hp t p fun c m z=>S6 shr hp ts ps fun cs ms zs=>K (c::cs) (m++ms) (z++zs)
 |_,_,_=>none
def WX (P:Program)(shr:Bool)(hp:Nat->Option Bk)(t:TypeId)(p:PV)(K:PV->List Nat->List Nat->Option R):Option R:=
 match Sk P t with
 |some e=>
  match p with
  |.ptr id off=>
   match hp id with
   |some (.st c)=>Bl (Nat.beq off 0) (S6 shr hp (Gi P e) c fun cs m z=>K (.pbox cs) (id::m) z)
   |_=>none
  |_=>none
 |none=>
  bif Bw P t then Gw p fun ps=>S6 shr hp (Gi P t) ps fun cs m z=>K (.agg cs) m z
  else S6 shr hp (Gi P t) [p] fun cs m z=>Aa cs fun c r=>Ad r (K c m z)
def VL (P:Program)(s:St)(r:ResultVar)(K:PV->Option R):Option R:=
 match r with
 |.tmp t=>K (s.tm t)
 |.cell a t=>Ru false P (rd s.hp) (Hb s.hp) t (s.tm a) K
def CZ (P:Program)(shr:Bool)(s:St):List ResultVar->List TypeId->(List PV->List Nat->List Nat->Option R)->Option R
 |[],[],K=>K [] [] []
 |r::rs,t::ts,K=>VL P s r fun p=>WX P shr s.hp t p fun v m z=>CZ P shr s rs ts fun vs ms zs=>K (v::vs) (m++ms) (z++zs)
 |_,_,_=>none
def Vx (hp:Nat->Option Bk):List CT->List PV->List PV->(List PV->List Nat->List Nat->Option R)->Option R
 |[],[],[],K=>K [] [] []
 |t::ts,w::ws,p::ps,K=>PH (match w with | .own _ _ _=>false|_=>true) hp t p fun c m z=>Vx hp ts ws ps fun cs ms zs=>K (c::cs) (m++ms) (z++zs)
 |_,_,_,_=>none
def Sz (P:Program)(N:Nat)(hp:Nat->Option Bk):Nat->List TypeId->List PV->(List (List PV)->List Nat->List Nat->List Nat->Option R)->Option R
 |_,[],ps,K=>Ad ps (K [] [] [] [])
 |i,t::ts,ps,K=>Aa ps fun p ps=>
  match p with
  |.pbox ws=>Dg (Sk P t) fun e=>
    match hp (C5 N i) with
    |some (.st c)=>Vx hp (Gi P e) ws c fun cs m z=>Sz P N hp (i+1) ts ps fun r m' z' q=>K (cs::r) (m++m') (z++z') (C5 N i::q)
    |_=>none
  |.tup _=>
    match hp (C5 N i) with
    |some (.ar false c)=>Sz P N hp (i+1) ts ps fun r m' z' q=>K (c::r) m' z' (C5 N i::q)
    |_=>none
  |_=>Sz P N hp (i+1) ts ps K
def QH (rs:List ResultVar):Nat:=rs.foldl (fun m r=>match r with | .tmp t=>YU m t | .cell a _=>YU m a) 0
end
def Yf (P:Program):Nat->List TypeId->Nat->Nat
 |_,[],m=>m
 |i,t::ts,m=>Yf P (i+1) ts (match P.underlying t with|some (.pointer _)=>YU m i|_=>m)
def QO (C:Fk)(P:Program)(f:FuncId)(fn:Func)(args:List PV)(s:St):Option A4:=
 CZ P (C.shr f) s fn.results.toList fn.resultTypes.toList fun vs m z=>Sz P fn.ntmps s.hp 0 fn.params.toList args fun os m' z' q=>
  Bl (Do ((m++m')++q)&&(z++z').all (fun i=> !(((m++m')++q).any (Nat.beq i)))) (some ⟨vs,os⟩)
noncomputable def Ali (C:Fk)(P:Program)(fu:Nat)(call:A7)(f:FuncId)(fn:Func)(c:Code)(args:List PV):Option A4:=
  YE P fn.ntmps 0 fn.params.toList args fun tms bs=>Bl (Nat.ble args.length fn.ntmps&&Bn (fun _=>none) bs)
    (let lr:=Yf P 0 fn.params.toList (QH fn.results.toList)
     K4 C P fu fn.ntmps call c lr (fun _=>0) lr (QO C P f fn args) (fun _ _=>none) (QO C P f fn args) ⟨lk tms,Kn bs⟩)
noncomputable def Af (C:Fk)(P:Program)(fu:Nat):Nat->FuncId->List PV->Option A4
 |0,_,_=>none
 |d+1,f,args=>
  match C.ext f with
  |some g=>g args
  |none=>
   match P.funcs[f]? with
   |none=>none
   |some fn=>match fn.body with
    |none=>none
    |some c=>Ali C.core P fu (Af C P fu d) f fn c args
inductive Dir where
 |l
 |r
 |i (m:Nat)
section
variable {R:Type}
noncomputable def P9 (C:Fk)(P:Program)(fu N:Nat)(call:A7):List Dir->Code->Nat->(Nat->Nat)->Nat->(St->Option R)->(Nat->St->Option R)->(St->Option R)->Nat->St->Option R
 |[],.seq _ b,ln,lx,lr,kn,kx,kr,n,s=>Wv n (fun s''=>K4 C P fu N call b ln lx lr kn kx kr s'') s
 |[],.loop c,ln,lx,lr,_,kx,kr,n,s=>YI (fun k s'=>K4 C P fu N call c (Kp (.loop c) ln lx lr) lx lr k kx kr s') (Si N (Kp (.loop c) ln lx lr)) n s
 |.l::p,.seq a b,ln,lx,lr,kn,kx,kr,n,s=>P9 C P fu N call p a (Kp b ln lx lr) lx lr (fun s'=>GK (VP P a b) (GK (Vz a b) (QA N (Kp b ln lx lr) s' (Wv fu fun s''=>K4 C P fu N call b ln lx lr kn kx kr s'')) (Si N (Kp b ln lx lr) s' (Wv fu fun s''=>K4 C P fu N call b ln lx lr kn kx kr s''))) (K4 C P fu N call b ln lx lr kn kx kr s')) kx kr n s
 |.r::p,.seq _ b,ln,lx,lr,kn,kx,kr,n,s=>P9 C P fu N call p b ln lx lr kn kx kr n s
 |.l::p,.cond _ a _,ln,lx,lr,kn,kx,kr,n,s=>P9 C P fu N call p a ln lx lr kn kx kr n s
 |.r::p,.cond _ _ b,ln,lx,lr,kn,kx,kr,n,s=>P9 C P fu N call p b ln lx lr kn kx kr n s
 |.l::p,.block id c,ln,lx,lr,kn,kx,kr,n,s=>P9 C P fu N call p c ln (fun j=>bif Nat.beq j id then ln else lx j) lr kn (fun j s'=>bif Nat.beq j id then kn s' else kx j s') kr n s
 |.i m::p,.loop c,ln,lx,lr,_,kx,kr,n,s=>
  P9 C P fu N call p c (Kp (.loop c) ln lx lr) lx lr
   (fun s'=>Si N (Kp (.loop c) ln lx lr) s' (YI (fun k s'=>K4 C P fu N call c (Kp (.loop c) ln lx lr) lx lr k kx kr s') (Si N (Kp (.loop c) ln lx lr)) m)) kx kr n s
 |_,_,_,_,_,_,_,_,_,_=>none
end
noncomputable def My (C:Fk)(P:Program)(fu:Nat)(call:A7)(f:FuncId)(fn:Func)(c:Code)(args:List PV)(p:List Dir)(n:Nat)(s:St):Option A4:=
 let lr:=Yf P 0 fn.params.toList (QH fn.results.toList)
 P9 C P fu fn.ntmps call p c lr (fun _=>0) lr (QO C P f fn args) (fun _ _=>none) (QO C P f fn args) n s
def Adj:List Nat:=[
 1000000]
def Ag0:List Nat:=[
 19,
 9,
 1000000]
def Agt:List Nat:=[
 1000000]
def Ac1:List Nat:=[
 1000000]
def Ahr:List Nat:=[
 1000000]
def OC (args:List PV):Option A4:=
 match args with
 |[.sc (.string s)]=>bif decide (s.size<=9223372036854775807) then some ⟨[.sc (.bool (Lib.validD s.data.toList))],[]⟩ else none
 |_=>none
def Q8:List Nat:=[
 93,
 77,
 87,
 67,
 90,
 88,
 105,
 114,
 115,
 71,
 72,
 70,
 52,
 36,
 94,
 73,
 53,
 37,
 61,
 60,
 1000000]
def Avu:List Nat:=[
 1000000]
def CB:Fk:=⟨fun f=>Ag0.any (Nat.beq f),fun f i=>Nat.beq i 0&&Ahr.any (Nat.beq f),fun f i=>(Nat.beq i 0&&Agt.any (Nat.beq f))||(Nat.beq i 2&&Ac1.any (Nat.beq f)),fun f=>Adj.any (Nat.beq f),fun _=>none,fun N=>Avu.any (Nat.beq N)⟩
def CX (xs:FuncId->Option (List PV->Option A4)):Fk:={ CB with ext:=fun f=>bif Q8.any (Nat.beq f) then none else xs f }
def Is (f:Func):Code:=match f.body with|some c=>c|none=>.skip
section
variable {R:Type} {r:Option R}
theorem Ay {k:IntKind}{p:PV}{K:Int->Option R}{n:Int}(h:p=.sc (.int k n)) (hk:K n=r):Aw k p K=r:=by
 subst h;unfold Aw;simp[hk]
theorem Atc {p:PV}{K:IntKind->Int->Option R}{k:IntKind}{n:Int}(h:p=.sc (.int k n)) (hk:K k n=r):C8 p K=r:=by
 subst h;exact hk
theorem At {p:PV}{K:Bool->Option R}{b:Bool}(h:p=.sc (.bool b)) (hk:K b=r):Ap p K=r:=by
 subst h;exact hk
theorem A1 {p:PV}{K:ByteArray->Option R}{s:ByteArray}(h:p=.sc (.string s)) (hk:K s=r):Ax p K=r:=by
 subst h;exact hk
theorem A2n {es:Nat}{p:PV}{K:Bool->Nat->List PV->Option R}{z:Bool}{n:Nat}{c:List PV}(h:p=.lst z es n c)(hk:K z n c=r):Pz es p K=r:=by
 subst h;unfold Pz;simp[Nat.beq_refl,hk]
theorem A3k {es:Nat}{p:PV}{K:Nat->List PV->Option R}{n:Nat}{c:List PV}(h:p=.own es n c)(hk:K n c=r):FM es p K=r:=by
 subst h;unfold FM;simp[Nat.beq_refl,hk]
theorem A3 {b:Bool}{K:Option R}(h:b=true)(hk:K=r):Bl b K=r:=by
 subst h;exact hk
theorem Az {b:Bool}{x y:Option R}(h:b=true)(hx:x=r):Bi b x y=r:=by
 subst h;exact hx
theorem A2 {b:Bool}{x y:Option R}(h:b=false)(hx:y=r):Bi b x y=r:=by
 subst h;exact hx
theorem Dp {α:Type}{o:Option α}{K:α->Option R}{a:α}(h:o=some a)(hk:K a=r):Dg o K=r:=by
 subst h;exact hk
theorem Ar {α:Type}{l:List α}{K:α->List α->Option R}{a:α}{t:List α}(h:l=a::t)(hk:K a t=r):Aa l K=r:=by
 subst h;exact hk
theorem A0 {α:Type}{l:List α}{K:Option R}(h:l=[]) (hk:K=r):Ad l K=r:=by
 subst h;exact hk
theorem I0 {p:PV}{K:List PV->Option R}{c:List PV}(h:p=.agg c)(hk:K c=r):Gw p K=r:=by
 subst h;exact hk
theorem Aqv {p:PV}{K:List PV->Option R}{c:List PV}(h:p=.pbox c)(hk:K c=r):Sf p K=r:=by
 subst h;exact hk
theorem As {o:Option A4}{K:List PV->List (List PV)->Option R} {v:List PV}{q:List (List PV)} (h:o=some ⟨v,q⟩)(hk:K v q=r):Aj o K=r:=by
 subst h;exact hk
end
section
variable {R:Type}
theorem V3 (v:List PV)(o:List (List PV)) (K:List PV->List (List PV)->Option R):Aj (some ⟨v,o⟩) K=K v o:=by exact id rfl
theorem ED {α:Type}(K:Option R):Ad ([]:List α) K=K:=by exact id rfl
theorem Vn {α:Type}(a:α)(r:List α)(K:α->List α->Option R):Aa (a::r) K=K a r:=by exact id rfl
theorem Vp (b:Bool)(K:Bool->Option R):Ap (.sc (.bool b)) K=K b:=by exact id rfl
theorem DR (s:ByteArray)(K:ByteArray->Option R):Ax (.sc (.string s)) K=K s:=by exact id rfl
theorem YY (k:IntKind)(n:Int)(K:Int->Option R):Aw k (.sc (.int k n)) K=K n:=by unfold Aw;simp
theorem YD (k:IntKind)(n:Int)(K:IntKind->Int->Option R):C8 (.sc (.int k n)) K=K k n:=by exact id rfl
theorem Afi (z:Bool)(es n:Nat)(c:List PV)(K:Bool->Nat->List PV->Option R):Pz es (.lst z es n c) K=K z n c:=by unfold Pz;simp
theorem Afg (es n:Nat)(c:List PV)(K:Nat->List PV->Option R):FM es (.own es n c) K=K n c:=by unfold FM;simp
theorem YV (c:List PV)(K:List PV->Option R):Gw (.agg c) K=K c:=by exact id rfl
theorem PD (c:List PV)(K:List PV->Option R):Sf (.pbox c) K=K c:=by exact id rfl
theorem XG {α:Type}(a:α)(K:α->Option R):Dg (some a) K=K a:=by exact id rfl
theorem GI {α:Type}(a:α)(K:α->Option R):Ac a K=K a:=by exact id rfl
theorem ZX (K:Option R):Bl true K=K:=by exact id rfl
theorem PP (p:Prop) [Decidable p] (K:Option R)(h:p):Bl (decide p) K=K:=by simp[Bl,h]
theorem PO (b c:Bool)(K:Option R):Bl (b&&c) K=Bl b (Bl c K):=by cases b<;>rfl
theorem DI (x y:Option R):Bi true x y=x:=by exact id rfl
theorem EL (x y:Option R):Bi false x y=y:=by exact id rfl
theorem UT (p:Prop) [Decidable p] (x y:Option R)(h:p):Bi (decide p) x y=x:=by simp[Bi,h]
theorem ZR (p:Prop) [Decidable p] (x y:Option R)(h:¬p):Bi (decide p) x y=y:=by simp[Bi,h]
theorem QD (x:Option R):AR x x=x:=by unfold AR;simp
end
theorem Bj {x:Int}(h1: -9223372036854775808<=x)(h2:x<=9223372036854775807):IntKind.wrap .i64 x=x:=by
 have:=IntWalk.i64_in x (by omega)
 exact this
theorem Vu {x:Int}(h1:0<=x)(h2:x<=255):IntKind.wrap .u8 x=x:=by
 simp only[IntKind.wrap,IntKind.signed,IntKind.bits];simp;omega
theorem S4 {α:Type}{l r:List α}{x:α}{i:Nat}(h:l.drop i=x::r):i<l.length∧l[i]?=some x∧l.drop (i+1)=r:=by
 have h1:i<l.length:=by
  rcases Nat.lt_or_ge i l.length with h1|h1
  ·exact h1
  ·rw[List.drop_of_length_le h1] at h;cases h
 rw[List.drop_eq_getElem_cons h1] at h;injection h with h2 h3;exact⟨h1,by rw[List.getElem?_eq_getElem h1,h2],h3⟩
theorem Yu {α:Type}{l:List α}{i:Nat}(h:l.drop i=[]):l.length<=i:=by
 have:=congrArg List.length h;simp at this;omega
section
variable {α:Type} {f:α->List PV} {k:Nat}
theorem VJ (hf:∀x,(f x).length=k):∀(l:List α),(l.flatMap f).length=l.length*k
 |[]=>by simp
 |x::l=>by simp[hf x,VJ hf l,Nat.succ_mul];omega
theorem X3 {c:List PV}{p:PV}{i:Nat}(h:i<c.length):Co c [p] i=c.set i p:=by
 unfold Co;rw[List.set_eq_take_append_cons_drop,if_pos h];simp
end
abbrev Aic (k:IntKind)(n:Int):List PV:=[.sc (.int k n)]
abbrev D7 (k:IntKind)(l:List Int):List PV:=l.flatMap (Aic k)
theorem YK (k:IntKind)(n:Int):(Aic k n).length=1:=rfl
theorem Gm (k:IntKind)(l:List Int):(D7 k l).length=l.length:=by rw[VJ (YK k)];omega
theorem Ez:type_of% @V3∧type_of% @ED∧type_of% @Vn∧type_of% @Vp∧type_of% @DR∧type_of% @YY∧type_of% @YD∧type_of% @Afi∧type_of% @Afg∧type_of% @YV∧type_of% @PD∧type_of% @XG∧type_of% @GI∧type_of% @ZX∧type_of% @PP∧type_of% @PO∧type_of% @DI∧type_of% @EL∧type_of% @UT∧type_of% @ZR∧type_of% @QD∧type_of% @Bool.not_true∧type_of% @Bool.not_false∧type_of% @Bool.false_eq_true∧type_of% @if_true.{1}∧type_of% @if_false.{1}∧type_of% @Bool.true_and∧type_of% @Bool.and_true∧type_of% @Bool.false_and∧type_of% @Bool.and_false∧type_of% @decide_true∧type_of% @decide_false:=
 ⟨@V3,@ED,@Vn,@Vp,@DR,@YY,@YD,@Afi,@Afg,@YV,@PD,@XG,@GI,@ZX,@PP,@PO,@DI,@EL,@UT,@ZR,@QD,@Bool.not_true,@Bool.not_false,@Bool.false_eq_true,@if_true.{1},@if_false.{1},@Bool.true_and,@Bool.and_true,@Bool.false_and,@Bool.and_false,@decide_true,@decide_false⟩
theorem gT:type_of% @Bool.and_eq_true∧type_of% @decide_eq_true_eq∧type_of% @beq_iff_eq.{0}∧type_of% @bne_iff_ne.{0}∧type_of% @ne_eq.{1}∧type_of% @Bool.not_eq_true'∧type_of% @true_and∧type_of% @and_true:=
 ⟨@Bool.and_eq_true,@decide_eq_true_eq,@beq_iff_eq.{0},@bne_iff_ne.{0},@ne_eq.{1},@Bool.not_eq_true',@true_and,@and_true⟩
theorem gF:type_of% @decide_eq_false_iff_not∧type_of% @beq_eq_false_iff_ne.{0}∧type_of% @bne_eq_false_iff_eq.{0}∧type_of% @ne_eq.{1}∧type_of% @Bool.not_eq_false':=
 ⟨@decide_eq_false_iff_not,@beq_eq_false_iff_ne.{0},@bne_eq_false_iff_eq.{0},@ne_eq.{1},@Bool.not_eq_false'⟩
end
section
open Go.RowKit
def Bc {α β:Type}(R:α->β->Prop):List α->List β->Prop
 |[],[]=>True
 |a::zs,b::bs=>R a b∧Bc R zs bs
 |_,_=>False
section
variable {α β γ:Type} {R S:α->β->Prop}
theorem Bc.len:∀{zs:List α}{bs:List β},Bc R zs bs->zs.length=bs.length
 |[],[],_=>rfl
 |_::_,_::_,h=>by simp[Bc.len h.2]
 |[],_::_,h=>h.elim
 |_::_,[],h=>h.elim
theorem Bc.at_:∀{zs:List α}{bs:List β},Bc R zs bs->∀{i:Nat} {a b},zs[i]?=some a->bs[i]?=some b->R a b
 |[],[],_,i,a,b,h,_=>by simp at h
 |_::_,_::_,h,0,a,b,ha,hb=>by simp at ha hb;subst ha;subst hb;exact h.1
 |_::_,_::_,h,i+1,a,b,ha,hb=>by simp at ha hb;exact Bc.at_ h.2 ha hb
 |[],_::_,h,_,_,_,_,_=>h.elim
 |_::_,[],h,_,_,_,_,_=>h.elim
theorem Bc.of_at:∀{zs:List α}{bs:List β},zs.length=bs.length->(∀(i:Nat) a b,zs[i]?=some a->bs[i]?=some b->R a b)->Bc R zs bs
 |[],[],_,_=>trivial
 |a::zs,b::bs,hl,h=>⟨h 0 a b rfl rfl,Bc.of_at (by simpa using hl) fun i x y hx hy=>h (i+1) x y hx hy⟩
 |[],_::_,hl,_=>by simp at hl
 |_::_,[],hl,_=>by simp at hl
theorem Bc.mono (hRS:∀a b,R a b->S a b):∀{zs:List α}{bs:List β},Bc R zs bs->Bc S zs bs
 |[],[],_=>trivial
 |_::_,_::_,h=>⟨hRS _ _ h.1,Bc.mono hRS h.2⟩
 |[],_::_,h=>h.elim
 |_::_,[],h=>h.elim
theorem Bc.mono_mem:∀{zs:List α}{bs:List β},(∀a∈zs,∀b,R a b->S a b)->Bc R zs bs->Bc S zs bs
 |[],[],_,_=>trivial
 |a::_,_::_,hRS,h=>⟨hRS a (by simp) _ h.1,Bc.mono_mem (fun x hx=>hRS x (by simp[hx])) h.2⟩
 |[],_::_,_,h=>h.elim
 |_::_,[],_,h=>h.elim
theorem Bc.app:∀{zs:List α}{bs:List β}{as':List α}{bs':List β},Bc R zs bs->Bc R as' bs'->Bc R (zs++as') (bs++bs')
 |[],[],_,_,_,h'=>h'
 |_::_,_::_,_,_,h,h'=>⟨h.1,Bc.app h.2 h'⟩
 |[],_::_,_,_,h,_=>h.elim
 |_::_,[],_,_,h,_=>h.elim
theorem Bc.take:∀(n:Nat){zs:List α}{bs:List β},Bc R zs bs->Bc R (zs.take n) (bs.take n)
 |0,_,_,_=>by simp[Bc]
 |_+1,[],[],_=>trivial
 |n+1,_::_,_::_,h=>⟨h.1,Bc.take n h.2⟩
 |_+1,[],_::_,h=>h.elim
 |_+1,_::_,[],h=>h.elim
theorem Bc.drop:∀(n:Nat){zs:List α}{bs:List β},Bc R zs bs->Bc R (zs.drop n) (bs.drop n)
 |0,_,_,h=>h
 |_+1,[],[],_=>trivial
 |n+1,_::_,_::_,h=>Bc.drop n h.2
 |_+1,[],_::_,h=>h.elim
 |_+1,_::_,[],h=>h.elim
end
inductive Aq (w:World) (A:Nat->Prop):PV->Value->Prop where
 |sc (v:Value):Aq w A (.sc v) v
 |top (v:Value):Aq w A .top v
 |ub (b:Bool):Aq w A .ub (.bool b)
 |lnil (z:Bool) (es:Nat):Aq w A (.lst z es 0 []) (.slice none 0 0)
 |lemp (es:Nat) (a:Addr) (cap:Nat):Aq w A (.lst false es 0 []) (.slice (some a) 0 cap)
 |lst (es n:Nat) (cells:List PV) (a:Addr) (cap:Nat) (f:Nat->Value) (hs:a.spot=none) (hb:a.block<w.heap.size) (hA:¬A a.block) (hn:n<=cap)
   (hc:∀j c,cells[j]?=some c->w.cell? (a.add j)=some (f j)) (h1:∀j c,cells[j]?=some c->(f j).oneCell'=true) (hr:∀j c,cells[j]?=some c->Aq w A c (f j)):Aq w A (.lst false es n cells) (.slice (some a) n cap)
def bsz (w:World)(b:Nat):Nat:=
 match w.heap[b]? with
 |some (.cells c _ _)=>c.size
 |_=>0
def KB (w:World)(b:Nat):Bool:=w.frozen? ⟨b,bsz w b,none⟩
def Fit (w:World)(es b e:Nat):Prop:=e<=bsz w b∧(es=1∨KB w b=false)
def Fz (w w':World)(b:Nat):Prop:=bsz w b<=bsz w' b∧(KB w b=false->KB w' b=false)
theorem Fz.refl (w:World)(b:Nat):Fz w w b:=⟨Nat.le_refl _,id⟩
theorem Fz.same {w w':World}{b:Nat}(h:w'.heap[b]?=w.heap[b]?):Fz w w' b:=by
 have e:bsz w' b=bsz w b:=by unfold bsz;rw[h]
 refine⟨by rw[e];exact Nat.le_refl _,fun q=>?_⟩
 unfold KB at q ⊢;rw[e];unfold World.frozen? at q ⊢;simp only[h];exact q
theorem Fz.trans {w w' w'':World}{b:Nat}(h:Fz w w' b)(h':Fz w' w'' b):Fz w w'' b:=⟨Nat.le_trans h.1 h'.1,fun q=>h'.2 (h.2 q)⟩
theorem Fit.step {w w':World}{es b e:Nat}(h:Fit w es b e)(hb:Fz w w' b):Fit w' es b e:=⟨Nat.le_trans h.1 hb.1,h.2.imp id hb.2⟩
def KL (w:World)(A:Nat->Prop)(a:Addr)(cells:List PV):Prop:=∀j c,cells[j]?=some c->∃v,w.cell? (a.add j)=some v∧v.oneCell'=true∧Aq w A c v
def Bs (w:World)(A:Nat->Prop)(β:Nat->Option (Nat × Nat)) (p:PV)(v:Value):Prop:=
 match p with
 |.view id es off n=>(β id=none∧off=0∧n=0∧∃ad,v=.slice ad 0 0) ∨
   ∃b o x cap,β id=some (b,o)∧v=.slice (some ⟨b,x,none⟩) n cap∧(x=o+off∨(n=0∧off≠0))∧n<=cap∧Fit w es b (x+cap*es)∧b<w.heap.size
 |.ptr id off=>∃b o,β id=some (b,o)∧v=.pointer (some ⟨b,o+off,none⟩)
 |.iptr c off=>∃a:Addr,v=.pointer (some (a.add off))∧a.spot=none∧a.block<w.heap.size∧¬A a.block∧KL w A a c
 |p=>Aq w A p v
def F9 (w:World)(A:Nat->Prop)(β:Nat->Option (Nat × Nat)) (p:PV)(v:Value):Prop:=
 match p with
 |.agg cs=>∃vs,v=.agg ⟨vs⟩∧Bc (Bs w A β) cs vs
 |p=>Bs w A β p v
def Dt (w:World)(A:Nat->Prop)(β:Nat->Option (Nat × Nat)) (p:PV)(v:Value):Prop:=
 match p with
 |.tup ps=>∃vs,v=.tuple ⟨vs⟩∧Bc (F9 w A β) ps vs
 |p=>F9 w A β p v
structure B1 (A:Nat->Prop) (w w':World):Prop where
 size:w.heap.size<=w'.heap.size
 keep:∀b,b<w.heap.size->¬A b->w'.heap[b]?=w.heap[b]?
 bs:∀b,b<w.heap.size->Fz w w' b
theorem D6 (a:Addr)(j:Nat):(a.add j).block=a.block:=by unfold Addr.add;split<;>rfl
theorem add_add (a:Addr)(i j:Nat):(a.add i).add j=a.add (i+j):=by
 unfold Addr.add;by_cases hi:i=0<;>by_cases hj:j=0<;>simp[hi,hj,Nat.add_assoc]
theorem Dy (b o j:Nat):(⟨b,o,none⟩:Addr).add j=⟨b,o+j,none⟩:=by
 unfold Addr.add;by_cases hj:j=0<;>simp[hj]
theorem XN {a:Addr}(h:a.spot=none)(j:Nat):(a.add j).spot=none:=by unfold Addr.add;split<;>simp[h]
section
variable {w w':World} {A A':Nat->Prop} {β β':Nat->Option (Nat × Nat)}
theorem B1.cell (h:B1 A w w'){a:Addr}(hb:a.block<w.heap.size)(hA:¬A a.block):w'.cell? a=w.cell? a:=
 World.cell?_of_block (h.keep a.block hb hA)
theorem Aq.step (h:B1 A w w')(hA:∀b,b<w.heap.size->A' b->A b){p:PV}{v:Value}(t:Aq w A p v):Aq w' A' p v:=by
 induction t with
 |sc v=>exact .sc v
 |top v=>exact .top v
 |ub b=>exact .ub b
 |lnil z es=>exact .lnil z es
 |lemp es a cap=>exact .lemp es a cap
 |lst es n cells a cap f hs hb hA1 hn hc h1 hr ih=>
  refine .lst es n cells a cap f hs (Nat.lt_of_lt_of_le hb h.size) (fun x=>hA1 (hA _ hb x)) hn (fun j c hj=>?_) h1 (fun j c hj=>ih j c hj)
  rw[h.cell (by rw[D6];exact hb) (by rw[D6];exact hA1)]
  exact hc j c hj
theorem KL.step (h:B1 A w w')(hA:∀b,b<w.heap.size->A' b->A b){a:Addr}(hb:a.block<w.heap.size)(hn:¬A a.block){cells:List PV}(t:KL w A a cells):KL w' A' a cells:=by
 intro j c hj;obtain⟨v,hv,h1,ht⟩:=t j c hj;exact⟨v,by rw[h.cell (by rw[D6];exact hb) (by rw[D6];exact hn)];exact hv,h1,ht.step h hA⟩
theorem Bs.step (h:B1 A w w')(hA:∀b,b<w.heap.size->A' b->A b){p:PV}{v:Value}(hβ:∀id∈Al p,β' id=β id)(t:Bs w A β p v):Bs w' A' β' p v:=by
 cases p with
 |view id es off n=>
  have e:=hβ id (by simp[Al])
  rcases t with⟨h1,h2,h3,h4⟩|⟨b,o,x,cap,h1,h2,hx,h3,h4,h5⟩
  ·exact .inl ⟨by rw[e];exact h1,h2,h3,h4⟩
  ·exact .inr ⟨b,o,x,cap,by rw[e];exact h1,h2,hx,h3,h4.step (h.bs b h5),Nat.lt_of_lt_of_le h5 h.size⟩
 |ptr id off=>
  have e:=hβ id (by simp[Al])
  obtain⟨b,o,h1,h2⟩:=t;exact⟨b,o,by rw[e];exact h1,h2⟩
 |iptr c off=>
  obtain⟨a,h1,h2,h3,h4,h5⟩:=t;exact⟨a,h1,h2,Nat.lt_of_lt_of_le h3 h.size,fun x=>h4 (hA _ h3 x),h5.step h hA h3 h4⟩
 |sc v=>exact Aq.step h hA t
 |lst z es n c=>exact Aq.step h hA t
 |own es n c=>exact Aq.step h hA t
 |pbox c=>exact Aq.step h hA t
 |agg c=>exact Aq.step h hA t
 |tup c=>exact Aq.step h hA t
 |top=>exact Aq.step h hA t
 |ub=>exact Aq.step h hA t
theorem F9.step (h:B1 A w w')(hA:∀b,b<w.heap.size->A' b->A b){p:PV}{v:Value}(hβ:∀id∈B5 p,β' id=β id)(t:F9 w A β p v):F9 w' A' β' p v:=by
 cases p with
 |agg cs=>
  obtain⟨vs,rfl,h2⟩:=t;exact⟨vs,rfl,h2.mono_mem fun c hc v hv=>hv.step h hA fun id Bf=>hβ id (by simp only[B5,List.mem_flatMap];exact⟨c,hc,Bf⟩)⟩
 |sc x=>exact Bs.step (p:=.sc x) h hA hβ t
 |lst x y z u=>exact Bs.step (p:=.lst x y z u) h hA hβ t
 |own x y z=>exact Bs.step (p:=.own x y z) h hA hβ t
 |view x y z u=>exact Bs.step (p:=.view x y z u) h hA hβ t
 |ptr x y=>exact Bs.step (p:=.ptr x y) h hA hβ t
 |iptr x y=>exact Bs.step (p:=.iptr x y) h hA hβ t
 |pbox x=>exact Bs.step (p:=.pbox x) h hA hβ t
 |tup x=>exact Bs.step (p:=.tup x) h hA hβ t
 |top=>exact Bs.step (p:=.top) h hA hβ t
 |ub=>exact Bs.step (p:=.ub) h hA hβ t
theorem Dt.step (h:B1 A w w')(hA:∀b,b<w.heap.size->A' b->A b){p:PV}{v:Value}(hβ:∀id∈Bq p,β' id=β id)(t:Dt w A β p v):Dt w' A' β' p v:=by
 cases p with
 |tup cs=>
  obtain⟨vs,rfl,h2⟩:=t;exact⟨vs,rfl,h2.mono_mem fun c hc v hv=>hv.step h hA fun id Bf=>hβ id (by simp only[Bq,List.mem_flatMap];exact⟨c,hc,Bf⟩)⟩
 |sc x=>exact F9.step (p:=.sc x) h hA hβ t
 |lst x y z u=>exact F9.step (p:=.lst x y z u) h hA hβ t
 |own x y z=>exact F9.step (p:=.own x y z) h hA hβ t
 |view x y z u=>exact F9.step (p:=.view x y z u) h hA hβ t
 |ptr x y=>exact F9.step (p:=.ptr x y) h hA hβ t
 |iptr x y=>exact F9.step (p:=.iptr x y) h hA hβ t
 |pbox x=>exact F9.step (p:=.pbox x) h hA hβ t
 |top=>exact F9.step (p:=.top) h hA hβ t
 |ub=>exact F9.step (p:=.ub) h hA hβ t
 |agg x=>exact F9.step (p:=.agg x) h hA hβ t
theorem B1.refl (A:Nat->Prop)(w:World):B1 A w w:=⟨Nat.le_refl _,fun _ _ _=>rfl,fun _ _=>Fz.refl _ _⟩
theorem KL.weak (hA:∀b,b<w.heap.size->A' b->A b){a:Addr}{cells:List PV}(t:KL w A a cells):KL w A' a cells:=by
 intro j c hj;obtain⟨v,hv,h1,ht⟩:=t j c hj;exact⟨v,hv,h1,ht.step (B1.refl A w) hA⟩
theorem B1.trans {w'':World}(h:B1 A w w')(h':B1 A' w' w'')(hA:∀b,b<w.heap.size->A' b->A b):B1 A w w'':=
  ⟨Nat.le_trans h.size h'.size,fun b hb hn=>(h'.keep b (Nat.lt_of_lt_of_le hb h.size) (fun x=>hn (hA b hb x))).trans (h.keep b hb hn),
   fun b hb=>(h.bs b hb).trans (h'.bs b (Nat.lt_of_lt_of_le hb h.size))⟩
theorem B1.weaken (h:B1 A w w')(hA:∀b,b<w.heap.size->A b->A' b):B1 A' w w':=⟨h.size,fun b hb hn=>h.keep b hb (fun x=>hn (hA b hb x)),h.bs⟩
end
section
variable {R:Type} {r:R}
theorem Du {k:IntKind}{p:PV}{K:Int->Option R}(h:Aw k p K=some r):∃n,p=.sc (.int k n)∧K n=some r:=by
 unfold Aw at h;split at h
 ·split at h
  ·rename_i hk;subst hk;exact⟨_,rfl,h⟩
  ·cases h
 ·cases h
theorem Dc {p:PV}{K:Bool->Option R}(h:Ap p K=some r):∃b,p=.sc (.bool b)∧K b=some r:=by
 unfold Ap at h;split at h
 ·exact⟨_,rfl,h⟩
 ·cases h
theorem C6 {p:PV}{K:ByteArray->Option R}(h:Ax p K=some r):∃b,p=.sc (.string b)∧K b=some r:=by
 unfold Ax at h;split at h
 ·exact⟨_,rfl,h⟩
 ·cases h
theorem C4 {p:PV}{K:IntKind->Int->Option R}(h:C8 p K=some r):∃k n,p=.sc (.int k n)∧K k n=some r:=by
 unfold C8 at h;split at h
 ·exact⟨_,_,rfl,h⟩
 ·cases h
theorem Ai {b:Bool}{K:Option R}(h:Bl b K=some r):b=true∧K=some r:=by
 unfold Bl at h;cases b
 ·cases h
 ·exact⟨rfl,h⟩
theorem B3 {α:Type}{o:Option α}{K:α->Option R}(h:Dg o K=some r):∃a,o=some a∧K a=some r:=by
 unfold Dg at h;split at h
 ·exact⟨_,rfl,h⟩
 ·cases h
theorem A5 {α:Type}{l:List α}{K:α->List α->Option R}(h:Aa l K=some r):∃a t,l=a::t∧K a t=some r:=by
 unfold Aa at h;split at h
 ·exact⟨_,_,rfl,h⟩
 ·cases h
theorem C7 {α:Type}{l:List α}{K:Option R}(h:Ad l K=some r):l=[]∧K=some r:=by
 unfold Ad at h;split at h
 ·exact⟨rfl,h⟩
 ·cases h
theorem F2 {p:PV}{K:List PV->Option R}(h:Gw p K=some r):∃c,p=.agg c∧K c=some r:=by
 unfold Gw at h;split at h
 ·exact⟨_,rfl,h⟩
 ·cases h
theorem BW {p:PV}{K:List PV->Option R}(h:Sf p K=some r):∃c,p=.pbox c∧K c=some r:=by
 unfold Sf at h;split at h
 ·exact⟨_,rfl,h⟩
 ·cases h
theorem OO {p:PV}{K:Value->Option R}(h:SK p K=some r):∃v,p=.sc v∧v.oneCell'=true∧K v=some r:=by
 unfold SK at h;split at h
 ·exact⟨_,rfl,rfl,h⟩
 ·exact⟨_,rfl,rfl,h⟩
 ·cases h
theorem Abu {p:PV}{K:FuncId->Option R}(h:fvK p K=some r):∃f,p=.sc (.func (.func f) #[] #[])∧K f=some r:=by
 unfold fvK at h;split at h
 ·rename_i f a b;cases hb:(a.isEmpty&&b.isEmpty)<;>rw[hb] at h
  ·cases h
  ·simp only[Bool.and_eq_true,Array.isEmpty_iff] at hb;rw[hb.1,hb.2];exact⟨f,rfl,h⟩
 ·cases h
theorem BX {o:Option A4}{K:List PV->List (List PV)->Option R} (h:Aj o K=some r):∃v x,o=some ⟨v,x⟩∧K v x=some r:=by
 unfold Aj at h;split at h
 ·exact⟨_,_,rfl,h⟩
 ·cases h
theorem Jh {b:Bool}{x y:Option R}(h:Bi b x y=some r):(b=true∧x=some r)∨(b=false∧y=some r):=by
 unfold Bi at h;cases b
 ·exact .inr ⟨rfl,h⟩
 ·exact .inl ⟨rfl,h⟩
theorem Eh {es:Nat}{p:PV}{K:Bool->Nat->List PV->Option R}(h:Pz es p K=some r):
  ∃z n c,K z n c=some r∧(p=.lst z es n c∨(p=.sc (.slice none 0 0)∧z=true∧n=0∧c=[])):=by
 unfold Pz at h;split at h
 ·rename_i z es' n c;cases hb:Nat.beq es' es
  ·rw[hb] at h;cases h
  ·rw[hb] at h;have:=Nat.eq_of_beq_eq_true hb;subst this;exact⟨z,n,c,h,.inl rfl⟩
 ·exact⟨true,0,[],h,.inr ⟨rfl,rfl,rfl,rfl⟩⟩
 ·cases h
def Ps:PV->Prop
 |.sc _=>True
 |.lst _ _ _ _=>True
 |_=>False
def Zy:PV->Prop
 |.sc _=>True
 |.lst _ _ _ _=>True
 |.view _ _ _ _=>True
 |_=>False
theorem Ma {c:PV}(h:Ps c):Zy c:=by
 cases c<;>first|trivial|exact h.elim
theorem F5 {c:PV}(h:Ps c):Al c=[]:=by
 cases c<;>first|rfl|exact h.elim
variable {w:World} {A:Nat->Prop} {β:Nat->Option (Nat × Nat)}
theorem Id {c:PV}{v:Value}(h:Ps c):Bs w A β c v↔Aq w A c v:=by
 cases c<;>first|exact Iff.rfl|exact h.elim
theorem Rz {c:PV}{v:Value}(h:∀cs,c ≠ .agg cs):F9 w A β c v↔Bs w A β c v:=by
 cases c<;>first|exact Iff.rfl|exact absurd rfl (h _)
theorem Kx {c:PV}{v:Value}(h:∀cs,c ≠ .tup cs):Dt w A β c v↔F9 w A β c v:=by
 cases c<;>first|exact Iff.rfl|exact absurd rfl (h _)
theorem Sd {c:PV}(h:Ps c)(cs:List PV):c ≠ .agg cs:=by rintro rfl;exact h
theorem PB {c:PV}(h:Ps c)(cs:List PV):c ≠ .tup cs:=by rintro rfl;exact h
theorem Aq.val {v u:Value}(h:Aq w A (.sc v) u):u=v:=by cases h;rfl
theorem Py {es n:Nat}{z:Bool}{c:List PV}{p:PV}{v:Value}(h:p=.lst z es n c∨(p=.sc (.slice none 0 0)∧z=true∧n=0∧c=[])) (hv:Bs w A β p v):Aq w A (.lst z es n c) v:=by
 rcases h with rfl|⟨rfl,rfl,rfl,rfl⟩
 ·exact hv
 ·have:=Aq.val (w:=w) (A:=A) hv;subst this;exact .lnil true es
theorem Jf {t:CT}{p:PV}{K:PV->Option R}(h:Tk t p K=some r):
  ∃c,K c=some r∧Ps c∧Ps p∧∀(w:World) (A:Nat->Prop) (β:Nat->Option (Nat × Nat)) (v:Value),Bs w A β p v->Aq w A c v∧v.oneCell'=true:=by
 cases t with
 |int k=>obtain⟨n,rfl,h2⟩:=Du h;exact⟨_,h2,trivial,trivial,fun w A β v hv=>⟨hv,by have:=Aq.val (w:=w) (A:=A) hv;subst this;rfl⟩⟩
 |bool=>obtain⟨n,rfl,h⟩:=Dc h;exact⟨_,h,trivial,trivial,fun w A β v hv=>⟨hv,by have:=Aq.val (w:=w) (A:=A) hv;subst this;rfl⟩⟩
 |str=>obtain⟨n,rfl,h⟩:=C6 h;exact⟨_,h,trivial,trivial,fun w A β v hv=>⟨hv,by have:=Aq.val (w:=w) (A:=A) hv;subst this;rfl⟩⟩
 |sl es=>
  obtain⟨z,n,c,h,hp⟩:=Eh h;refine⟨_,h,trivial,?_,fun w A β v hv=>⟨Py hp hv,?_⟩⟩
  ·rcases hp with rfl|⟨rfl,_⟩<;>trivial
  ·have ht:=Py hp hv;cases ht<;>rfl
 |any=>
  obtain⟨u,rfl,h1,h2⟩:=OO (show SK p (fun v=>K (.sc v))=some r from h)
  exact⟨_,h2,trivial,trivial,fun w A β v hv=>⟨hv,by have:=Aq.val (w:=w) (A:=A) hv;subst this;exact h1⟩⟩
theorem Abx {t:CT}{p:PV}{K:PV->Option R}(h:fcK t p K=some r):
  ∃c,K c=some r∧(Ps c∨c=p)∧Zy p∧p ≠ .top∧(∀cs,c ≠ .agg cs)∧(∀cs,c ≠ .tup cs)∧(∀id,id∈Al c->id∈Al p)∧∀(w:World) (A:Nat->Prop) (β:Nat->Option (Nat × Nat)) (v:Value),Bs w A β p v->Bs w A β c v∧v.oneCell'=true:=by
 have tree:∀t',Tk t' p K=some r->∃c,K c=some r∧(Ps c∨c=p)∧Zy p∧p ≠ .top∧(∀cs,c ≠ .agg cs)∧(∀cs,c ≠ .tup cs)∧(∀id,id∈Al c->id∈Al p)∧∀(w:World) (A:Nat->Prop) (β:Nat->Option (Nat × Nat)) (v:Value),Bs w A β p v->Bs w A β c v∧v.oneCell'=true:=by
  intro t' h;obtain⟨c,h,hc,hp,hv⟩:=Jf h;exact⟨c,h,.inl hc,Ma hp,by rintro rfl;exact hp,Sd hc,PB hc,by rw[F5 hc];simp,fun w A β v h=>⟨(Id hc).2 (hv w A β v h).1,(hv w A β v h).2⟩⟩
 cases t with
 |sl es=>
  unfold fcK fsK at h;dsimp only at h;split at h
  ·rename_i id es' off n;cases hb:Nat.beq es' es
   ·rw[hb] at h;cases h
   ·rw[hb] at h;have:=Nat.eq_of_beq_eq_true hb;subst this;exact⟨_,h,.inr rfl,trivial,by simp,by simp,by simp,fun _ h=>h,fun _ _ _ _ h=>⟨h,by rcases h with⟨_,_,_,_,rfl⟩|⟨_,_,_,_,_,rfl,_⟩<;>rfl⟩⟩
  ·exact tree (.sl es) h
 |int k=>exact tree (.int k) h
 |bool=>exact tree (.bool) h
 |str=>exact tree (.str) h
 |any=>exact tree (.any) h
theorem Um {cells:List PV}{i:Nat}{p:PV}(h:cells.getD i .top=p)(hp:p ≠ .top):cells[i]?=some p:=by
 rw[List.getD_eq_getElem?_getD] at h;cases hc:cells[i]? with
 |none=>rw[hc] at h;exact absurd h.symm hp
 |some q=>rw[hc] at h;simp at h;rw[h]
theorem N1:∀{ts:List CT}{cells:List PV}{off:Nat}{K:List PV->Option R},M4 ts cells off K=some r ->
  ∃cs,K cs=some r∧cs.length=ts.length∧∀j c,cs[j]?=some c->Ps c∧∃p,cells[off+j]?=some p∧Ps p ∧
   ∀(w:World) (A:Nat->Prop) (β:Nat->Option (Nat × Nat)) (v:Value),Bs w A β p v->Aq w A c v∧v.oneCell'=true
 |[],_,_,_,h=>⟨[],h,rfl,fun j c hj=>by simp at hj⟩
 |t::ts,cells,off,K,h=>by
  unfold M4 at h;obtain⟨c,h,hc,hp,hv⟩:=Jf h;obtain⟨cs,h,hl,Vq⟩:=N1 h;refine⟨c::cs,h,by simp[hl],fun j c' hj=>?_⟩
  cases j with
  |zero=>
   simp at hj;subst hj;refine⟨hc,cells.getD off .top,Um rfl ?_,hp,hv⟩;intro e;rw[e] at hp;exact hp
  |succ j=>
   simp at hj;have:=Vq j c' hj
   rwa [Nat.add_right_comm,Nat.add_assoc] at this
theorem Nt:∀{ts:List CT}{cells:List PV}{off:Nat}{K:List PV->Option R},Kk ts cells off K=some r ->
  ∃cs,K cs=some r∧cs.length=ts.length∧(∀c∈cs,(∀x,c ≠ .agg x)∧(∀x,c ≠ .tup x))∧∀j c,cs[j]?=some c->∃p,cells[off+j]?=some p∧Zy p∧(∀id,id∈Al c->id∈Al p) ∧
   ∀(w:World) (A:Nat->Prop) (β:Nat->Option (Nat × Nat)) (v:Value),Bs w A β p v->Bs w A β c v∧v.oneCell'=true
 |[],_,_,_,h=>⟨[],h,rfl,by simp,fun j c hj=>by simp at hj⟩
 |t::ts,cells,off,K,h=>by
  unfold Kk at h;obtain⟨c,h,hc,hf,hp,ha,ht,hr,hv⟩:=Abx h;obtain⟨cs,h,hl,Tq,Vq⟩:=Nt h;refine⟨c::cs,h,by simp[hl],?_,fun j c' hj=>?_⟩
  ·intro x hx;rcases List.mem_cons.1 hx with rfl|hx
   ·exact⟨ha,ht⟩
   ·exact Tq x hx
  ·cases j with
   |zero=>
    simp at hj;subst hj;exact⟨cells.getD off .top,Um rfl hp,hf,hr,hv⟩
   |succ j=>
    simp at hj;have:=Vq j c' hj
    rwa [Nat.add_right_comm,Nat.add_assoc] at this
theorem EU {agg:Bool}{cells:List PV}{K:PV->Option R}(h:OU agg cells K=some r):
  (agg=true∧K (.agg cells)=some r)∨(agg=false∧∃c,cells=[c]∧K c=some r):=by
 unfold OU at h;cases agg
 ·obtain⟨c,t,rfl,h⟩:=A5 h;obtain⟨rfl,h⟩:=C7 h;exact .inr ⟨rfl,c,rfl,h⟩
 ·exact .inl ⟨rfl,h⟩
end
open Go.RowKit
def Ct (b:Option Bk):Prop:=
 match b with
 |some (.st _)=>True
 |some (.ar false _)=>True
 |_=>False
abbrev Bt:=Nat->Option (Nat × Nat)
def EF (hp:Nat->Option Bk)(β:Bt)(b:Nat):Prop:=∃id o,Ct (hp id)∧β id=some (b,o)
def Cu (hp:Nat->Option Bk)(β:Bt)(Y:Nat->Prop)(b:Nat):Prop:=EF hp β b∨Y b
def Mr (w:World)(A:Nat->Prop)(β:Bt)(id:Nat)(bx:Bk):Prop:=
 match bx with
 |.st cells=>∃b o,β id=some (b,o)∧(∀j c,cells[j]?=some c->∃v,w.cell? ⟨b,o+j,none⟩=some v∧Bs w A β c v)∧∀j,j<cells.length->w.frozen? ⟨b,o+j,none⟩=false
 |.ar fz cells=>(β id=none∧cells=[])∨∃b o,β id=some (b,o)∧KL w A ⟨b,o,none⟩ cells∧(fz=false->∀j,o<=j->j<bsz w b->w.frozen? ⟨b,j,none⟩=false)∧(fz=true->¬A b)
 |.mv=>True
structure Gg where
 X:Nat->Prop
 L:Nat->Nat->Prop
 pn:Nat->Prop
 pt:Nat->Option (Nat × Nat)
 p8:∀i,pn i->i<8
def BR (bx:Bk)(o j:Nat):Prop:=
 match bx with
 |.st c=>o<=j∧j<o+c.length
 |.ar _ _=>o<=j
 |.mv=>False
structure Fr (X0:Gg) (w0 w:World):Prop where
 os:w.os=w0.os
 tape:w.tape=w0.tape
 output:w.output=w0.output
 step:B1 X0.X w0 w
 rng:∀b j,b<w0.heap.size->¬X0.L b j->w.cell? ⟨b,j,none⟩=w0.cell? ⟨b,j,none⟩∧w.frozen? ⟨b,j,none⟩=w0.frozen? ⟨b,j,none⟩
structure Cj (N:Nat) (w0:World) (X0:Gg) (Y:Nat->Prop) (β:Bt) (s:St) (a:Act) (w:World):Prop where
 dfr:a.defers=[]
 tsz:a.tmps.size=N
 tmo:∀i,N<=i->s.tm i=.top
 tms:∀i,i<N->Dt w (Cu s.hp β Y) β (s.tm i) (a.tmps.getD i undef)
 box:∀id b,s.hp id=some b->Mr w (Cu s.hp β Y) β id b
 inj:∀id id' b o o',Ct (s.hp id)->Ct (s.hp id')->β id=some (b,o)->β id'=some (b,o')->id=id'
 blt:∀id b o,s.hp id≠none->β id=some (b,o)->b<w.heap.size
 wfT:∀i,i<N->∀id∈Bq (s.tm i),s.hp id≠none
 wfB:∀id cells,s.hp id=some (.st cells)->∀c∈cells,∀id'∈Al c,s.hp id'≠none
 ownd:∀b,EF s.hp β b->X0.X b∨w0.heap.size<=b
 rngB:∀id bx b o,s.hp id=some bx->Ct (some bx)->β id=some (b,o)->b<w0.heap.size->∀j,BR bx o j->X0.L b j
 pin:∀i,X0.pn i->s.hp (C5 N i)≠none∧β (C5 N i)=X0.pt i
 stp:∀id c b o,s.hp id=some (.st c)->β id=some (b,o)->b<w0.heap.size->∃i,id=C5 N i∧X0.pn i
 Yx:∀b,Y b->¬EF s.hp β b
 Ylt:∀b,Y b->b<w0.heap.size
 fr:Fr X0 w0 w
theorem Cl {b:Option Bk}(h:Ct b):b≠none:=by rintro rfl;exact h
theorem Ak {α:Type}(f:Nat->α)(i:Nat)(v:α):Cg f i v i=v:=by simp[Cg,Nat.beq_refl]
theorem Ah {α:Type}(f:Nat->α){i j:Nat}(v:α)(h:j≠i):Cg f i v j=f j:=by
 have:Nat.beq j i=false:=by
  cases hb:Nat.beq j i
  ·rfl
  ·exact absurd (Nat.eq_of_beq_eq_true hb) h
 simp[Cg,this]
theorem Rj {α:Type}(f:Nat->α){i:Nat}{v:α}(h:f i=v):Cg f i v=f:=by
 funext j
 by_cases e:j=i
 ·subst e;rw[Ak];exact h.symm
 ·exact Ah f v e
theorem HJ {α:Type}(f:Nat->α){i j:Nat}(u v:α)(h:i≠j):Cg (Cg f i u) j v=Cg (Cg f j v) i u:=by
 funext k
 by_cases e:k=j
 ·subst e;rw[Ak,Ah _ _ (Ne.symm h),Ak]
 ·rw[Ah _ _ e];by_cases e':k=i
  ·subst e';rw[Ak,Ak]
  ·rw[Ah _ _ e',Ah _ _ e',Ah _ _ e]
theorem Zt {a:Act}{d:Nat}{v:Value}(h:d<a.tmps.size):(a.put (some d) v).tmps.getD d undef=v:=by
 simp[Act.put,h]
theorem Ws {a:Act}{d i:Nat}{v:Value}(h:i≠d):(a.put (some d) v).tmps.getD i undef=a.tmps.getD i undef:=by
 have h':d≠i:=fun e=>h e.symm
 simp[Act.put,Array.getElem?_setIfInBounds_ne h']
section
variable {N:Nat} {w0:World} {X0:Gg} {Y:Nat->Prop} {β β':Bt} {s:St} {a:Act} {w w':World}
theorem Ra (d:Option Tmp)(v:Value):(a.put d v).tmps.size=a.tmps.size:=by cases d<;>simp[Act.put]
theorem Mf (d:Option Tmp)(v:Value):(a.put d v).defers=a.defers:=by cases d<;>rfl
theorem Lh {d:Option Tmp}(h:E4 N d=true){i:Nat}(e:d=some i):i<N:=by
 subst e;exact Nat.lt_of_succ_le (Nat.le_of_ble_eq_true h)
theorem Kw {Q:Nat->PV->Value->Prop}{tm:Nat->PV}{d:Option Tmp}{v:PV}{val:Value}(hN:a.tmps.size=N)(hd:E4 N d=true)
  (h:∀i,i<N->Q i (tm i) (a.tmps.getD i undef)) (hv:∀i,Q i v val):∀i,i<N->Q i (Bh tm d v i) ((a.put d val).tmps.getD i undef):=by
 intro i hi;cases d with
 |none=>exact h i hi
 |some d=>
  have B2:=Lh hd rfl;by_cases e:i=d
  ·subst e;show Q i (Cg tm i v i) _;rw[Ak,Zt (by omega)]
   exact hv i
  ·show Q i (Cg tm d v i) _;rw[Ah _ _ e,Ws e];exact h i hi
theorem EJ {tm:Nat->PV}{d:Option Tmp}{v:PV}(hd:E4 N d=true)(h:∀i,N<=i->tm i=.top):∀i,N<=i->Bh tm d v i=.top:=by
 intro i hi;cases d with
 |none=>exact h i hi
 |some d=>
  have:=Lh hd rfl;show Cg tm d v i=_;rw[Ah _ _ (by omega)]
  exact h i hi
theorem Cj.put (h:Cj N w0 X0 Y β s a w){d:Option Tmp}{v:PV}{val:Value}(hd:E4 N d=true)(hv:Dt w (Cu s.hp β Y) β v val) (hr:∀id∈Bq v,s.hp id≠none):
  Cj N w0 X0 Y β ⟨Bh s.tm d v,s.hp⟩ (a.put d val) w where
 dfr:=by rw[Mf];exact h.dfr
 tsz:=by rw[Ra];exact h.tsz
 tmo:=EJ hd h.tmo
 tms:=Kw (Q:=fun _ p u=>Dt w (Cu s.hp β Y) β p u) h.tsz hd h.tms (fun _=>hv)
 box:=h.box
 inj:=h.inj
 blt:=h.blt
 wfT:=by
  have:=Kw (Q:=fun _ p _=>∀id∈Bq p,s.hp id≠none) (val:=val) h.tsz hd h.wfT (fun _=>hr)
  exact this
 wfB:=h.wfB
 ownd:=h.ownd
 rngB:=h.rngB
 pin:=h.pin
 stp:=h.stp
 Yx:=h.Yx
 Ylt:=h.Ylt
 fr:=h.fr
theorem Br (hp:Nat->Option Bk)(ids:List Nat)(i:Nat):Ae hp ids i=if i∈ids then (hp i).map Nk else hp i:=by
 unfold Ae;by_cases hi:i∈ids
 ·have:ids.any (Nat.beq i)=true:=List.any_eq_true.2 ⟨i,hi,Nat.beq_refl i⟩;rw[this,if_pos hi];rfl
 ·have:ids.any (Nat.beq i)=false:=by
   cases hb:ids.any (Nat.beq i)
   ·rfl
   ·obtain⟨j,hj,e⟩:=List.any_eq_true.1 hb;exact absurd (Nat.eq_of_beq_eq_true e ▸ hj) hi
  rw[this,if_neg hi];rfl
theorem Dm {hp:Nat->Option Bk}{ids:List Nat}{i:Nat}:Ae hp ids i=none↔hp i=none:=by
 rw[Br];split<;>simp
theorem Ks {hp:Nat->Option Bk}{ids:List Nat}{i:Nat}(h:Ct (Ae hp ids i)):Ct (hp i):=by
 rw[Br] at h;split at h
 ·cases hb:hp i with
  |none=>rw[hb] at h;exact h
  |some b=>cases b with
   |st c=>trivial
   |ar fz c=>rw[hb] at h;exact h.elim
   |mv=>rw[hb] at h;exact h
 ·exact h
theorem G3 {hp:Nat->Option Bk}{ids:List Nat}{i:Nat}{bx:Bk}(h:Ae hp ids i=some bx)(hl:Ct (some bx)):hp i=some bx:=by
 rw[Br] at h;split at h
 ·cases hb:hp i with
  |none=>rw[hb] at h;cases h
  |some b=>
   rw[hb] at h;cases b with
   |st c=>exact h
   |ar fz c=>simp only[Option.map_some,Nk,Option.some.injEq] at h;subst h;exact hl.elim
   |mv=>simp only[Option.map_some,Nk,Option.some.injEq] at h;subst h;exact hl.elim
 ·exact h
theorem Lg {hp:Nat->Option Bk}{ids:List Nat}{b:Nat}(h:EF (Ae hp ids) β b):EF hp β b:=by
 obtain⟨id,o,hl,hb⟩:=h;exact⟨id,o,Ks hl,hb⟩
theorem Mr.step' {A A':Nat->Prop}{id:Nat}{bx:Bk}(hA:∀b,A' b->A b)(h:Mr w A β id bx):Mr w A' β id bx:=by
 have hs:=B1.refl A w;cases bx with
 |st c=>
  obtain⟨b,o,h1,h2,h3⟩:=h;exact⟨b,o,h1,fun j c hj=>let ⟨v,hv,hc⟩:=h2 j c hj;⟨v,hv,hc.step hs (fun b _=>hA b) (fun _ _=>rfl)⟩,h3⟩
 |ar fz c=>
  rcases h with h|⟨b,o,h1,h2,h3,h4⟩
  ·exact .inl h
  ·exact .inr ⟨b,o,h1,h2.weak (fun b _=>hA b),h3,fun e x=>h4 e (hA b x)⟩
 |mv=>trivial
theorem Cj.freeze (h:Cj N w0 X0 Y β s a w){fz:List Nat}(Tc:∀id∈fz,∃f c,s.hp id=some (.ar f c)):Cj N w0 X0 Y β ⟨s.tm,Ae s.hp fz⟩ a w:=by
 have hA:∀b,Cu (Ae s.hp fz) β Y b->Cu s.hp β Y b:=fun b hb=>hb.imp Lg id
 refine⟨h.dfr,h.tsz,h.tmo,fun i hi=>(h.tms i hi).step (B1.refl _ _) (fun b _=>hA b) (fun _ _=>rfl),fun id b hb=>?_,fun id id' b o o' h1 h2=>h.inj id id' b o o' (Ks h1) (Ks h2),
  fun id b o hn=>h.blt id b o (fun e=>hn (Dm.2 e)),fun i hi id Bf e=>h.wfT i hi id Bf (Dm.1 e),fun id cells hc c JD id' Bf e=>?_,fun b hb=>h.ownd b (Lg hb),
  fun id bx b o hb hl=>h.rngB id bx b o (G3 hb hl) hl,fun i hi=>⟨fun e=>(h.pin i hi).1 (Dm.1 e),(h.pin i hi).2⟩,fun id c b o hc=>h.stp id c b o (G3 hc trivial),fun b hb x=>h.Yx b hb (Lg x),h.Ylt,h.fr⟩
 ·simp only at hb;rw[Br] at hb;split at hb
  ·rename_i hm;obtain⟨f,c,hc⟩:=Tc id hm;rw[hc] at hb;simp only[Option.map_some,Nk,Option.some.injEq] at hb;subst hb;have Ir:=h.box id _ hc;rcases Ir with Ir|⟨b,o,h1,h2,h3,h4⟩
   ·exact .inl Ir
   ·refine .inr ⟨b,o,h1,h2.weak (fun b _=>hA b),(fun e=>by cases e),fun _ hb=>?_⟩
    rcases hb with⟨id',o',hl,hb⟩|hY
    ·have XQ:=Ks hl;cases f with
     |true=>exact h4 rfl (.inl ⟨id',o',XQ,hb⟩)
     |false=>
      have e:=h.inj id' id b o' o XQ (by rw[hc];trivial) hb h1
      subst e;simp only at hl;rw[Br,if_pos hm,hc] at hl;exact hl
    ·cases f with
     |true=>exact h4 rfl (.inr hY)
     |false=>exact h.Yx b hY ⟨id,o,by rw[hc];trivial,h1⟩
  ·exact (h.box id b hb).step' hA
 ·simp only at hc;rw[Br] at hc;refine h.wfB id cells ?_ c JD id' Bf (Dm.1 e);split at hc
  ·rename_i hm;obtain⟨f,c,Mi⟩:=Tc id hm;rw[Mi] at hc;cases hc
  ·exact hc
theorem Bg:∀{nw:List (Nat × Bk)} {hp:Nat->Option Bk},Bn hp nw=true ->
  (∀id bx,(id,bx)∈nw->hp id=none)∧(∀id bx bx',(id,bx)∈nw->(id,bx')∈nw->bx=bx')
 |[],_,_=>⟨by simp,by simp⟩
 |(i,b)::r,hp,h=>by
  simp only[Bn,Bool.and_eq_true,Option.isNone_iff_eq_none,Bool.not_eq_true'] at h;obtain⟨⟨h1,h2⟩,h3⟩:=h;obtain⟨h4,h5⟩:=Bg h3
  have D8:∀bx,(i,bx) ∉ r:=by
   intro bx hm;have:r.any (fun q=>Nat.beq q.1 i)=true:=List.any_eq_true.2 ⟨_,hm,Nat.beq_refl i⟩
   rw[this] at h2;cases h2
  refine⟨fun id bx hm=>?_,fun id bx bx' hm Hn=>?_⟩
  ·rcases List.mem_cons.1 hm with e|hm
   ·cases e;exact h1
   ·exact h4 id bx hm
  ·rcases List.mem_cons.1 hm with e|hm
   ·cases e;rcases List.mem_cons.1 Hn with e|Hn
    ·cases e;rfl
    ·exact absurd Hn (D8 _)
   ·rcases List.mem_cons.1 Hn with e|Hn
    ·cases e;exact absurd hm (D8 _)
    ·exact h5 id bx bx' hm Hn
theorem Dr:∀{nw:List (Nat × Bk)} {hp:Nat->Option Bk},(∀id bx bx',(id,bx)∈nw->(id,bx')∈nw->bx=bx') ->
  (∀id bx,(id,bx)∈nw->Am hp nw id=some bx)∧(∀id,(∀bx,(id,bx) ∉ nw)->Am hp nw id=hp id)
 |[],_,_=>⟨by simp,fun _ _=>rfl⟩
 |(i,b)::r,hp,h=>by
  obtain⟨h1,h2⟩:=Dr (nw:=r) (hp:=Cg hp i (some b)) (fun id bx bx' hm Hn=>h id bx bx' (by simp[hm]) (by simp[Hn]))
  refine⟨fun id bx hm=>?_,fun id hn=>?_⟩
  ·by_cases hr:∃bx',(id,bx')∈r
   ·obtain⟨bx',hr⟩:=hr;have:=h id bx bx' hm (by simp[hr])
    subst this;exact h1 id bx hr
   ·rcases List.mem_cons.1 hm with e|hm
    ·cases e;show Am (Cg hp i (some b)) r i=_;rw[h2 i (fun bx' hb=>hr ⟨bx',hb⟩),Ak]
    ·exact absurd ⟨bx,hm⟩ hr
  ·show Am (Cg hp i (some b)) r id=_;rw[h2 id (fun bx hb=>hn bx (by simp[hb])),Ah]
   rintro rfl
   exact hn b (by simp)
structure CF (Y:Nat->Prop) (β:Bt) (s:St) (w:World) (v:PV) (nw:List (Nat × Bk)) (val:Value) (w':World) (β':Bt):Prop where
 os:w'.os=w.os
 tape:w'.tape=w.tape
 output:w'.output=w.output
 ext:B1 (fun _=>False) w w'
 old:∀id,s.hp id≠none->β' id=β id
 nlive:∀id bx,(id,bx)∈nw->Ct (some bx)
 nbox:∀id bx,(id,bx)∈nw->Mr w' (Cu (Am s.hp nw) β' Y) β' id bx
 nblk:∀id bx b o,(id,bx)∈nw->β' id=some (b,o)->w.heap.size<=b∧b<w'.heap.size
 ninj:∀id bx id' bx' b o o',(id,bx)∈nw->(id',bx')∈nw->β' id=some (b,o)->β' id'=some (b,o')->id=id'
 nwf:∀id cells,(id,.st cells)∈nw->∀c∈cells,∀id'∈Al c,s.hp id'≠none∨∃bx,(id',bx)∈nw
 val:Dt w' (Cu (Am s.hp nw) β' Y) β' v val
 vwf:∀id∈Bq v,s.hp id≠none∨∃bx,(id,bx)∈nw
theorem Cj.stepR (h:Cj N w0 X0 Y β s a w){d:Option Tmp}{v:PV}{nw:List (Nat × Bk)} {val:Value}(hd:E4 N d=true)(K8:Bn s.hp nw=true)
  (st:CF Y β s w v nw val w' β'):Cj N w0 X0 Y β' ⟨Bh s.tm d v,Am s.hp nw⟩ (a.put d val) w':=by
 obtain⟨ha1,Hz⟩:=Bg K8;obtain⟨UC,hg2⟩:=Dr (hp:=s.hp) Hz
 have Ft:∀id,(∃bx,(id,bx)∈nw)∨Am s.hp nw id=s.hp id:=fun id=>by
  by_cases hx:∃bx,(id,bx)∈nw
  ·exact .inl hx
  ·exact .inr (hg2 id fun bx hb=>hx ⟨bx,hb⟩)
 have Ao7:∀id,s.hp id≠none->Am s.hp nw id=s.hp id:=fun id hn=>by
  rcases Ft id with⟨bx,hx⟩|e
  ·exact absurd (ha1 id bx hx) hn
  ·exact e
 have Pj:∀id,(s.hp id≠none∨∃bx,(id,bx)∈nw)->Am s.hp nw id≠none:=by
  rintro id (hn|⟨bx,hx⟩)
  ·rw[Ao7 id hn];exact hn
  ·rw[UC id bx hx];simp
 have Afe:∀b,b<w.heap.size->EF (Am s.hp nw) β' b->EF s.hp β b:=by
  rintro b hb ⟨id,o,hl,hβ⟩
  rcases Ft id with⟨bx,hx⟩|e
  ·have:=(st.nblk id bx b o hx hβ).1;omega
  ·rw[e] at hl;exact⟨id,o,hl,by rw[←st.old id (Cl hl)];exact hβ⟩
 have PK:∀b,b<w.heap.size->Cu (Am s.hp nw) β' Y b->Cu s.hp β Y b:=fun b hb hA=>hA.imp (Afe b hb) id
 have OQ:B1 (Cu s.hp β Y) w w':=st.ext.weaken (fun _ _ x=>x.elim)
 refine⟨by rw[Mf];exact h.dfr,by rw[Ra];exact h.tsz,EJ hd h.tmo,?_,?_,?_,?_,?_,?_,?_,?_,?_,?_,?_,h.Ylt,?_⟩
 ·refine Kw (Q:=fun _ p u=>Dt w' (Cu (Am s.hp nw) β' Y) β' p u) h.tsz hd (fun i hi=>?_) (fun _=>st.val)
  exact (h.tms i hi).step OQ PK fun id Bf=>st.old id (h.wfT i hi id Bf)
 ·intro id b hb;simp only at hb;rcases Ft id with⟨bx,hx⟩|e
  ·rw[UC id bx hx] at hb;cases hb;exact st.nbox id _ hx
  ·rw[e] at hb;have hβ:=st.old id (by rw[hb];simp)
   have Ir:=h.box id b hb;have B2:=h.blt id;have D8:s.hp id≠none:=by rw[hb];simp
   cases b with
   |st c=>
    obtain⟨b,o,h1,h2,h3⟩:=Ir;have Gh:=B2 b o D8 h1;have Mk:=st.ext.keep b Gh (fun x=>x)
    refine⟨b,o,by rw[hβ];exact h1,fun j c hj=>?_,fun j hj=>?_⟩
    ·obtain⟨v,hv,hc⟩:=h2 j c hj;refine⟨v,by rw[World.cell?_of_block (w:=w) Mk];exact hv,hc.step OQ PK fun id' Bf=>st.old id' ?_⟩
     exact h.wfB id _ hb c (List.mem_of_getElem? hj) id' Bf
    ·rw[World.frozen?_of_block (w:=w) Mk];exact h3 j hj
   |ar fz c=>
    rcases Ir with⟨h1,h2⟩|⟨b,o,h1,h2,h3,h4⟩
    ·exact .inl ⟨by rw[hβ];exact h1,h2⟩
    ·have Gh:=B2 b o D8 h1;have Mk:=st.ext.keep b Gh (fun x=>x)
     have Zu:bsz w' b=bsz w b:=by unfold bsz;rw[Mk]
     refine .inr ⟨b,o,by rw[hβ];exact h1,fun j c hj=>?_,fun e j hj M8=>?_,fun e x=>h4 e (PK b Gh x)⟩
     ·obtain⟨v,hv,h5,hc⟩:=h2 j c hj;exact⟨v,by rw[World.cell?_of_block (w:=w) (by rw[D6];exact Mk)];exact hv,h5,hc.step OQ PK⟩
     ·rw[World.frozen?_of_block (w:=w) Mk];exact h3 e j hj (by rw[←Zu];exact M8)
   |mv=>trivial
 ·intro id id' b o o' hl Hw hb Gh;simp only at hl Hw;rcases Ft id with⟨bx,hx⟩|e
  ·rcases Ft id' with⟨bx',Nz⟩|e'
   ·exact st.ninj id bx id' bx' b o o' hx Nz hb Gh
   ·rw[e'] at Hw;have h1:=(st.nblk id bx b o hx hb).1;have h2:=h.blt id' b o' (Cl Hw) (by rw[←st.old id' (Cl Hw)];exact Gh)
    omega
  ·rw[e] at hl;rcases Ft id' with⟨bx',Nz⟩|e'
   ·have h1:=(st.nblk id' bx' b o' Nz Gh).1;have h2:=h.blt id b o (Cl hl) (by rw[←st.old id (Cl hl)];exact hb)
    omega
   ·rw[e'] at Hw;exact h.inj id id' b o o' hl Hw (by rw[←st.old id (Cl hl)];exact hb) (by rw[←st.old id' (Cl Hw)];exact Gh)
 ·intro id b o hn hb;simp only at hn;rcases Ft id with⟨bx,hx⟩|e
  ·exact (st.nblk id bx b o hx hb).2
  ·rw[e] at hn;exact Nat.lt_of_lt_of_le (h.blt id b o hn (by rw[←st.old id hn];exact hb)) st.ext.size
 ·have:=Kw (Q:=fun _ p _=>∀id∈Bq p,Am s.hp nw id≠none) (val:=val) (d:=d) (v:=v) h.tsz hd (fun i hi id Bf=>Pj id (.inl (h.wfT i hi id Bf))) (fun _ id Bf=>Pj id (st.vwf id Bf))
  exact this
 ·intro id cells hc c JD id' Bf;simp only at hc;rcases Ft id with⟨bx,hx⟩|e
  ·rw[UC id bx hx] at hc;cases hc;exact Pj id' (st.nwf id _ hx c JD id' Bf)
  ·rw[e] at hc;exact Pj id' (.inl (h.wfB id cells hc c JD id' Bf))
 ·rintro b ⟨id,o,hl,hb⟩
  simp only at hl;rcases Ft id with⟨bx,hx⟩|e
  ·exact .inr (Nat.le_trans h.fr.step.size (st.nblk id bx b o hx hb).1)
  ·rw[e] at hl;exact h.ownd b ⟨id,o,hl,by rw[←st.old id (Cl hl)];exact hb⟩
 ·intro id bx b o hb hl hβ B2;simp only at hb;rcases Ft id with⟨bx',hx⟩|e
  ·have:=(st.nblk id bx' b o hx hβ).1;have:=h.fr.step.size;omega
  ·rw[e] at hb;exact h.rngB id bx b o hb hl (by rw[←st.old id (by rw[hb];simp)];exact hβ) B2
 ·intro i hi;obtain⟨h1,h2⟩:=h.pin i hi;exact⟨Pj _ (.inl h1),by rw[st.old _ h1];exact h2⟩
 ·intro id c b o hb hβ B2;simp only at hb;rcases Ft id with⟨bx',hx⟩|e
  ·have:=(st.nblk id bx' b o hx hβ).1;have:=h.fr.step.size;omega
  ·rw[e] at hb;exact h.stp id c b o hb (by rw[←st.old id (by rw[hb];simp)];exact hβ) B2
 ·rintro b hY hX
  have hb:b<w.heap.size:=Nat.lt_of_lt_of_le (h.Ylt b hY) h.fr.step.size;exact h.Yx b hY (Afe b hb hX)
 ·refine⟨st.os.trans h.fr.os,st.tape.trans h.fr.tape,st.output.trans h.fr.output,h.fr.step.trans st.ext (fun _ _ x=>x.elim),fun b j hb hL=>?_⟩
  have Mk:=st.ext.keep b (Nat.lt_of_lt_of_le hb h.fr.step.size) (fun x=>x)
  have hc:w'.cell? ⟨b,j,none⟩=w.cell? ⟨b,j,none⟩:=World.cell?_of_block (w:=w) Mk;have hf:w'.frozen? ⟨b,j,none⟩=w.frozen? ⟨b,j,none⟩:=World.frozen?_of_block (w:=w) Mk;rw[hc,hf];exact h.fr.rng b j hb hL
end
open Go.RowKit
section
variable {P:Program} {N:Nat} {w0:World} {X0:Gg} {Y:Nat->Prop} {β β':Bt} {s:St} {a:Act} {w w':World} {o:Oper}
theorem FY (cs:List Value)(A:Nat->Prop):Bc (Bs w A β) (cs.map PV.sc) cs:=by
 induction cs with
 |nil=>trivial
 |cons v r ih=>exact⟨Aq.sc v,ih⟩
theorem NE (cs:List Value):(cs.map PV.sc).flatMap Al=[]:=by
 induction cs with
 |nil=>rfl
 |cons v r ih=>exact ih
theorem Cm (h:Cj N w0 X0 Y β s a w)(x:Operand):Dt w (Cu s.hp β Y) β (Bu s.tm x) (a.eval x):=by
 cases x with
 |tmp t=>
  show Dt _ _ _ (s.tm t) (a.tmps.getD t undef);by_cases ht:t<N
  ·exact h.tms t ht
  ·rw[h.tmo t (Nat.le_of_not_lt ht)];exact Aq.top _
 |const v=>
  cases v with
  |agg cs=>exact⟨cs.toList,by simp[Act.eval],FY cs.toList _⟩
  |_=>exact Aq.sc _
 |func f=>exact Aq.sc _
 |global g=>exact Aq.sc _
theorem D9 (h:Cj N w0 X0 Y β s a w)(x:Operand):∀id∈Bq (Bu s.tm x),s.hp id≠none:=by
 cases x with
 |tmp t=>
  show ∀id∈Bq (s.tm t),_;by_cases ht:t<N
  ·exact h.wfT t ht
  ·rw[h.tmo t (Nat.le_of_not_lt ht)];intro id Bf;cases Bf
 |const v=>
  cases v with
  |agg cs=>
   intro id Bf;have:Bq (.agg (cs.toList.map .sc))=[]:=NE cs.toList;simp only[Bu] at Bf;rw[this] at Bf;cases Bf
  |_=>intro id Bf;cases Bf
 |func f=>intro id Bf;cases Bf
 |global g=>intro id Bf;cases Bf
theorem T9 {A:Nat->Prop}{v u:Value}(h:Dt w A β (.sc v) u):u=v:=Aq.val h
theorem B0 (h:Cj N w0 X0 Y β s a w){x:Operand}{v:Value}(e:Bu s.tm x=.sc v):a.eval x=v:=by
 have:=Cm h x;rw[e] at this;exact T9 this
def Dq (P:Program)(a:Act)(w:World)(o:Oper)(Y:Nat->Prop)(β:Bt)(s:St)(v:PV)(fz:List Nat)(nw:List (Nat × Bk)):Prop:=
 (∀id∈fz,∃f c,s.hp id=some (.ar f c))∧∃val w',(execOp a.eval o).run P w=.ok (.value val) w'∧(Bn s.hp nw=true->∃β',CF Y β ⟨s.tm,Ae s.hp fz⟩ w v nw val w' β')
theorem NT {v:PV}{val:Value}(hv:Dt w (Cu s.hp β Y) β v val) (hr:∀id∈Bq v,s.hp id≠none):CF Y β s w v [] val w β:=
 ⟨rfl,rfl,rfl,B1.refl _ _,fun _ _=>rfl,by simp,by simp,by simp,by simp,by simp,hv,fun id Bf=>.inl (hr id Bf)⟩
theorem Bx {v:PV}{val:Value}(Cf:(execOp a.eval o).run P w=.ok (.value val) w) (hv:Dt w (Cu s.hp β Y) β v val) (hr:∀id∈Bq v,s.hp id≠none):Dq P a w o Y β s v [] []:=
 ⟨by simp,val,w,Cf,fun _=>⟨β,NT (s:=⟨s.tm,Ae s.hp []⟩) hv hr⟩⟩
theorem Cb {v:Value}(Cf:(execOp a.eval o).run P w=.ok (.value v) w):Dq P a w o Y β s (.sc v) [] []:=Bx Cf (Aq.sc v) (by intro id Bf;cases Bf)
structure E3 (w w':World) (c:Array Value) (e:TypeId):Prop where
 os:w'.os=w.os
 tape:w'.tape=w.tape
 output:w'.output=w.output
 old:∀b,b<w.heap.size->w'.heap[b]?=w.heap[b]?
 size:w'.heap.size=w.heap.size+1
 new:∃fz:Nat × Nat,w'.heap[w.heap.size]?=some (.cells c e fz)∧(fz.1=fz.2∨c.size<=fz.1)
theorem E3.alloc (w:World)(c:Array Value)(e:TypeId):E3 w (w.alloc (.cells c e)) c e:=
 ⟨rfl,rfl,rfl,fun b hb=>Below.heap_alloc w _ b hb,by show (w.heap.push _).size=_;simp,(0,0),by show (w.heap.push _)[w.heap.size]?=_;simp,.inl rfl⟩
theorem E3.drew {c:Array Value}{e:TypeId}(h:E3 w w' c e):E3 w w'.drew c e:=⟨h.os,h.tape,h.output,h.old,h.size,h.new⟩
section
variable {c:Array Value} {e:TypeId}
theorem E3.step (h:E3 w w' c e):B1 (fun _=>False) w w':=
 ⟨by rw[h.size];omega,fun b hb _=>h.old b hb,fun b hb=>Fz.same (h.old b hb)⟩
theorem E3.cell (h:E3 w w' c e)(j:Nat):w'.cell? ⟨w.heap.size,j,none⟩=c[j]?:=by
 obtain⟨fz,hn,_⟩:=h.new;simp[World.cell?,hn]
theorem E3.frozen (h:E3 w w' c e){j:Nat}(hj:j<c.size):w'.frozen? ⟨w.heap.size,j,none⟩=false:=by
 obtain⟨fz,hn,hf⟩:=h.new;simp only[World.frozen?,hn];rcases hf with hf|hf<;>simp<;>omega
theorem H6 (w:World)(c:Array Value)(e:TypeId):KB (w.alloc (.cells c e)) w.heap.size=false:=by
 unfold KB World.frozen?;have:(w.alloc (.cells c e)).heap[w.heap.size]?=some (.cells c e (0,0)):=by show (w.heap.push _)[w.heap.size]?=_;simp
 simp only[this];simp
theorem E3.bsz (h:E3 w w' c e):bsz w' w.heap.size=c.size:=by
 obtain⟨fz,hn,_⟩:=h.new;simp[Pv.bsz,hn]
end
theorem Lj {c:Array Value}{e:TypeId}{d:Nat}{bx:Bk}{v:PV}{val:Value}(hg:E3 w w' c e)(hd:s.hp d=none)(hl:Ct (some bx))
  (Ir:Mr w' (Cu (Cg s.hp d (some bx)) (Cg β d (some (w.heap.size,0))) Y) (Cg β d (some (w.heap.size,0))) d bx)
  (hcw:∀cells,bx=.st cells->∀x∈cells,∀id'∈Al x,s.hp id'≠none)
  (hv:Dt w' (Cu (Cg s.hp d (some bx)) (Cg β d (some (w.heap.size,0))) Y) (Cg β d (some (w.heap.size,0))) v val)
  (hvr:∀id∈Bq v,s.hp id≠none∨id=d):CF Y β s w v [(d,bx)] val w' (Cg β d (some (w.heap.size,0))) where
 os:=hg.os
 tape:=hg.tape
 output:=hg.output
 ext:=hg.step
 old:=fun id hn=>Ah _ _ (by rintro rfl;exact hn hd)
 nlive:=by intro id b hm;simp at hm;obtain⟨rfl,rfl⟩:=hm;exact hl
 nbox:=by intro id b hm;simp at hm;obtain⟨rfl,rfl⟩:=hm;exact Ir
 nblk:=by
  intro id b x y hm hb;simp at hm;obtain⟨rfl,rfl⟩:=hm;rw[Ak] at hb;simp at hb;have:=hg.size;omega
 ninj:=by intro id b id' b' x y z hm Hn _ _;simp at hm Hn;rw[hm.1,Hn.1]
 nwf:=by intro id cells hm x hx id' Bf;simp at hm;exact .inl (hcw cells hm.2.symm x hx id' Bf)
 val:=hv
 vwf:=by
  intro id Bf;rcases hvr id Bf with h|rfl
  ·exact .inl h
  ·exact .inr ⟨bx,by simp⟩
theorem OY {c:Array Value}{e:TypeId}(hg:E3 w w' c e){A A':Nat->Prop}(hA:∀b,b<w.heap.size->A' b->A b){cells:List PV}
  (h:∀(j:Nat) p,cells[j]?=some p->∃v,c[j]?=some v∧v.oneCell'=true∧Aq w A p v):KL w' A' ⟨w.heap.size,0,none⟩ cells:=by
 intro j p hj;obtain⟨v,hv,h1,ht⟩:=h j p hj;exact⟨v,by rw[Dy,Nat.zero_add,hg.cell];exact hv,h1,ht.step (hg.step.weaken (fun _ _ x=>x.elim)) hA⟩
theorem PJ {d:Nat}{bx:Bk}(hwf:s.hp d=none):∀b,b<w.heap.size->Cu (Cg s.hp d (some bx)) (Cg β d (some (w.heap.size,0))) Y b->Cu s.hp β Y b:=by
 intro b hb hA;rcases hA with⟨id,o,hl,hβ⟩|hY
 ·by_cases e:id=d
  ·subst e;rw[Ak] at hβ;simp at hβ;omega
  ·rw[Ah _ _ e] at hl hβ;exact .inl ⟨id,o,hl,hβ⟩
 ·exact .inr hY
theorem L3 {c:Array Value}{e:TypeId}{d:Nat}{cells:List PV}{fz:List Nat}{v:PV}{val:Value}
  (Tc:∀id∈fz,∃f c,s.hp id=some (.ar f c))
  (Cf:(execOp a.eval o).run P w=.ok (.value val) w') (hg:E3 w w' c e)
  (hc:∀(j:Nat) p,cells[j]?=some p->∃u,c[j]?=some u∧u.oneCell'=true∧Aq w (Cu (Ae s.hp fz) β Y) p u)
  (hv:(v=.ptr d 0∧val=.pointer (some ⟨w.heap.size,0,none⟩))∨∃es n cap,v=.view d es 0 n∧val=.slice (some ⟨w.heap.size,0,none⟩) n cap∧n<=cap∧cap*es<=c.size∧(es=1∨KB w' w.heap.size=false)):
  Dq P a w o Y β s v fz [(d,.ar false cells)]:=by
 refine⟨Tc,val,w',Cf,fun K8=>⟨Cg β d (some (w.heap.size,0)),?_⟩⟩
 have hd:s.hp d=none:=(Bg K8).1 d (.ar false cells) (by simp)
 have hd':Ae s.hp fz d=none:=Dm.2 hd;refine Lj (s:=⟨s.tm,Ae s.hp fz⟩) hg hd' trivial ?_ (fun cells hx=>by cases hx) ?_ ?_
 ·refine .inr ⟨w.heap.size,0,Ak _ _ _,?_,fun _ j _ hj=>?_,(fun x=>by cases x)⟩
  ·exact OY hg (PJ (s:=⟨s.tm,Ae s.hp fz⟩) hd') hc
  ·rw[hg.bsz] at hj;exact hg.frozen hj
 ·rcases hv with⟨rfl,rfl⟩|⟨es,n,cap,rfl,rfl,hn,Qw,Avn⟩
  ·exact⟨w.heap.size,0,Ak _ _ _,rfl⟩
  ·exact .inr ⟨w.heap.size,0,0,cap,Ak _ _ _,rfl,.inl rfl,hn,⟨by rw[hg.bsz];omega,Avn⟩,by rw[hg.size];omega⟩
 ·intro id Bf;rcases hv with⟨rfl,_⟩|⟨es,n,cap,rfl,_⟩<;>(simp[Bq,B5,Al] at Bf;exact .inr Bf)
theorem BJ {c:Array Value}{e:TypeId}{d:Nat}{cells:List PV}
  (Cf:(execOp a.eval o).run P w=.ok (.value (.pointer (some ⟨w.heap.size,0,none⟩))) w') (hg:E3 w w' c e)
  (hc:∀(j:Nat) p,cells[j]?=some p->∃u,c[j]?=some u∧Bs w (Cu s.hp β Y) β p u) (hr:∀x∈cells,∀id∈Al x,s.hp id≠none):
  Dq P a w o Y β s (.ptr d 0) [] [(d,.st cells)]:=by
 refine⟨by simp,_,w',Cf,fun K8=>⟨Cg β d (some (w.heap.size,0)),?_⟩⟩
 have hd:s.hp d=none:=(Bg K8).1 d (.st cells) (by simp)
 refine Lj (s:=⟨s.tm,Ae s.hp []⟩) hg hd trivial ?_ (fun cs hx x SV id Bf=>?_) ?_ ?_
 ·refine⟨w.heap.size,0,Ak _ _ _,fun j p hj=>?_,fun j hj=>?_⟩
  ·obtain⟨u,hu,hp⟩:=hc j p hj;refine⟨u,by rw[Nat.zero_add,hg.cell];exact hu,hp.step (hg.step.weaken (fun _ _ x=>x.elim)) (PJ (s:=⟨s.tm,Ae s.hp []⟩) hd) fun id Bf=>Ah _ _ ?_⟩
   rintro rfl
   exact hr p (List.mem_of_getElem? hj) id Bf hd
  ·rw[Nat.zero_add];obtain⟨u,hu,_⟩:=hc j _ (List.getElem?_eq_getElem hj)
   exact hg.frozen (by
    rcases Nat.lt_or_ge j c.size with h|h
    ·exact h
    ·rw[Array.getElem?_eq_none h] at hu;cases hu)
 ·injection hx with hx;subst hx;exact hr x SV id Bf
 ·exact⟨w.heap.size,0,Ak _ _ _,rfl⟩
 ·intro id Bf;simp[Bq,B5,Al] at Bf;exact .inr Bf
end
open Go.RowKit
section
variable {R:Type} {r:R} {P:Program} {N:Nat} {w0:World} {X0:Gg} {Y:Nat->Prop} {β β':Bt} {s:St} {a:Act} {w w':World} {o:Oper}
theorem H2 {t:TypeId}{n:Nat}(h:(P.info? t).map (·.size)=some n) (w:World):(sizeOf t).run P w=.ok n w:=by
 cases hi:P.info? t with
 |none=>rw[hi] at h;cases h
 |some i=>rw[hi] at h;simp at h;simp[sizeOf,typeInfo,hi,h]
theorem WB {t:TypeId}{n:Nat}(h:A6 P t=n)(hn:0<n):(P.info? t).map (·.size)=some n:=by
 unfold A6 at h;cases hi:(P.info? t).map (·.size) with
 |none=>rw[hi] at h;simp at h;omega
 |some i=>rw[hi] at h;simp at h;rw[h]
theorem Jr {t:TypeId}{d:TypeDesc}(h:P.underlying t=some d)(w:World):(isAgg t).run P w=.ok (Bw P t) w:=by
 unfold isAgg Bw;rw[h];simp only[Sem.run_bind,run_underlying h,Result.andThen_ok];cases d<;>rfl
theorem PY {t:TypeId}{v:Value}{K:PV->Option R}(h:cvK P t v K=some r):∃p,K p=some r∧Bq p=[]∧∀(w:World)(A:Nat->Prop)(β:Bt),Dt w A β p v:=by
 have sc:∀v:Value,K (.sc v)=some r->∃p,K p=some r∧Bq p=[]∧∀(w:World) (A:Nat->Prop) (β:Bt),Dt w A β p v:=fun v h=>⟨_,h,rfl,fun w A β=>Aq.sc v⟩
 unfold cvK at h;split at h
 ·rename_i cs;obtain⟨hl,h⟩:=Ai h;obtain⟨xs,h,hxl,hx⟩:=N1 h;have hl:=Nat.eq_of_beq_eq_true hl;refine⟨_,h,?_,fun w A β=>⟨cs.toList,by simp,?_⟩⟩
  ·show xs.flatMap Al=[];rw[List.flatMap_eq_nil_iff];intro c hc;obtain⟨j,hj⟩:=List.mem_iff_getElem?.1 hc;exact F5 (hx j c hj).1
  ·refine Bc.of_at (by rw[hxl,hl]) fun i c u hc hu=>?_
   obtain⟨hT,p,hp,_,S0⟩:=hx i c hc;refine (Id hT).2 (S0 w A β u ?_).1;rw[Nat.zero_add,List.getElem?_map,hu] at hp;simp at hp;subst hp;exact Aq.sc u
 ·split at h
  ·exact⟨_,h,rfl,fun w A β=>Aq.lnil true _⟩
  ·cases h
 ·exact sc _ h
theorem So (h:Cj N w0 X0 Y β s a w){x:Operand}(Cf:(execOp a.eval o).run P w=.ok (.value (a.eval x)) w) {K:PV->Option R}(hk:Tu P o.type s.tm x K=some r):
  ∃v,K v=some r∧Dq P a w o Y β s v [] []:=by
 have dflt:K (Bu s.tm x)=some r->∃v,K v=some r∧Dq P a w o Y β s v [] []:=fun hk=>⟨_,hk,Bx Cf (Cm h x) (D9 h x)⟩
 cases x with
 |const v=>
  obtain⟨p,hk,hr,hv⟩:=PY hk;exact⟨p,hk,Bx Cf (hv _ _ _) (by rw[hr];simp)⟩
 |tmp t=>exact dflt hk
 |func f=>exact dflt hk
 |global g=>exact dflt hk
theorem QX {x:Operand}(ho:o.op=.move x):(execOp a.eval o).run P w=.ok (.value (a.eval x)) w:=by unfold execOp;rw[ho];rfl
theorem HP {x:Operand}(ho:o.op=.assign x):(execOp a.eval o).run P w=.ok (.value (a.eval x)) w:=by unfold execOp;rw[ho];rfl
theorem NV (h:Cj N w0 X0 Y β s a w){c x y:Operand}(ho:o.op=.pick c x y){K:PV->Option R}(hk:(Ap (Bu s.tm c) fun t=>Bi t (K (Bu s.tm x)) (K (Bu s.tm y)))=some r):
  ∃v,K v=some r∧Dq P a w o Y β s v [] []:=by
 obtain⟨b,hb,hk⟩:=Dc hk;have hc:=B0 h hb;rcases Jh hk with⟨rfl,hk⟩|⟨rfl,hk⟩
 ·exact⟨_,hk,Bx (by unfold execOp;rw[ho];simp[asBool,hc]) (Cm h x) (D9 h x)⟩
 ·exact⟨_,hk,Bx (by unfold execOp;rw[ho];simp[asBool,hc]) (Cm h y) (D9 h y)⟩
theorem Ku {t:TypeId}{K:List PV->Option R}(h:Fq P t K=some r):∃(v:Value)(cs:List PV),K cs=some r∧K7 P t=some v∧cs.length=(Gi P t).length∧cs.length=v.cells.toList.length∧cs.length=A6 P t ∧
  ∀(j:Nat) c,cs[j]?=some c->Ps c∧∃u,v.cells.toList[j]?=some u∧u.oneCell'=true∧∀(w:World) (A:Nat->Prop),Aq w A c u:=by
 unfold Fq at h;obtain⟨v,hz,h⟩:=B3 h;obtain⟨hl,h⟩:=Ai h;obtain⟨cs,h,Jp,hc⟩:=N1 h;simp only[Bool.and_eq_true] at hl;have Yl:=Nat.eq_of_beq_eq_true hl.1
 have M6:(Gi P t).length=A6 P t:=by
  have:=hl.2;simp only[G0,Bool.and_eq_true] at this;exact Nat.eq_of_beq_eq_true this.2
 refine⟨v,cs,h,hz,Jp,by rw[Jp,Yl],by rw[Jp,M6],fun j c hj=>?_⟩
 obtain⟨hT,p,hp,_,S0⟩:=hc j c hj;rw[Nat.zero_add,List.getElem?_map] at hp;cases hu:v.cells.toList[j]? with
 |none=>rw[hu] at hp;cases hp
 |some u=>
  rw[hu] at hp;simp at hp;subst hp;exact⟨hT,u,rfl,(S0 default (fun _=>False) (fun _=>none) u (Aq.sc u)).2,fun w A=>(S0 w A (fun _=>none) u (Aq.sc u)).1⟩
theorem Pr {t:TypeId}{v:Value}(h:K7 P t=some v)(w:World):(zeroValue t).run P w=.ok v w:=by
 unfold K7 at h;cases hi:P.info? t with
 |none=>rw[hi] at h;cases h
 |some i=>rw[hi] at h;simp at h;simp[zeroValue,typeInfo,hi,h]
theorem IH {t:TypeId}(ho:o.op=.alloc t){d:Nat}{K:PV->List Nat->List (Nat × Bk)->Option R}
  (hk:(Fq P t fun cs=>K (.ptr d 0) [] [(d,XO P t cs)])=some r):∃v fz nw,K v fz nw=some r∧Dq P a w o Y β s v fz nw:=by
 obtain⟨z,cs,hk,hz,_,hl,_,hc⟩:=Ku hk
 have Cf:(execOp a.eval o).run P w=.ok (.value (.pointer (some ⟨w.heap.size,0,none⟩))) (w.alloc (.cells z.cells t)):=by
  unfold execOp;rw[ho];simp[Instr.alloc,Pr hz,newVar,newRow]
 have hg:=E3.alloc w z.cells t;refine⟨_,_,_,hk,?_⟩;unfold XO;cases Ni P t
 ·refine BJ Cf hg (fun j p hj=>?_) fun x hx id Bf=>?_
  ·obtain⟨hT,u,hu,_,hv⟩:=hc j p hj;exact⟨u,by simpa using hu,(Id hT).2 (hv _ _)⟩
  ·obtain⟨j,hj⟩:=List.mem_iff_getElem?.1 hx;rw[F5 (hc j x hj).1] at Bf;cases Bf
 ·refine L3 (by simp) Cf hg (fun j p hj=>?_) (.inl ⟨rfl,rfl⟩)
  obtain⟨hT,u,hu,h1,hv⟩:=hc j p hj;exact⟨u,by simpa using hu,h1,hv _ _⟩
end
open Go.RowKit
section
variable {R:Type} {r:R} {P:Program} {N:Nat} {w0:World} {X0:Gg} {Y:Nat->Prop} {β β':Bt} {s:St} {a:Act} {w w':World} {o:Oper} {A:Nat->Prop}
theorem L1 {t:TypeId}(h:G0 P t=true):(∃d,P.underlying t=some d)∧(Gi P t).length=A6 P t∧(P.info? t).map (·.size)=some (A6 P t):=by
 simp only[G0,Bool.and_eq_true] at h;refine⟨Option.isSome_iff_exists.1 h.1,Nat.eq_of_beq_eq_true h.2,?_⟩;unfold A6;cases hi:P.info? t with
 |none=>unfold Program.underlying at h;rw[hi] at h;cases h.1
 |some i=>simp
theorem Js {v:Value}(h:v.oneCell'=true):v.cells = #[v]:=by cases v<;>first|rfl|cases h
theorem PQ {p:PV}{v:Value}{ts:List CT}{K:List PV->Option R}(hv:Dt w A β p v)(hl:(cellsOf p).length=ts.length) (h:Kk ts (cellsOf p) 0 K=some r):
  ∃cs,K cs=some r∧cs.length=ts.length∧Bc (Bs w A β) cs v.cells.toList∧(∀u∈v.cells.toList,u.oneCell'=true)∧(∀c∈cs,∀id∈Al c,id∈Bq p)∧∀c∈cs,(∀x,c ≠ .agg x)∧(∀x,c ≠ .tup x):=by
 obtain⟨cs,h,Jp,Tq,hc⟩:=Nt h;refine⟨cs,h,Jp,?_⟩
 have single:(∀x,p ≠ .agg x)->cellsOf p=[p]:=by
  intro hp;cases p<;>first|rfl|exact absurd rfl (hp _)
 by_cases Ep:∃x,p=.agg x
 ·obtain⟨x,rfl⟩:=Ep;obtain⟨vs,rfl,h2⟩:=hv;have Dd:cs.length=vs.length:=by rw[Jp,←hl];exact h2.len
  have key:∀(i:Nat) c u,cs[i]?=some c->vs[i]?=some u->Bs w A β c u∧u.oneCell'=true:=by
   intro i c u Mi hu;obtain⟨q,hq,_,_,hqv⟩:=hc i c Mi;rw[Nat.zero_add] at hq;exact hqv w A β u (h2.at_ hq hu)
  refine⟨Bc.of_at Dd fun i c u Mi hu=>(key i c u Mi hu).1,?_,?_,Tq⟩
  ·intro u hu;obtain⟨i,hi⟩:=List.mem_iff_getElem?.1 (show u∈vs from hu)
   have B2:i<vs.length:=by
    rcases Nat.lt_or_ge i vs.length with h|h
    ·exact h
    ·rw[List.getElem?_eq_none h] at hi;cases hi
   exact (key i _ u (List.getElem?_eq_getElem (by omega)) hi).2
  ·intro c JD id Bf;obtain⟨i,hi⟩:=List.mem_iff_getElem?.1 JD;obtain⟨q,hq,_,hr,_⟩:=hc i c hi;rw[Nat.zero_add] at hq;show id∈x.flatMap Al;exact List.mem_flatMap.2 ⟨q,List.mem_of_getElem? hq,hr id Bf⟩
 ·have hp:∀x,p ≠ .agg x:=fun x e=>Ep ⟨x,e⟩
  rw[single hp] at hl hc;have Yl:cs.length=1:=by rw[Jp,←hl];rfl
  match cs,Yl with
  |[c],_=>
   obtain⟨q,hq,hf,hr,hqv⟩:=hc 0 c rfl;simp at hq;subst hq;have L2:∀x,p ≠ .tup x:=by rintro x rfl;exact hf
   have Kr:Bs w A β p v:=(Rz hp).1 ((Kx L2).1 hv);obtain⟨h5,h6⟩:=hqv w A β v Kr;rw[Js h6];refine⟨⟨h5,trivial⟩,?_,?_,Tq⟩
   ·intro u hu;simp at hu;subst hu;exact h6
   ·intro c' Mi id Bf;simp at Mi;subst Mi;have:=hr id Bf;cases p<;>first|exact this|exact absurd rfl (hp _)|exact absurd rfl (L2 _)
end
open Go.RowKit
section
variable {R:Type} {r:R} {P:Program} {N:Nat} {w0:World} {X0:Gg} {Y:Nat->Prop} {β β':Bt} {s:St} {a:Act} {w w':World} {o:Oper} {A:Nat->Prop}
theorem Bc.get {α β':Type}{R':α->β'->Prop}{zs:List α}{bs:List β'}(h:Bc R' zs bs){i:Nat}{x:α}(hx:zs[i]?=some x):∃y,bs[i]?=some y∧R' x y:=by
 have B2:i<zs.length:=by
  rcases Nat.lt_or_ge i zs.length with h|h
  ·exact h
  ·rw[List.getElem?_eq_none h] at hx;cases hx
 have hb:bs[i]?=some (bs[i]'(by rw[←h.len];exact B2)):=List.getElem?_eq_getElem _
 exact⟨_,hb,h.at_ hx hb⟩
theorem Ady {p:PV}{v:Value}{ts:List CT}{K:List PV->Option R}(hv:Dt w A β p v)(hl:(cellsOf p).length=ts.length) (h:M4 ts (cellsOf p) 0 K=some r):
  ∃cs,K cs=some r∧cs.length=ts.length∧Bc (Aq w A) cs v.cells.toList∧∀u∈v.cells.toList,u.oneCell'=true:=by
 obtain⟨cs,h,Jp,hc⟩:=N1 h;refine⟨cs,h,Jp,?_⟩;by_cases Ep:∃x,p=.agg x
 ·obtain⟨x,rfl⟩:=Ep;obtain⟨vs,rfl,h2⟩:=hv;have Dd:cs.length=vs.length:=by rw[Jp,←hl];exact h2.len
  have key:∀(i:Nat) c u,cs[i]?=some c->vs[i]?=some u->Aq w A c u∧u.oneCell'=true:=by
   intro i c u Mi hu;obtain⟨_,q,hq,_,hqv⟩:=hc i c Mi;rw[Nat.zero_add] at hq;exact hqv w A β u (h2.at_ hq hu)
  refine⟨Bc.of_at Dd fun i c u Mi hu=>(key i c u Mi hu).1,?_⟩
  intro u hu;obtain⟨i,hi⟩:=List.mem_iff_getElem?.1 (show u∈vs from hu)
  have B2:i<vs.length:=by
   rcases Nat.lt_or_ge i vs.length with h|h
   ·exact h
   ·rw[List.getElem?_eq_none h] at hi;cases hi
  exact (key i _ u (List.getElem?_eq_getElem (by omega)) hi).2
 ·have hp:∀x,p ≠ .agg x:=fun x e=>Ep ⟨x,e⟩
  have single:cellsOf p=[p]:=by cases p<;>first|rfl|exact absurd rfl (hp _)
  rw[single] at hl hc;have Yl:cs.length=1:=by rw[Jp,←hl];rfl
  match cs,Yl with
  |[c],_=>
   obtain⟨_,q,hq,hf,hqv⟩:=hc 0 c rfl;simp at hq;subst hq;have L2:∀x,p ≠ .tup x:=by rintro x rfl;exact hf
   have Kr:Bs w A β p v:=(Rz hp).1 ((Kx L2).1 hv);obtain⟨h5,h6⟩:=hqv w A β v Kr;rw[Js h6];exact⟨⟨h5,trivial⟩,fun u hu=>by simp at hu;subst hu;exact h6⟩
theorem TA (h:Cj N w0 X0 Y β s a w){t:TypeId}{x:Operand}(ho:o.op=.box t x){d:Nat}{K:PV->List Nat->List (Nat × Bk)->Option R}
    (hk:(Bl (G0 P t&&Nat.beq (cellsOf (Bu s.tm x)).length (Gi P t).length)
      (bif Ni P t then M4 (Gi P t) (cellsOf (Bu s.tm x)) 0 fun cs=>K (.ptr d 0) [] [(d,.ar false cs)]
       else Kk (Gi P t) (cellsOf (Bu s.tm x)) 0 fun cs=>K (.ptr d 0) [] [(d,.st cs)]))=some r):∃v fz nw,K v fz nw=some r∧Dq P a w o Y β s v fz nw:=by
  obtain⟨hl,hk⟩:=Ai hk
  simp only[Bool.and_eq_true] at hl
  have hl:=Nat.eq_of_beq_eq_true hl.2
  have Cf:(execOp a.eval o).run P w=.ok (.value (.pointer (some ⟨w.heap.size,0,none⟩))) (w.alloc (.cells (a.eval x).cells t)):=by
    unfold execOp
    rw[ho]
    simp[Instr.box,newVar,newRow]
  have hg:=E3.alloc w (a.eval x).cells t
  cases ha:Ni P t
  · rw[ha] at hk
    obtain⟨cs,hk,_,h2,_,hr,_⟩:=PQ (Cm h x) hl hk
    refine⟨_,_,_,hk,BJ Cf hg (fun j p hj=>?_) fun c hc id Bf=>D9 h x id (hr c hc id Bf)⟩
    obtain⟨u,hu,hp⟩:=h2.get hj
    exact⟨u,by simpa using hu,hp⟩
  · rw[ha] at hk
    obtain⟨cs,hk,_,h2,h1⟩:=Ady (Cm h x) hl hk
    refine⟨_,_,_,hk,L3 (by simp) Cf hg (fun j p hj=>?_) (.inl ⟨rfl,rfl⟩)⟩
    obtain⟨u,hu,hp⟩:=h2.get hj
    exact⟨u,by simpa using hu,h1 u (List.mem_of_getElem? hu),hp⟩
theorem MT {c:PV}(h1:∀x,c ≠ .agg x)(h2:∀x,c ≠ .tup x):Bq c=Al c:=by
 cases c<;>first|rfl|exact absurd rfl (h1 _)|exact absurd rfl (h2 _)
theorem Ri {t:TypeId}{ad:Addr}{cs:List PV}{p:PV}(hok:G0 P t=true)(Dd:cs.length=(Gi P t).length)
  (Tq:∀c∈cs,(∀x,c ≠ .agg x)∧(∀x,c ≠ .tup x))
  (hc:∀(j:Nat) c,cs[j]?=some c->∃v,w.cell? (ad.add j)=some v∧Bs w A β c v)
  (hp:(Bw P t=true∧p=.agg cs)∨(Bw P t=false∧cs=[p])):∃val,(loadVar t ad).run P w=.ok val w∧Dt w A β p val:=by
 obtain⟨⟨d,hd⟩,hl,hi⟩:=L1 hok;rcases hp with⟨Ep,rfl⟩|⟨Ep,rfl⟩
 ·have hf:∀j,j<A6 P t->w.cell? (ad.add j)=some ((w.cell? (ad.add j)).getD undef):=by
   intro j hj;obtain⟨v,hv,_⟩:=hc j _ (List.getElem?_eq_getElem (by omega))
   rw[hv];rfl
  refine⟨_,?_,(List.range (A6 P t)).map (fun j=>(w.cell? (ad.add j)).getD undef),rfl,?_⟩
  ·simp only[loadVar,Sem.run_bind,Jr hd,Ep,Result.andThen_ok,if_true,H2 hi,run_loadCells w ad (A6 P t) _ hf];simp
  ·refine Bc.of_at (by simp;omega) fun i c u Mi hu=>?_
   obtain⟨v,hv,Uk⟩:=hc i c Mi
   have B2:i<A6 P t:=by
    rcases Nat.lt_or_ge i cs.length with h|h
    ·omega
    ·rw[List.getElem?_eq_none h] at Mi;cases Mi
   rw[List.getElem?_map,List.getElem?_range B2] at hu;simp[hv] at hu;subst hu;exact Uk
 ·obtain⟨v,hv,Uk⟩:=hc 0 p rfl;have hn:=Tq p (by simp)
  have h0:ad.add 0=ad:=by simp[Addr.add]
  rw[h0] at hv;refine⟨v,?_,(Kx hn.2).2 ((Rz hn.1).2 Uk)⟩;simp only[loadVar,Sem.run_bind,Jr hd,Ep,Result.andThen_ok];simp[hv]
theorem XJ {hp:Nat->Option Bk}{id:Nat}{c:List PV}(h:rd hp id=some c):hp id=some (.st c)∨∃f,hp id=some (.ar f c):=by
 unfold rd at h;split at h
 ·rename_i e;simp at h;subst h;exact .inl e
 ·rename_i f _ e;simp at h;subst h;exact .inr ⟨_,e⟩
 ·cases h
theorem FD {hp:Nat->Option Bk}{id:Nat}{c:List PV}(h:Hb hp id=some c):∃f,hp id=some (.ar f c):=by
 unfold Hb at h;split at h
 ·rename_i e;simp at h;subst h;exact⟨_,e⟩
 ·cases h
theorem W0 (h:Cj N w0 X0 Y β s a w){id:Nat}{c:List PV}(hr:rd s.hp id=some c){b ob:Nat}(hβ:β id=some (b,ob)) {j:Nat}{p:PV}(hj:c[j]?=some p):
  ∃v,w.cell? ⟨b,ob+j,none⟩=some v∧Bs w (Cu s.hp β Y) β p v:=by
 rcases XJ hr with hb|⟨f,hb⟩
 ·obtain⟨b',o',h1,h2,_⟩:=h.box id _ hb;rw[hβ] at h1;simp at h1;obtain⟨rfl,rfl⟩:=h1;exact h2 j p hj
 ·rcases h.box id _ hb with⟨h1,_⟩|⟨b',o',h1,h2,_⟩
  ·rw[hβ] at h1;cases h1
  ·rw[hβ] at h1;simp at h1;obtain⟨rfl,rfl⟩:=h1
   obtain⟨v,hv,_,ht⟩:=h2 j p hj;rw[Dy] at hv;refine⟨v,hv,?_⟩;cases ht with
   |sc=>exact Aq.sc _
   |top=>exact Aq.top _
   |ub=>exact Aq.ub _
   |lnil=>exact Aq.lnil _ _
   |lemp=>exact Aq.lemp _ _ _
   |lst es n cells a cap f hs hb hA hn hc h1 hr=>exact Aq.lst es n cells a cap f hs hb hA hn hc h1 hr
theorem Ht:∀{ts:List CT}{cells:List PV}{off:Nat}{K:List PV->Option R},M4 ts cells off K=some r->Kk ts cells off K=some r
 |[],_,_,_,h=>h
 |.int k::ts,cells,off,K,h=>by
  obtain⟨n,hp,h⟩:=Du (show Aw k (cells.getD off .top) _=some r from h)
  show Aw k _ _=_;rw[hp];simp only[Aw,if_true];exact Ht h
 |.bool::ts,cells,off,K,h=>by
  obtain⟨n,hp,h⟩:=Dc (show Ap (cells.getD off .top) _=some r from h)
  show Ap _ _=_;rw[hp];exact Ht h
 |.str::ts,cells,off,K,h=>by
  obtain⟨n,hp,h⟩:=C6 (show Ax (cells.getD off .top) _=some r from h)
  show Ax _ _=_;rw[hp];exact Ht h
 |.sl es::ts,cells,off,K,h=>by
  obtain⟨z,n,c,h,hp⟩:=Eh (show Pz es (cells.getD off .top) _=some r from h)
  change fcK (.sl es) (cells.getD off .top) (fun c=>Kk ts cells (off+1) fun r=>K (c::r))=some r
  unfold fcK;dsimp only;unfold fsK;rcases hp with hp|⟨hp,rfl,rfl,rfl⟩
  ·rw[hp];simp only[Pz,Nat.beq_refl,cond_true];exact Ht h
  ·rw[hp];exact Ht h
 |.any::ts,cells,off,K,h=>by
  have hK:∀v,M4 ts cells (off+1) (fun r=>K (.sc v::r))=some r->Kk ts cells (off+1) (fun r=>K (.sc v::r))=some r:=fun v h=>Ht h
  have h:SK (cells.getD off .top) (fun v=>M4 ts cells (off+1) fun r=>K (.sc v::r))=some r:=h
  show SK (cells.getD off .top) (fun v=>Kk ts cells (off+1) fun r=>K (.sc v::r))=some r
  unfold SK at h ⊢;split at h
  ·rename_i e;exact hK _ h
  ·exact hK _ h
  ·cases h
theorem Aq.unz {w:World}{A:Nat->Prop}{z:Bool}{es n:Nat}{c:List PV}{u:Value}(h:Aq w A (.lst z es n c) u):Aq w A (.lst false es n c) u:=by
 cases h with
 |lnil z es=>exact .lnil false es
 |lemp es a cap=>exact .lemp es a cap
 |lst es n c a cap f h1 h2 h3 h4 h5 h6 h7=>exact .lst es n c a cap f h1 h2 h3 h4 h5 h6 h7
theorem QL {w:World}{A:Nat->Prop}{β:Bt}{p:PV}{u:Value}(h:Bs w A β p u):Bs w A β (ET p) u:=by
 cases p with
 |lst z es n c=>exact Aq.unz h
 |_=>exact h
theorem MV (p:PV):Al (ET p)=Al p:=by cases p<;>rfl
theorem AN {w:World}{A:Nat->Prop}{β:Bt}:∀{cs:List PV}{vs:List Value},Bc (Bs w A β) cs vs->Bc (Bs w A β) (cs.map ET) vs
 |[],[],_=>trivial
 |_::_,_::_,h=>⟨QL h.1,AN h.2⟩
 |[],_::_,h=>h.elim
 |_::_,[],h=>h.elim
theorem TT {w:World}{A:Nat->Prop}{β:Bt}{p:PV}{u:Value}(h:Dt w A β p u):Dt w A β (MH p) u:=by
 cases p with
 |agg cs=>
  obtain⟨vs,h1,h2⟩:=(show F9 w A β (.agg cs) u from h)
  exact⟨vs,h1,AN h2⟩
 |lst z es n c=>exact Aq.unz (show Aq w A (.lst z es n c) u from h)
 |_=>exact h
theorem RU (p:PV):Bq (MH p)=Bq p:=by
 cases p with
 |agg cs=>
  show (cs.map ET).flatMap Al=cs.flatMap Al
  induction cs with
  |nil=>rfl
  |cons a l ih=>rw[List.map_cons,List.flatMap_cons,List.flatMap_cons,ih,MV]
 |_=>rfl
theorem Acv {nz:Bool}{hp:Nat->Option Bk}{t:TypeId}{x:PV}{K:PV->Option R}(h:Ru nz P (rd hp) (Hb hp) t x K=some r):
  Qg P (rd hp) t x K=some r∨Qg P (rd hp) t x (fun v=>K (MH v))=some r:=by
 have h':Qg P (rd hp) t x K=some r∨Qg P (rd hp) t x (fun v=>K (bif nz then v else MH v))=some r:=by
  unfold Ru at h;unfold Qg;split at h
  ·rename_i id off;obtain⟨hb,h⟩:=Ai h;rw[hb];show Dg _ _=_∨Dg _ _=_;split at h
   ·rename_i c hc;obtain⟨f,Ir⟩:=FD hc;have:rd hp id=some c:=by unfold rd;rw[Ir]
    rw[this];exact .inr (Ht h)
   ·exact .inl h
  ·exact .inr h
  ·cases h
 cases nz
 ·exact h'
 ·exact .inl (h'.elim id id)
theorem Z3 (h:Cj N w0 X0 Y β s a w){t:TypeId}{x:PV}{u:Value}(hx:Dt w (Cu s.hp β Y) β x u) {K:PV->Option R}(hk:Qg P (rd s.hp) t x K=some r):
  ∃v ad val,K v=some r∧u=.pointer (some ad)∧(loadVar t ad).run P w=.ok val w∧Dt w (Cu s.hp β Y) β v val∧∀i∈Bq v,s.hp i≠none:=by
 unfold Qg at hk;split at hk
 ·rename_i id off;obtain⟨hok,hk⟩:=Ai hk;obtain⟨c,hr,hk⟩:=B3 hk;obtain⟨cs,hk,hl,Tq,hc⟩:=Nt hk;obtain⟨b,ob,hβ,Cw⟩:=hx
  have Cn:∀(j:Nat) q,cs[j]?=some q->∃v,w.cell? ((⟨b,ob+off,none⟩:Addr).add j)=some v∧Bs w (Cu s.hp β Y) β q v:=by
   intro j q hq;obtain⟨p,hp,_,_,S0⟩:=hc j q hq;obtain⟨v,hv,Uk⟩:=W0 h hr hβ hp;exact⟨v,by rw[Dy,Nat.add_assoc];exact hv,(S0 _ _ _ _ Uk).1⟩
  have Pm:∀q∈cs,∀i∈Al q,s.hp i≠none:=by
   intro q hq i hi;obtain⟨j,hj⟩:=List.mem_iff_getElem?.1 hq;obtain⟨p,hp,_,hpr,_⟩:=hc j q hj;rcases XJ hr with hb|⟨f,hb⟩
   ·exact h.wfB id c hb p (List.mem_of_getElem? hp) i (hpr i hi)
   ·obtain⟨v,hv,Uk⟩:=W0 h hr hβ hp;exfalso;have Ck:=hpr i hi;rcases h.box id _ hb with⟨_,rfl⟩|⟨b',o',h1,h2,_⟩
    ·simp at hp
    ·obtain⟨v',_,_,ht⟩:=h2 _ p hp;cases ht<;>cases Ck
  rcases EU hk with⟨Ep,D3⟩|⟨Ep,q,rfl,D3⟩
  ·obtain⟨val,Rl,hv⟩:=Ri hok hl Tq Cn (.inl ⟨Ep,rfl⟩);refine⟨_,_,val,D3,Cw,Rl,hv,fun i hi=>?_⟩
   obtain⟨q,hq,hi⟩:=List.mem_flatMap.1 (show i∈cs.flatMap Al from hi)
   exact Pm q hq i hi
  ·obtain⟨val,Rl,hv⟩:=Ri hok hl Tq Cn (.inr ⟨Ep,rfl⟩);refine⟨_,_,val,D3,Cw,Rl,hv,fun i hi=>Pm q (by simp) i ?_⟩
   have hn:=Tq q (by simp)
   rw[MT hn.1 hn.2] at hi;exact hi
 ·rename_i c off;obtain⟨hok,hk⟩:=Ai hk;obtain⟨cs,hk,hl,hc⟩:=N1 hk;obtain⟨ad,Cw,hs,hb,hA,UF⟩:=hx
  have Tq:∀q∈cs,(∀x,q ≠ .agg x)∧(∀x,q ≠ .tup x):=by
   intro q hq;obtain⟨j,hj⟩:=List.mem_iff_getElem?.1 hq;exact⟨Sd (hc j q hj).1,PB (hc j q hj).1⟩
  have Cn:∀(j:Nat) q,cs[j]?=some q->∃v,w.cell? ((ad.add off).add j)=some v∧Bs w (Cu s.hp β Y) β q v:=by
   intro j q hq;obtain⟨hT,p,hp,Wz,S0⟩:=hc j q hq;obtain⟨v,hv,_,ht⟩:=UF (off+j) p hp;exact⟨v,by rw[add_add];exact hv,(Id hT).2 (S0 w (Cu s.hp β Y) β v ((Id Wz).2 ht)).1⟩
  have Pm:∀q∈cs,Al q=[]:=by
   intro q hq;obtain⟨j,hj⟩:=List.mem_iff_getElem?.1 hq;exact F5 (hc j q hj).1
  rcases EU hk with⟨Ep,D3⟩|⟨Ep,q,rfl,D3⟩
  ·obtain⟨val,Rl,hv⟩:=Ri hok hl Tq Cn (.inl ⟨Ep,rfl⟩);refine⟨_,_,val,D3,Cw,Rl,hv,fun i hi=>?_⟩
   obtain⟨q,hq,hi⟩:=List.mem_flatMap.1 (show i∈cs.flatMap Al from hi)
   rw[Pm q hq] at hi;cases hi
  ·obtain⟨val,Rl,hv⟩:=Ri hok hl Tq Cn (.inr ⟨Ep,rfl⟩);refine⟨_,_,val,D3,Cw,Rl,hv,fun i hi=>?_⟩
   have hn:=Tq q (by simp)
   rw[MT hn.1 hn.2,Pm q (by simp)] at hi
   cases hi
 ·cases hk
theorem JC (h:Cj N w0 X0 Y β s a w){t:TypeId}{x:PV}{u:Value}(hx:Dt w (Cu s.hp β Y) β x u) {nz:Bool}{K:PV->Option R}(hk:Ru nz P (rd s.hp) (Hb s.hp) t x K=some r):
  ∃v ad val,K v=some r∧u=.pointer (some ad)∧(loadVar t ad).run P w=.ok val w∧Dt w (Cu s.hp β Y) β v val∧∀i∈Bq v,s.hp i≠none:=by
 rcases Acv hk with hk|hk
 ·exact Z3 h hx hk
 ·obtain⟨v,ad,val,h1,h2,h3,h4,h5⟩:=Z3 h hx hk;exact⟨MH v,ad,val,h1,h2,h3,TT h4,by rw[RU];exact h5⟩
theorem LV (h:Cj N w0 X0 Y β s a w){t:TypeId}{x:Operand}(ho:o.op=.load t x){nz:Bool}{K:PV->Option R}(hk:Ru nz P (rd s.hp) (Hb s.hp) t (Bu s.tm x) K=some r):
  ∃v,K v=some r∧Dq P a w o Y β s v [] []:=by
 obtain⟨v,ad,val,Dn,Cw,hl,hv,hr⟩:=JC h (Cm h x) hk;refine⟨v,Dn,Bx ?_ hv hr⟩;unfold execOp;rw[ho];simp[Instr.loadAt,Instr.sureAddr,Cw,hl]
theorem SX {x:PV}{d:Nat}{K:PV->Option R}(h:Nj x d K=some r):(∃id off,x=.ptr id off∧K (.ptr id (off+d))=some r)∨∃c off,x=.iptr c off∧K (.iptr c (off+d))=some r:=by
 unfold Nj at h;split at h
 ·exact .inl ⟨_,_,rfl,h⟩
 ·exact .inr ⟨_,_,rfl,h⟩
 ·cases h
theorem P7 (h:Cj N w0 X0 Y β s a w){x:Operand}{d:Nat}{K:PV->Option R}(hk:Nj (Bu s.tm x) d K=some r)
  (Cf:∀ad:Addr,a.eval x=.pointer (some ad)->(execOp a.eval o).run P w=.ok (.value (.pointer (some (ad.add d)))) w):∃v,K v=some r∧Dq P a w o Y β s v [] []:=by
 have hx:=Cm h x;have Y0:=D9 h x;rcases SX hk with⟨id,off,e,hk⟩|⟨c,off,e,hk⟩
 ·rw[e] at hx Y0;obtain⟨b,ob,hβ,Cw⟩:=hx;refine⟨_,hk,Bx (Cf _ Cw) ⟨b,ob,hβ,by rw[Dy,Nat.add_assoc]⟩ Y0⟩
 ·rw[e] at hx;obtain⟨ad,Cw,h1,h2,h3,h4⟩:=hx;exact⟨_,hk,Bx (Cf _ Cw) ⟨ad,by rw[add_add],h1,h2,h3,h4⟩ (by intro i hi;cases hi)⟩
theorem X5 (h:Cj N w0 X0 Y β s a w){x:Operand}(ho:o.op=.nilCheck x){K:PV->Option R}(hk:Nj (Bu s.tm x) 0 K=some r):∃v,K v=some r∧Dq P a w o Y β s v [] []:=by
 refine P7 h hk fun ad Cw=>?_
 unfold execOp;rw[ho];simp[Cw,Addr.add]
theorem R7 {t:TypeId}{f:Nat}{q:Nat × TypeId}(h:Ly P t f=some q):∃fs g,P.underlying t=some (.struct fs)∧fs[f]?=some g∧q=(g.offset,g.type):=by
 unfold Ly at h;split at h
 ·rename_i fs e;cases hg:fs[f]? with
  |none=>rw[hg] at h;cases h
  |some g=>rw[hg] at h;simp at h;exact⟨fs,g,e,hg,h.symm⟩
 ·cases h
theorem Vi (h:Cj N w0 X0 Y β s a w){t:TypeId}{x:Operand}{f:Nat}(ho:o.op=.fieldAddr t x f){K:PV->Option R}
  (hk:(Dg (Ly P t f) fun q=>Bl (Nat.ble 1 (A6 P q.2)) (Nj (Bu s.tm x) q.1 K))=some r):∃v,K v=some r∧Dq P a w o Y β s v [] []:=by
 obtain⟨q,hq,hk⟩:=B3 hk;obtain⟨hs,hk⟩:=Ai hk;obtain⟨fs,g,hu,hg,rfl⟩:=R7 hq;have hs:1<=A6 P g.type:=Nat.le_of_ble_eq_true hs;have Kj:=WB (P:=P) (t:=g.type) rfl (by omega)
 refine P7 h hk fun ad Cw=>?_
 unfold execOp;rw[ho];have D8:¬A6 P g.type=0:=by omega
 simp[Instr.fieldAt,run_underlying hu,hg,Instr.sureAddr,Cw,fieldPlace,H2 Kj,D8]
end
open Go.RowKit
section
variable {R:Type} {r:R} {P:Program} {N:Nat} {w0:World} {X0:Gg} {Y:Nat->Prop} {β β':Bt} {s:St} {a:Act} {w w':World} {o:Oper} {A:Nat->Prop}
theorem Xy (h:Cj N w0 X0 Y β s a w){t:TypeId}{cs:List PV}{vs:List Value}{off:Nat}{K:PV->Option R}{x:Operand}(hx:Bu s.tm x=.agg cs)(hv:Bc (Bs w (Cu s.hp β Y) β) cs vs)
  (hk:Bl (G0 P t) (Kk (Gi P t) cs off fun c=>OU (Bw P t) c K)=some r)
  (Cf:∀val,(part t ⟨vs⟩ off).run P w=.ok val w->(execOp a.eval o).run P w=.ok (.value val) w):∃v,K v=some r∧Dq P a w o Y β s v [] []:=by
 obtain⟨hok,hk⟩:=Ai hk;obtain⟨⟨d,hd⟩,hl,hi⟩:=L1 hok;obtain⟨qs,hk,hql,Tq,hq⟩:=Nt hk;have Y0:=D9 h x;rw[hx] at Y0
 have Cn:∀(j:Nat) q,qs[j]?=some q->∃v,vs[off+j]?=some v∧Bs w (Cu s.hp β Y) β q v:=by
  intro j q hj;obtain⟨p,hp,_,_,S0⟩:=hq j q hj;obtain⟨v,Kr,hc⟩:=hv.get hp;exact⟨v,Kr,(S0 _ _ _ _ hc).1⟩
 have Pm:∀q∈qs,∀i∈Al q,s.hp i≠none:=by
  intro q hqm i hi;obtain⟨j,hj⟩:=List.mem_iff_getElem?.1 hqm;obtain⟨p,hp,_,hpr,_⟩:=hq j q hj;exact Y0 i (List.mem_flatMap.2 ⟨p,List.mem_of_getElem? hp,hpr i hi⟩)
 rcases EU hk with⟨Ep,D3⟩|⟨Ep,q,rfl,D3⟩
 ·have Vl:A6 P t=0∨off+A6 P t<=vs.length:=by
   rcases Nat.eq_zero_or_pos (A6 P t) with h0|h0
   ·exact .inl h0
   ·obtain⟨v,Kr,_⟩:=Cn (A6 P t-1) _ (List.getElem?_eq_getElem (by omega))
    have:off+(A6 P t-1)<vs.length:=by
     rcases Nat.lt_or_ge (off+(A6 P t-1)) vs.length with h|h
     ·exact h
     ·rw[List.getElem?_eq_none h] at Kr;cases Kr
    exact .inr (by omega)
  refine⟨_,D3,Bx (Cf (.agg ⟨(vs.drop off).take (A6 P t)⟩) ?_) ⟨(vs.drop off).take (A6 P t),rfl,?_⟩ fun i hi=>?_⟩
  ·simp only[part,Sem.run_bind,Jr hd,Ep,Result.andThen_ok,if_true,H2 hi];simp[List.extract_eq_take_drop]
  ·refine Bc.of_at ?_ fun i c u hc hu=>?_
   ·simp only[List.length_take,List.length_drop];omega
   ·obtain⟨v,Kr,Uk⟩:=Cn i c hc
    have B2:i<A6 P t:=by
     rcases Nat.lt_or_ge i qs.length with h|h
     ·omega
     ·rw[List.getElem?_eq_none h] at hc;cases hc
    rw[List.getElem?_take_of_lt B2,List.getElem?_drop,Kr] at hu;cases hu;exact Uk
  ·obtain⟨q,hqm,hi⟩:=List.mem_flatMap.1 (show i∈qs.flatMap Al from hi)
   exact Pm q hqm i hi
 ·obtain⟨v,Kr,Uk⟩:=Cn 0 q rfl;have hn:=Tq q (by simp)
  refine⟨_,D3,Bx (Cf v ?_) ((Kx hn.2).2 ((Rz hn.1).2 Uk)) fun i hi=>?_⟩
  ·simp only[part,Sem.run_bind,Jr hd,Ep,Result.andThen_ok];rw[Nat.add_zero] at Kr;simp[Kr]
  ·rw[MT hn.1 hn.2] at hi;exact Pm q (by simp) i hi
theorem GO (h:Cj N w0 X0 Y β s a w){t:TypeId}{x:Operand}{f:Nat}(ho:o.op=.field t x f){K:PV->Option R}
  (hk:(Dg (Ly P t f) fun q=>Bl (G0 P q.2)<|Gw (Bu s.tm x) fun cs=>Kk (Gi P q.2) cs q.1 fun c=>OU (Bw P q.2) c K)=some r):∃v,K v=some r∧Dq P a w o Y β s v [] []:=by
 obtain⟨q,hq,hk⟩:=B3 hk;obtain⟨hok,hk⟩:=Ai hk;obtain⟨cs,hx,hk⟩:=F2 hk;obtain⟨fs,g,hu,hg,rfl⟩:=R7 hq;have hxv:=Cm h x;rw[hx] at hxv;obtain⟨vs,Cw,hv⟩:=hxv;refine Xy (t:=g.type) (off:=g.offset) h hx hv (by rw[show G0 P g.type=true from hok];exact hk) fun val hp=>?_
 unfold execOp;rw[ho];simp[Instr.field,run_underlying hu,hg,asAgg,Cw,hp]
theorem Zl (h:Cj N w0 X0 Y β s a w){x:Operand}{i:Nat}(ho:o.op=.extract x i){K:PV->Option R}
  (hk:(match Bu s.tm x with | .tup vs=>Dg vs[i]? K|_=>none)=some r):∃v,K v=some r∧Dq P a w o Y β s v [] []:=by
 have hx:=Cm h x;have Y0:=D9 h x;split at hk
 ·rename_i ps e;rw[e] at hx Y0;obtain⟨p,hp,hk⟩:=B3 hk;obtain⟨vs,Cw,hv⟩:=hx;obtain⟨v,Kr,S0⟩:=hv.get hp
  have Afk:∀y,p ≠ .tup y:=by
   rintro y rfl
   have At5:Aq _ _ (.tup y) v:=S0;cases At5
  refine⟨p,hk,Bx (val:=v) ?_ ((Kx Afk).2 S0) fun id Bf=>Y0 id ?_⟩
  ·unfold execOp;rw[ho];simp[Instr.extract,Cw,Kr]
  ·refine List.mem_flatMap.2 ⟨p,List.mem_of_getElem? hp,?_⟩;cases p<;>first|exact Bf|exact absurd rfl (Afk _)
 ·cases hk
theorem E9 {es:Nat}{p:PV}{z:Bool}{n:Nat}{c:List PV}{v:Value}(hp:p=.lst z es n c∨(p=.sc (.slice none 0 0)∧z=true∧n=0∧c=[])) (hv:Dt w A β p v):
  (v=.slice none 0 0∧n=0∧c=[])∨(∃ad cap,v=.slice (some ad) n cap∧z=false∧n<=cap∧ad.spot=none∧ad.block<w.heap.size∧¬A ad.block∧KL w A ad c)∨∃ad cap,v=.slice (some ad) 0 cap∧z=false∧n=0∧c=[]:=by
 have Kr:Bs w A β p v:=by rcases hp with rfl|⟨rfl,_⟩<;>exact hv
 have ht:=Py hp Kr;cases ht with
 |lnil=>exact .inl ⟨rfl,rfl,rfl⟩
 |lst _ _ _ ad cap f hs hb hA hn hc h1 hr=>exact .inr (.inl ⟨ad,cap,rfl,rfl,hn,hs,hb,hA,fun j q hj=>⟨f j,hc j q hj,h1 j q hj,hr j q hj⟩⟩)
 |lemp _ ad cap=>exact .inr (.inr ⟨ad,cap,rfl,rfl,rfl,rfl⟩)
theorem Vc (h:Cj N w0 X0 Y β s a w){t:TypeId}{x i:Operand}(ho:o.op=.indexAddr t x i){K:PV->Option R}
  (hk:(C8 (Bu s.tm i) fun _ n=>Hs P t (Bu s.tm x) n K)=some r):∃v,K v=some r∧Dq P a w o Y β s v [] []:=by
 obtain⟨ik,n,hi,hk⟩:=C4 hk;have hai:=B0 h hi;have hx:=Cm h x;have Y0:=D9 h x;unfold Hs at hk;split at hk
 ·rename_i len e hu;obtain⟨hz,hk⟩:=Ai hk;obtain⟨hb,hk⟩:=Ai hk;simp only[Bool.and_eq_true,decide_eq_true_eq] at hb;obtain⟨inf,K6⟩:=Option.isSome_iff_exists.1 hz;refine P7 h hk fun ad Cw=>?_
  unfold execOp;rw[ho];simp[Instr.indexAt,asIntOf,hai,Cw,run_underlying hu,Instr.sureAddr,hb.1,hb.2,sizeOf,typeInfo,K6,A6]
 ·rename_i e hu;obtain⟨hz,hk⟩:=Ai hk;obtain⟨inf,K6⟩:=Option.isSome_iff_exists.1 hz;have Kj:A6 P e=inf.size:=by simp[A6,K6]
  split at hk
  ·rename_i id es off n' e';rw[e'] at hx Y0;obtain⟨Pf,hk⟩:=Ai hk;have Pf:=Nat.eq_of_beq_eq_true Pf;subst Pf;obtain⟨hb,hk⟩:=Ai hk;simp only[Bool.and_eq_true,decide_eq_true_eq] at hb;rcases hx with⟨_,_,rfl,_⟩|⟨b,ob,y,cap,hβ,Cw,hy,_⟩
   ·omega
   ·have hy:y=ob+off:=by rcases hy with hy|⟨rfl,_⟩<;>omega
    subst hy;refine⟨_,hk,Bx (val:=.pointer (some ⟨b,ob+(off+n.toNat*A6 P e),none⟩)) ?_ ⟨b,ob,hβ,rfl⟩ Y0⟩;unfold execOp;rw[ho];simp[Instr.indexAt,asIntOf,hai,Cw,run_underlying hu,hb.1,hb.2,sizeOf,typeInfo,K6,Kj,Dy,Nat.add_assoc]
  ·obtain⟨z,n',c,hk,hp⟩:=Eh hk;obtain⟨hb,hk⟩:=Ai hk;simp only[Bool.and_eq_true,decide_eq_true_eq] at hb;rcases E9 hp hx with⟨_,rfl,_⟩|⟨ad,cap,Cw,_,_,h1,h2,h3,h4⟩|⟨_,_,_,_,rfl,_⟩
   ·omega
   rotate_left
   ·omega
   ·refine⟨_,hk,Bx (val:=.pointer (some (ad.add (n.toNat*A6 P e)))) ?_ ⟨ad,rfl,h1,h2,h3,h4⟩ (by intro i hi;cases hi)⟩
    unfold execOp;rw[ho];simp[Instr.indexAt,asIntOf,hai,Cw,run_underlying hu,hb.1,hb.2,sizeOf,typeInfo,K6,Kj]
 ·cases hk
theorem GD (h:Cj N w0 X0 Y β s a w){t:TypeId}{x i:Operand}(ho:o.op=.index t x i){K:PV->Option R}
  (hk:(C8 (Bu s.tm i) fun _ n=>
   match P.underlying t with
   |some .string=>Ax (Bu s.tm x) fun s=>Bl (decide (0<=n)) (Dg (s.data.toList[n.toNat]?) fun b=>K (.sc (.int .u8 b.toNat)))
   |some (.array len e)=>Gw (Bu s.tm x) fun cs=>Bl (decide (0<=n)&&decide (n<len)&&G0 P e) (Kk (Gi P e) cs (n.toNat*A6 P e) fun c=>OU (Bw P e) c K)
   |_=>none)=some r):∃v,K v=some r∧Dq P a w o Y β s v [] []:=by
 obtain⟨ik,n,hi,hk⟩:=C4 hk;have hai:=B0 h hi;split at hk
 ·rename_i hu;obtain⟨sb,hx,hk⟩:=C6 hk;have Cw:=B0 h hx;obtain⟨h0,hk⟩:=Ai hk;obtain⟨b,hb,hk⟩:=B3 hk;have h0:=of_decide_eq_true h0;refine⟨_,hk,Cb ?_⟩
  have B2:n.toNat<sb.size:=by
   rcases Nat.lt_or_ge n.toNat sb.data.toList.length with h|h
   ·simpa using h
   ·rw[List.getElem?_eq_none h] at hb;cases hb
  have Gh:sb[n.toNat]=b:=by
   have:sb.data.toList[n.toNat]?=some sb[n.toNat]:=by
    rw[List.getElem?_eq_getElem (by simpa using B2)]
    rfl
   rw[hb] at this;injection this with this;exact this.symm
  unfold execOp;rw[ho];simp[Instr.index,asIntOf,hai,Cw,run_underlying hu,h0,B2,Gh]
 ·rename_i len e hu;obtain⟨cs,hx,hk⟩:=F2 hk;obtain⟨hb,hk⟩:=Ai hk;simp only[Bool.and_eq_true,decide_eq_true_eq] at hb;have hxv:=Cm h x;rw[hx] at hxv;obtain⟨vs,Cw,hv⟩:=hxv;obtain⟨_,_,Kj⟩:=L1 hb.2;refine Xy (t:=e) (off:=n.toNat*A6 P e) h hx hv (by rw[hb.2];exact hk) fun val hp=>?_
  unfold execOp;rw[ho];simp[Instr.index,asIntOf,hai,Cw,run_underlying hu,hb.1.1,hb.1.2,H2 Kj,hp]
 ·cases hk
end
open Go.RowKit
section
variable {R:Type} {r:R} {P:Program} {N:Nat} {w0:World} {X0:Gg} {Y:Nat->Prop} {β β':Bt} {s:St} {a:Act} {w w':World} {o:Oper} {A:Nat->Prop}
theorem Dh (h:Cj N w0 X0 Y β s a w){x:Option Operand}{dflt:Nat}{K:Nat->Option R}(hk:Fh (x.map (Bu s.tm)) dflt K=some r):
  ∃l,K l=some r∧((x=none∧l=dflt)∨∃y k,x=some y∧a.eval y=.int k (l:Int)):=by
 cases x with
 |none=>exact⟨dflt,hk,.inl ⟨rfl,rfl⟩⟩
 |some y=>
  obtain⟨k,i,hi,hk⟩:=C4 (show C8 (Bu s.tm y) _=some r from hk)
  obtain⟨h0,hk⟩:=Ai hk;have h0:=of_decide_eq_true h0;exact⟨i.toNat,hk,.inr ⟨y,k,rfl,by rw[B0 h hi,Int.toNat_of_nonneg h0]⟩⟩
theorem Gu {lo hi:Option Operand}{isS:Bool}{len cap l u:Nat}(hl:(lo=none∧l=0)∨∃y k,lo=some y∧a.eval y=.int k (l:Int))
  (hu:(hi=none∧u=len)∨∃y k,hi=some y∧a.eval y=.int k (u:Int)) (h1:l<=u)(h2:u<=cap):
  (Instr.sliceBounds isS len cap (lo.map a.eval) (hi.map a.eval) none).run P w=.ok (l,u,cap) w:=by
 rcases hl with⟨rfl,rfl⟩|⟨y,k,rfl,hy⟩<;>rcases hu with⟨rfl,rfl⟩|⟨y',k',rfl,hy'⟩
 ·simp[Instr.sliceBounds]
 ·simp[Instr.sliceBounds,Instr.sliceBound,asIntOf,hy',h2]
 ·simp[Instr.sliceBounds,Instr.sliceBound,asIntOf,hy,h1]
 ·simp[Instr.sliceBounds,Instr.sliceBound,asIntOf,hy,hy',h1,h2]
theorem Ci {e:TypeId}(h:(P.info? e).isSome=true) (w:World):(sizeOf e).run P w=.ok (A6 P e) w:=by
 obtain⟨i,hi⟩:=Option.isSome_iff_exists.1 h;exact H2 (by simp[A6,hi]) w
theorem Yy {b j:Nat}{v:Value}(h:w.cell? ⟨b,j,none⟩=some v):j<bsz w b:=by
 unfold World.cell? at h;unfold bsz;split at h
 ·rename_i c e fz hb;simp only at hb;rw[hb];simp only[Option.isSome_none,Bool.false_eq_true,if_false] at h;rcases Nat.lt_or_ge j c.size with B2|UL
  ·exact B2
  ·rw[Array.getElem?_eq_none UL] at h;cases h
 ·cases h
theorem GE (h:Cj N w0 X0 Y β s a w){t:TypeId}{x:Operand}{lo hi:Option Operand}(ho:o.op=.slice t x lo hi none){K:PV->Option R}
  (hk:Tt P (rd s.hp) t (Bu s.tm x) (lo.map (Bu s.tm)) (hi.map (Bu s.tm)) K=some r):∃v,K v=some r∧Dq P a w o Y β s v [] []:=by
 have hx:=Cm h x;have Y0:=D9 h x;unfold Tt at hk;split at hk
 ·rename_i hu;obtain⟨sb,Y4,hk⟩:=C6 hk;have Cw:=B0 h Y4;obtain⟨l,hk,hl⟩:=Dh h hk;obtain⟨u,hk,G5⟩:=Dh h hk;obtain⟨hb,hk⟩:=Ai hk;simp only[Bool.and_eq_true,decide_eq_true_eq] at hb;refine⟨_,hk,Cb ?_⟩;unfold execOp;rw[ho];simp[Instr.sliceAt,Instr.slice,run_underlying hu,Cw,Gu hl G5 hb.1 hb.2]
 ·rename_i e hu;obtain⟨K6,hk⟩:=Ai hk;split at hk
  ·rename_i id es off n e';rw[e'] at hx Y0;obtain⟨Pf,hk⟩:=Ai hk;have Pf:=Nat.eq_of_beq_eq_true Pf;subst Pf;obtain⟨l,hk,hl⟩:=Dh h hk;obtain⟨u,hk,G5⟩:=Dh h hk;obtain⟨hb,hk⟩:=Ai hk;simp only[Bool.and_eq_true,decide_eq_true_eq] at hb;rcases hx with⟨hβ,rfl,rfl,ad,Cw⟩|⟨b,ob,y,cap,hβ,Cw,hy,hn,Qw,B2⟩
   ·have hu0:u=0:=by omega
    have XQ:l=0:=by omega
    subst hu0 XQ;refine⟨_,hk,Bx (val:=.slice ad 0 0) ?_ (.inl ⟨hβ,by simp,rfl,ad,rfl⟩) Y0⟩
    unfold execOp;rw[ho];cases ad<;>simp[Instr.sliceAt,Instr.slice,run_underlying hu,Cw,Gu hl G5 (Nat.le_refl 0) (Nat.le_refl 0),Ci K6]
   ·have Cf:(execOp a.eval o).run P w=.ok (.value (.slice (some (if cap=l then ⟨b,y,none⟩ else ⟨b,y+l*A6 P e,none⟩)) (u-l) (cap-l))) w:=by
     unfold execOp;rw[ho];have FK:=Gu (P:=P) (w:=w) (isS:=true) hl G5 hb.1 (Nat.le_trans hb.2 hn);simp[Instr.sliceAt,Instr.slice,run_underlying hu,Cw,FK,Ci K6,Dy];split<;>rfl
    refine⟨_,hk,Bx Cf (.inr ?_) Y0⟩;by_cases hc:cap=l
    ·rw[if_pos hc];refine⟨b,ob,y,cap-l,hβ,rfl,?_,by omega,⟨by rw[hc,Nat.sub_self];have:=Qw.1;omega,Qw.2⟩,B2⟩
     by_cases h0:l*A6 P e=0
     ·rw[h0,Nat.add_zero];rcases hy with hy|⟨Sq,K5⟩
      ·exact .inl hy
      ·exact .inr ⟨by omega,K5⟩
     ·exact .inr ⟨by omega,by omega⟩
    ·rw[if_neg hc];refine⟨b,ob,y+l*A6 P e,cap-l,hβ,rfl,?_,by omega,?_,B2⟩
     ·rcases hy with hy|⟨Sq,K5⟩
      ·exact .inl (by omega)
      ·exact .inr ⟨by omega,by omega⟩
     ·have:l*A6 P e+(cap-l)*A6 P e=cap*A6 P e:=by
       rw[←Nat.add_mul]
       congr 1
       omega
      have:=Qw.1;exact⟨by omega,Qw.2⟩
  ·obtain⟨z,n,c,hk,hp⟩:=Eh hk;obtain⟨l,hk,hl⟩:=Dh h hk;obtain⟨u,hk,G5⟩:=Dh h hk;obtain⟨hb,hk⟩:=Ai hk;simp only[Bool.and_eq_true,decide_eq_true_eq] at hb;rcases E9 hp hx with⟨Cw,rfl,rfl⟩|⟨ad,cap,Cw,rfl,hn,h1,h2,h3,h4⟩|⟨ad,cap,Cw,rfl,rfl,rfl⟩
   rotate_right
   ·have hu0:u=0:=by omega
    have XQ:l=0:=by omega
    subst hu0 XQ;refine⟨_,hk,Bx (val:=.slice (some (if cap=0 then ad else ad.add (0*A6 P e))) (0-0) (cap-0)) ?_ ?_ (by intro i hi;cases hi)⟩
    ·unfold execOp;rw[ho];have FK:=Gu (P:=P) (w:=w) (isS:=true) hl G5 (Nat.le_refl 0) (Nat.zero_le cap);simp[Instr.sliceAt,Instr.slice,run_underlying hu,Cw,FK,Ci K6];split<;>rfl
    ·have:((([]:List PV).drop (0*A6 P e)).take ((0-0)*A6 P e))=[]:=by simp
     rw[this];exact Aq.lemp _ _ _
   ·have hu0:u=0:=by omega
    have XQ:l=0:=by omega
    subst hu0 XQ;refine⟨_,hk,Bx (val:=.slice none 0 0) ?_ ?_ (by intro i hi;cases hi)⟩
    ·unfold execOp;rw[ho];simp[Instr.sliceAt,Instr.slice,run_underlying hu,Cw,Gu hl G5 (Nat.le_refl 0) (Nat.le_refl 0),Ci K6]
    ·have:((([]:List PV).drop (0*A6 P e)).take ((0-0)*A6 P e))=[]:=by simp
     rw[this];exact Aq.lnil z _
   ·have Cf:(execOp a.eval o).run P w=.ok (.value (.slice (some (if cap=l then ad else ad.add (l*A6 P e))) (u-l) (cap-l))) w:=by
     unfold execOp;rw[ho];have FK:=Gu (P:=P) (w:=w) (isS:=true) hl G5 hb.1 (Nat.le_trans hb.2 hn);simp[Instr.sliceAt,Instr.slice,run_underlying hu,Cw,FK,Ci K6];split<;>rfl
    refine⟨_,hk,Bx Cf ?_ (by intro i hi;cases hi)⟩
    by_cases hc:cap=l
    ·rw[if_pos hc];have:u-l=0:=by omega
     rw[this];simp only[Nat.zero_mul,List.take_zero];exact Aq.lst _ _ [] ad _ (fun _=>undef) h1 h2 h3 (by omega) (by simp) (by simp) (by simp)
    ·rw[if_neg hc]
     have Cn:∀(j:Nat) q,((c.drop (l*A6 P e)).take ((u-l)*A6 P e))[j]?=some q->c[l*A6 P e+j]?=some q:=by
      intro j q hq;rw[List.getElem?_take] at hq;split at hq
      ·rw[List.getElem?_drop] at hq;exact hq
      ·cases hq
     refine Aq.lst _ _ _ (ad.add (l*A6 P e)) _ (fun j=>(w.cell? (ad.add (l*A6 P e+j))).getD undef) (XN h1 _) (by rw[D6];exact h2) (by rw[D6];exact h3) (by omega) (fun j q hq=>?_) (fun j q hq=>?_) (fun j q hq=>?_)
     ·obtain⟨v,hv,_⟩:=h4 _ q (Cn j q hq);rw[add_add,hv];rfl
     ·obtain⟨v,hv,h5,_⟩:=h4 _ q (Cn j q hq);rw[hv];exact h5
     ·obtain⟨v,hv,_,ht⟩:=h4 _ q (Cn j q hq);rw[hv];exact ht
 ·rename_i n e hu;obtain⟨K6,hk⟩:=Ai hk;split at hk
  ·rename_i id off e';rw[e'] at hx Y0;obtain⟨c,hrc,hk⟩:=B3 hk;obtain⟨Dd,hk⟩:=Ai hk;simp only[Bool.and_eq_true,decide_eq_true_eq] at Dd;have Pf:=Nat.eq_of_beq_eq_true Dd.2
   replace Dd:=Dd.1
   obtain⟨l,hk,hl⟩:=Dh h hk;obtain⟨u,hk,G5⟩:=Dh h hk;obtain⟨hb,hk⟩:=Ai hk;simp only[Bool.and_eq_true,decide_eq_true_eq] at hb;obtain⟨b,ob,hβ,Cw⟩:=hx
   have Zu:ob+off+n*A6 P e<=bsz w b:=by
    obtain⟨v,hv,_⟩:=W0 h hrc hβ (j:=off+n*A6 P e-1) (List.getElem?_eq_getElem (by omega))
    have:=Yy hv;omega
   have B2:b<w.heap.size:=h.blt id b ob (Y0 id (by simp[Bq,B5,Al])) hβ
   have Cf:(execOp a.eval o).run P w=.ok (.value (.slice (some (if n=l then ⟨b,ob+off,none⟩ else ⟨b,ob+off+l*A6 P e,none⟩)) (u-l) (n-l))) w:=by
    unfold execOp;rw[ho];have FK:=Gu (P:=P) (w:=w) (isS:=false) hl G5 hb.1 hb.2;simp[Instr.sliceAt,Instr.sureAddr,run_underlying hu,Cw,FK,Ci K6,Dy]
   refine⟨_,hk,Bx Cf (.inr ?_) Y0⟩;by_cases hc:n=l
   ·rw[if_pos hc];refine⟨b,ob,ob+off,n-l,hβ,rfl,?_,by omega,⟨by rw[hc,Nat.sub_self];omega,.inl Pf⟩,B2⟩
    by_cases h0:l*A6 P e=0
    ·rw[h0,Nat.add_zero];exact .inl rfl
    ·exact .inr ⟨by omega,by omega⟩
   ·rw[if_neg hc];refine⟨b,ob,ob+off+l*A6 P e,n-l,hβ,rfl,.inl (by omega),by omega,?_,B2⟩
    have:l*A6 P e+(n-l)*A6 P e=n*A6 P e:=by
     rw[←Nat.add_mul]
     congr 1
     omega
    exact⟨by omega,.inl Pf⟩
  ·cases hk
 ·cases hk
end
open Go.RowKit
section
variable {R:Type} {r:R} {P:Program} {N:Nat} {w0:World} {X0:Gg} {Y:Nat->Prop} {β β':Bt} {s:St} {a:Act} {w w':World} {o:Oper} {A:Nat->Prop}
theorem RH (h:Cj N w0 X0 Y β s a w){c:Call}(ho:o.op=.call c)(hc:c.callee=.builtin .len){K:PV->Option R}
  (hk:(Aa c.args.toList fun x _=>Aa c.argTypes.toList fun t _=>RT P t (Bu s.tm x) fun n=>K (.sc (.int .i64 n)))=some r):∃v,K v=some r∧Dq P a w o Y β s v [] []:=by
 obtain⟨x,xs,Y4,hk⟩:=A5 hk;obtain⟨t,ts,FJ,hk⟩:=A5 hk;have hx:=Cm h x;have Ea:c.args=(x::xs).toArray:=by rw[←Y4]
 have Vd:c.argTypes=(t::ts).toArray:=by rw[←FJ]
 have Cf:∀n:Nat,(Builtin.len_ c.argTypes o.type (c.args.map a.eval)).run P w=.ok (.int .i64 n) w->(execOp a.eval o).run P w=.ok (.value (.int .i64 n)) w:=by
  intro n hl;unfold execOp;rw[ho];simp only[resolve,hc,invoke,builtin,Sem.run_bind,Sem.run_pure,Result.andThen_ok,hl]
 unfold RT at hk;split at hk
 ·rename_i hu;obtain⟨sb,A0x,hk⟩:=C6 hk;have Cw:=B0 h A0x;refine⟨_,hk,Cb (Cf _ ?_)⟩;simp[Builtin.len_,Ea,Vd,run_underlying hu,Cw,goInt]
 ·rename_i n e hu;refine⟨_,hk,Cb (Cf _ ?_)⟩;simp[Builtin.len_,Ea,Vd,run_underlying hu,goInt]
 ·rename_i e hu;split at hk
  ·rename_i id es off n e';rw[e'] at hx;obtain⟨_,hk⟩:=Ai hk;refine⟨_,hk,Cb (Cf _ ?_)⟩;rcases hx with⟨_,_,rfl,ad,Cw⟩|⟨b,ob,y,cap,_,Cw,_⟩<;>simp[Builtin.len_,Ea,Vd,run_underlying hu,Cw,goInt]
  ·obtain⟨z,n,cc,hk,hp⟩:=Eh hk;refine⟨_,hk,Cb (Cf _ ?_)⟩;rcases E9 hp hx with⟨Cw,rfl,_⟩|⟨ad,cap,Cw,_⟩|⟨ad,cap,Cw,_,rfl,_⟩<;>simp[Builtin.len_,Ea,Vd,run_underlying hu,Cw,goInt]
 ·cases hk
theorem QM (h:Cj N w0 X0 Y β s a w){c:Call}(ho:o.op=.call c)(hc:c.callee=.builtin .cap){K:PV->Option R}
  (hk:(Aa c.args.toList fun x _=>Aa c.argTypes.toList fun t _=>QS P t (Bu s.tm x) fun n=>K (.sc (.int .i64 n)))=some r):∃v,K v=some r∧Dq P a w o Y β s v [] []:=by
 obtain⟨x,xs,Y4,hk⟩:=A5 hk;obtain⟨t,ts,FJ,hk⟩:=A5 hk;have hx:=Cm h x;have Ea:c.args=(x::xs).toArray:=by rw[←Y4]
 have Vd:c.argTypes=(t::ts).toArray:=by rw[←FJ]
 have Cf:∀n:Nat,(Builtin.cap_ c.argTypes o.type (c.args.map a.eval)).run P w=.ok (.int .i64 n) w->(execOp a.eval o).run P w=.ok (.value (.int .i64 n)) w:=by
  intro n hl;unfold execOp;rw[ho];simp only[resolve,hc,invoke,builtin,Sem.run_bind,Sem.run_pure,Result.andThen_ok,hl]
 unfold QS at hk;split at hk
 ·rename_i e hu;obtain⟨z,n,cc,hk,hp⟩:=Eh hk;obtain⟨hz,hk⟩:=Ai hk;refine⟨_,hk,Cb (Cf _ ?_)⟩;rcases E9 hp hx with⟨Cw,rfl,_⟩|⟨ad,cap,Cw,Yv,_⟩|⟨ad,cap,Cw,Yv,_,_⟩
  ·simp[Builtin.cap_,Ea,Vd,run_underlying hu,Cw,goInt]
  ·rw[hz] at Yv;cases Yv
  ·rw[hz] at Yv;cases Yv
 ·cases hk
theorem RO (h:Cj N w0 X0 Y β s a w){c:Call}(ho:o.op=.call c)(hc:c.callee=.builtin .min){K:PV->Option R}
  (hk:(Aa c.args.toList fun x r=>Aa r fun y r'=>Ad r' (Abc (Bu s.tm x) (Bu s.tm y) K))=some r):∃v,K v=some r∧Dq P a w o Y β s v [] []:=by
 obtain⟨x,xs,Y4,hk⟩:=A5 hk;obtain⟨y,ys,rfl,hk⟩:=A5 hk;obtain⟨rfl,hk⟩:=C7 hk;obtain⟨k,n,hx,hk⟩:=C4 hk;obtain⟨m,hy,hk⟩:=Du hk
 have Ea:c.args = #[x,y]:=by
  have:c.args=([x,y]:List Operand).toArray:=by rw[←Y4]
  exact this
 refine⟨_,hk,Cb ?_⟩;unfold execOp;rw[ho];simp[resolve,hc,invoke,builtin,Ea,Builtin.min_,Builtin.min2,B0 h hx,B0 h hy]
theorem TB (h:Cj N w0 X0 Y β s a w){c:Call}(ho:o.op=.call c)(hc:c.callee=.builtin .max){K:PV->Option R}
  (hk:(Aa c.args.toList fun x r=>Aa r fun y r'=>Ad r' (Ad5 (Bu s.tm x) (Bu s.tm y) K))=some r):∃v,K v=some r∧Dq P a w o Y β s v [] []:=by
 obtain⟨x,xs,Y4,hk⟩:=A5 hk;obtain⟨y,ys,rfl,hk⟩:=A5 hk;obtain⟨rfl,hk⟩:=C7 hk;obtain⟨k,n,hx,hk⟩:=C4 hk;obtain⟨m,hy,hk⟩:=Du hk
 have Ea:c.args = #[x,y]:=by
  have:c.args=([x,y]:List Operand).toArray:=by rw[←Y4]
  exact this
 refine⟨_,hk,Cb ?_⟩;unfold execOp;rw[ho];simp[resolve,hc,invoke,builtin,Ea,Builtin.max_,Builtin.max2,B0 h hx,B0 h hy]
theorem LF (h:Cj N w0 X0 Y β s a w){op:UnOp}{t:TypeId}{x:Operand}(ho:o.op=.unOp op t x){K:PV->Option R}(hk:unK op (Bu s.tm x) K=some r):
  ∃v,K v=some r∧Dq P a w o Y β s v [] []:=by
 unfold unK at hk;split at hk
 ·obtain⟨b,hb,hk⟩:=Dc hk;refine⟨_,hk,Cb ?_⟩;unfold execOp;rw[ho];simp[Op.unary,B0 h hb]
 ·obtain⟨k,n,hb,hk⟩:=C4 hk;refine⟨_,hk,Cb ?_⟩;unfold execOp;rw[ho];simp[Op.unary,Op.intArith,B0 h hb]
 ·obtain⟨k,n,hb,hk⟩:=C4 hk;refine⟨_,hk,Cb ?_⟩;unfold execOp;rw[ho];simp[Op.unary,Op.intBits,B0 h hb,Aqf]
 ·cases hk
theorem TG {op:BinOp}{k:IntKind}{m n:Int}{t:TypeId}{x y:Operand}{K:PV->Option R}(UD:op ≠ .shl)(Po:op ≠ .shr)(hk:V5 op k m n K=some r):
  ∃v,K (.sc v)=some r∧(do eqGuard op t x y (.int k m) (.int k n);binOp op t (.int k m) (.int k n)).run P w=.ok v w:=by
 cases op<;>first
  |exact absurd rfl UD
  |exact absurd rfl Po
  |(obtain⟨hb,hk⟩:=Ai hk;have hb:=of_decide_eq_true hb;exact⟨_,hk,by simp[eqGuard,binOp,Op.intDiv,hb]⟩)
  |exact⟨_,hk,by simp[eqGuard,binOp,-BitVec.toNat_and,-BitVec.toNat_or,-BitVec.toNat_xor,-gt_iff_lt,-ge_iff_le]<;>rfl⟩
theorem TH {op:BinOp}{m n:ByteArray}{t:TypeId}{x y:Operand}{K:PV->Option R}(hk:Wr op m n K=some r):
  ∃v,K (.sc v)=some r∧(do eqGuard op t x y (.string m) (.string n);binOp op t (.string m) (.string n)).run P w=.ok v w:=by
 cases op<;>first
  |cases hk
  |(obtain⟨hb,hk⟩:=Ai hk;have hb:=of_decide_eq_true hb;exact⟨_,hk,by
    have Gh:¬(((m.size+n.size:Nat):Int)>IntKind.i64.max):=by
     have:IntKind.i64.max=9223372036854775807:=rfl;rw[this];omega
    simp only[eqGuard,binOp,Op.stringOp,if_neg Gh];rfl⟩)
  |exact⟨_,hk,by simp only[eqGuard,binOp,Op.stringOp,ByteArray.toList_eq];rfl⟩
end
open Go.RowKit
section
variable {R:Type} {r:R} {P:Program} {N:Nat} {w0:World} {X0:Gg} {Y:Nat->Prop} {β β':Bt} {s:St} {a:Act} {w w':World} {o:Oper} {A:Nat->Prop}
theorem Xc {t:TypeId}(hu:P.underlying t=some .bool)(x y:Bool):(Op.equal t (.bool x) (.bool y)).run P w=.ok (x==y) w:=by
 have h:∀d,(Op.equalIn (d+1) t (.bool x) (.bool y)).run P w=.ok (x==y) w:=fun d=>by simp[Op.equalIn,run_underlying hu]
 exact h 9999
theorem On {t e:TypeId}(hu:P.underlying t=some (.slice e)) (x:Option Addr)(n c:Nat):(Op.equal t (.slice x n c) (.slice none 0 0)).run P w=.ok x.isNone w:=by
 have h:∀d,(Op.equalIn (d+1) t (.slice x n c) (.slice none 0 0)).run P w=.ok x.isNone w:=fun d=>by
  cases x<;>simp[Op.equalIn,run_underlying hu]
 exact h 9999
theorem R0 {t k e:TypeId}(hu:P.underlying t=some (.map k e)):(Op.equal t (.map none) (.map none)).run P w=.ok true w:=by
 have h:∀d,(Op.equalIn (d+1) t (.map none) (.map none)).run P w=.ok true w:=fun d=>by
  simp[Op.equalIn,run_underlying hu]
 exact h 9999
theorem Gz {t:TypeId}(d:Nat){v u:Value}(hv:(∃k m n,P.underlying t=some (.int k)∧v=.int k m∧u=.int k n)∨(∃m n,P.underlying t=some .bool∧v=.bool m∧u=.bool n)∨∃m n,P.underlying t=some .string∧v=.string m∧u=.string n) {b:Bool}
  (hb:∀k m n,v=.int k m->u=.int k n->b=(m==n)) (Gh:∀m n,v=.bool m->u=.bool n->b=(m==n)) (Auv:∀m n,v=.string m->u=.string n->b=(m==n)):(Op.equalIn (d+1) t v u).run P w=.ok b w:=by
 rcases hv with⟨k,m,n,hu,rfl,rfl⟩|⟨m,n,hu,rfl,rfl⟩|⟨m,n,hu,rfl,rfl⟩
 ·rw[hb k m n rfl rfl];simp[Op.equalIn,run_underlying hu]
 ·rw[Gh m n rfl rfl];simp[Op.equalIn,run_underlying hu]
 ·rw[Auv m n rfl rfl];simp[Op.equalIn,run_underlying hu]
theorem L9 {t:TypeId}{dsc:TypeDesc}(hu:P.underlying t=some dsc)(hd:Bw P t=false){xs:Array Value}{i:Nat}{v:Value}(hv:xs[i]?=some v):(part t xs i).run P w=.ok v w:=by
 simp only[part,Sem.run_bind,Jr hu,hd,Result.andThen_ok];simp[hv]
theorem AY (k:IntKind)(n:Int)(K:Int->Option R):Aw k (.sc (.int k n)) K=K n:=by simp[Aw]
theorem IY (d : Nat) : ∀ (fs : List Field) (i : Nat) (xs ys : Array Value) (ps qs : List PV) (K : Bool -> Option R), HR P fs i = true -> Io (fs.map (ZM P)) ps qs K = some r ->
    (∀ (j : Nat) p, ps[j]? = some p -> ∃ v, xs[i + j]? = some v ∧ Bs w A β p v) -> (∀ (j : Nat) p, qs[j]? = some p -> ∃ v, ys[i + j]? = some v ∧ Bs w A β p v) ->
    ∃ b, K b = some r ∧ (forIn fs ((none, ()) : Option Bool × Unit) fun (f : Field) (_ : Option Bool × Unit) =>
            if f.name = "_" then pure (ForInStep.yield ((none, ()) : Option Bool × Unit))
            else do
              let x ← part f.type xs f.offset
              let y ← part f.type ys f.offset
              let e ← Op.equalIn (d + 1) f.type x y
              if e = false then pure (ForInStep.done ((some false, ()) : Option Bool × Unit)) else pure (ForInStep.yield ((none, ()) : Option Bool × Unit)) : Sem (Option Bool × Unit)).run P w = .ok (if b then (none, ()) else (some false, ())) w
  | [], i, xs, ys, ps, qs, K, _, hk, _, _ => by
    cases ps with
    | nil => cases qs with
      | nil => exact⟨true, hk, by simp⟩
      | cons q qs => cases hk
    | cons p ps => cases hk
  | f :: fs, i, xs, ys, ps, qs, K, Zp, hk, hp, hq => by
    simp only[HR, Bool.and_eq_true] at Zp
    obtain⟨⟨⟨K5, YF⟩, hty⟩, Pg⟩ := Zp
    have K5 := Nat.eq_of_beq_eq_true K5
    have Wh : f.name ≠ "_" := by simpa using YF
    cases ps with
    | nil =>
      simp only[List.map_cons] at hk
      cases Ak8 : ZM P f <;> rw[Ak8] at hk <;> cases hk
    | cons p ps =>
      cases qs with
      | nil =>
        simp only[List.map_cons] at hk
        cases Ak8 : ZM P f <;> rw[Ak8] at hk <;> cases hk
      | cons q qs =>
        obtain⟨v, hv, S0⟩ := hp 0 p rfl
        obtain⟨u, hu, hqu⟩ := hq 0 q rfl
        rw[Nat.add_zero] at hv hu
        have main : ∃ b0 dsc, P.underlying f.type = some dsc ∧ Bw P f.type = false ∧ (Op.equalIn (d + 1) f.type v u).run P w = .ok b0 w ∧ Io (fs.map (ZM P)) ps qs (fun r => K (b0 && r)) = some r := by
          simp only[List.map_cons] at hk
          unfold ZM at hk
          split at hk
          · rename_i k Hm
            obtain⟨m, BT, Dn⟩ := Du (show Aw k p _ = some r from hk)
            obtain⟨n, Y3, D3⟩ := Du Dn
            subst BT Y3
            have Kr : v = .int k m := Aq.val (w := w) (A := A) S0
            have G5 : u = .int k n := Aq.val (w := w) (A := A) hqu
            subst Kr G5
            refine⟨m == n, _, Hm, by simp[Bw, Hm], Gz d (.inl ⟨k, m, n, Hm, rfl, rfl⟩) ?_ ?_ ?_, D3⟩
            · intro k' m' n' h1 h2; injection h1 with _ h1; injection h2 with _ h2; rw[h1, h2]
            · intro m' n' h1; cases h1
            · intro m' n' h1; cases h1
          · rename_i Hm
            obtain⟨m, BT, Dn⟩ := Dc (show Ap p _ = some r from hk)
            obtain⟨n, Y3, D3⟩ := Dc Dn
            subst BT Y3
            have Kr : v = .bool m := Aq.val (w := w) (A := A) S0
            have G5 : u = .bool n := Aq.val (w := w) (A := A) hqu
            subst Kr G5
            refine⟨m == n, _, Hm, by simp[Bw, Hm], Gz d (.inr (.inl ⟨m, n, Hm, rfl, rfl⟩)) ?_ ?_ ?_, D3⟩
            · intro k' m' n' h1; cases h1
            · intro m' n' h1 h2; injection h1 with h1; injection h2 with h2; rw[h1, h2]
            · intro m' n' h1; cases h1
          · rename_i Hm
            obtain⟨m, BT, Dn⟩ := C6 (show Ax p _ = some r from hk)
            obtain⟨n, Y3, D3⟩ := C6 Dn
            subst BT Y3
            have Kr : v = .string m := Aq.val (w := w) (A := A) S0
            have G5 : u = .string n := Aq.val (w := w) (A := A) hqu
            subst Kr G5
            refine⟨m == n, _, Hm, by simp[Bw, Hm], Gz d (.inr (.inr ⟨m, n, Hm, rfl, rfl⟩)) ?_ ?_ ?_, D3⟩
            · intro k' m' n' h1; cases h1
            · intro m' n' h1; cases h1
            · intro m' n' h1 h2; injection h1 with h1; injection h2 with h2; rw[h1, h2]
          · cases hk
        obtain⟨b0, dsc, Hm, Ep, he, hk⟩ := main
        obtain⟨b, WM, Cf⟩ := IY d fs (i + 1) xs ys ps qs _ Pg hk (fun j p' hj => by have := hp (j + 1) p' hj; rwa [Nat.add_assoc, Nat.add_comm 1 j]) (fun j p' hj => by have := hq (j + 1) p' hj; rwa [Nat.add_assoc, Nat.add_comm 1 j])
        refine⟨b0 && b, WM, ?_⟩
        have hpx : (part f.type xs f.offset).run P w = .ok v w := L9 Hm Ep (by rw[K5]; exact hv)
        have hpy : (part f.type ys f.offset).run P w = .ok u w := L9 Hm Ep (by rw[K5]; exact hu)
        cases b0
        · simp[List.forIn_cons, Wh, hpx, hpy, he]
        · simp only[Bool.true_and]
          rw[← Cf]
          simp[List.forIn_cons, Wh, hpx, hpy, he]
theorem Ve (d:Nat){t:TypeId}{fs:Array Field}(hu:P.underlying t=some (.struct fs)) (Ey:P.stoodInHeld t=false)(Zp:HR P fs.toList 0=true){xs ys:List PV}{vx vy:List Value}
  (hvx:Bc (Bs w A β) xs vx) (hvy:Bc (Bs w A β) ys vy) {K:Bool->Option R}(hk:Io (fs.toList.map (ZM P)) xs ys K=some r):
  ∃b,K b=some r∧(Op.equalIn (d+2) t (.agg ⟨vx⟩) (.agg ⟨vy⟩)).run P w=.ok b w:=by
 obtain⟨b,WM,Cf⟩:=IY (P:=P) (w:=w) (A:=A) (β:=β) d fs.toList 0 ⟨vx⟩ ⟨vy⟩ xs ys K Zp hk (fun j p hj=>by
   obtain⟨v,hv,hc⟩:=hvx.get hj;exact⟨v,by simpa using hv,hc⟩) (fun j p hj=>by
   obtain⟨v,hv,hc⟩:=hvy.get hj;exact⟨v,by simpa using hv,hc⟩)
 refine⟨b,WM,?_⟩;rw[Array.forIn_toList] at Cf;rw[Op.equalIn];simp[run_underlying hu,Ey];rw[Cf];cases b<;>simp
theorem Sa:∀(ts1:List CT){ts2:List CT}{ps qs:List PV}{K:Bool->Option R},Io (ts1++ts2) ps qs K=some r ->
  Io ts1 (ps.take ts1.length) (qs.take ts1.length) (fun b=>Io ts2 (ps.drop ts1.length) (qs.drop ts1.length) fun r'=>K (b&&r'))=some r
 |[],ts2,ps,qs,K,h=>by
  simp only[List.length_nil,List.take_zero,List.drop_zero,Io,Bool.true_and];exact h
 |t::ts1,ts2,ps,qs,K,h=>by
  rw[List.cons_append] at h;cases ps with
  |nil=>cases t<;>cases h
  |cons p ps=>
   cases qs with
   |nil=>cases t<;>cases h
   |cons q qs=>
    simp only[List.length_cons,List.take_succ_cons,List.drop_succ_cons];cases t with
    |int k=>
     obtain⟨m,BT,h1⟩:=Du (show Aw k p _=some r from h)
     obtain⟨n,Y3,h2⟩:=Du h1;subst BT Y3;have:=Sa ts1 h2;simp only[←Bool.and_assoc] at this;exact (AY _ _ _).trans ((AY _ _ _).trans this)
    |bool=>
     obtain⟨m,BT,h1⟩:=Dc (show Ap p _=some r from h)
     obtain⟨n,Y3,h2⟩:=Dc h1;subst BT Y3;have:=Sa ts1 h2;simp only[←Bool.and_assoc] at this;exact this
    |str=>
     obtain⟨m,BT,h1⟩:=C6 (show Ax p _=some r from h)
     obtain⟨n,Y3,h2⟩:=C6 h1;subst BT Y3;have:=Sa ts1 h2;simp only[←Bool.and_assoc] at this;exact this
    |sl es=>cases h
    |any=>cases h
theorem GC:∀(ts:List CT){ps qs:List PV}{K:Bool->Option R},Io ts ps qs K=some r->ps.length=ts.length∧qs.length=ts.length
 |[],ps,qs,K,h=>by
  cases ps with
  |nil=>cases qs with
   |nil=>exact⟨rfl,rfl⟩
   |cons q qs=>cases h
  |cons p ps=>cases h
 |t::ts,ps,qs,K,h=>by
  cases ps with
  |nil=>cases t<;>cases h
  |cons p ps=>
   cases qs with
   |nil=>cases t<;>cases h
   |cons q qs=>
    have go:∃K',Io ts ps qs K'=some r:=by
     cases t with
     |int k=>
      obtain⟨m,BT,h1⟩:=Du (show Aw k p _=some r from h)
      obtain⟨n,Y3,h2⟩:=Du h1;exact⟨_,h2⟩
     |bool=>
      obtain⟨m,BT,h1⟩:=Dc (show Ap p _=some r from h)
      obtain⟨n,Y3,h2⟩:=Dc h1;exact⟨_,h2⟩
     |str=>
      obtain⟨m,BT,h1⟩:=C6 (show Ax p _=some r from h)
      obtain⟨n,Y3,h2⟩:=C6 h1;exact⟨_,h2⟩
     |sl es=>cases h
     |any=>cases h
    obtain⟨K',h'⟩:=go;have:=GC ts h';exact⟨by simp[this.1],by simp[this.2]⟩
theorem HZ {t:TypeId}{dsc:TypeDesc}(hu:P.underlying t=some dsc)(hd:Bw P t=true)(hi:(P.info? t).isSome=true) (xs:Array Value)(i:Nat):(part t xs i).run P w=.ok (.agg (xs.extract i (i+A6 P t))) w:=by
 simp only[part,Sem.run_bind,Jr hu,hd,Result.andThen_ok,if_true,Ci hi];rfl
theorem BE {xs:Array Value}{i n:Nat}{ps:List PV}(hn:n<=ps.length)(hp:∀(j:Nat) p,ps[j]?=some p->∃v,xs[i+j]?=some v∧Bs w A β p v):Bc (Bs w A β) (ps.take n) (xs.extract i (i+n)).toList:=by
 rcases Nat.eq_zero_or_pos n with h0|h0
 ·subst h0;simp[Bc]
 have hl:n-1<ps.length:=by omega
 obtain⟨v,hv,_⟩:=hp (n-1) _ (List.getElem?_eq_getElem hl);have Kj:=(Array.getElem?_eq_some_iff.1 hv).1;refine Bc.of_at (by simp;omega) fun j a b ha hb=>?_
 rw[List.getElem?_take] at ha;split at ha
 ·rename_i hj;obtain⟨v,hv,hc⟩:=hp j a ha;rw[Array.getElem?_toList,Array.getElem?_extract] at hb;split at hb
  ·rw[hv] at hb;cases hb;exact hc
  ·cases hb
 ·cases ha
theorem Uv {f:Field}{gs:Array Field}(hu:P.underlying f.type=some (.struct gs)):IG P f=gs.toList.map (ZM P):=by unfold IG;rw[hu]
theorem ME {f:Field}(h:∀gs,P.underlying f.type≠some (.struct gs)):IG P f=[ZM P f]:=by
 unfold IG;split
 ·rename_i gs hu;exact absurd hu (h gs)
 ·rfl
theorem OV (d : Nat) : ∀ (fs : List Field) (i : Nat) (xs ys : Array Value) (ps qs : List PV) (K : Bool -> Option R), Kb P fs i = true -> Io (Ph P fs) ps qs K = some r ->
    (∀ (j : Nat) p, ps[j]? = some p -> ∃ v, xs[i + j]? = some v ∧ Bs w A β p v) -> (∀ (j : Nat) p, qs[j]? = some p -> ∃ v, ys[i + j]? = some v ∧ Bs w A β p v) ->
    ∃ b, K b = some r ∧ (forIn fs ((none, ()) : Option Bool × Unit) fun (f : Field) (_ : Option Bool × Unit) =>
            if f.name = "_" then pure (ForInStep.yield ((none, ()) : Option Bool × Unit))
            else do
              let x ← part f.type xs f.offset
              let y ← part f.type ys f.offset
              let e ← Op.equalIn (d + 2) f.type x y
              if e = false then pure (ForInStep.done ((some false, ()) : Option Bool × Unit)) else pure (ForInStep.yield ((none, ()) : Option Bool × Unit)) : Sem (Option Bool × Unit)).run P w = .ok (if b then (none, ()) else (some false, ())) w
  | [], i, xs, ys, ps, qs, K, _, hk, _, _ => by
    cases ps with
    | nil => cases qs with
      | nil => exact⟨true, hk, by simp⟩
      | cons q qs => cases hk
    | cons p ps => cases hk
  | f :: fs, i, xs, ys, ps, qs, K, Zp, hk, hp, hq => by
    simp only[Kb, Bool.and_eq_true] at Zp
    obtain⟨⟨K5, YF⟩, hty⟩ := Zp
    have K5 := Nat.eq_of_beq_eq_true K5
    have Wh : f.name ≠ "_" := by simpa using YF
    have main : ∃ b0 v u n, (part f.type xs f.offset).run P w = .ok v w ∧ (part f.type ys f.offset).run P w = .ok u w ∧ (Op.equalIn (d + 2) f.type v u).run P w = .ok b0 w ∧ Kb P fs (i + n) = true ∧ Io (Ph P fs) (ps.drop n) (qs.drop n) (fun r' => K (b0 && r')) = some r := by
      have hk := Sa (IG P f) (show Io (IG P f ++ Ph P fs) ps qs K = some r from hk)
      have Dd := GC _ hk
      rw[List.length_take, List.length_take] at Dd
      have plain : (∀ gs, P.underlying f.type ≠ some (.struct gs)) -> Kb P fs (i + 1) = true -> (match P.underlying f.type with | some (.int _) => true | some .bool => true | some .string => true | _ => false) = true ->
          ∃ b0 v u n, (part f.type xs f.offset).run P w = .ok v w ∧ (part f.type ys f.offset).run P w = .ok u w ∧ (Op.equalIn (d + 2) f.type v u).run P w = .ok b0 w ∧ Kb P fs (i + n) = true ∧ Io (Ph P fs) (ps.drop n) (qs.drop n) (fun r' => K (b0 && r')) = some r := by
        intro hs Aid Q0
        rw[ME hs] at hk Dd
        simp only[List.length_singleton] at hk Dd
        obtain⟨p, ps, rfl⟩ : ∃ p ps', ps = p :: ps' := by
          cases ps with
          | nil => simp at Dd
          | cons p ps => exact⟨p, ps, rfl⟩
        obtain⟨q, qs, rfl⟩ : ∃ q qs', qs = q :: qs' := by
          cases qs with
          | nil => simp at Dd
          | cons q qs => exact⟨q, qs, rfl⟩
        obtain⟨v, hv, S0⟩ := hp 0 p rfl
        obtain⟨u, hu, hqu⟩ := hq 0 q rfl
        rw[Nat.add_zero] at hv hu
        simp only[List.take_succ_cons, List.take_zero, List.drop_succ_cons, List.drop_zero] at hk ⊢
        have one : ∃ b0 dsc, P.underlying f.type = some dsc ∧ Bw P f.type = false ∧ (Op.equalIn (d + 2) f.type v u).run P w = .ok b0 w ∧ Io (Ph P fs) ps qs (fun r' => K (b0 && r')) = some r := by
          unfold ZM at hk
          split at hk
          · rename_i k Hm
            obtain⟨m, BT, Dn⟩ := Du (show Aw k p _ = some r from hk)
            obtain⟨n, Y3, D3⟩ := Du Dn
            subst BT Y3
            have Kr : v = .int k m := Aq.val (w := w) (A := A) S0
            have G5 : u = .int k n := Aq.val (w := w) (A := A) hqu
            subst Kr G5
            have e : ∀ b : Bool, (b && true) = b := Bool.and_true
            simp only[Io, e] at D3
            refine⟨m == n, _, Hm, by simp[Bw, Hm], Gz (d + 1) (.inl ⟨k, m, n, Hm, rfl, rfl⟩) ?_ ?_ ?_, D3⟩
            · intro k' m' n' h1 h2; injection h1 with _ h1; injection h2 with _ h2; rw[h1, h2]
            · intro m' n' h1; cases h1
            · intro m' n' h1; cases h1
          · rename_i Hm
            obtain⟨m, BT, Dn⟩ := Dc (show Ap p _ = some r from hk)
            obtain⟨n, Y3, D3⟩ := Dc Dn
            subst BT Y3
            have Kr : v = .bool m := Aq.val (w := w) (A := A) S0
            have G5 : u = .bool n := Aq.val (w := w) (A := A) hqu
            subst Kr G5
            have e : ∀ b : Bool, (b && true) = b := Bool.and_true
            simp only[Io, e] at D3
            refine⟨m == n, _, Hm, by simp[Bw, Hm], Gz (d + 1) (.inr (.inl ⟨m, n, Hm, rfl, rfl⟩)) ?_ ?_ ?_, D3⟩
            · intro k' m' n' h1; cases h1
            · intro m' n' h1 h2; injection h1 with h1; injection h2 with h2; rw[h1, h2]
            · intro m' n' h1; cases h1
          · rename_i Hm
            obtain⟨m, BT, Dn⟩ := C6 (show Ax p _ = some r from hk)
            obtain⟨n, Y3, D3⟩ := C6 Dn
            subst BT Y3
            have Kr : v = .string m := Aq.val (w := w) (A := A) S0
            have G5 : u = .string n := Aq.val (w := w) (A := A) hqu
            subst Kr G5
            have e : ∀ b : Bool, (b && true) = b := Bool.and_true
            simp only[Io, e] at D3
            refine⟨m == n, _, Hm, by simp[Bw, Hm], Gz (d + 1) (.inr (.inr ⟨m, n, Hm, rfl, rfl⟩)) ?_ ?_ ?_, D3⟩
            · intro k' m' n' h1; cases h1
            · intro m' n' h1; cases h1
            · intro m' n' h1 h2; injection h1 with h1; injection h2 with h2; rw[h1, h2]
          · cases hk
        obtain⟨b0, dsc, Hm, Ep, he, hk⟩ := one
        exact⟨b0, v, u, 1, L9 Hm Ep (by rw[K5]; exact hv), L9 Hm Ep (by rw[K5]; exact hu), he, Aid, by simpa using hk⟩
      split at hty
      · rename_i k Hm
        exact plain (fun gs e => by rw[Hm] at e; cases e) hty (by rw[Hm])
      · rename_i Hm
        exact plain (fun gs e => by rw[Hm] at e; cases e) hty (by rw[Hm])
      · rename_i Hm
        exact plain (fun gs e => by rw[Hm] at e; cases e) hty (by rw[Hm])
      · rename_i gs Hm
        simp only[Bool.and_eq_true, Bool.not_eq_true'] at hty
        obtain⟨⟨⟨⟨hfp, Ey⟩, hi⟩, Kj⟩, Pg⟩ := hty
        have Kj := Nat.eq_of_beq_eq_true Kj
        have Jp : (IG P f).length = gs.size := by rw[Uv Hm, List.length_map, Array.length_toList]
        rw[Jp] at hk Dd
        rw[Uv Hm] at hk
        have hx := BE (n := gs.size) (by omega) hp
        have hy := BE (n := gs.size) (by omega) hq
        obtain⟨b0, WM, he⟩ := Ve d Hm Ey hfp hx hy hk
        have ha : Bw P f.type = true := by simp[Bw, Hm]
        exact⟨b0, _, _, gs.size, by rw[HZ Hm ha hi, K5, Kj], by rw[HZ Hm ha hi, K5, Kj], he, Pg, WM⟩
      · cases hty
    obtain⟨b0, v, u, n, hpx, hpy, he, Aid, hk⟩ := main
    obtain⟨b, WM, Cf⟩ := OV d fs (i + n) xs ys (ps.drop n) (qs.drop n) _ Aid hk (fun j p' hj => by rw[List.getElem?_drop] at hj; have := hp (n + j) p' hj; rwa [← Nat.add_assoc] at this) (fun j p' hj => by rw[List.getElem?_drop] at hj; have := hq (n + j) p' hj; rwa [← Nat.add_assoc] at this)
    refine⟨b0 && b, WM, ?_⟩
    cases b0
    · simp[List.forIn_cons, Wh, hpx, hpy, he]
    · simp only[Bool.true_and]
      rw[← Cf]
      simp[List.forIn_cons, Wh, hpx, hpy, he]
theorem Xn (d:Nat){t:TypeId}{fs:Array Field}(hu:P.underlying t=some (.struct fs)) (Ey:P.stoodInHeld t=false)(Zp:Kb P fs.toList 0=true){xs ys:List PV}{vx vy:List Value}
  (hvx:Bc (Bs w A β) xs vx) (hvy:Bc (Bs w A β) ys vy) {K:Bool->Option R}(hk:Io (Ph P fs.toList) xs ys K=some r):
  ∃b,K b=some r∧(Op.equalIn (d+3) t (.agg ⟨vx⟩) (.agg ⟨vy⟩)).run P w=.ok b w:=by
 obtain⟨b,WM,Cf⟩:=OV (P:=P) (w:=w) (A:=A) (β:=β) d fs.toList 0 ⟨vx⟩ ⟨vy⟩ xs ys K Zp hk (fun j p hj=>by
   obtain⟨v,hv,hc⟩:=hvx.get hj;exact⟨v,by simpa using hv,hc⟩) (fun j p hj=>by
   obtain⟨v,hv,hc⟩:=hvy.get hj;exact⟨v,by simpa using hv,hc⟩)
 refine⟨b,WM,?_⟩;rw[Array.forIn_toList] at Cf;rw[Op.equalIn];simp[run_underlying hu,Ey];rw[Cf];cases b<;>simp
theorem CL (h:Cj N w0 X0 Y β s a w){t:TypeId}{fs:Array Field}{x y:Operand}{op:BinOp}(hop:op=.eql∨op=.neq)(hu:P.underlying t=some (.struct fs)) (Zp:FA P t fs=true){xs ys:List PV}
  (hx:Bu s.tm x=.agg xs)(hy:Bu s.tm y=.agg ys){K:Bool->Option R}(hk:Io (Ph P fs.toList) xs ys K=some r):
  ∃b,K b=some r∧(do eqGuard op t x y (a.eval x) (a.eval y);binOp op t (a.eval x) (a.eval y)).run P w=.ok (.bool (if op=.eql then b else !b)) w:=by
 have hxv:=Cm h x;have PU:=Cm h y;rw[hx] at hxv;rw[hy] at PU;obtain⟨vx,Cw,hvx⟩:=hxv;obtain⟨vy,hay,hvy⟩:=PU;simp only[FA,Bool.and_eq_true,Bool.not_eq_true'] at Zp;obtain⟨⟨Zp,Ey⟩,heg⟩:=Zp;obtain⟨b,WM,heq⟩:=Xn 9997 hu Ey Zp hvx hvy hk;have heq:(Op.equal t (.agg ⟨vx⟩) (.agg ⟨vy⟩)).run P w=.ok b w:=heq;refine⟨b,WM,?_⟩;rw[Cw,hay];rcases hop with rfl|rfl
 ·simp[eqGuard,binOp,heq,heg]
 ·simp[eqGuard,binOp,heq,heg]
theorem HA (h:Cj N w0 X0 Y β s a w){op:BinOp}{t ty:TypeId}{x y:Operand}(ho:o.op=.binOp op t x y ty){K:PV->Option R}
  (hk:Of P op t (Bu s.tm x) (Bu s.tm y) K=some r):∃v,K v=some r∧Dq P a w o Y β s v [] []:=by
 have Cf:∀v,(do eqGuard op t x y (a.eval x) (a.eval y);binOp op t (a.eval x) (a.eval y)).run P w=.ok v w->(execOp a.eval o).run P w=.ok (.value v) w:=by
  intro v hv;unfold execOp;rw[ho];simp only[Sem.run_bind] at hv ⊢;rw[hv];rfl
 unfold Of at hk;split at hk
 ·rename_i fs hu;split at hk
  ·obtain⟨Zp,hk⟩:=Ai hk;obtain⟨xs,hx,hk⟩:=F2 hk;obtain⟨ys,hy,hk⟩:=F2 hk;obtain⟨b,hk,hr⟩:=CL h (.inl rfl) hu Zp hx hy hk;exact⟨_,hk,Cb (Cf _ (by rw[hr];rfl))⟩
  ·obtain⟨Zp,hk⟩:=Ai hk;obtain⟨xs,hx,hk⟩:=F2 hk;obtain⟨ys,hy,hk⟩:=F2 hk;obtain⟨b,hk,hr⟩:=CL h (.inr rfl) hu Zp hx hy hk;exact⟨_,hk,Cb (Cf _ (by rw[hr];rfl))⟩
  ·cases hk
 ·unfold XF at hk;split at hk
  ·rename_i k hu;split at hk
   ·obtain⟨m,hx,hk⟩:=Du hk;obtain⟨k2,n,hy,hk⟩:=C4 hk;obtain⟨hb,hk⟩:=Ai hk;have hb:=of_decide_eq_true hb;refine⟨_,hk,Cb (Cf _ ?_)⟩;have:¬n<0:=by omega
    simp[eqGuard,binOp,Op.shift,B0 h hx,B0 h hy,this]
   ·obtain⟨m,hx,hk⟩:=Du hk;obtain⟨k2,n,hy,hk⟩:=C4 hk;obtain⟨hb,hk⟩:=Ai hk;have hb:=of_decide_eq_true hb;refine⟨_,hk,Cb (Cf _ ?_)⟩;have:¬n<0:=by omega
    simp[eqGuard,binOp,Op.shift,B0 h hx,B0 h hy,this]
   ·rename_i UD Po;obtain⟨m,hx,hk⟩:=Du hk;obtain⟨n,hy,hk⟩:=Du hk;obtain⟨v,hk,hr⟩:=TG (P:=P) (w:=w) (t:=t) (x:=x) (y:=y) UD Po hk;exact⟨_,hk,Cb (Cf _ (by rw[B0 h hx,B0 h hy];exact hr))⟩
  ·rename_i hu;obtain⟨m,hx,hk⟩:=C6 hk;obtain⟨n,hy,hk⟩:=C6 hk;obtain⟨v,hk,hr⟩:=TH (P:=P) (w:=w) (t:=t) (x:=x) (y:=y) hk;exact⟨_,hk,Cb (Cf _ (by rw[B0 h hx,B0 h hy];exact hr))⟩
  ·rename_i hu;split at hk
   ·obtain⟨m,hx,hk⟩:=Dc hk;obtain⟨n,hy,hk⟩:=Dc hk;refine⟨_,hk,Cb (Cf _ ?_)⟩;simp[eqGuard,binOp,B0 h hx,B0 h hy,Xc hu]
   ·obtain⟨m,hx,hk⟩:=Dc hk;obtain⟨n,hy,hk⟩:=Dc hk;refine⟨_,hk,Cb (Cf _ ?_)⟩;simp[eqGuard,binOp,B0 h hx,B0 h hy,Xc hu]
   ·cases hk
  ·rename_i e hu;have hx:=Cm h x
   have nilQ:∀{e:Bool} {K':PV->Option R},X6 e (Bu s.tm x) K'=some r->∃q ad n c,K' q=some r∧a.eval x=.slice ad n c∧(q=.sc (.bool (if ad.isNone then e else !e))∨q=.ub):=by
    intro e K' hq;unfold X6 at hq;split at hq
    ·rename_i e';exact⟨_,none,0,0,hq,B0 h e',.inl rfl⟩
    ·rename_i z es n c e';rcases E9 (.inl e') hx with⟨Cw,rfl,_⟩|⟨ad,cap,Cw,rfl,_⟩|⟨ad,cap,Cw,rfl,rfl,_⟩
     ·rcases Jh hq with⟨_,hq⟩|⟨_,hq⟩
      ·exact⟨_,none,0,0,hq,Cw,.inl rfl⟩
      ·rcases Jh hq with⟨hb,_⟩|⟨_,hq⟩
       ·exact absurd (of_decide_eq_true hb) (by omega)
       ·exact⟨_,none,0,0,hq,Cw,.inr rfl⟩
     ·rcases Jh hq with⟨hz,_⟩|⟨_,hq⟩
      ·cases hz
      ·rcases Jh hq with⟨_,hq⟩|⟨_,hq⟩
       ·exact⟨_,some ad,n,cap,hq,Cw,.inl rfl⟩
       ·exact⟨_,some ad,n,cap,hq,Cw,.inr rfl⟩
     ·rcases Jh hq with⟨hz,_⟩|⟨_,hq⟩
      ·cases hz
      ·rcases Jh hq with⟨hb,_⟩|⟨_,hq⟩
       ·exact absurd (of_decide_eq_true hb) (by omega)
       ·exact⟨_,some ad,0,cap,hq,Cw,.inr rfl⟩
    ·rename_i id es off n e';rw[e'] at hx;rcases hx with⟨_,_,rfl,ad,Cw⟩|⟨b,ob,y',cap,_,Cw,_⟩
     ·rcases Jh hq with⟨hb,_⟩|⟨_,hq⟩
      ·exact absurd (of_decide_eq_true hb) (by omega)
      ·exact⟨_,ad,0,0,hq,Cw,.inr rfl⟩
     ·rcases Jh hq with⟨_,hq⟩|⟨_,hq⟩
      ·exact⟨_,_,n,cap,hq,Cw,.inl rfl⟩
      ·exact⟨_,_,n,cap,hq,Cw,.inr rfl⟩
    ·cases hq
   split at hk
   ·rename_i hy;obtain⟨q,ad,n,c,hk,Cw,hb⟩:=nilQ hk;rcases hb with rfl|rfl
    ·refine⟨_,hk,Cb (Cf _ ?_)⟩;cases ad<;>simp[eqGuard,binOp,Cw,B0 h hy,On hu]
    ·refine⟨_,hk,Bx (val:=.bool ad.isNone) (Cf _ ?_) (Aq.ub _) (by intro i hi;cases hi)⟩
     simp[eqGuard,binOp,Cw,B0 h hy,On hu]
   ·rename_i hy;obtain⟨q,ad,n,c,hk,Cw,hb⟩:=nilQ hk;rcases hb with rfl|rfl
    ·refine⟨_,hk,Cb (Cf _ ?_)⟩;cases ad<;>simp[eqGuard,binOp,Cw,B0 h hy,On hu]
    ·refine⟨_,hk,Bx (val:=.bool !ad.isNone) (Cf _ ?_) (Aq.ub _) (by intro i hi;cases hi)⟩
     simp[eqGuard,binOp,Cw,B0 h hy,On hu]
   ·cases hk
  ·rename_i kt vt hu;split at hk
   ·rename_i hx hy;refine⟨_,hk,Cb (Cf _ ?_)⟩;simp[eqGuard,binOp,B0 h hx,B0 h hy,R0 hu]
   ·rename_i hx hy;refine⟨_,hk,Cb (Cf _ ?_)⟩;simp[eqGuard,binOp,B0 h hx,B0 h hy,R0 hu]
   ·cases hk
  ·cases hk
end
open Go.RowKit
section
variable {R:Type} {r:R} {P:Program} {N:Nat} {w0:World} {X0:Gg} {Y:Nat->Prop} {β β':Bt} {s:St} {a:Act} {w w':World} {o:Oper} {A:Nat->Prop}
theorem Uh:∀{c:List PV}{ns:List Int},Ov c=some ns->c=ns.map (fun n=>.sc (.int .i32 n))
 |[],ns,h=>by simp[Ov] at h;subst h;rfl
 |p::c,ns,h=>by
  unfold Ov at h;split at h
  ·rename_i e;cases e
  ·rename_i n r e;cases e;cases hr:Ov c with
   |none=>rw[hr] at h;cases h
   |some l'=>
    rw[hr] at h;simp at h;subst h;rw[Uh hr];rfl
  ·cases h
theorem Uw:∀{c:List PV}{l:List UInt8},Gq c=some l->∃ns:List Int,c=ns.map (fun n=>.sc (.int .u8 n))∧l=ns.map fun n=>n.toNat.toUInt8
 |[],l,h=>⟨[],rfl,by simp[Gq] at h;subst h;rfl⟩
 |p::c,l,h=>by
  unfold Gq at h;split at h
  ·rename_i e;cases e
  ·rename_i n r e;cases e;cases hr:Gq c with
   |none=>rw[hr] at h;cases h
   |some l'=>
    rw[hr] at h;simp at h;obtain⟨ns,rfl,rfl⟩:=Uw hr;exact⟨n::ns,rfl,h.symm⟩
  ·cases h
theorem Mw:∀(ns:List Int)(b:ByteArray),ns.foldl (fun r n=>r.push (UInt8.ofNat n.toNat)) b=⟨b.data++(ns.map fun n=>n.toNat.toUInt8).toArray⟩
 |[],b=>by simp
 |n::ns,b=>by
  simp only[List.foldl_cons];rw[Mw ns];simp[ByteArray.push]
theorem Xi (h:Cj N w0 X0 Y β s a w){es:Nat}{x:Operand}{K:Nat->List PV->Option R}(hk:HC (Hb s.hp) es (Bu s.tm x) K=some r):
  ∃n c,K n c=some r∧(((∃ad,a.eval x=.slice ad 0 0)∧n=0∧c=[])∨∃ad cap,a.eval x=.slice (some ad) n cap∧n<=cap∧(c=[]∨ad.block<w.heap.size)∧KL w (Cu s.hp β Y) ad c):=by
 have hx:=Cm h x;have Y0:=D9 h x;unfold HC at hk;split at hk
 ·rename_i id es' off n e;rw[e] at hx Y0;cases hb:Nat.beq es' es
  ·rw[hb] at hk;cases hk
  ·rw[hb] at hk;obtain⟨c,hc,hk⟩:=B3 (show Dg _ _=some r from hk)
   obtain⟨hl,hk⟩:=Ai hk;have hl:=of_decide_eq_true hl;obtain⟨f,RF⟩:=FD hc;refine⟨_,_,hk,?_⟩;rcases hx with⟨_,rfl,rfl,ad,Cw⟩|⟨b,ob,y,cap,hβ,Cw,hy,hn,_,B2⟩
   ·exact .inl ⟨⟨ad,Cw⟩,rfl,by simp⟩
   ·refine .inr ⟨_,cap,Cw,hn,.inr B2,fun j p hj=>?_⟩
    have YG:0<n*es:=by
     rcases Nat.eq_zero_or_pos (n*es) with h0|h0
     ·rw[h0] at hj;simp at hj
     ·exact h0
    have Sq:n≠0:=by rintro rfl;simp at YG
    have hy:y=ob+off:=by rcases hy with hy|⟨h0,_⟩<;>omega
    subst hy;rw[List.getElem?_take] at hj;split at hj
    ·rw[List.getElem?_drop] at hj;rcases h.box id _ RF with⟨h1,_⟩|⟨b',o',h1,h2,_⟩
     ·rw[hβ] at h1;cases h1
     ·rw[hβ] at h1;simp at h1;obtain⟨rfl,rfl⟩:=h1
      obtain⟨v,hv,h3,ht⟩:=h2 (off+j) p hj;rw[Dy] at hv;exact⟨v,by rw[Dy,Nat.add_assoc];exact hv,h3,ht⟩
    ·cases hj
 ·obtain⟨z,n,c,hk,hp⟩:=Eh hk;refine⟨n,c,hk,?_⟩;rcases E9 hp hx with h1|⟨ad,cap,Cw,_,hn,h1,h2,_,h4⟩|⟨ad,cap,Cw,_,rfl,rfl⟩
  ·exact .inl ⟨⟨none,h1.1⟩,h1.2⟩
  ·exact .inr ⟨ad,cap,Cw,hn,.inr h2,h4⟩
  ·exact .inr ⟨ad,cap,Cw,Nat.zero_le _,.inl rfl,fun j c hj=>by simp at hj⟩
theorem SJ (b:ByteArray)(j:Nat)(p:PV)(h:(L0 b)[j]?=some p):∃x,b.data[j]?=some x∧p=.sc (.int .u8 x.toNat):=by
 unfold L0 at h;rw[List.getElem?_map] at h;cases hx:b.data.toList[j]? with
 |none=>rw[hx] at h;cases h
 |some x=>
  rw[hx] at h;simp at h;exact⟨x,by simpa using hx,h.symm⟩
theorem LS (h:Cj N w0 X0 Y β s a w){src dst:TypeId}{x:Operand}(ho:o.op=.convert src dst x){d:Nat}{K:PV->List (Nat × Bk)->Option R}
  (hk:We P (Hb s.hp) d src dst (Bu s.tm x) K=some r):∃v nw,K v nw=some r∧Dq P a w o Y β s v [] nw:=by
 have Cf:∀v w',(convert src dst (a.eval x)).run P w=.ok v w'->(execOp a.eval o).run P w=.ok (.value v) w':=by
  intro v w' hv;unfold execOp;rw[ho];simp[hv]
 unfold We at hk;split at hk
 ·rename_i k hu;obtain⟨hs,hk⟩:=Ai hk;obtain⟨k',n,hx,hk⟩:=C4 hk;exact⟨_,_,hk,Cb (Cf _ _ (by rw[B0 h hx];obtain⟨ds,hds⟩:=Option.isSome_iff_exists.1 hs;cases ds<;>simp[convert,run_underlying hds,run_underlying hu,Conv.intToInt]))⟩
 ·rename_i hu;split at hk
  ·rename_i hs;obtain⟨b,hx,hk⟩:=C6 hk;exact⟨_,_,hk,Cb (Cf _ _ (by rw[B0 h hx];simp[convert,run_underlying hs,run_underlying hu]))⟩
  ·rename_i e hs;split at hk
   ·rename_i he;obtain⟨n,c,hk,hc⟩:=Xi h hk;obtain⟨hl,hk⟩:=Ai hk;have hl:=of_decide_eq_true hl;obtain⟨l,hb,hk⟩:=B3 hk;obtain⟨ns,rfl,rfl⟩:=Uw hb;refine⟨_,_,hk,Cb (Cf _ _ ?_)⟩;rcases hc with⟨⟨ad,Cw⟩,rfl,hn⟩|⟨ad,cap,Cw,_,_,UF⟩
    ·have:ns=[]:=by simpa using hn
     subst this;rw[Cw,run_convert_bytes_string w src dst e ad 0 0 hs he hu];cases ad<;>rfl
    ·rw[Cw,run_convert_bytes_string w src dst e _ _ _ hs he hu]
     have hld:(loadCells ad n).run P w=.ok (ns.map (Value.int .u8)).toArray w:=by
      have:=run_loadCells_list (P:=P) w ad (ns.map (Value.int .u8)) (fun j v hj=>by
       rw[List.getElem?_map] at hj;cases hn:ns[j]? with
       |none=>rw[hn] at hj;cases hj
       |some m=>
        rw[hn] at hj;simp at hj;subst hj;obtain⟨v,hv,_,ht⟩:=UF j (.sc (.int .u8 m)) (by rw[List.getElem?_map,hn];rfl)
        rw[ht.val] at hv;exact hv)
      simp only[List.length_map] at this hl;rw[hl] at this;exact this
     rw[run_bytesToString w ad n cap ns hld,Mw];simp
   ·rename_i he;obtain⟨n,c,hk,hc⟩:=Xi h hk;obtain⟨hl,hk⟩:=Ai hk;have hl:=of_decide_eq_true hl;obtain⟨ns,hb,D3⟩:=B3 hk;have Vq:=Uh hb;clear hk;subst Vq;refine⟨_,_,D3,Cb (Cf _ _ ?_)⟩;rcases hc with⟨⟨ad,Cw⟩,T8,hn⟩|⟨ad,cap,Cw,_,_,UF⟩
    ·have:ns=[]:=by simpa using hn
     subst this;rw[Cw,run_convert_runes_string w src dst e ad _ _ hs he hu];cases ad with
     |none=>rfl
     |some p=>
      have Sq:n=0:=by simpa using T8
      subst Sq;exact run_runesToString w p 0 0 [] (by simpa using run_loadCells_list (P:=P) w p [] (by simp))
    ·rw[Cw,run_convert_runes_string w src dst e _ _ _ hs he hu]
     have hld:(loadCells ad n).run P w=.ok (ns.map (Value.int .i32)).toArray w:=by
      have:=run_loadCells_list (P:=P) w ad (ns.map (Value.int .i32)) (fun j v hj=>by
       rw[List.getElem?_map] at hj;cases hn:ns[j]? with
       |none=>rw[hn] at hj;cases hj
       |some m=>
        rw[hn] at hj;simp at hj;subst hj;obtain⟨v,hv,_,ht⟩:=UF j (.sc (.int .i32 m)) (by rw[List.getElem?_map,hn];rfl)
        rw[ht.val] at hv;exact hv)
      simp only[List.length_map] at this hl;rw[hl] at this;exact this
     exact run_runesToString w ad n cap ns hld
   ·cases hk
  ·cases hk
 ·rename_i e hu;split at hk
  ·rename_i he hs;obtain⟨b,hx,hk⟩:=C6 hk;obtain⟨Kj,hk⟩:=Ai hk;have hr:=run_bytes_of_string (P:=P) w src dst e b hs hu he;rw[←B0 h hx] at hr
   have Qw:b.size<=grownCap w b.size 0 e:=by
    unfold grownCap;simp[Question.cut]
   have GU:(bytesRow b (grownCap w b.size 0 e)).size=grownCap w b.size 0 e:=by
    simp only[bytesRow,Array.size_append,Array.size_map,Array.size_replicate];have:b.data.size=b.size:=rfl;omega
   refine⟨_,_,hk,L3 (c:=bytesRow b (grownCap w b.size 0 e)) (e:=e) (by simp) (Cf _ _ hr) ?_ (fun j p hj=>?_) (.inr ⟨1,b.size,grownCap w b.size 0 e,rfl,rfl,Qw,by rw[GU];omega,.inl rfl⟩)⟩
   ·exact⟨rfl,rfl,rfl,fun i hi=>Below.heap_alloc w.drew _ i hi,by show (w.heap.push _).size=_;simp,_,by show (w.heap.push _)[w.heap.size]?=_;simp;rfl,.inr (Nat.le_refl _)⟩
   ·obtain⟨y,hy,rfl⟩:=SJ b j p hj;refine⟨.int .u8 y.toNat,?_,rfl,Aq.sc _⟩
    have B2:j<b.data.size:=by
     rcases Nat.lt_or_ge j b.data.size with h|h
     ·exact h
     ·rw[Array.getElem?_eq_none h] at hy;cases hy
    simp only[bytesRow];rw[Array.getElem?_append_left (by simpa using B2),Array.getElem?_map,hy]
    rfl
  ·cases hk
 ·cases hk
end
open Go.RowKit
section
variable {R:Type} {r:R} {P:Program} {N:Nat} {w0:World} {X0:Gg} {Y:Nat->Prop} {β β':Bt} {s:St} {a:Act} {w w':World} {o:Oper} {A:Nat->Prop}
theorem Rh:∀{n:Nat}{l:List PV}{j:Nat}{c:PV},(Mg n l)[j]?=some c->j<n*l.length∧l[j % l.length]?=some c
 |0,l,j,c,h=>by simp[Mg] at h
 |n+1,l,j,c,h=>by
  have e:Mg (n+1) l=l++Mg n l:=by simp[Mg,List.replicate_succ]
  rw[e] at h;by_cases hj:j<l.length
  ·rw[List.getElem?_append_left hj] at h;refine⟨by rw[Nat.add_mul];omega,?_⟩
   rw[Nat.mod_eq_of_lt hj];exact h
  ·rw[List.getElem?_append_right (by omega)] at h
   obtain⟨h1,h2⟩:=Rh h;refine⟨by rw[Nat.add_mul];omega,?_⟩
   rw[Nat.mod_eq_sub_mod (by omega)];exact h2
theorem JU (n:Nat)(l:List PV):(Mg n l).length=n*l.length:=by
 induction n with
 |zero=>simp[Mg]
 |succ n ih=>
  have e:Mg (n+1) l=l++Mg n l:=by simp[Mg,List.replicate_succ]
  rw[e,List.length_append,ih,Nat.add_mul];omega
theorem JS {z:Array Value}{n j:Nat}(hj:j<n){v:Value}(hv:z[j % z.size]?=some v):(madeCells z n)[j]?=some v:=by
 unfold madeCells;rw[Array.getElem?_map,Array.getElem?_range,if_pos hj];simp only[Option.map_some];rw[getElem!_def,hv]
theorem MN (h:Cj N w0 X0 Y β s a w){t:TypeId}{x y:Operand}(ho:o.op=.makeSlice t x y){d:Nat}{K:PV->List Nat->List (Nat × Bk)->Option R}
  (hk:(match P.underlying t with
   |some (.slice e)=>C8 (Bu s.tm x) fun _ n=>C8 (Bu s.tm y) fun _ m=>
     Bl (decide (0<=n)&&decide (n<=m)&&decide (m*((P.info? e).map (·.bytes)).getD 0<=1099511627776)&&decide (m<=1099511627776))
      (Fq P e fun z=>K (.view d (A6 P e) 0 n.toNat) [] [(d,.ar false (Mg n.toNat z))])
   |_=>none)=some r):∃v fz nw,K v fz nw=some r∧Dq P a w o Y β s v fz nw:=by
 split at hk
 ·rename_i e hu;obtain⟨k1,n,hx,hk⟩:=C4 hk;obtain⟨k2,m,hy,hk⟩:=C4 hk;obtain⟨hb,hk⟩:=Ai hk;simp only[Bool.and_eq_true,decide_eq_true_eq] at hb;obtain⟨⟨⟨h0,Zs⟩,Na⟩,hm⟩:=hb;obtain⟨z,cs,hk,hz,hct,hl,Kj,hc⟩:=Ku hk
  have hzc:∃i,P.info? e=some i∧i.zero=some z:=by
   unfold K7 at hz;cases hi:P.info? e with
   |none=>rw[hi] at hz;cases hz
   |some i=>rw[hi] at hz;exact⟨i,rfl,hz⟩
  obtain⟨i,hi,TK⟩:=hzc;have Ams:A6 P e=i.size:=by simp[A6,hi]
  simp only[hi,Option.map_some,Option.getD_some] at Na;have hr:=run_make (P:=P) w t e i z hu hi TK k1 k2 n m h0 Zs (by rw[Int.mul_comm];omega) (by omega)
  have Cf:(execOp a.eval o).run P w=.ok (.value (.slice (some ⟨w.heap.size,0,none⟩) n.toNat m.toNat)) (w.alloc (.cells (madeCells z.cells (m.toNat*i.size)) e)):=by
   unfold execOp;rw[ho];simp[B0 h hx,B0 h hy,hr]
  have hzl:z.cells.size=A6 P e:=by
   have:z.cells.toList.length=z.cells.size:=by simp
   omega
  refine⟨_,_,_,hk,L3 (c:=madeCells z.cells (m.toNat*i.size)) (e:=e) (by simp) Cf (E3.alloc w _ e) (fun j p hj=>?_) (.inr ⟨A6 P e,n.toNat,m.toNat,rfl,rfl,by omega,by rw[size_madeCells,Ams];exact Nat.le_refl _,.inr (H6 w _ e)⟩)⟩
  obtain⟨h1,h2⟩:=Rh hj;obtain⟨hT,u,G5,EY,hv⟩:=hc _ p h2;refine⟨u,JS ?_ ?_,EY,hv _ _⟩
  ·have:n.toNat*cs.length<=m.toNat*i.size:=by
    rw[Kj,Ams];exact Nat.mul_le_mul_right _ (by omega)
   omega
  ·rw[hzl,←Kj]
   simpa using G5
 ·cases hk
theorem RS {p:PV}{v:Value}(hp:okP p=true)(hv:Dt w A β p v):Bc (Bs w A β) (cellsOf p) v.cells.toList:=by
 have one:v.oneCell'=true->Bs w A β p v->(∀x,p ≠ .agg x)->Bc (Bs w A β) (cellsOf p) v.cells.toList:=by
  intro h1 h2 h3;have:cellsOf p=[p]:=by cases p<;>first|rfl|exact absurd rfl (h3 _)
  rw[this,Js h1];exact⟨h2,trivial⟩
 unfold okP at hp;split at hp
 ·obtain⟨vs,rfl,h2⟩:=hv;exact h2
 ·refine one ?_ hv (by simp)
  have Kr:Aq w A _ v:=hv;cases Kr<;>rfl
 ·refine one ?_ hv (by simp)
  rcases hv with⟨_,_,_,_,rfl⟩|⟨_,_,_,_,_,rfl,_⟩<;>rfl
 ·have:=T9 hv;subst this;exact one rfl hv (by simp)
 ·have:=T9 hv;subst this;exact one rfl hv (by simp)
 ·have:=T9 hv;subst this;exact one rfl hv (by simp)
 ·have:=T9 hv;subst this;exact one rfl hv (by simp)
 ·cases hp
theorem OR:∀(vs:List Value)(k off:Nat)(cells:Array Value),off+k+vs.length<=cells.size ->
  ((vs.zipIdx k).foldl (fun cs (q:Value × Nat)=>cs.setIfInBounds (off+q.2) q.1) cells).toList=cells.toList.take (off+k)++vs++cells.toList.drop (off+k+vs.length)
 |[],k,off,cells,_=>by simp
 |v::vs,k,off,cells,h=>by
  simp only[List.zipIdx_cons,List.foldl_cons,List.length_cons] at h ⊢;rw[OR vs (k+1) off _ (by simp;omega)]
  have B2:off+k<cells.toList.length:=by simp;omega
  simp only[Array.toList_setIfInBounds];rw[show off+(k+1)=off+k+1 from by omega,List.take_succ_eq_append_getElem (by simpa using B2)]
  rw[List.getElem_set_self,List.take_set_of_le (Nat.le_refl _),List.drop_set_of_lt (by omega)]
  simp only[List.append_assoc,List.cons_append,List.nil_append];rw[show off+k+1+vs.length=off+k+(vs.length+1) from by omega]
theorem Xq (h:Cj N w0 X0 Y β s a w){Fl:Nat->Option (Nat × Nat)}:∀{parts:List (Nat × Operand)} {pc:List PV}{vc:Array Value}{K:List PV->Option R},
  Nw Fl (parts.map fun q=>(q.1,Bu s.tm q.2)) pc K=some r->Bc (Bs w (Cu s.hp β Y) β) pc vc.toList->(∀c∈pc,∀id∈Al c,s.hp id≠none) ->
  ∃pc' vc',K pc'=some r∧Instr.fill Fl vc (parts.map fun q=>(q.1,a.eval q.2))=some vc'∧Bc (Bs w (Cu s.hp β Y) β) pc' vc'.toList∧pc'.length=pc.length∧∀c∈pc',∀id∈Al c,s.hp id≠none
 |[],pc,vc,K,hk,hv,hr=>⟨pc,vc,hk,rfl,hv,rfl,hr⟩
 |(i,x)::parts,pc,vc,K,hk,hv,hr=>by
  simp only[List.map_cons] at hk;unfold Nw at hk;obtain⟨⟨off,size⟩,Q0,hk⟩:=B3 hk;obtain⟨hb,hk⟩:=Ai hk;simp only[Bool.and_eq_true] at hb;obtain⟨⟨hok,Kj⟩,Vl⟩:=hb;have Kj:(cellsOf (Bu s.tm x)).length=size:=Nat.eq_of_beq_eq_true Kj;have Vl:off+size<=pc.length:=Nat.le_of_ble_eq_true Vl;have hxc:=RS hok (Cm h x);have hxl:=hxc.len;have hvl:=hv.len;have M3:vc.toList.length=vc.size:=by simp
  have Vq:(a.eval x).cells.toList.length=(a.eval x).cells.size:=by simp
  have Ap8:=OR (a.eval x).cells.toList 0 off vc (by omega)
  simp only[Nat.add_zero] at Ap8
  have An4:((a.eval x).cells.zipIdx.foldl (fun cs (q:Value × Nat)=>cs.setIfInBounds (off+q.2) q.1) vc).toList=vc.toList.take off++(a.eval x).cells.toList++vc.toList.drop (off+(a.eval x).cells.toList.length):=by
   rw[←Ap8,←Array.foldl_toList];simp
  obtain⟨pc',vc',hk,hf,h2,hl,hr'⟩:=Xq h (pc:=Co pc (cellsOf (Bu s.tm x)) off) (vc:=(a.eval x).cells.zipIdx.foldl (fun cs (q:Value × Nat)=>cs.setIfInBounds (off+q.2) q.1) vc) hk (by
    rw[An4,←hxl];exact (((hv.take off).app hxc).app (hv.drop _))) (by
    intro c hc id Bf;unfold Co at hc;rcases List.mem_append.1 hc with hc|hc
    ·rcases List.mem_append.1 hc with hc|hc
     ·exact hr c (List.mem_of_mem_take hc) id Bf
     ·refine D9 h x id ?_;cases hp:Bu s.tm x with
      |agg cs=>rw[hp] at hc;exact List.mem_flatMap.2 ⟨c,hc,Bf⟩
      |tup cs=>rw[hp] at hc;simp[cellsOf] at hc;subst hc;cases Bf
      |_=>rw[hp] at hc;simp[cellsOf] at hc;subst hc;exact Bf
    ·exact hr c (List.mem_of_mem_drop hc) id Bf)
  refine⟨pc',vc',hk,?_,h2,?_,hr'⟩
  ·simp only[List.map_cons,Instr.fill,Q0];rw[if_neg (by simp;omega)]
   exact hf
  ·rw[hl];simp[Co];omega
theorem HB {t:TypeId}{z:Value}{cs:List PV}(hl:cs.length=z.cells.toList.length)(hc:∀(j:Nat) c,cs[j]?=some c->Ps c∧∃u,z.cells.toList[j]?=some u∧u.oneCell'=true∧∀(w:World)(A:Nat->Prop),Aq w A c u) (_ht:K7 P t=some z):
  Bc (Bs w A β) cs z.cells.toList∧∀c∈cs,Al c=[]:=by
 refine⟨Bc.of_at hl fun i c u hci hu=>?_,fun c JD=>?_⟩
 ·obtain⟨hT,u',G5,_,hv⟩:=hc i c hci;rw[hu] at G5;cases G5;exact (Id hT).2 (hv _ _)
 ·obtain⟨j,hj⟩:=List.mem_iff_getElem?.1 JD;exact F5 (hc j c hj).1
theorem Xg:∀{fs:List Field},(fs.all fun f=>Xp P f.type)=true->fs.mapM (fun f=>(P.info? f.type).map fun i=>(f.offset,i.size))=some (fs.map fun f=>(f.offset,A6 P f.type))
 |[],_=>rfl
 |f::fs,h=>by
  simp only[List.all_cons,Bool.and_eq_true] at h;obtain⟨i,hi⟩:=Option.isSome_iff_exists.1 h.1;simp[List.mapM_cons,hi,Xg h.2,A6]
theorem Qk {p q:Nat->Option (Nat × Nat)} (h:∀i,p i=q i)(cells:Array Value)(parts:List (Nat × Value)):Instr.fill p cells parts=Instr.fill q cells parts:=by
 have:p=q:=funext h;rw[this]
theorem JI (h:Cj N w0 X0 Y β s a w){t:TypeId}{ps:Array (Nat × Operand)} (ho:o.op=.build t ps){K:PV->Option R}
  (hk:(Bl (Lq P t&&Bw P t)<|Fq P t fun z=>Nw (L5 P t) (ps.toList.map fun q=>(q.1,Bu s.tm q.2)) z fun cs=>Kk (Gi P t) cs 0 fun cs'=>K (.agg cs'))=some r):∃v,K v=some r∧Dq P a w o Y β s v [] []:=by
 obtain⟨Q0,hk⟩:=Ai hk;simp only[Bool.and_eq_true] at Q0;obtain⟨Q0,Ep⟩:=Q0;obtain⟨z,cs,hk,hz,hct,hl,Kj,hc⟩:=Ku hk;obtain⟨hzr,Yv⟩:=HB (w:=w) (A:=Cu s.hp β Y) (β:=β) hl hc hz;obtain⟨pc',vc',hk,hf,h2,Hw,hr'⟩:=Xq h hk hzr (fun c JD id Bf=>by rw[Yv c JD] at Bf;cases Bf)
 obtain⟨qs,hk,hql,Tq,hq⟩:=Nt hk
 have Ah4:P.built t (ps.toList.map fun q=>(q.1,a.eval q.2))=some vc':=by
  have TK:∃i,P.info? t=some i∧i.zero=some z:=by
   unfold K7 at hz;cases hi:P.info? t with
   |none=>rw[hi] at hz;cases hz
   |some i=>rw[hi] at hz;exact⟨i,rfl,hz⟩
  obtain⟨i,hi,TK⟩:=TK;unfold Lq at Q0;unfold Program.built;split at Q0
  ·rename_i fs hu
   have QV:Instr.fill (((fs.toList.map fun f=>(f.offset,A6 P f.type)).toArray)[·]?) z.cells (ps.toList.map fun q=>(q.1,a.eval q.2))=some vc':=by
    rw[←hf];refine Qk (fun j=>?_) _ _
    simp[L5,hu]
   simp only[hi,hu,TK,Xg Q0];exact QV
  ·rename_i n e hu;obtain⟨ie,hie⟩:=Option.isSome_iff_exists.1 Q0
   have QV:Instr.fill (fun j=>some (j*ie.size,ie.size)) z.cells (ps.toList.map fun q=>(q.1,a.eval q.2))=some vc':=by
    rw[←hf];refine Qk (fun j=>?_) _ _
    simp[L5,hu,A6,hie]
   simp only[hi,hu,TK,hie];exact QV
  ·rename_i e hu;simp[Bw,hu] at Ep
  ·cases Q0
 refine⟨_,hk,Bx (val:=.agg vc') ?_ ⟨vc'.toList,rfl,?_⟩ ?_⟩
 ·unfold execOp;rw[ho];have:=run_build (P:=P) w t (ps.map fun q=>(q.1,a.eval q.2)) vc' (by simpa using Ah4)
  simp[this]
 ·refine Bc.of_at (by have:=h2.len;omega) fun j c u hcj hu=>?_
  obtain⟨p,hp,_,_,S0⟩:=hq j c hcj;rw[Nat.zero_add] at hp;exact (S0 _ _ _ _ (h2.at_ hp hu)).1
 ·intro id Bf;obtain⟨c,JD,Bf⟩:=List.mem_flatMap.1 (show id∈qs.flatMap Al from Bf)
  obtain⟨j,hj⟩:=List.mem_iff_getElem?.1 JD;obtain⟨p,hp,_,hpr,_⟩:=hq j c hj;rw[Nat.zero_add] at hp;exact hr' p (List.mem_of_getElem? hp) id (hpr id Bf)
end
open Go.RowKit
section
variable {R:Type} {r:R} {P:Program} {N:Nat} {w0:World} {X0:Gg} {Y:Nat->Prop} {β β':Bt} {s:St} {a:Act} {w w':World} {o:Oper} {A:Nat->Prop}
theorem NU (h:Cj N w0 X0 Y β s a w){fz:List Nat}(Tc:∀id∈fz,∃f c,s.hp id=some (.ar f c)) {id:Nat}(hm:id∈fz){f:Bool}{c:List PV}(hb:s.hp id=some (.ar f c)) {b ob:Nat}(hβ:β id=some (b,ob)):
  ¬Cu (Ae s.hp fz) β Y b∧KL w (Cu (Ae s.hp fz) β Y) ⟨b,ob,none⟩ c∧b<w.heap.size:=by
 have hf:=h.freeze Tc;have he:Ae s.hp fz id=some (.ar true c):=by rw[Br,if_pos hm,hb];rfl
 rcases hf.box id _ he with⟨h1,_⟩|⟨b',o',h1,h2,_,h4⟩
 ·rw[hβ] at h1;cases h1
 ·rw[hβ] at h1;simp at h1;obtain⟨rfl,rfl⟩:=h1;exact⟨h4 rfl,h2,h.blt id b ob (by rw[hb];simp) hβ⟩
theorem SR (h:Cj N w0 X0 Y β s a w){fz:List Nat}(Tc:∀id∈fz,∃f c,s.hp id=some (.ar f c)) {id es off n:Nat}(hm:id∈fz){f:Bool}{c:List PV}(hb:s.hp id=some (.ar f c)) {v:Value}
  (hv:Bs w (Cu s.hp β Y) β (.view id es off n) v):Aq w (Cu (Ae s.hp fz) β Y) (.lst false es n ((c.drop off).take (n*es))) v:=by
 rcases hv with⟨_,rfl,rfl,ad,rfl⟩|⟨b,ob,y,cap,hβ,rfl,hy,hn,_,B2⟩
 ·simp only[Nat.zero_mul,List.take_zero];cases ad with
  |none=>exact Aq.lnil false es
  |some p=>exact Aq.lemp es p 0
 ·obtain⟨h1,h2,_⟩:=NU h Tc hm hb hβ;by_cases Sq:n*es=0
  ·rw[Sq,List.take_zero];exact Aq.lst es n [] ⟨b,y,none⟩ cap (fun _=>undef) rfl B2 h1 hn (by simp) (by simp) (by simp)
  ·have hy:y=ob+off:=by
    rcases hy with hy|⟨h0,_⟩
    ·exact hy
    ·rw[h0] at Sq;simp at Sq
   subst hy
   have Cn:∀(j:Nat) q,((c.drop off).take (n*es))[j]?=some q->c[off+j]?=some q:=by
    intro j q hq;rw[List.getElem?_take] at hq;split at hq
    ·rw[List.getElem?_drop] at hq;exact hq
    ·cases hq
   refine Aq.lst es n _ ⟨b,ob+off,none⟩ cap (fun j=>(w.cell? ⟨b,ob+off+j,none⟩).getD undef) rfl B2 h1 hn (fun j q hq=>?_) (fun j q hq=>?_) (fun j q hq=>?_)
   ·obtain⟨v,hv,_⟩:=h2 _ q (Cn j q hq);rw[Dy,←Nat.add_assoc] at hv;rw[Dy,hv];rfl
   ·obtain⟨v,hv,h3,_⟩:=h2 _ q (Cn j q hq);rw[Dy,←Nat.add_assoc] at hv;rw[hv];exact h3
   ·obtain⟨v,hv,_,ht⟩:=h2 _ q (Cn j q hq);rw[Dy,←Nat.add_assoc] at hv;rw[hv];exact ht
theorem Aq.zf {A:Nat->Prop}{z:Bool}{es n:Nat}{c:List PV}{v:Value}(h:Aq w A (.lst z es n c) v):Aq w A (.lst false es n c) v:=by
 cases h with
 |lnil=>exact .lnil _ _
 |lemp=>exact .lemp _ _ _
 |lst _ _ _ a cap f hs hb hA hn hc h1 hr=>exact .lst _ _ _ a cap f hs hb hA hn hc h1 hr
theorem Yp (h:Cj N w0 X0 Y β s a w){t:CT}{p:PV}{K:PV->List Nat->Option R}(hk:Kl (Hb s.hp) t p K=some r):
  ∃c m,K c m=some r∧Ps c∧Zy p∧(∀id∈m,∃f cc,s.hp id=some (.ar f cc))∧∀fz:List Nat,(∀id∈m,id∈fz)->(∀id∈fz,∃f cc,s.hp id=some (.ar f cc))->∀v,Bs w (Cu s.hp β Y) β p v->Aq w (Cu (Ae s.hp fz) β Y) c v∧v.oneCell'=true:=by
 have tree:∀t',(Tk t' p fun c=>K c [])=some r->∃c m,K c m=some r∧Ps c∧Zy p∧(∀id∈m,∃f cc,s.hp id=some (.ar f cc))∧∀fz:List Nat,(∀id∈m,id∈fz)->(∀id∈fz,∃f cc,s.hp id=some (.ar f cc))->∀v,Bs w (Cu s.hp β Y) β p v->Aq w (Cu (Ae s.hp fz) β Y) c v∧v.oneCell'=true:=by
  intro t' hk;obtain⟨c,hk,hT,Wz,hv⟩:=Jf hk;refine⟨c,[],hk,hT,Ma Wz,by simp,fun fz _ Tc v S0=>?_⟩
  obtain⟨h1,h2⟩:=hv _ _ _ _ S0;exact⟨h1.step (B1.refl _ _) (fun b _ hb=>hb.imp Lg id),h2⟩
 cases t with
 |sl es=>
  unfold Kl at hk;dsimp only at hk;split at hk
  ·rename_i id es' off n;cases hb:Nat.beq es' es
   ·rw[hb] at hk;cases hk
   ·rw[hb] at hk;have:=Nat.eq_of_beq_eq_true hb;subst this;obtain⟨c,hc,hk⟩:=B3 (show Dg _ _=some r from hk)
    obtain⟨_,hk⟩:=Ai hk;obtain⟨f,Ir⟩:=FD hc;refine⟨_,[id],hk,trivial,trivial,?_,fun fz hm Tc v hv=>⟨SR h Tc (hm id (by simp)) Ir hv,?_⟩⟩
    ·intro i hi;simp at hi;subst hi;exact⟨f,c,Ir⟩
    ·rcases hv with⟨_,_,_,_,rfl⟩|⟨_,_,_,_,_,rfl,_⟩<;>rfl
  ·obtain⟨z,n,c,hk,hp⟩:=Eh hk;refine⟨_,[],hk,trivial,?_,by simp,fun fz _ Tc v S0=>?_⟩
   ·rcases hp with rfl|⟨rfl,_⟩<;>trivial
   ·have ht:=Py hp S0;refine⟨Aq.zf (ht.step (B1.refl _ _) (fun b _ hb=>hb.imp Lg id)),?_⟩
    cases ht<;>rfl
 |int k=>exact tree (.int k) hk
 |bool=>exact tree .bool hk
 |str=>exact tree .str hk
 |any=>exact tree .any hk
theorem Ll (h:Cj N w0 X0 Y β s a w):∀{ts:List CT}{ps:List PV}{K:List PV->List Nat->Option R},J2 (Hb s.hp) ts ps K=some r ->
  ∃cs m,K cs m=some r∧cs.length=ts.length∧ps.length=ts.length∧(∀c∈cs,Ps c)∧(∀p∈ps,Zy p)∧(∀id∈m,∃f cc,s.hp id=some (.ar f cc)) ∧
   ∀fz:List Nat,(∀id∈m,id∈fz)->(∀id∈fz,∃f cc,s.hp id=some (.ar f cc))->∀vs,Bc (Bs w (Cu s.hp β Y) β) ps vs->Bc (Aq w (Cu (Ae s.hp fz) β Y)) cs vs∧∀v∈vs,v.oneCell'=true
 |[],[],K,hk=>⟨[],[],hk,rfl,rfl,by simp,by simp,by simp,fun fz _ _ vs hv=>by
   cases vs with
   |nil=>exact⟨trivial,by simp⟩
   |cons v vs=>exact hv.elim⟩
 |[],_::_,K,hk=>by cases hk
 |_::_,[],K,hk=>by cases hk
 |t::ts,p::ps,K,hk=>by
  unfold J2 at hk;obtain⟨c,m,hk,hT,hF,hm,hv⟩:=Yp h hk;obtain⟨cs,ms,hk,hl,Hw,hTs,hFs,Yk,M3⟩:=Ll h hk;refine⟨c::cs,m++ms,hk,by simp[hl],by simp[Hw],?_,?_,?_,fun fz hfm Tc vs h2=>?_⟩
  ·intro x hx;rcases List.mem_cons.1 hx with rfl|hx
   ·exact hT
   ·exact hTs x hx
  ·intro x hx;rcases List.mem_cons.1 hx with rfl|hx
   ·exact hF
   ·exact hFs x hx
  ·intro x hx;rcases List.mem_append.1 hx with hx|hx
   ·exact hm x hx
   ·exact Yk x hx
  ·cases vs with
   |nil=>exact h2.elim
   |cons v vs=>
    obtain⟨h3,h4⟩:=hv fz (fun i hi=>hfm i (by simp[hi])) Tc v h2.1
    obtain⟨h5,h6⟩:=M3 fz (fun i hi=>hfm i (by simp[hi])) Tc vs h2.2
    refine⟨⟨h3,h5⟩,?_⟩;intro x hx;rcases List.mem_cons.1 hx with rfl|hx
    ·exact h4
    ·exact h6 x hx
theorem SY {R':PV->Value->Prop}{cs:List PV}{z:Array Value}(h:Bc R' cs z.toList)(n:Nat):Bc R' (Mg n cs) (madeCells z (n*cs.length)).toList:=by
 have hzl:z.size=cs.length:=by have:=h.len;simp at this;exact this.symm
 refine Bc.of_at ?_ fun j c v hc hv=>?_
 ·rw[JU];simp[size_madeCells]
 ·obtain⟨h1,h2⟩:=Rh hc
  have B2:j % cs.length<cs.length:=by
   rcases Nat.lt_or_ge (j % cs.length) cs.length with h|h
   ·exact h
   ·rw[List.getElem?_eq_none h] at h2;cases h2
  obtain⟨u,hu,hcu⟩:=h.get h2;have:(madeCells z (n*cs.length))[j]?=some u:=JS h1 (by rw[hzl];simpa using hu)
  have Kr:(madeCells z (n*cs.length))[j]?=some v:=by simpa using hv
  rw[this] at Kr;cases Kr;exact hcu
theorem CN {A':Nat->Prop}:∀{ps cs:List PV}{vs:List Value},Bc (Bs w (Cu s.hp β Y) β) ps vs->Bc (Aq w A') cs vs->Bc (Aq w A') (JW true ps cs) vs
 |[],_,_,_,h=>h
 |_::_,[],_,_,h=>h
 |p::ps,c::cs,[],_,h=>h.elim
 |p::ps,c::cs,v::vs,hp,h=>by
  refine⟨?_,CN hp.2 h.2⟩;split
  ·have h1:Aq w (Cu s.hp β Y) (.lst true _ 0 []) v:=hp.1;cases h1;exact .lnil true _
  ·exact h.1
theorem Tx (h:Cj N w0 X0 Y β s a w){nz:Bool}{t:TypeId}{n:Nat}{ps:Array (Nat × Operand)} (ho:o.op=.buildSlice t n ps){d:Nat}{K:PV->List Nat->List (Nat × Bk)->Option R}
  (hk:(match P.underlying t with
   |some (.slice e)=>Bl (Lq P t&&Nat.ble (n*A6 P e) 16777216) (Fq P e fun z=>Nw (L5 P t) (ps.toList.map fun q=>(q.1,Bu s.tm q.2)) (Mg n z) fun cs=>
     J2 (Hb s.hp) (List.replicate n (Gi P e)).flatten cs fun cs' m=>K (.view d (A6 P e) 0 n) m [(d,.ar false (bif nz then JW true cs cs' else cs'))])
   |_=>none)=some r):∃v fz nw,K v fz nw=some r∧Dq P a w o Y β s v fz nw:=by
 split at hk
 ·rename_i e hu;obtain⟨hb,hk⟩:=Ai hk;simp only[Bool.and_eq_true] at hb;have Vl:n*A6 P e<=16777216:=Nat.le_of_ble_eq_true hb.2;have K6:(P.info? e).isSome=true:=by have:=hb.1;unfold Lq at this;rw[hu] at this;exact this
  obtain⟨z,cs,hk,hz,hct,hl,Kj,hc⟩:=Ku hk;obtain⟨hzr,Yv⟩:=HB (w:=w) (A:=Cu s.hp β Y) (β:=β) hl hc hz;have As6:=SY hzr n
  obtain⟨pc',vc',hk,hf,h2,Hw,hr'⟩:=Xq h hk As6 (fun c JD id Bf=>by
   obtain⟨j,hj⟩:=List.mem_iff_getElem?.1 JD;obtain⟨_,hg⟩:=Rh hj;rw[Yv c (List.mem_of_getElem? hg)] at Bf;cases Bf)
  obtain⟨qs,m,hk,hql,Q0,hqT,_,hm,hqv⟩:=Ll h hk;obtain⟨h3,h3'⟩:=hqv m (fun _ hi=>hi) hm _ h2
  have h3:Bc (Aq w (Cu (Ae s.hp m) β Y)) (bif nz then JW true pc' qs else qs) vc'.toList:=by
   cases nz
   ·exact h3
   ·exact CN h2 h3
  have QV:Instr.fill (fun i=>some (i*A6 P e,A6 P e)) (madeCells z.cells (n*cs.length)) (ps.toList.map fun q=>(q.1,a.eval q.2))=some vc':=by
   rw[←hf];refine Qk (fun i=>?_) _ _
   simp[L5,hu]
  have hvl:vc'.size=n*A6 P e:=by
   have h4:=h2.len;rw[Hw,JU] at h4;simp at h4;rw[←h4,Kj]
  have Cf:(execOp a.eval o).run P w=.ok (.value (.slice (some ⟨w.heap.size,0,none⟩) n n)) (w.alloc (.cells vc' e)):=by
   unfold execOp;rw[ho];have Apy:¬(n*A6 P e>2 ^ 24):=by omega
   rw[Kj] at QV;by_cases Sq:n*A6 P e=0
   ·simp only[Instr.buildSlice,Sem.run_bind,run_underlying hu,Result.andThen_ok,Ci K6,if_neg Apy,Sq];rw[Sq] at QV;have e0:madeCells z.cells 0=(Array.range 0).map (fun _=>default):=by simp[madeCells]
    rw[e0] at QV;simp[QV,newRow]
   ·simp only[Instr.buildSlice,Sem.run_bind,run_underlying hu,Result.andThen_ok,Ci K6,if_neg Apy,if_neg Sq,Pr hz];unfold madeCells at QV;simp[QV,newRow]
  refine⟨_,_,_,hk,L3 (c:=vc') (e:=e) hm Cf (E3.alloc w vc' e) (fun j p hj=>?_) (.inr ⟨A6 P e,n,n,rfl,rfl,Nat.le_refl _,by rw[hvl];exact Nat.le_refl _,.inr (H6 w vc' e)⟩)⟩
  obtain⟨u,G5,hp⟩:=h3.get hj;exact⟨u,by simpa using G5,h3' u (List.mem_of_getElem? G5),hp⟩
 ·cases hk
theorem EX (h:Cj N w0 X0 Y β s a w){t:TypeId}{x k:Operand}{ok:Bool}(ho:o.op=.lookup t x k ok){K:PV->Option R}
  (hk:(match P.underlying t with
   |some (.map kt vt)=>Bl (match P.underlying kt with|some .string=>true|_=>false) (
    match Bu s.tm x with
    |.sc (.map none)=>Ax (Bu s.tm k) fun _=>Dg (K7 P vt) fun z=>cvK P vt z fun v=>Bl (match v with | .tup _=>false|_=>true) (K (bif ok then .tup [v,.sc (.bool false)] else v))
    |_=>none)
   |_=>none)=some r):∃v,K v=some r∧Dq P a w o Y β s v [] []:=by
 split at hk
 ·rename_i kt vt hu;obtain⟨hkt,hk⟩:=Ai hk
  have hkt:P.underlying kt=some .string:=by
   split at hkt
   ·assumption
   ·cases hkt
  split at hk
  ·rename_i hx;obtain⟨b,hkk,hk⟩:=C6 hk;obtain⟨z,hz,hk⟩:=B3 hk;obtain⟨v,hk,hr,hv⟩:=PY hk;obtain⟨LP,hk⟩:=Ai hk
   have LP:∀cs,v ≠ .tup cs:=by
    rintro cs rfl
    cases LP
   have hzr:∀w:World,(zeroValue vt).run P w=.ok z w:=by
    intro w;unfold K7 at hz;cases hi:P.info? vt with
    |none=>rw[hi] at hz;cases hz
    |some i=>
     rw[hi] at hz;simp[zeroValue,typeInfo,hi,show i.zero=some z from hz]
   have Cf:(execOp a.eval o).run P w=.ok (.value (if ok then .tuple #[z,.bool false] else z)) w:=by
    unfold execOp;rw[ho];have hck:∀c (n:Nat),(Instr.checkKey c (n+1) kt (.string b)).run P w=.ok () w:=fun c n=>by simp[Instr.checkKey,run_underlying hkt]
    have Y6:∀c,(Instr.checkKey c 10000 kt (.string b)).run P w=.ok () w:=fun c=>hck c 9999
    cases ok<;>simp[Instr.lookup,run_underlying hu,B0 h hx,B0 h hkk,Y6,Instr.findKey,Instr.findNow,run_underlying hkt,hzr]
   refine⟨_,hk,Bx Cf ?_ ?_⟩
   ·cases ok
    ·exact hv _ _ _
    ·refine⟨[z,.bool false],rfl,(Kx LP).1 (hv _ _ _),?_,trivial⟩;exact Aq.sc _
   ·cases ok
    ·intro id Bf;simp only[cond_false] at Bf;rw[hr] at Bf;cases Bf
    ·intro id Bf;have:Bq (.tup [v,.sc (.bool false)])=B5 v++[]:=by simp[Bq,B5,Al]
     simp only[cond_true] at Bf;rw[this,List.append_nil] at Bf;have e:B5 v=Bq v:=by cases v<;>first|rfl|exact absurd rfl (LP _)
     rw[e,hr] at Bf;cases Bf
  ·cases hk
 ·cases hk
end
end
end Go.Proofs.YtodnjibebeghjaaDoor.Pv
