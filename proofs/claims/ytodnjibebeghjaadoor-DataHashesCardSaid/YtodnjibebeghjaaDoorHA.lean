/-
  The proof of DataHashes, part 1.
-/
import Derived.Orders
import Derived.LoopN
import Derived.Below
import Derived.Laws.Cover4
import Derived.Lib.ValidU
import Derived.Lib.Bytealg
import Derived.IntWalk
import Derived.WalkKit
import Derived.WalkLawsBesides
import Derived.Laws.IdiomStrings
import Derived.Laws.MakeOwn
import Derived.Laws.Tables
set_option linter.unusedSimpArgs false
set_option linter.unusedVariables false
namespace Go.Proofs.YtodnjibebeghjaaDoor.Pv
section
inductive PV where
 |sc (v:Value)
 |lst (z:Bool) (es n:Nat) (cells:List PV)
 |own (es n:Nat) (cells:List PV)
 |view (id es off n:Nat)
 |ptr (id off:Nat)
 |iptr (cells:List PV) (off:Nat)
 |pbox (cells:List PV)
 |agg (cells:List PV)
 |tup (vs:List PV)
 |top
 |ub
inductive Bk where
 |st (cells:List PV)
 |ar (fz:Bool) (cells:List PV)
 |mv
structure St where
 tm:Nat->PV
 hp:Nat->Option Bk
structure Ay where
 vals:List PV
 outs:List (List PV)
structure Fu where
 shr:FuncId->Bool
 mvd:FuncId->Nat->Bool
 lnd:FuncId->Nat->Bool
 kz:FuncId->Bool
 ext:FuncId->Option (List PV->Option Ay)
 nz:Nat->Bool
def Fu.core (C:Fu):Fu:={ C with ext:=fun _=>none }
def Cg {α:Type}(f:Nat->α)(i:Nat)(v:α):Nat->α:=fun j=>bif Nat.beq j i then v else f j
def rd (hp:Nat->Option Bk)(id:Nat):Option (List PV):=
 match hp id with
 |some (.st c)=>some c
 |some (.ar _ c)=>some c
 |_=>none
def Hl (hp:Nat->Option Bk)(id:Nat):Option (List PV):=
 match hp id with
 |some (.ar _ c)=>some c
 |_=>none
inductive CT where
 |int (k:IntKind)
 |bool
 |str
 |sl (es:Nat)
 |any
def A7 (P:Program)(t:TypeId):Nat:=((P.info? t).map (·.size)).getD 0
def B0 (P:Program)(t:TypeId):Bool:=
 match P.underlying t with
 |some (.struct _)=>true
 |some (.array _ _)=>true
 |_=>false
def Amd (P:Program):Nat->TypeId->List CT
 |0,_=>[]
 |d+1,t=>
  match P.underlying t with
  |some (.int k)=>[.int k]
  |some .bool=>[.bool]
  |some .string=>[.str]
  |some (.slice e)=>[.sl (A7 P e)]
  |some (.struct fs)=>fs.toList.flatMap fun f=>Amd P d f.type
  |some (.array n e)=>(List.replicate n (Amd P d e)).flatten
  |_=>[.any]
abbrev Gr (P:Program)(t:TypeId):List CT:=Amd P 9 t
def G5 (P:Program)(t:TypeId):Bool:=(P.underlying t).isSome&&Nat.beq (Gr P t).length (A7 P t)
abbrev Ars (k:IntKind)(a b:Int):Int:=k.wrap (BitVec.ofInt k.bits a &&& BitVec.ofInt k.bits b).toNat
abbrev JO (k:IntKind)(a b:Int):Int:=k.wrap (BitVec.ofInt k.bits a ||| BitVec.ofInt k.bits b).toNat
abbrev Dp (k:IntKind)(a b:Int):Int:=k.wrap (BitVec.ofInt k.bits a ^^^ BitVec.ofInt k.bits b).toNat
abbrev Afm (k:IntKind)(a b:Int):Int:=k.wrap (BitVec.ofInt k.bits a &&& ~~~BitVec.ofInt k.bits b).toNat
abbrev G1 (k:IntKind)(a b:Int):Int:=k.wrap (a*2 ^ (min b.toNat k.bits))
abbrev LY (k:IntKind)(a b:Int):Int:=a.fdiv (2 ^ (min b.toNat k.bits))
abbrev Aqe (k:IntKind)(n:Int):Int:=k.wrap (BitVec.ofInt k.bits (if k.signed then -1 else k.max) ^^^ BitVec.ofInt k.bits n).toNat
section
variable {R:Type}
def Ak (k:IntKind)(p:PV)(K:Int->Option R):Option R:=
 match p with
 |.sc (.int k' n)=>if k'=k then K n else none
 |_=>none
def Aq (p:PV)(K:Bool->Option R):Option R:=
 match p with
 |.sc (.bool b)=>K b
 |_=>none
def Az (p:PV)(K:ByteArray->Option R):Option R:=
 match p with
 |.sc (.string s)=>K s
 |_=>none
def R8 (es:Nat)(p:PV)(K:Bool->Nat->List PV->Option R):Option R:=
 match p with
 |.lst z es' n c=>bif Nat.beq es' es then K z n c else none
 |.sc (.slice none 0 0)=>K true 0 []
 |_=>none
def fsK (es:Nat)(p:PV)(K:PV->Option R):Option R:=
 match p with
 |.view id es' off n=>bif Nat.beq es' es then K (.view id es off n) else none
 |p=>R8 es p fun z n c=>K (.lst z es n c)
def OC (es:Nat)(p:PV)(K:Nat->List PV->Option R):Option R:=
 match p with
 |.own es' n c=>bif Nat.beq es' es then K n c else none
 |_=>none
def Bi (b:Bool)(K:Option R):Option R:=bif b then K else none
abbrev Ab {α:Type}(x:α)(K:α->Option R):Option R:=K x
def KN (b:Bool)(x y:Option R):Option R:=bif b then x else y
abbrev Azk (x:Nat)(K:Nat->Option R):Option R:=K x
def Ahw (x:List (List Nat)) (K:List (List Nat)->Option R):Option R:=K x
def Bh (b:Bool)(x y:Option R):Option R:=bif b then x else y
def Dk {α:Type}(o:Option α)(K:α->Option R):Option R:=
 match o with
 |some a=>K a
 |none=>none
def Aa {α:Type}(l:List α)(K:α->List α->Option R):Option R:=
 match l with
 |a::r=>K a r
 |[]=>none
def Ad {α:Type}(l:List α)(K:Option R):Option R:=
 match l with
 |[]=>K
 |_::_=>none
def Fo (p:PV)(K:List PV->Option R):Option R:=
 match p with
 |.agg c=>K c
 |_=>none
def Sy (p:PV)(K:List PV->Option R):Option R:=
 match p with
 |.pbox c=>K c
 |_=>none
def Ah (r:Option Ay)(K:List PV->List (List PV)->Option R):Option R:=
 match r with
 |some ⟨v,o⟩=>K v o
 |none=>none
def WV (p:PV)(K:Value->Option R):Option R:=
 match p with
 |.sc (.func f a b)=>K (.func f a b)
 |.sc (.map none)=>K (.map none)
 |_=>none
def fvK (p:PV)(K:FuncId->Option R):Option R:=
 match p with
 |.sc (.func (.func f) a b)=>bif a.isEmpty&&b.isEmpty then K f else none
 |_=>none
def Uh (t:CT)(p:PV)(K:PV->Option R):Option R:=
 match t with
 |.int k=>Ak k p fun n=>K (.sc (.int k n))
 |.bool=>Aq p fun b=>K (.sc (.bool b))
 |.str=>Az p fun s=>K (.sc (.string s))
 |.sl es=>R8 es p fun z n c=>K (.lst z es n c)
 |.any=>WV p fun v=>K (.sc v)
def fcK (t:CT)(p:PV)(K:PV->Option R):Option R:=
 match t with
 |.sl es=>fsK es p K
 |t=>Uh t p K
def Ob:List CT->List PV->Nat->(List PV->Option R)->Option R
 |[],_,_,K=>K []
 |t::ts,cells,off,K=>Uh t (cells.getD off .top) fun c=>Ob ts cells (off+1) fun r=>K (c::r)
def K7:List CT->List PV->Nat->(List PV->Option R)->Option R
 |[],_,_,K=>K []
 |t::ts,cells,off,K=>fcK t (cells.getD off .top) fun c=>K7 ts cells (off+1) fun r=>K (c::r)
def SW (agg:Bool)(cells:List PV)(K:PV->Option R):Option R:=
 bif agg then K (.agg cells) else Aa cells fun c r=>Ad r (K c)
def cellsOf:PV->List PV
 |.agg c=>c
 |p=>[p]
def cvK (P:Program)(t:TypeId)(v:Value)(K:PV->Option R):Option R:=
 match v with
 |.agg cs=>Bi (Nat.beq cs.toList.length (Gr P t).length) (Ob (Gr P t) (cs.toList.map .sc) 0 fun c=>K (.agg c))
 |.slice none 0 0=>
  match P.underlying t with
  |some (.slice e)=>K (.lst true (A7 P e) 0 [])
  |_=>none
 |v=>K (.sc v)
end
def Bv (tm:Nat->PV):Operand->PV
 |.tmp t=>tm t
 |.const (.agg cs)=>.agg (cs.toList.map .sc)
 |.const v=>.sc v
 |.func f=>.sc (.func (.func f) #[] #[])
 |.global g=>.sc (.pointer (some ⟨g,0,none⟩))
section
variable {R:Type}
def C8 (p:PV)(K:IntKind->Int->Option R):Option R:=
 match p with
 |.sc (.int k n)=>K k n
 |_=>none
def MM (rdf:Nat->Option (List PV)) (es:Nat)(p:PV)(K:Nat->List PV->Option R):Option R:=
 match p with
 |.view id es' off n=>bif Nat.beq es' es then Dk (rdf id) fun c=>Bi (decide (off+n*es<=c.length)) (K n ((c.drop off).take (n*es))) else none
 |p=>R8 es p fun _ n c=>K n c
def K9 (rdf:Nat->Option (List PV)) (t:CT)(p:PV)(K:PV->List Nat->Option R):Option R:=
 match t with
 |.sl es=>
  match p with
  |.view id es' off n=>bif Nat.beq es' es then Dk (rdf id) fun c=>Bi (decide (off+n*es<=c.length)) (K (.lst false es n ((c.drop off).take (n*es))) [id]) else none
  |p=>R8 es p fun _ n c=>K (.lst false es n c) []
 |t=>Uh t p fun c=>K c []
def Kf (rdf:Nat->Option (List PV)):List CT->List PV->(List PV->List Nat->Option R)->Option R
 |[],[],K=>K [] []
 |t::ts,p::ps,K=>K9 rdf t p fun c m=>Kf rdf ts ps fun cs ms=>K (c::cs) (m++ms)
 |_,_,_=>none
def NE (k:Bool):List PV->List PV->List PV
  |p::ps,c::cs=>
    (match k,p with
     |true,.lst true es 0 []=>.lst true es 0 []
     |_,_=>c)::NE k ps cs
  |_,cs=>cs
def PW (P:Program)(rdf:Nat->Option (List PV)) (t:TypeId)(p:PV)(K:PV->List Nat->Option R):Option R:=
 bif B0 P t then Fo p fun ps=>Kf rdf (Gr P t) ps fun cs m=>K (.agg cs) m
 else Kf rdf (Gr P t) [p] fun cs m=>Aa cs fun c r=>Ad r (K c m)
def X9 (P:Program)(rdf:Nat->Option (List PV)):List TypeId->List PV->(List PV->List Nat->Option R)->Option R
 |[],[],K=>K [] []
 |t::ts,p::ps,K=>PW P rdf t p fun v m=>X9 P rdf ts ps fun vs ms=>K (v::vs) (m++ms)
 |_,_,_=>none
def Aa4 (shr:Bool)(id:Nat)(t:CT)(p:PV)(K:PV->List (Nat × Bk)->Option R):Option R:=
 match t with
 |.sl es=>bif shr then R8 es p fun _ n c=>K (.lst false es n c) [] else OC es p fun n c=>K (.view id es 0 n) [(id,.ar false c)]
 |t=>Uh t p fun c=>K c []
def Mz (shr:Bool)(N:Nat):Nat->List CT->List PV->(List PV->List (Nat × Bk)->Option R)->Option R
 |_,[],ps,K=>Ad ps (K [] [])
 |id,t::ts,ps,K=>Aa ps fun p ps=>Aa4 shr id t p fun c b=>Mz shr N (id+N) ts ps fun cs bs=>K (c::cs) (b++bs)
def Sz (P:Program)(t:TypeId):Option TypeId:=
 match P.underlying t with
 |some (.pointer e)=>some e
 |_=>none
def LG (P:Program)(t:TypeId):Nat:=
 match Sz P t with
 |some e=>1+(Gr P e).length
 |none=>(Gr P t).length
def WO (P:Program)(shr:Bool)(N:Nat)(id:Nat)(t:TypeId)(p:PV)(K:PV->List (Nat × Bk)->Option R):Option R:=
 match Sz P t with
 |some e=>Sy p fun ps=>Mz shr N (id+N) (Gr P e) ps fun cs bs=>K (.ptr id 0) ((id,.st cs)::bs)
 |none=>
 bif B0 P t then Fo p fun ps=>Mz shr N id (Gr P t) ps fun cs bs=>K (.agg cs) bs
 else Mz shr N id (Gr P t) [p] fun cs bs=>Aa cs fun c r=>Ad r (K c bs)
def Vt (P:Program)(shr:Bool)(N:Nat):Nat->List TypeId->List PV->(List PV->List (Nat × Bk)->Option R)->Option R
 |_,[],ps,K=>Ad ps (K [] [])
 |id,t::ts,ps,K=>Aa ps fun p ps=>WO P shr N id t p fun v bs=>Vt P shr N (id+N*LG P t) ts ps fun vs bs'=>K (v::vs) (bs++bs')
def Kx (P:Program)(t:TypeId):List TypeId:=
 match P.underlying t with
 |some (.tuple ts)=>ts.toList
 |_=>[t]
def Kl (vs:List PV)(t:Bool):PV:=bif t then .tup vs else vs.headD .top
def Lm (P:Program)(t:TypeId):Bool:=
 match P.underlying t with
 |some (.tuple _)=>true
 |_=>false
def Ae5 (op:BinOp)(a b:Int)(K:Bool->Option R):Option R:=
 match op with
 |.eql=>K (a==b)
 |.neq=>K (a != b)
 |.lss=>K (decide (a<b))
 |.leq=>K (decide (a<=b))
 |.gtr=>K (decide (a>b))
 |.geq=>K (decide (a>=b))
 |_=>none
def Y0 (op:BinOp)(k:IntKind)(a b:Int)(K:PV->Option R):Option R:=
 match op with
 |.add=>Ab ((k.wrap (a+b))) fun n=>K (.sc (.int k n))
 |.sub=>Ab ((k.wrap (a-b))) fun n=>K (.sc (.int k n))
 |.mul=>Ab ((k.wrap (a*b))) fun n=>K (.sc (.int k n))
 |.quo=>Bi (decide (b≠0)) (Ab ((k.wrap (a.tdiv b))) fun n=>K (.sc (.int k n)))
 |.rem=>Bi (decide (b≠0)) (Ab ((a.tmod b)) fun n=>K (.sc (.int k n)))
 |.and=>Ab (Ars k a b) fun n=>K (.sc (.int k n))
 |.or=>Ab (JO k a b) fun n=>K (.sc (.int k n))
 |.xor=>Ab (Dp k a b) fun n=>K (.sc (.int k n))
 |.andNot=>Ab (Afm k a b) fun n=>K (.sc (.int k n))
 |op=>Ae5 op a b fun r=>K (.sc (.bool r))
def Xz (op:BinOp)(x y:ByteArray)(K:PV->Option R):Option R:=
 match op with
 |.add=>Bi (decide (x.size+y.size<=9223372036854775807)) (Ab (x++y) fun s=>K (.sc (.string s)))
 |.eql=>K (.sc (.bool (x.data.toList==y.data.toList)))
 |.neq=>K (.sc (.bool !(x.data.toList==y.data.toList)))
 |.lss=>K (.sc (.bool (Op.bytesLess x.data.toList y.data.toList)))
 |.leq=>K (.sc (.bool (Op.bytesLess x.data.toList y.data.toList||x.data.toList==y.data.toList)))
 |.gtr=>K (.sc (.bool !(Op.bytesLess x.data.toList y.data.toList||x.data.toList==y.data.toList)))
 |.geq=>K (.sc (.bool !(Op.bytesLess x.data.toList y.data.toList)))
 |_=>none
def Zn (e:Bool)(p:PV)(K:PV->Option R):Option R:=
 match p with
 |.sc (.slice none 0 0)=>K (.sc (.bool e))
 |.lst z _ n _=>Bh z (K (.sc (.bool e))) (Bh (decide (0<n)) (K (.sc (.bool !e))) (K .ub))
 |.view _ _ _ n=>Bh (decide (0<n)) (K (.sc (.bool !e))) (K .ub)
 |_=>none
def MD (P:Program):List Field->Nat->Bool
 |[],_=>true
 |f::r,i=>Nat.beq f.offset i&&(f.name != "_")&&(match P.underlying f.type with|some (.int _)=>true|some .bool=>true|some .string=>true|_=>false)&&MD P r (i+1)
def Ku (P:Program):List Field->Nat->Bool
  |[],_=>true
  |f::r,i=>Nat.beq f.offset i&&(f.name != "_") &&
    (match P.underlying f.type with
     |some (.int _)=>Ku P r (i+1)
     |some .bool=>Ku P r (i+1)
     |some .string=>Ku P r (i+1)
     |some (.struct gs)=>MD P gs.toList 0 && !P.stoodInHeld f.type&&(P.info? f.type).isSome&&Nat.beq (A7 P f.type) gs.size&&Ku P r (i+gs.size)
     |_=>false)
def GJ (P:Program)(t:TypeId)(fs:Array Field):Bool:=Ku P fs.toList 0 && !P.stoodInHeld t && !P.eqGuardType P.depth t
def ZO (P:Program)(f:Field):CT:=
 match P.underlying f.type with
 |some (.int k)=>.int k
 |some .bool=>.bool
 |some .string=>.str
 |_=>.any
def KZ (P:Program)(f:Field):List CT:=
 match P.underlying f.type with
 |some (.struct gs)=>gs.toList.map (ZO P)
 |_=>[ZO P f]
def Ra (P:Program):List Field->List CT
 |[]=>[]
 |f::r=>KZ P f++Ra P r
def Ir:List CT->List PV->List PV->(Bool->Option R)->Option R
 |[],[],[],K=>K true
 |.int k::ts,p::ps,q::qs,K=>Ak k p fun a=>Ak k q fun b=>Ir ts ps qs fun r=>K ((a==b)&&r)
 |.bool::ts,p::ps,q::qs,K=>Aq p fun a=>Aq q fun b=>Ir ts ps qs fun r=>K ((a==b)&&r)
 |.str::ts,p::ps,q::qs,K=>Az p fun a=>Az q fun b=>Ir ts ps qs fun r=>K ((a==b)&&r)
 |_,_,_,_=>none
def YR (P:Program)(op:BinOp)(t:TypeId)(x y:PV)(K:PV->Option R):Option R:=
 match P.underlying t with
 |some (.int k)=>
  match op with
  |.shl=>Ak k x fun a=>C8 y fun _ b=>Bi (decide (0<=b)) (Ab (G1 k a b) fun n=>K (.sc (.int k n)))
  |.shr=>Ak k x fun a=>C8 y fun _ b=>Bi (decide (0<=b)) (Ab (LY k a b) fun n=>K (.sc (.int k n)))
  |op=>Ak k x fun a=>Ak k y fun b=>Y0 op k a b K
 |some .string=>Az x fun a=>Az y fun b=>Xz op a b K
 |some .bool=>
  match op with
  |.eql=>Aq x fun a=>Aq y fun b=>K (.sc (.bool (a==b)))
  |.neq=>Aq x fun a=>Aq y fun b=>K (.sc (.bool !(a==b)))
  |_=>none
 |some (.slice _)=>
  match op,y with
  |.eql,.sc (.slice none 0 0)=>Zn true x K
  |.neq,.sc (.slice none 0 0)=>Zn false x K
  |_,_=>none
 |some (.map _ _)=>
  match op,x,y with
  |.eql,.sc (.map none),.sc (.map none)=>K (.sc (.bool true))
  |.neq,.sc (.map none),.sc (.map none)=>K (.sc (.bool false))
  |_,_,_=>none
 |_=>none
def P3 (P:Program)(op:BinOp)(t:TypeId)(x y:PV)(K:PV->Option R):Option R:=
 match P.underlying t with
 |some (.struct fs)=>
  match op with
  |.eql=>Bi (GJ P t fs) (Fo x fun xs=>Fo y fun ys=>Ir (Ra P fs.toList) xs ys fun b=>K (.sc (.bool b)))
  |.neq=>Bi (GJ P t fs) (Fo x fun xs=>Fo y fun ys=>Ir (Ra P fs.toList) xs ys fun b=>K (.sc (.bool !b)))
  |_=>none
 |_=>YR P op t x y K
def unK (op:UnOp)(x:PV)(K:PV->Option R):Option R:=
 match op with
 |.not=>Aq x fun b=>K (.sc (.bool !b))
 |.neg=>C8 x fun k n=>Ab (k.wrap (0-n)) fun n=>K (.sc (.int k n))
 |.xor=>C8 x fun k n=>Ab (Aqe k n) fun n=>K (.sc (.int k n))
 |_=>none
def Lj:List PV->Option (List UInt8)
 |[]=>some []
 |.sc (.int .u8 n)::r=>(Lj r).map (n.toNat.toUInt8 :: ·)
 |_::_=>none
def P9:List PV->Option (List Int)
 |[]=>some []
 |.sc (.int .i32 n)::r=>(P9 r).map (n :: ·)
 |_::_=>none
def Es (s:ByteArray):List PV:=s.data.toList.map fun b=>.sc (.int .u8 b.toNat)
def AB (P:Program)(rdf:Nat->Option (List PV)) (d:Nat)(src dst:TypeId)(x:PV)(K:PV->List (Nat × Bk)->Option R):Option R:=
 match P.underlying dst with
 |some (.int k)=>Bi (P.underlying src).isSome (C8 x fun _ n=>Ab (k.wrap n) fun n=>K (.sc (.int k n)) [])
 |some .string=>
  match P.underlying src with
  |some .string=>Az x fun s=>K (.sc (.string s)) []
  |some (.slice e)=>
   match P.underlying e with
   |some (.int .u8)=>MM rdf 1 x fun n c=>Bi (decide (c.length=n)) (Dk (Lj c) fun b=>K (.sc (.string ⟨b.toArray⟩)) [])
   |some (.int .i32)=>MM rdf 1 x fun n c=>Bi (decide (c.length=n)) (Dk (P9 c) fun ns=>Ab (runesBytes ns) fun s=>K (.sc (.string s)) [])
   |_=>none
  |_=>none
 |some (.slice e)=>
  match P.underlying e,P.underlying src with
  |some (.int .u8),some .string=>Az x fun s=>Bi (decide (s.size<=1099511627776)) (K (.view d 1 0 s.size) [(d,.ar false (Es s))])
  |_,_=>none
 |_=>none
def Fp (p:Option PV)(dflt:Nat)(K:Nat->Option R):Option R:=
 match p with
 |none=>K dflt
 |some p=>C8 p fun _ i=>Bi (decide (0<=i)) (K i.toNat)
def Uz (P:Program)(rdf:Nat->Option (List PV)) (t:TypeId)(x:PV)(lo hi:Option PV)(K:PV->Option R):Option R:=
 match P.underlying t with
 |some .string=>Az x fun s=>Fp lo 0 fun l=>Fp hi s.size fun h=>Bi (decide (l<=h)&&decide (h<=s.size)) (Ab (s.extract l h) fun s=>K (.sc (.string s)))
 |some (.slice e)=>Bi (P.info? e).isSome (
  match x with
  |.view id es off n=>Bi (Nat.beq es (A7 P e)) (Fp lo 0 fun l=>Fp hi n fun h=>Bi (decide (l<=h)&&decide (h<=n)) (Ab (off+l*es) fun o=>Ab (h-l) fun n=>K (.view id es o n)))
  |x=>R8 (A7 P e) x fun z n c=>Fp lo 0 fun l=>Fp hi n fun h=>Bi (decide (l<=h)&&decide (h<=n)) (Ab (h-l) fun n=>Ab ((c.drop (l*A7 P e)).take (n*A7 P e)) fun c=>K (.lst z (A7 P e) n c)))
 |some (.array n e)=>Bi (P.info? e).isSome (
  match x with
  |.ptr id off=>Dk (rdf id) fun c=>Bi (decide (1<=n*A7 P e)&&decide (off+n*A7 P e<=c.length)&&Nat.beq (A7 P e) 1)<|Fp lo 0 fun l=>Fp hi n fun h=>Bi (decide (l<=h)&&decide (h<=n)) (Ab (off+l*A7 P e) fun o=>Ab (h-l) fun n=>K (.view id (A7 P e) o n))
  |_=>none)
 |_=>none
def Pz (P:Program)(d:Nat)(t:TypeId)(x:PV)(lo hi mx:Option PV)(K:PV->List (Nat × Bk)->Option R):Option R:=
 match P.underlying t with
 |some (.slice e)=>Bi ((P.info? e).isSome&&hi.isSome) (
  match x with
  |.view _ es _ n=>Bi (Nat.beq es (A7 P e)) (Fp lo 0 fun l=>Fp hi n fun h=>Fp mx n fun m=>Bi (Nat.beq l m&&Nat.beq h m&&decide (m<=n)) (K (.view d (A7 P e) 0 0) [(d,.ar false [])]))
  |x=>R8 (A7 P e) x fun _ n _=>Fp lo 0 fun l=>Fp hi n fun h=>Fp mx n fun m=>Bi (Nat.beq l m&&Nat.beq h m&&decide (m<=n)) (K (.view d (A7 P e) 0 0) [(d,.ar false [])]))
 |_=>none
def Pw (x:PV)(d:Nat)(K:PV->Option R):Option R:=
 match x with
 |.ptr id off=>K (.ptr id (off+d))
 |.iptr c off=>K (.iptr c (off+d))
 |_=>none
def Zg (P:Program)(e:TypeId):Bool:=(P.info? e).isSome
def L6 (P:Program)(t:TypeId)(f:Nat):Option (Nat × TypeId):=
 match P.underlying t with
 |some (.struct fs)=>(fs[f]?).map fun g=>(g.offset,g.type)
 |_=>none
def H9 (P:Program)(t:TypeId)(x:PV)(i:Int)(K:PV->Option R):Option R:=
 match P.underlying t with
 |some (.array n e)=>Bi (Zg P e) (Bi (decide (0<=i)&&decide (i<n)) (Pw x (i.toNat*A7 P e) K))
 |some (.slice e)=>Bi (Zg P e) (
  match x with
  |.view id es off n=>Bi (Nat.beq es (A7 P e)) (Bi (decide (0<=i)&&decide (i<n)) (K (.ptr id (off+i.toNat*es))))
  |x=>R8 (A7 P e) x fun _ n c=>Bi (decide (0<=i)&&decide (i<n)) (K (.iptr c (i.toNat*A7 P e))))
 |_=>none
def Rm (P:Program)(rdf:Nat->Option (List PV)) (t:TypeId)(x:PV)(K:PV->Option R):Option R:=
 match x with
 |.ptr id off=>Bi (G5 P t) (Dk (rdf id) fun c=>K7 (Gr P t) c off fun cs=>SW (B0 P t) cs K)
 |.iptr c off=>Bi (G5 P t) (Ob (Gr P t) c off fun cs=>SW (B0 P t) cs K)
 |_=>none
def II:PV->PV
 |.lst _ es n c=>.lst false es n c
 |p=>p
def QE:PV->PV
 |.agg cs=>.agg (cs.map II)
 |p=>II p
def Sn (nz:Bool)(P:Program)(rdf rdaf:Nat->Option (List PV)) (t:TypeId)(x:PV)(K:PV->Option R):Option R:=
 match x with
 |.ptr id off=>Bi (G5 P t) (
  match rdaf id with
  |some c=>Ob (Gr P t) c off fun cs=>SW (B0 P t) cs fun v=>K (bif nz then v else QE v)
  |none=>Dk (rdf id) fun c=>K7 (Gr P t) c off fun cs=>SW (B0 P t) cs K)
 |.iptr c off=>Bi (G5 P t) (Ob (Gr P t) c off fun cs=>SW (B0 P t) cs fun v=>K (bif nz then v else QE v))
 |_=>none
def B8 (cells new:List PV)(off:Nat):List PV:=cells.take off++new++cells.drop (off+new.length)
def okP:PV->Bool
 |.agg _=>true
 |.lst _ _ _ _=>true
 |.view _ _ _ _=>true
 |.sc (.int _ _)=>true
 |.sc (.bool _)=>true
 |.sc (.string _)=>true
 |.sc (.slice none 0 0)=>true
 |_=>false
def Pc (Fy:Nat->Option (Nat × Nat)):List (Nat × PV)->List PV->(List PV->Option R)->Option R
 |[],cells,K=>K cells
 |(i,p)::r,cells,K=>Dk (Fy i) fun q=>Bi (okP p&&Nat.beq (cellsOf p).length q.2&&Nat.ble (q.1+q.2) cells.length) (Ab (B8 cells (cellsOf p) q.1) fun cells=>Pc Fy r cells K)
def M6 (P:Program)(t:TypeId)(i:Nat):Option (Nat × Nat):=
 match P.underlying t with
 |some (.struct fs)=>(fs[i]?).map fun f=>(f.offset,A7 P f.type)
 |some (.array _ e)=>some (i*A7 P e,A7 P e)
 |some (.slice e)=>some (i*A7 P e,A7 P e)
 |_=>none
def Mx (P:Program)(t:TypeId):Bool:=
 match P.underlying t with
 |some (.struct fs)=>fs.toList.all fun f=>Zg P f.type
 |some (.array _ e)=>Zg P e
 |some (.slice e)=>Zg P e
 |_=>false
def L0 (P:Program)(t:TypeId):Option Value:=(P.info? t).bind (·.zero)
def Fw (P:Program)(t:TypeId)(K:List PV->Option R):Option R:=
 Dk (L0 P t) fun v=>Bi (Nat.beq v.cells.toList.length (Gr P t).length&&G5 P t) (Ob (Gr P t) (v.cells.toList.map .sc) 0 K)
def Pp (P:Program)(t:TypeId):Bool:=
 match P.underlying t with
 |some (.array _ _)=>true
 |_=>false
def Aap (P:Program)(t:TypeId)(cells:List PV):Bk:=bif Pp P t then .ar false cells else .st cells
def M7 (n:Nat)(l:List PV):List PV:=(List.replicate n l).flatten
def Aec (a b:PV)(K:PV->Option R):Option R:=C8 a fun k x=>Ak k b fun y=>Ab (if y<x then y else x) fun n=>K (.sc (.int k n))
def Aev (a b:PV)(K:PV->Option R):Option R:=C8 a fun k x=>Ak k b fun y=>Ab (if x<y then y else x) fun n=>K (.sc (.int k n))
def WA (P:Program)(t:TypeId)(x:PV)(K:Nat->Option R):Option R:=
 match P.underlying t with
 |some .string=>Az x fun s=>K s.size
 |some (.array n _)=>K n
 |some (.slice e)=>
  match x with
  |.view _ es _ n=>Bi (Nat.beq es (A7 P e)) (K n)
  |x=>R8 (A7 P e) x fun _ n _=>K n
 |_=>none
end
abbrev Ax:=FuncId->List PV->Option Ay
section
variable {R:Type}
def Hh (P:Program)(ts:List TypeId):Bool:=ts.any fun t=>(Sz P t).isSome||(Gr P t).any fun c=>match c with | .sl _=>true|_=>false
def Uu (P:Program)(t:TypeId)(tm:Nat->PV)(x:Operand)(K:PV->Option R):Option R:=
 match x with
 |.const v=>cvK P t v K
 |x=>K (Bv tm x)
def JA (P:Program)(e:TypeId):Bool:=
 match P.info? e with
 |some i=>(match i.zero with|some z=>Nat.beq z.cells.size i.size|none=>false)
 |none=>false
def RJ (P:Program)(rdaf:Nat->Option (List PV)) (es:Nat)(t:TypeId)(x:PV)(K:Nat->List PV->Option R):Option R:=
 match P.underlying t with
 |some .string=>Bi (Nat.beq es 1) (Az x fun b=>K b.size (Es b))
 |some (.slice _)=>MM rdaf es x K
 |_=>none
abbrev QD (P:Program)(s:St)(es:Nat)(t:TypeId)(x:PV)(K:Nat->List PV->Option R):Option R:=RJ P (Hl s.hp) es t x K
def S0 (c:Call):Bool:=
 match c.args.toList with
 |.const (.slice none 0 0)::_=>true
 |_=>false
def Qg (P:Program)(rdaf:Nat->Option (List PV)) (d:Nat)(t tx:TypeId)(x:PV)(K:PV->List (Nat × Bk)->Option R):Option R:=
 match P.underlying t with
 |some (.slice e)=>Bi (JA P e) <|
  RJ P rdaf (A7 P e) tx x fun m new=>
   Bi (decide (new.length=m*A7 P e)&&decide (m*((P.info? e).map (·.bytes)).getD 0<=1099511627776)&&decide (m<=1099511627776)) (K (.view d (A7 P e) 0 m) [(d,.ar false new)])
 |_=>none
def Hm (k:Bool):List Operand->List PV->List PV
  |x::xs,p::ps=>
    (match x,p with
     |.const (.slice none 0 0),.lst z es 0 []=>.lst (k||z) es 0 []
     |_,p=>p)::Hm k xs ps
  |_,ps=>ps
def UP (P:Program)(t:TypeId)(x:PV)(K:Nat->Option R):Option R:=
 match P.underlying t with
 |some (.slice e)=>R8 (A7 P e) x fun z _ _=>Bi z (K 0)
 |_=>none
def AG (P:Program)(f:FuncId)(c:Call):List TypeId:=
 match P.funcs[f]? with
 |some fn=>fn.params.toList
 |none=>c.argTypes.toList
def Yv (C:Fu)(P:Program)(N:Nat)(call:Ax)(tm:Nat->PV)(rdaf:Nat->Option (List PV)) (o:Oper)(c:Call)(f:FuncId)(K:PV->List Nat->List (Nat × Bk)->Option R):Option R:=
 X9 P rdaf (AG P f c) (c.args.toList.map (Bv tm)) fun vs m=>
  Ah (call f (Hm (C.kz f) c.args.toList vs)) fun rv ro=>Ad ro (Bi (Nat.blt 0 N)<|Vt P (C.shr f) N (o.dst.getD 0) (Kx P o.type) rv fun ws bs=>
   Bi (bif Lm P o.type then !Nat.beq ws.length 1 else Nat.beq ws.length 1)<|K (Kl ws (Lm P o.type)) (bif Hh P (Kx P o.type) then m else []) bs)
def Yk (C:Fu)(P:Program)(N:Nat)(call:Ax)(tm:Nat->PV)(rdf rdaf:Nat->Option (List PV)) (o:Oper)(K:PV->List Nat->List (Nat × Bk)->Option R):Option R:=
  match o.op with
  |.move x=>Uu P o.type tm x fun p=>K p [] []
  |.assign x=>Uu P o.type tm x fun p=>K p [] []
  |.pick c a b=>Aq (Bv tm c) fun t=>Bh t (K (Bv tm a) [] []) (K (Bv tm b) [] [])
  |.alloc t=>Dk o.dst fun d=>Fw P t fun cs=>K (.ptr d 0) [] [(d,Aap P t cs)]
  |.box t x=>Dk o.dst fun d=>Bi (G5 P t&&Nat.beq (cellsOf (Bv tm x)).length (Gr P t).length)
      (bif Pp P t then Ob (Gr P t) (cellsOf (Bv tm x)) 0 fun cs=>K (.ptr d 0) [] [(d,.ar false cs)]
       else K7 (Gr P t) (cellsOf (Bv tm x)) 0 fun cs=>K (.ptr d 0) [] [(d,.st cs)])
  |.build t ps=>Bi (Mx P t&&B0 P t)<|Fw P t fun z=>Pc (M6 P t) (ps.toList.map fun q=>(q.1,Bv tm q.2)) z fun cs=>K7 (Gr P t) cs 0 fun cs'=>K (.agg cs') [] []
  |.buildSlice t n ps=>Dk o.dst fun d=>
      match P.underlying t with
      |some (.slice e)=>Bi (Mx P t&&Nat.ble (n*A7 P e) 16777216) (Fw P e fun z=>Pc (M6 P t) (ps.toList.map fun q=>(q.1,Bv tm q.2)) (M7 n z) fun cs=>
          Kf rdaf (List.replicate n (Gr P e)).flatten cs fun cs' m=>K (.view d (A7 P e) 0 n) m [(d,.ar false (bif C.nz N then NE true cs cs' else cs'))])
      |_=>none
  |.load t a=>Sn (C.nz N) P rdf rdaf t (Bv tm a) fun v=>K v [] []
  |.nilCheck x=>Pw (Bv tm x) 0 fun p=>K p [] []
  |.binOp op t x y _=>
      P3 P op t (Bv tm x) (Bv tm y) fun v=>K v [] []
  |.unOp op _ x=>unK op (Bv tm x) fun v=>K v [] []
  |.convert src dst x=>AB P rdaf (o.dst.getD 0) src dst (Bv tm x) fun v b=>Dk o.dst fun _=>K v [] b
  |.makeSlice t l c=>Dk o.dst fun d=>
      match P.underlying t with
      |some (.slice e)=>C8 (Bv tm l) fun _ n=>C8 (Bv tm c) fun _ m=>
          Bi (decide (0<=n)&&decide (n<=m)&&decide (m*((P.info? e).map (·.bytes)).getD 0<=1099511627776)&&decide (m<=1099511627776))
            (Fw P e fun z=>K (.view d (A7 P e) 0 n.toNat) [] [(d,.ar false (M7 n.toNat z))])
      |_=>none
  |.slice t x lo hi mx=>
      match mx with
      |none=>Uz P rdf t (Bv tm x) (lo.map (Bv tm)) (hi.map (Bv tm)) fun v=>K v [] []
      |some m=>Dk o.dst fun d=>Pz P d t (Bv tm x) (lo.map (Bv tm)) (hi.map (Bv tm)) (some (Bv tm m)) fun v nw=>K v [] nw
  |.fieldAddr t x f=>Dk (L6 P t f) fun q=>Bi (Nat.ble 1 (A7 P q.2)) (Pw (Bv tm x) q.1 fun p=>K p [] [])
  |.field t x f=>Dk (L6 P t f) fun q=>Bi (G5 P q.2)<|Fo (Bv tm x) fun cs=>K7 (Gr P q.2) cs q.1 fun c=>SW (B0 P q.2) c fun v=>K v [] []
  |.indexAddr t x i=>C8 (Bv tm i) fun _ n=>H9 P t (Bv tm x) n fun p=>K p [] []
  |.index t x i=>C8 (Bv tm i) fun _ n=>
      match P.underlying t with
      |some .string=>Az (Bv tm x) fun s=>Bi (decide (0<=n)) (Dk (s.data.toList[n.toNat]?) fun b=>K (.sc (.int .u8 b.toNat)) [] [])
      |some (.array len e)=>Fo (Bv tm x) fun cs=>Bi (decide (0<=n)&&decide (n<len)&&G5 P e) (K7 (Gr P e) cs (n.toNat*A7 P e) fun c=>SW (B0 P e) c fun v=>K v [] [])
      |_=>none
  |.lookup t x k ok=>
      match P.underlying t with
      |some (.map kt vt)=>Bi (match P.underlying kt with|some .string=>true|_=>false) (
        match Bv tm x with
        |.sc (.map none)=>Az (Bv tm k) fun _=>Dk (L0 P vt) fun z=>cvK P vt z fun v=>Bi (match v with | .tup _=>false|_=>true) (K (bif ok then .tup [v,.sc (.bool false)] else v) [] [])
        |_=>none)
      |_=>none
  |.extract x i=>
      match Bv tm x with
      |.tup vs=>Dk vs[i]? fun p=>K p [] []
      |_=>none
  |.call c=>
      match c.callee with
      |.builtin .len=>Aa c.args.toList fun x _=>Aa c.argTypes.toList fun t _=>WA P t (Bv tm x) fun n=>K (.sc (.int .i64 n)) [] []
      |.builtin .cap=>Aa c.args.toList fun x _=>Aa c.argTypes.toList fun t _=>UP P t (Bv tm x) fun n=>K (.sc (.int .i64 n)) [] []
      |.builtin .min=>Aa c.args.toList fun x r=>Aa r fun y r'=>Ad r' (Aec (Bv tm x) (Bv tm y) fun v=>K v [] [])
      |.builtin .max=>Aa c.args.toList fun x r=>Aa r fun y r'=>Ad r' (Aev (Bv tm x) (Bv tm y) fun v=>K v [] [])
      |.builtin .append=>Bi (S0 c) (Dk o.dst fun d=>Aa c.args.toList fun _ r=>Aa r fun x r'=>Ad r' (Aa c.argTypes.toList fun t u=>Aa u fun tx _=>Qg P rdaf d t tx (Bv tm x) fun v nw=>K v [] nw))
      |.value (.func f)=>Yv C P N call tm rdaf o c f K
      |.value (.tmp t)=>fvK (tm t) fun f=>Yv C P N call tm rdaf o c f K
      |_=>none
  |_=>none
def Nc (C:Fu)(P:Program)(o:Op):Bool:=
 match o with
 |.store .. =>true
 |.call c=>
  match c.callee with
  |.builtin .append=> !S0 c
  |.builtin .copy=>true
  |.builtin _=>false
  |.value (.func f)=>((AG P f c).any fun t=>(Sz P t).isSome)||((AG P f c).zipIdx.any fun q=>C.mvd f q.2||C.lnd f q.2)
  |_=>false
 |_=>false
def Pd (b:Bk):Bk:=
 match b with
 |.ar _ c=>.ar true c
 |b=>b
def Af (hp:Nat->Option Bk)(ids:List Nat):Nat->Option Bk:=fun i=>bif ids.any (Nat.beq i) then (hp i).map Pd else hp i
def An (hp:Nat->Option Bk):List (Nat × Bk)->Nat->Option Bk
 |[]=>hp
 |(i,b)::r=>An (Cg hp i (some b)) r
def Bn (hp:Nat->Option Bk):List (Nat × Bk)->Bool
 |[]=>true
 |(i,_)::r=>(hp i).isNone && !(r.any fun q=>Nat.beq q.1 i)&&Bn hp r
def Bj (tm:Nat->PV)(d:Option Tmp)(v:PV):Nat->PV:=
 match d with
 |some i=>Cg tm i v
 |none=>tm
def Fe (N:Nat)(d:Option Tmp):Bool:=
 match d with
 |some i=>Nat.blt i N
 |none=>true
def Up (N:Nat)(s:St)(d:Option Tmp)(v:PV)(fz:List Nat)(nw:List (Nat × Bk)) (K:St->Option R):Option R:=
 Bi (Fe N d&&Bn s.hp nw) (K ⟨Bj s.tm d v,An (Af s.hp fz) nw⟩)
def Uw (P:Program)(s:St)(t:TypeId)(a x:PV)(K:St->Option R):Option R:=
 match a with
 |.ptr id off=>
  match s.hp id with
  |some (.st c)=>Bi (G5 P t&&Nat.beq (cellsOf x).length (Gr P t).length&&decide (off+(Gr P t).length<=c.length)) (K7 (Gr P t) (cellsOf x) 0 fun cs=>Ab (B8 c cs off) fun c=>K ⟨s.tm,Cg s.hp id (some (.st c))⟩)
  |some (.ar false c)=>Bi (G5 P t&&decide (off+(Gr P t).length<=c.length)) (Kf (Hl s.hp) (Gr P t) (cellsOf x) fun cs m=>Bi (!m.any (Nat.beq id)) (Ab (B8 c cs off) fun c=>K ⟨s.tm,Cg (Af s.hp m) id (some (.ar false c))⟩))
  |_=>none
 |_=>none
def So (P:Program)(t:TypeId):Bool:=
 match P.underlying t with
 |some (.int _)=>true
 |_=>false
def O7 (P:Program)(N:Nat)(s:St)(d:Nat)(e:TypeId)(b x:PV)(K:St->Option R):Option R:=
 C8 x fun _ n=>R8 (A7 P e) b fun z _ _=>
  Bi (z&&Nat.blt d N&&(s.hp d).isNone&&decide (0<=n)&&decide (n.toNat*((P.info? e).map (·.bytes)).getD 0<=1099511627776)&&decide (n<=1099511627776))
   (K ⟨Cg s.tm d (.view d (A7 P e) 0 n.toNat),Cg s.hp d (some (.ar false []))⟩)
def Le (P:Program)(N:Nat)(s:St)(d:Nat)(t tx:TypeId)(b x:PV)(K:St->Option R):Option R:=
 match P.underlying t with
 |some (.slice e)=>Bi (JA P e) <|
  bif So P tx then O7 P N s d e b x K else
  QD P s (A7 P e) tx x fun m new=>
  match b with
  |.view id es off n=>
   match s.hp id with
   |some (.ar false c)=>
    Bi (Nat.beq es (A7 P e)&&Nat.beq off 0&&Nat.blt d N&&(s.hp d).isNone&&decide (n*es<=c.length)&&decide (new.length=m*es)
     && decide ((n+m)*((P.info? e).map (·.bytes)).getD 0<=1099511627776)&&decide (n+m<=1099511627776))
     (Ab (n+m) fun n'=>Ab (c.take (n*es)++new) fun c=>K ⟨Cg s.tm d (.view d es 0 n'),Cg (Cg s.hp id (some .mv)) d (some (.ar false c))⟩)
   |_=>none
  |b=>R8 (A7 P e) b fun z _ _=>
    Bi (z&&Nat.blt d N&&(s.hp d).isNone&&decide (new.length=m*A7 P e)&&decide (m*((P.info? e).map (·.bytes)).getD 0<=1099511627776)&&decide (m<=1099511627776))
     (K ⟨Cg s.tm d (.view d (A7 P e) 0 m),Cg s.hp d (some (.ar false new))⟩)
 |_=>none
def EO (P:Program)(N:Nat)(s:St)(d:Option Tmp)(t tx:TypeId)(b x:PV)(K:St->Option R):Option R:=
 match P.underlying t with
 |some (.slice e)=>Bi (Zg P e&&Fe N d) <|
  QD P s (A7 P e) tx x fun m new=>
  match b with
  |.view id es off n=>
   match s.hp id with
   |some (.ar false c)=>Bi (Nat.beq es (A7 P e)&&decide (off+n*es<=c.length)&&decide (new.length=m*es))
     (Ab (min m n) fun k=>Ab (B8 c (new.take (k*es)) off) fun c=>K ⟨Bj s.tm d (.sc (.int .i64 k)),Cg s.hp id (some (.ar false c))⟩)
   |_=>none
  |_=>none
 |_=>none
def VI (mv:Bool)(hp:Nat->Option Bk)(t:CT)(p:PV)(K:PV->List Nat->List Nat->Option R):Option R:=
 match t with
 |.sl es=>
  bif mv then
   match p with
   |.view id es' off n=>
    match hp id with
    |some (.ar false c)=>
     bif Nat.beq es' es&&Nat.beq off 0 then Bi (decide (n*es<=c.length)) (K (.own es n (c.take (n*es))) [] [id])
     else K9 (Hl hp) (.sl es) (.view id es' off n) fun c m=>K c m []
    |_=>K9 (Hl hp) (.sl es) (.view id es' off n) fun c m=>K c m []
   |p=>R8 es p fun z n c=>bif z then K (.own es 0 []) [] [] else K (.lst false es n c) [] []
  else K9 (Hl hp) (.sl es) p fun c m=>K c m []
 |t=>Uh t p fun c=>K c [] []
def Vu (mv:Bool)(hp:Nat->Option Bk):List CT->List PV->(List PV->List Nat->List Nat->Option R)->Option R
 |[],[],K=>K [] [] []
 |t::ts,p::ps,K=>VI mv hp t p fun c m x=>Vu mv hp ts ps fun cs ms xs=>K (c::cs) (m++ms) (x++xs)
 |_,_,_=>none
inductive Fl where
 |var (id off:Nat) (cts:List CT) (ws:List PV)
 |row (id:Nat)
 |none
def Fl.ids:Fl->List Nat
 |.var id _ _ _=>[id]
 |.row id=>[id]
 |.none=>[]
def Apl (P:Program)(t:TypeId):Option TypeId:=
 match P.underlying t with
 |some (.slice e)=>some e
 |_=>none
def Aay (hp:Nat->Option Bk)(es:Nat)(p:PV)(K:PV->List Fl->Option R):Option R:=
 match p with
 |.view id es' off n=>
  match hp id with
  |some (.ar false c)=>Bi (Nat.beq es' es&&Nat.beq off 0) (K (.tup [.own es n c]) [.row id])
  |_=>none
 |p=>R8 es p fun z _ _=>Bi z (K (.tup [.own es 0 []]) [.none])
def Ue (C:Fu)(P:Program)(f:FuncId)(hp:Nat->Option Bk)(i:Nat)(t:TypeId)(p:PV)(K:PV->List Nat->List Nat->List Fl->Option R):Option R:=
 match Sz P t with
 |some e=>
  match p with
  |.ptr id off=>
   match hp id with
   |some (.st c)=>Bi (G5 P e&&decide (off+(Gr P e).length<=c.length)) (Vu (C.mvd f i) hp (Gr P e) ((c.drop off).take (Gr P e).length) fun cs m x=>K (.pbox cs) m x [.var id off (Gr P e) cs])
   |_=>none
  |_=>none
 |none=>
  bif C.lnd f i then Dk (Apl P t) fun e=>Aay hp (A7 P e) p fun v l=>K v [] [] l
  else bif B0 P t then Fo p fun ps=>Vu (C.mvd f i) hp (Gr P t) ps fun cs m x=>K (.agg cs) m x []
  else Vu (C.mvd f i) hp (Gr P t) [p] fun cs m x=>Aa cs fun c r=>Ad r (K c m x [])
def DH (C:Fu)(P:Program)(f:FuncId)(hp:Nat->Option Bk):Nat->List TypeId->List PV->(List PV->List Nat->List Nat->List Fl->Option R)->Option R
 |_,[],[],K=>K [] [] [] []
 |i,t::ts,p::ps,K=>Ue C P f hp i t p fun v m x l=>DH C P f hp (i+1) ts ps fun vs ms xs ls=>K (v::vs) (m++ms) (x++xs) (l++ls)
 |_,_,_,_=>none
def Ox (hp:Nat->Option Bk)(ids:List Nat):Nat->Option Bk:=fun i=>bif ids.any (Nat.beq i) then (hp i).map (fun _=>Bk.mv) else hp i
def OE (N t:Nat):Nat:=N*(1000+t)
def KL (N:Nat)(hp:Nat->Option Bk):Nat->Nat->Nat
 |0,t=>t
 |k+1,t=>bif (hp (OE N t)).isNone then t else KL N hp k (t+1)
def WR (N t:Nat)(ct:CT)(was p:PV)(K:Nat->PV->List (Nat × Bk)->Option R):Option R:=
 match ct with
 |.sl es=>
  match was with
  |.own _ _ _=>OC es p fun n c=>K (t+1) (.view (OE N t) es 0 n) [(OE N t,.ar false c)]
  |_=>R8 es p fun _ n c=>K t (.lst false es n c) []
 |ct=>Uh ct p fun c=>K t c []
def EL (N:Nat):Nat->List CT->List PV->List PV->(Nat->List PV->List (Nat × Bk)->Option R)->Option R
 |t,[],[],ps,K=>Ad ps (K t [] [])
 |t,ct::cts,w::ws,ps,K=>Aa ps fun p ps=>WR N t ct w p fun t' c b=>EL N t' cts ws ps fun t'' cs bs=>K t'' (c::cs) (b++bs)
 |_,_,_,_,_=>none
def R7 (N:Nat):Nat->List Fl->List (List PV)->(Nat->Option Bk)->((Nat->Option Bk)->List (Nat × Bk)->Option R)->Option R
 |_,[],ro,hp,K=>Ad ro (K hp [])
 |t,.var id off cts ws::l,ro,hp,K=>Aa ro fun cs ro=>EL N t cts ws cs fun t' cs' bs=>
   match hp id with
   |some (.st c)=>Ab (B8 c cs' off) fun c=>R7 N t' l ro (Cg hp id (some (.st c))) fun Ck bs'=>K Ck (bs++bs')
   |_=>none
 |t,.row id::l,ro,hp,K=>Aa ro fun cs ro=>R7 N t l ro (Cg hp id (some (.ar false cs))) K
 |t,.none::l,ro,hp,K=>Aa ro fun _ ro=>R7 N t l ro hp K
def Dq:List Nat->Bool
 |[]=>true
 |a::r=> !(r.any (Nat.beq a))&&Dq r
def Vn (C:Fu)(P:Program)(N:Nat)(call:Ax)(s:St)(o:Oper)(f:FuncId)(c:Call)(K:St->Option R):Option R:=
 DH C P f s.hp 0 (AG P f c) (c.args.toList.map (Bv s.tm)) fun vs m x l=>
  Bi (Dq (l.flatMap Fl.ids++x)&&m.all (fun i=> !((l.flatMap Fl.ids++x).any (Nat.beq i)))&&Nat.blt 0 N&&Fe N o.dst) <|
  Ah (call f (Hm (C.kz f) c.args.toList vs)) fun rv ro=>
   Vt P (C.shr f) N (o.dst.getD N) (Kx P o.type) rv fun ws bs=>
    Bi (bif Lm P o.type then !Nat.beq ws.length 1 else Nat.beq ws.length 1) <|
    Azk (KL N s.hp 100 0) fun t0=>R7 N t0 l ro (Ox (Af s.hp m) x) fun Ck bs'=>
     Bi (Bn Ck (bs++bs')) (K ⟨Bj s.tm o.dst (Kl ws (Lm P o.type)),An Ck (bs++bs')⟩)
def Qv (C:Fu)(P:Program)(N:Nat)(call:Ax)(s:St)(o:Oper)(K:St->Option R):Option R:=
 match o.op with
 |.store t a x=>Bi (o.dst.isNone) (Uw P s t (Bv s.tm a) (Bv s.tm x) K)
 |.call c=>
  match c.callee with
  |.builtin .append=>Dk o.dst fun d=>Aa c.args.toList fun b r=>Aa r fun x r'=>Ad r' (Aa c.argTypes.toList fun t u=>Aa u fun tx _=>Le P N s d t tx (Bv s.tm b) (Bv s.tm x) K)
  |.builtin .copy=>Aa c.args.toList fun b r=>Aa r fun x r'=>Ad r' (Aa c.argTypes.toList fun t u=>Aa u fun tx _=>EO P N s o.dst t tx (Bv s.tm b) (Bv s.tm x) K)
  |.value (.func f)=>Vn C P N call s o f c K
  |_=>none
 |_=>none
def KF (C:Fu)(P:Program)(N:Nat)(call:Ax)(o:Oper)(s:St)(K:St->Option R):Option R:=
 bif Nc C P o.op then Qv C P N call s o K
 else Yk C P N call s.tm (rd s.hp) (Hl s.hp) o fun v fz nw=>Up N s o.dst v fz nw K
def Da (C:Fu)(P:Program)(N:Nat)(call:Ax)(ops:Array Oper)(o:Oper)(s:St)(K:St->Option R):Option R:=
 match o.guard with
 |none=>KF C P N call o s K
 |some (j,want)=>
  match (ops[j]?).bind (·.dst) with
  |none=>none
  |some d=>
   match s.tm d with
   |.sc (.bool b)=>
    Bh b (bif want then KF C P N call o ⟨Cg s.tm d (.sc (.bool true)),s.hp⟩ K else Bi (Fe N o.dst) (K ⟨Bj (Cg s.tm d (.sc (.bool true))) o.dst (.sc undef),s.hp⟩))
     (bif want then Bi (Fe N o.dst) (K ⟨Bj (Cg s.tm d (.sc (.bool false))) o.dst (.sc undef),s.hp⟩) else KF C P N call o ⟨Cg s.tm d (.sc (.bool false)),s.hp⟩ K)
   |.sc (.tuple _)=>Bi (Fe N o.dst) (K ⟨Bj s.tm o.dst (.sc undef),s.hp⟩)
   |_=>none
def J9 (C:Fu)(P:Program)(N:Nat)(call:Ax)(ops:Array Oper):List Oper->St->(St->Option R)->Option R
 |[],s,K=>K s
 |o::r,s,K=>Da C P N call ops o s fun s'=>J9 C P N call ops r s' K
noncomputable def FO (x y:Option R):Option R:=open Classical in if x=y then x else none
noncomputable def RA (ops:Array Oper)(o:Oper)(s:St)(F:St->Option R):Option R:=
 match o.guard with
 |none=>F s
 |some (j,_)=>
  match (ops[j]?).bind (·.dst) with
  |none=>F s
  |some d=>
   match s.tm d with
   |.ub=>FO (F ⟨Cg s.tm d (.sc (.bool true)),s.hp⟩) (F ⟨Cg s.tm d (.sc (.bool false)),s.hp⟩)
   |_=>F s
noncomputable def GM (C:Fu)(P:Program)(N:Nat)(call:Ax)(ops:Array Oper):List Oper->St->(St->Option R)->Option R
 |[],s,K=>K s
 |o::r,s,K=>RA ops o s fun s1=>Da C P N call ops o s1 fun s'=>GM C P N call ops r s' K
end
def Ab5 (o:Oper):List Nat:=o.op.operands.toList.filterMap fun x=>match x with | .tmp t=>some t|_=>none
def looks (ops:Array Oper)(o:Oper):List Nat:=
 Ab5 o++(match o.guard with|some (g,_)=>((ops[g]?).bind (·.dst)).toList|none=>[])
def Gb (P:Program)(o:Op):Bool:=
 match o with
 |.slice t .. =>match P.underlying t with|some (.array _ _)=>true|_=>false
 |.buildSlice t _ _=>match P.underlying t with|some (.slice e)=>Hh P [e]|_=>true
 |.convert _ dst _=>match P.underlying dst with|some .string=>true|_=>false
 |.alloc _ | .box .. | .makeSlice .. =>false
 |.move _ | .assign _ | .pick .. | .build .. | .binOp .. | .unOp .. | .fieldAddr .. | .field .. | .index .. | .indexAddr .. | .extract .. | .nilCheck _=>false
 |.call c=>match c.callee with | .builtin .len=>false | .builtin .min=>false | .builtin .max=>false|_=>true
 |_=>true
def Z2 (C:Fu)(P:Program)(ops:Array Oper)(x y:Oper):Bool:=
 (match x.dst with|some d=>(looks ops y).any (Nat.beq d)||(match y.dst with|some e=>Nat.beq d e|none=>false)|none=>false) ||
 (match y.dst with|some e=>(looks ops x).any (Nat.beq e)|none=>false) ||
 (Nc C P x.op&&Gb P y.op)||(Nc C P y.op&&Gb P x.op)
def Gx (ops:List Oper):List Nat->List Nat
 |acc=>match ops with
  |[]=>acc
  |o::r=>Gx r (acc++[o.after.toList.foldl (fun s e=>bif Region.binds .any e then s ||| 2 ^ e.on ||| acc.getD e.on 0 else s) 0])
def Xp (C:Fu)(P:Program)(ops:Array Oper)(bs:List Nat):List Oper->Nat->Bool
 |[],_=>true
 |o::r,i=>(ops.toList.zipIdx.all fun q=> !Nat.blt q.2 i || !Z2 C P ops q.1 o||(bs.getD i 0).testBit q.2)&&Xp C P ops bs r (i+1)
def DO (C:Fu)(P:Program)(ops:Array Oper):Bool:=
 ops.toList.zipIdx.all (fun q=>q.1.after.toList.all fun e=> !Region.binds .any e||Nat.blt e.on q.2)&&Xp C P ops (Gx ops.toList []) ops.toList 0
def Am:PV->List Nat
 |.view id _ _ _=>[id]
 |.ptr id _=>[id]
 |_=>[]
def B6:PV->List Nat
 |.agg cs=>cs.flatMap Am
 |p=>Am p
def Bo:PV->List Nat
 |.tup ps=>ps.flatMap B6
 |p=>B6 p
def Pm (P:Program)(o:Op):Bool:=
 match o with
 |.load .. =>true
 |.convert _ dst _=>(match P.underlying dst with|some .string=>true|_=>false)
 |_=>false
def Ke (o:Op):Bool:=
 match o with
 |.call c=>(match c.callee with | .builtin .append=> !S0 c|_=>false)
 |_=>false
def Abt (ops:Array Oper)(x y:Oper):Bool:=
 (match x.dst with|some d=>(looks ops y).any (Nat.beq d)||(match y.dst with|some e=>Nat.beq d e|none=>false)|none=>false) ||
 (match y.dst with|some e=>(looks ops x).any (Nat.beq e)|none=>false)
def Nq (C:Fu)(P:Program)(x y:Oper):Bool:=(Nc C P x.op&&Gb P y.op)||(Nc C P y.op&&Gb P x.op)
def Hs (C:Fu)(P:Program)(x y:Oper):Bool:=(Nc C P x.op&&Pm P y.op)||(Nc C P y.op&&Pm P x.op)||(Ke x.op&&Ke y.op)
def Acq (C:Fu)(P:Program)(ops:Array Oper)(x y:Oper):Bool:=Abt ops x y||(Nq C P x y && !Hs C P x y)
def Tp (C:Fu)(P:Program)(ops:Array Oper)(bs:List Nat):List Oper->Nat->Bool
 |[],_=>true
 |o::r,i=>(ops.toList.zipIdx.all fun q=> !Nat.blt q.2 i || !Acq C P ops q.1 o||(bs.getD i 0).testBit q.2)&&Tp C P ops bs r (i+1)
def Z5 (C:Fu)(P:Program)(ops:Array Oper):Bool:=
 ops.toList.zipIdx.all (fun q=>q.1.after.toList.all fun e=> !Region.binds .any e||Nat.blt e.on q.2)&&Tp C P ops (Gx ops.toList []) ops.toList 0
def Jn (C:Fu)(P:Program)(s:St)(o:Oper):List Nat:=
 let l:=o.op.operands.toList.flatMap fun y=>Bo (Bv s.tm y)
 bif Nc C P o.op && !Ke o.op then l++l.flatMap (fun i=>match s.hp i with|some (.st c)=>c.flatMap Am|_=>[])
 else bif Pm P o.op||Ke o.op then l else []
def XF (a b:List Nat):Bool:=a.all fun i=> !b.any (Nat.beq i)
def Tr (C:Fu)(P:Program)(ops:Array Oper)(bs:List Nat)(i:Nat)(o:Oper):List Nat:=
 (ops.toList.zipIdx.filter fun q=>Hs C P q.1 o && !(Nat.blt q.2 i&&(bs.getD i 0).testBit q.2) && !(Nat.blt i q.2&&(bs.getD q.2 0).testBit i)).map (·.2)
def V2 (C:Fu)(P:Program)(ops:Array Oper)(bs:List Nat):List (List Nat):=ops.toList.zipIdx.map fun q=>Tr C P ops bs q.2 q.1
def Xf (C:Fu)(P:Program)(sm:List (List Nat)) (s:St)(i:Nat)(o:Oper):List Nat:=
 match sm.getD i [] with
 |[]=>[]
 |_::_=>Jn C P s o
def CU (C:Fu)(P:Program)(sm:List (List Nat)) (s:St)(i:Nat)(o:Oper)(q:Nat × Oper × List Nat):Bool:=
 !((sm.getD i []).any (Nat.beq q.1))||XF q.2.2 (Xf C P sm s i o)
def Gl {R:Type}(C:Fu)(P:Program)(N:Nat)(call:Ax)(ops:Array Oper)(sm:List (List Nat)):List (Nat × Oper × List Nat)->List Nat->St->(St->Option R)->Option R
 |_,[],s,K=>K s
 |dn,i::l,s,K=>Dk ops[i]? fun o=>Bi (dn.all (CU C P sm s i o)&&(Xf C P sm s i o).all (fun k=>(s.hp k).isSome)) (Da C P N call ops o s fun s'=>Gl C P N call ops sm ((i,o,Xf C P sm s i o)::dn) l s' K)
def Acj (m i:Nat):Nat:=m ||| 2 ^ i
def A3u (m i:Nat):Nat:=bif m.testBit i then m ^^^ 2 ^ i else m
def TA (ops:Array Oper):List Oper->Nat->Nat
 |[],m=>m
 |o::r,m=>
  let m1:=TA ops r m
  let m2:=match o.dst with|some d=>A3u m1 d|none=>m1
  (looks ops o).foldl Acj m2
def K4:Code->Nat->(Nat->Nat)->Nat->Nat
 |.skip,ln,_,_=>ln
 |.region _ ops _,ln,_,_=>TA ops ops.toList ln
 |.seq a b,ln,lx,lr=>K4 a (K4 b ln lx lr) lx lr
 |.cond c a b,ln,lx,lr=>let m:=K4 a ln lx lr ||| K4 b ln lx lr;match c with | .tmp d=>Acj m d|_=>m
 |.block id c,ln,lx,lr=>K4 c ln (fun j=>bif Nat.beq j id then ln else lx j) lr
 |.loop c,_,lx,lr=>K4 c (K4 c 0 lx lr) lx lr
 |.exit id,_,lx,_=>lx id
 |.ret,_,_,lr=>lr
 |_,_,_,_=>0
def LW (ops:List Oper):List Nat:=(ops.filterMap fun o=>o.guard.map (·.1)).eraseDups
def Ka:Code->Nat
 |.region _ _ _=>1
 |.seq a b=>Ka a+Ka b
 |.cond _ a b=>Ka a+Ka b
 |.block _ c=>Ka c
 |.loop c=>Ka c
 |_=>0
def Uf:Code->Nat
 |.skip=>1
 |.region _ ops _=>2 ^ min 6 (LW ops.toList).length
 |.seq a b=>bif (Nat.ble 7 (Uf a)&&Nat.ble 6 (Ka b))||(Nat.ble 5 (Uf a)&&Nat.ble 9 (Ka b)) then Uf b else min 1000 (Uf a*Uf b)
 |.cond _ a b=>Uf a+Uf b
 |.block _ c=>Uf c
 |.loop _=>1
 |.exit _=>1
 |_=>0
def Ahz (P:Program)(o:Oper):Bool:=
 match o.op with
 |.load t _=>Pp P t&&Nat.ble 8 (A7 P t)
 |.store t _ _=>Pp P t&&Nat.ble 8 (A7 P t)
 |_=>false
def LB (P:Program):Code->Bool
 |.region _ ops _=>ops.toList.any (Ahz P)
 |.seq a _=>LB P a
 |_=>false
def SB (P:Program):Code->Bool
 |.region _ ops _=>ops.toList.any (Ahz P)
 |.seq _ b=>SB P b
 |_=>false
def Aq0:Code->Nat
 |.seq a b=>match b with
  |.ret=>(match a with | .region _ ops _=>(LW ops.toList).length|_=>0)
  |_=>Aq0 b
 |_=>0
def Ab0 (x y:Code):Bool:=(Nat.beq (Uf x) 1&&Nat.beq (Aq0 y) 11)||(Nat.beq (Uf x) 4&&Nat.beq (Ka x) 7&&(Nat.beq (Ka y) 3||Nat.beq (Ka y) 1))||(Nat.beq (Uf x) 9&&Nat.beq (Ka x) 5&&Nat.beq (Ka y) 5)
def Xl (a b:Code):Bool:=Ab0 a b||(match b with | .seq x y=>Ab0 x y|_=>false)
def Aae (P:Program)(a b:Code):Bool:=(Nat.ble 7 (Uf a)&&Nat.ble 6 (Ka b))||(Nat.ble 5 (Uf a)&&Nat.ble 9 (Ka b))||Xl a b||LB P b||SB P a
def I8 (m:Nat):Nat->List Nat
 |0=>[]
 |n+1=>I8 m n++(bif m.testBit n then [n] else [])
def lk (l:List (Nat × PV)) (i:Nat):PV:=
 match l with
 |[]=>.top
 |(j,p)::r=>bif Nat.beq i j then p else lk r i
def Jl (l:List (Nat × Bk)) (i:Nat):Option Bk:=
 match l with
 |[]=>none
 |(j,b)::r=>bif Nat.beq i j then some b else Jl r i
def Qu (l:List (Nat × Nat)) (i:Nat):Option Nat:=
 match l with
 |[]=>none
 |(j,b)::r=>bif Nat.beq i j then some b else Qu r i
def Xo (N:Nat)(s:St)(i:Nat):St:=
 match s.tm i with
 |.lst true es 0 []=>
  bif (s.hp i).isNone then ⟨Cg s.tm i (.view i es 0 0),Cg s.hp i (some (.ar false []))⟩
  else bif (s.hp (i+N*3000)).isNone then ⟨Cg s.tm i (.view (i+N*3000) es 0 0),Cg s.hp (i+N*3000) (some (.ar false []))⟩
  else s
 |_=>s
def JK (N:Nat)(id:Nat)(s:St)(j:Nat):St:=
 match s.hp id with
 |some (.st c)=>
  match c[j]? with
  |some (.lst true es 0 [])=>bif (s.hp (id+N*(j+1))).isNone then ⟨s.tm,Cg (Cg s.hp id (some (.st (c.set j (.view (id+N*(j+1)) es 0 0))))) (id+N*(j+1)) (some (.ar false []))⟩ else s
  |_=>s
 |_=>s
def HP (N:Nat)(s:St)(i:Nat):St:=
 match s.tm i with
 |.ptr id _=>
  match s.hp id with
  |some (.st c)=>(List.range c.length).foldl (JK N id) s
  |_=>s
 |_=>s
def EA (m:List (Nat × Nat)) (old new:Nat):List (Nat × Nat):=
 match Qu m old with
 |some _=>m
 |none=>m++[(old,new)]
def Nw (N new:Nat):List PV->Nat->List (Nat × Nat)->List (Nat × Nat)
 |[],_,m=>m
 |.view id _ _ _::r,j,m=>Nw N new r (j+1) (EA m id (new+N*(j+1)))
 |_::r,j,m=>Nw N new r (j+1) m
def Xg (N:Nat)(s:St)(m:List (Nat × Nat)) (i:Nat):List (Nat × Nat):=
 match s.tm i with
 |.view id _ _ _=>EA m id i
 |.ptr id _=>
  match Qu m id with
  |some _=>m
  |none=>
   match s.hp id with
   |some (.st c)=>Nw N i c 0 (EA m id i)
   |_=>EA m id i
 |.agg c=>Nw N i c 0 m
 |_=>m
def QL (m:List (Nat × Nat)):PV->PV
 |.view id es off n=>match Qu m id with|some j=>.view j es off n|none=>.top
 |.ptr id off=>match Qu m id with|some j=>.ptr j off|none=>.top
 |.sc v=>.sc v
 |.lst z es n c=>.lst z es n c
 |.iptr c off=>.iptr c off
 |_=>.top
def XM (m:List (Nat × Nat)):PV->PV
 |.agg c=>.agg (c.map (QL m))
 |p=>QL m p
def Af2 (m:List (Nat × Nat)):Bk->Bk
 |.st c=>.st (c.map (QL m))
 |b=>b
def C4 (N i:Nat):Nat:=i+N*2000
def LE (N:Nat)(hp:Nat->Option Bk):Nat->List (Nat × Nat)
 |0=>[]
 |i+1=>bif (hp (C4 N i)).isSome then LE N hp i++[(C4 N i,C4 N i)] else LE N hp i
def Pg (N:Nat)(hp:Nat->Option Bk):Nat->List (Nat × Nat)->List (Nat × Nat)
 |0,m=>m
 |i+1,m=>
  match hp (C4 N i) with
  |some (.st c)=>Nw N (C4 N i) c 0 (Pg N hp i m)
  |_=>Pg N hp i m
def Aw0 (N:Nat)(hp:Nat->Option Bk)(k:Nat):List (Nat × Nat):=Pg N hp k (LE N hp k)
def Jq (m:List (Nat × Nat)) (hp:Nat->Option Bk):List (Nat × Nat)->List (Nat × Bk)
 |[]=>[]
 |(old,new)::r=>match hp old with
  |some b=>(new,Af2 m b)::Jq m hp r
  |none=>Jq m hp r
section
variable {R:Type}
def SO (N:Nat)(ls:List Nat)(q:Bool)(s:St)(K:St->Option R):Option R:=
 let s2:=bif q then s else ls.foldl (HP N) (ls.foldl (Xo N) s)
 let m:=ls.foldl (Xg N s2) (Aw0 N s2.hp 8)
 Bi (Dq (m.map (·.1))&&Dq (m.map (·.2))) (K ⟨lk (ls.map fun i=>(i,XM m (s2.tm i))),Jl (Jq m s2.hp m)⟩)
def Tw (N L:Nat)(s:St)(K:St->Option R):Option R:=SO N (I8 L N) false s K
def SG (N L:Nat)(s:St)(K:St->Option R):Option R:=SO N (I8 L N) true s K
def Aaa (F:(St->Option R)->St->Option R) (nm:St->(St->Option R)->Option R):Nat->St->Option R
 |0,_=>none
 |n+1,s=>F (fun s'=>nm s' (Aaa F nm n)) s
def Zj (n:Nat)(F:St->Option R)(s:St):Option R:=
 match n with
 |0=>none
 |_+1=>F s
noncomputable def ZW (s:St)(c:Operand)(kt kf:St->Option R):Option R:=
 match c with
 |.tmp d=>
  match s.tm d with
  |.sc (.bool b)=>Bh b (kt ⟨Cg s.tm d (.sc (.bool true)),s.hp⟩) (kf ⟨Cg s.tm d (.sc (.bool false)),s.hp⟩)
  |.ub=>FO (kt s) (kf s)
  |_=>none
 |.const (.bool true)=>kt s
 |.const (.bool false)=>kf s
 |_=>none
noncomputable def Ly (C:Fu)(P:Program)(fu N:Nat)(call:Ax):Code->Nat->(Nat->Nat)->Nat->(St->Option R)->(Nat->St->Option R)->(St->Option R)->St->Option R
 |.skip,_,_,_,kn,_,_,s=>kn s
 |.region _ ops draw,_,_,_,kn,_,_,s=>KN (draw && !DO C P ops) (Bi (Z5 C P ops) (Ahw (V2 C P ops (Gx ops.toList [])) fun sm=>Gl C P N call ops sm [] (List.range ops.size) s kn)) (KN draw (J9 C P N call ops ops.toList s kn) (GM C P N call ops ops.toList s kn))
 |.seq a b,ln,lx,lr,kn,kx,kr,s=>Ly C P fu N call a (K4 b ln lx lr) lx lr (fun s'=>KN (Aae P a b) (KN (Xl a b) (SG N (K4 b ln lx lr) s' (Zj fu fun s''=>Ly C P fu N call b ln lx lr kn kx kr s'')) (Tw N (K4 b ln lx lr) s' (Zj fu fun s''=>Ly C P fu N call b ln lx lr kn kx kr s''))) (Ly C P fu N call b ln lx lr kn kx kr s')) kx kr s
 |.cond c a b,ln,lx,lr,kn,kx,kr,s=>ZW s c (Ly C P fu N call a ln lx lr kn kx kr) (Ly C P fu N call b ln lx lr kn kx kr)
 |.block id c,ln,lx,lr,kn,kx,kr,s=>Ly C P fu N call c ln (fun j=>bif Nat.beq j id then ln else lx j) lr kn (fun j s'=>bif Nat.beq j id then kn s' else kx j s') kr s
 |.loop c,ln,lx,lr,_,kx,kr,s=>
  Tw N (K4 (.loop c) ln lx lr) s (Aaa (fun k s'=>Ly C P fu N call c (K4 (.loop c) ln lx lr) lx lr k kx kr s') (Tw N (K4 (.loop c) ln lx lr)) fu)
 |.exit id,_,_,_,_,kx,_,s=>kx id s
 |.ret,_,_,_,_,_,kr,s=>kr s
 |_,_,_,_,_,_,_,_=>none
def Aax (id:Nat)(t:CT)(p:PV)(K:PV->List (Nat × Bk)->Option R):Option R:=
 match t with
 |.sl es=>
  match p with
  |.own es' n c=>bif Nat.beq es' es then K (.view id es 0 n) [(id,.ar false c)] else none
  |p=>R8 es p fun z n c=>K (.lst z es n c) []
 |t=>Uh t p fun c=>K c []
def V7 (N:Nat):Nat->List CT->List PV->(List PV->List (Nat × Bk)->Option R)->Option R
 |_,[],ps,K=>Ad ps (K [] [])
 |id,t::ts,ps,K=>Aa ps fun p ps=>Aax id t p fun c b=>V7 N (id+N) ts ps fun cs bs=>K (c::cs) (b++bs)
def inK (P:Program)(N i:Nat)(t:TypeId)(p:PV)(K:PV->List (Nat × Bk)->Option R):Option R:=
 match Sz P t with
 |some e=>Sy p fun ps=>Bi (Nat.blt i 8) (V7 N (C4 N i+N) (Gr P e) ps fun cs bs=>K (.ptr (C4 N i) 0) ((C4 N i,.st cs)::bs))
 |none=>
  match p with
  |.tup ps=>Dk (Apl P t) fun e=>Bi (Nat.blt i 8) (Aa ps fun q r=>Ad r (OC (A7 P e) q fun n c=>K (.view (C4 N i) (A7 P e) 0 n) [(C4 N i,.ar false c)]))
  |p=>
   bif B0 P t then Fo p fun ps=>V7 N (i+N) (Gr P t) ps fun cs bs=>K (.agg cs) bs
   else V7 N (i+N) (Gr P t) [p] fun cs bs=>Aa cs fun c r=>Ad r (K c bs)
def Aad (P:Program)(N:Nat):Nat->List TypeId->List PV->(List (Nat × PV)->List (Nat × Bk)->Option R)->Option R
 |_,[],ps,K=>Ad ps (K [] [])
 |i,t::ts,ps,K=>Aa ps fun p ps=>inK P N i t p fun v bs=>Aad P N (i+1) ts ps fun vs bs'=>K ((i,v)::vs) (bs++bs')
def Agp (hp:Nat->Option Bk)(t:CT)(p:PV)(K:PV->List Nat->List Nat->Option R):Option R:=
  match t with
  |.sl es=>
    match p with
    |.view id es' off n=>bif Nat.beq es' es&&Nat.beq off 0 then
        (match hp id with
         |some (.ar false c)=>Bi (decide (n*es<=c.length)) (K (.own es n (c.take (n*es))) [id] [])
         |_=>none) else none
    |p=>R8 es p fun z _ _=>Bi z (K (.own es 0 []) [] [])
  |t=>Uh t p fun c=>K c [] []
def TG (shr:Bool)(hp:Nat->Option Bk)(t:CT)(p:PV)(K:PV->List Nat->List Nat->Option R):Option R:=
 bif shr then K9 (Hl hp) t p fun c m=>K c [] m else Agp hp t p K
def Vm (shr:Bool)(hp:Nat->Option Bk):List CT->List PV->(List PV->List Nat->List Nat->Option R)->Option R
 |[],[],K=>K [] [] []
 |t::ts,p::ps,K=>TG shr hp t p fun c m z=>Vm shr hp ts ps fun cs ms zs=>K (c::cs) (m++ms) (z++zs)
 |_,_,_=>none
def Aak (P:Program)(shr:Bool)(hp:Nat->Option Bk)(t:TypeId)(p:PV)(K:PV->List Nat->List Nat->Option R):Option R:=
 match Sz P t with
 |some e=>
  match p with
  |.ptr id off=>
   match hp id with
   |some (.st c)=>Bi (Nat.beq off 0) (Vm shr hp (Gr P e) c fun cs m z=>K (.pbox cs) (id::m) z)
   |_=>none
  |_=>none
 |none=>
  bif B0 P t then Fo p fun ps=>Vm shr hp (Gr P t) ps fun cs m z=>K (.agg cs) m z
  else Vm shr hp (Gr P t) [p] fun cs m z=>Aa cs fun c r=>Ad r (K c m z)
def ZP (P:Program)(s:St)(r:ResultVar)(K:PV->Option R):Option R:=
 match r with
 |.tmp t=>K (s.tm t)
 |.cell a t=>Sn false P (rd s.hp) (Hl s.hp) t (s.tm a) K
def GH (P:Program)(shr:Bool)(s:St):List ResultVar->List TypeId->(List PV->List Nat->List Nat->Option R)->Option R
 |[],[],K=>K [] [] []
 |r::rs,t::ts,K=>ZP P s r fun p=>Aak P shr s.hp t p fun v m z=>GH P shr s rs ts fun vs ms zs=>K (v::vs) (m++ms) (z++zs)
 |_,_,_=>none
def Xq (hp:Nat->Option Bk):List CT->List PV->List PV->(List PV->List Nat->List Nat->Option R)->Option R
 |[],[],[],K=>K [] [] []
 |t::ts,w::ws,p::ps,K=>TG (match w with | .own _ _ _=>false|_=>true) hp t p fun c m z=>Xq hp ts ws ps fun cs ms zs=>K (c::cs) (m++ms) (z++zs)
 |_,_,_,_=>none
def Vf (P:Program)(N:Nat)(hp:Nat->Option Bk):Nat->List TypeId->List PV->(List (List PV)->List Nat->List Nat->List Nat->Option R)->Option R
 |_,[],ps,K=>Ad ps (K [] [] [] [])
 |i,t::ts,ps,K=>Aa ps fun p ps=>
  match p with
  |.pbox ws=>Dk (Sz P t) fun e=>
    match hp (C4 N i) with
    |some (.st c)=>Xq hp (Gr P e) ws c fun cs m z=>Vf P N hp (i+1) ts ps fun r m' z' q=>K (cs::r) (m++m') (z++z') (C4 N i::q)
    |_=>none
  |.tup _=>
    match hp (C4 N i) with
    |some (.ar false c)=>Vf P N hp (i+1) ts ps fun r m' z' q=>K (c::r) m' z' (C4 N i::q)
    |_=>none
  |_=>Vf P N hp (i+1) ts ps K
def SM (rs:List ResultVar):Nat:=rs.foldl (fun m r=>match r with | .tmp t=>Acj m t | .cell a _=>Acj m a) 0
end
def Xy (P:Program):Nat->List TypeId->Nat->Nat
 |_,[],m=>m
 |i,t::ts,m=>Xy P (i+1) ts (match P.underlying t with|some (.pointer _)=>Acj m i|_=>m)
def VF (C:Fu)(P:Program)(f:FuncId)(fn:Func)(args:List PV)(s:St):Option Ay:=
 GH P (C.shr f) s fn.results.toList fn.resultTypes.toList fun vs m z=>Vf P fn.ntmps s.hp 0 fn.params.toList args fun os m' z' q=>
  Bi (Dq ((m++m')++q)&&(z++z').all (fun i=> !(((m++m')++q).any (Nat.beq i)))) (some ⟨vs,os⟩)
noncomputable def Aif (C:Fu)(P:Program)(fu:Nat)(call:Ax)(f:FuncId)(fn:Func)(c:Code)(args:List PV):Option Ay:=
  Aad P fn.ntmps 0 fn.params.toList args fun tms bs=>Bi (Nat.ble args.length fn.ntmps&&Bn (fun _=>none) bs)
    (let lr:=Xy P 0 fn.params.toList (SM fn.results.toList)
     Ly C P fu fn.ntmps call c lr (fun _=>0) lr (VF C P f fn args) (fun _ _=>none) (VF C P f fn args) ⟨lk tms,Jl bs⟩)
noncomputable def Ae (C:Fu)(P:Program)(fu:Nat):Nat->FuncId->List PV->Option Ay
 |0,_,_=>none
 |d+1,f,args=>
  match C.ext f with
  |some g=>g args
  |none=>
   match P.funcs[f]? with
   |none=>none
   |some fn=>match fn.body with
    |none=>none
    |some c=>Aif C.core P fu (Ae C P fu d) f fn c args
inductive Dir where
 |l
 |r
 |i (m:Nat)
section
variable {R:Type}
noncomputable def R3 (C:Fu)(P:Program)(fu N:Nat)(call:Ax):List Dir->Code->Nat->(Nat->Nat)->Nat->(St->Option R)->(Nat->St->Option R)->(St->Option R)->Nat->St->Option R
 |[],.seq _ b,ln,lx,lr,kn,kx,kr,n,s=>Zj n (fun s''=>Ly C P fu N call b ln lx lr kn kx kr s'') s
 |[],.loop c,ln,lx,lr,_,kx,kr,n,s=>Aaa (fun k s'=>Ly C P fu N call c (K4 (.loop c) ln lx lr) lx lr k kx kr s') (Tw N (K4 (.loop c) ln lx lr)) n s
 |.l::p,.seq a b,ln,lx,lr,kn,kx,kr,n,s=>R3 C P fu N call p a (K4 b ln lx lr) lx lr (fun s'=>KN (Aae P a b) (KN (Xl a b) (SG N (K4 b ln lx lr) s' (Zj fu fun s''=>Ly C P fu N call b ln lx lr kn kx kr s'')) (Tw N (K4 b ln lx lr) s' (Zj fu fun s''=>Ly C P fu N call b ln lx lr kn kx kr s''))) (Ly C P fu N call b ln lx lr kn kx kr s')) kx kr n s
 |.r::p,.seq _ b,ln,lx,lr,kn,kx,kr,n,s=>R3 C P fu N call p b ln lx lr kn kx kr n s
 |.l::p,.cond _ a _,ln,lx,lr,kn,kx,kr,n,s=>R3 C P fu N call p a ln lx lr kn kx kr n s
 |.r::p,.cond _ _ b,ln,lx,lr,kn,kx,kr,n,s=>R3 C P fu N call p b ln lx lr kn kx kr n s
 |.l::p,.block id c,ln,lx,lr,kn,kx,kr,n,s=>R3 C P fu N call p c ln (fun j=>bif Nat.beq j id then ln else lx j) lr kn (fun j s'=>bif Nat.beq j id then kn s' else kx j s') kr n s
 |.i m::p,.loop c,ln,lx,lr,_,kx,kr,n,s=>
  R3 C P fu N call p c (K4 (.loop c) ln lx lr) lx lr
   (fun s'=>Tw N (K4 (.loop c) ln lx lr) s' (Aaa (fun k s'=>Ly C P fu N call c (K4 (.loop c) ln lx lr) lx lr k kx kr s') (Tw N (K4 (.loop c) ln lx lr)) m)) kx kr n s
 |_,_,_,_,_,_,_,_,_,_=>none
end
noncomputable def Iy (C:Fu)(P:Program)(fu:Nat)(call:Ax)(f:FuncId)(fn:Func)(c:Code)(args:List PV)(p:List Dir)(n:Nat)(s:St):Option Ay:=
 let lr:=Xy P 0 fn.params.toList (SM fn.results.toList)
 R3 C P fu fn.ntmps call p c lr (fun _=>0) lr (VF C P f fn args) (fun _ _=>none) (VF C P f fn args) n s
def Aei:List Nat:=[
 1000000]
def Ai8:List Nat:=[
 19,
 9,
 1000000]
def Amg:List Nat:=[
 1000000]
def Adk:List Nat:=[
 1000000]
def Ajg:List Nat:=[
 1000000]
def PE (args:List PV):Option Ay:=
 match args with
 |[.sc (.string s)]=>bif decide (s.size<=9223372036854775807) then some ⟨[.sc (.bool (Lib.validD s.data.toList))],[]⟩ else none
 |_=>none
def To:List Nat:=[
 93,
 77,
 87,
 67,
 90,
 88,
 105,
 114,
 115,
 71,
 72,
 70,
 52,
 36,
 94,
 73,
 53,
 37,
 61,
 60,
 1000000]
def Avc:List Nat:=[
 1000000]
def CB:Fu:=⟨fun f=>Ai8.any (Nat.beq f),fun f i=>Nat.beq i 0&&Ajg.any (Nat.beq f),fun f i=>(Nat.beq i 0&&Amg.any (Nat.beq f))||(Nat.beq i 2&&Adk.any (Nat.beq f)),fun f=>Aei.any (Nat.beq f),fun _=>none,fun N=>Avc.any (Nat.beq N)⟩
def CX (xs:FuncId->Option (List PV->Option Ay)):Fu:={ CB with ext:=fun f=>bif To.any (Nat.beq f) then none else xs f }
def F5 (f:Func):Code:=match f.body with|some c=>c|none=>.skip
section
variable {R:Type} {r:Option R}
theorem A3 {k:IntKind}{p:PV}{K:Int->Option R}{n:Int}(h:p=.sc (.int k n)) (hk:K n=r):Ak k p K=r:=by
 subst h;unfold Ak;simp[hk]
theorem Ax5 {p:PV}{K:IntKind->Int->Option R}{k:IntKind}{n:Int}(h:p=.sc (.int k n)) (hk:K k n=r):C8 p K=r:=by
 subst h;exact hk
theorem Au {p:PV}{K:Bool->Option R}{b:Bool}(h:p=.sc (.bool b)) (hk:K b=r):Aq p K=r:=by
 subst h;exact hk
theorem A4 {p:PV}{K:ByteArray->Option R}{s:ByteArray}(h:p=.sc (.string s)) (hk:K s=r):Az p K=r:=by
 subst h;exact hk
theorem A6o {es:Nat}{p:PV}{K:Bool->Nat->List PV->Option R}{z:Bool}{n:Nat}{c:List PV}(h:p=.lst z es n c)(hk:K z n c=r):R8 es p K=r:=by
 subst h;unfold R8;simp[Nat.beq_refl,hk]
theorem A40 {es:Nat}{p:PV}{K:Nat->List PV->Option R}{n:Nat}{c:List PV}(h:p=.own es n c)(hk:K n c=r):OC es p K=r:=by
 subst h;unfold OC;simp[Nat.beq_refl,hk]
theorem A0 {b:Bool}{K:Option R}(h:b=true)(hk:K=r):Bi b K=r:=by
 subst h;exact hk
theorem A2 {b:Bool}{x y:Option R}(h:b=true)(hx:x=r):Bh b x y=r:=by
 subst h;exact hx
theorem A5 {b:Bool}{x y:Option R}(h:b=false)(hx:y=r):Bh b x y=r:=by
 subst h;exact hx
theorem Dr {α:Type}{o:Option α}{K:α->Option R}{a:α}(h:o=some a)(hk:K a=r):Dk o K=r:=by
 subst h;exact hk
theorem As {α:Type}{l:List α}{K:α->List α->Option R}{a:α}{t:List α}(h:l=a::t)(hk:K a t=r):Aa l K=r:=by
 subst h;exact hk
theorem A1 {α:Type}{l:List α}{K:Option R}(h:l=[]) (hk:K=r):Ad l K=r:=by
 subst h;exact hk
theorem I5 {p:PV}{K:List PV->Option R}{c:List PV}(h:p=.agg c)(hk:K c=r):Fo p K=r:=by
 subst h;exact hk
theorem As0 {p:PV}{K:List PV->Option R}{c:List PV}(h:p=.pbox c)(hk:K c=r):Sy p K=r:=by
 subst h;exact hk
theorem At {o:Option Ay}{K:List PV->List (List PV)->Option R} {v:List PV}{q:List (List PV)} (h:o=some ⟨v,q⟩)(hk:K v q=r):Ah o K=r:=by
 subst h;exact hk
end
theorem UK (a b:Int):(a==b)=decide (a=b):=by by_cases h:a=b<;>simp[h]
section
variable {R:Type}
theorem Xr (v:List PV)(o:List (List PV)) (K:List PV->List (List PV)->Option R):Ah (some ⟨v,o⟩) K=K v o:=by exact id rfl
theorem GY {α:Type}(K:Option R):Ad ([]:List α) K=K:=by exact id rfl
theorem Xu {α:Type}(a:α)(r:List α)(K:α->List α->Option R):Aa (a::r) K=K a r:=by exact id rfl
theorem Xm (b:Bool)(K:Bool->Option R):Aq (.sc (.bool b)) K=K b:=by exact id rfl
theorem FZ (s:ByteArray)(K:ByteArray->Option R):Az (.sc (.string s)) K=K s:=by exact id rfl
theorem HE (k:IntKind)(n:Int)(K:Int->Option R):Ak k (.sc (.int k n)) K=K n:=by unfold Ak;simp
theorem YO (k:IntKind)(n:Int)(K:IntKind->Int->Option R):C8 (.sc (.int k n)) K=K k n:=by exact id rfl
theorem Ag9 (z:Bool)(es n:Nat)(c:List PV)(K:Bool->Nat->List PV->Option R):R8 es (.lst z es n c) K=K z n c:=by unfold R8;simp
theorem Ahg (es n:Nat)(c:List PV)(K:Nat->List PV->Option R):OC es (.own es n c) K=K n c:=by unfold OC;simp
theorem Ab9 (c:List PV)(K:List PV->Option R):Fo (.agg c) K=K c:=by exact id rfl
theorem SY (c:List PV)(K:List PV->Option R):Sy (.pbox c) K=K c:=by exact id rfl
theorem Aau {α:Type}(a:α)(K:α->Option R):Dk (some a) K=K a:=by exact id rfl
theorem Mr {α:Type}(a:α)(K:α->Option R):Ab a K=K a:=by exact id rfl
theorem Abf (K:Option R):Bi true K=K:=by exact id rfl
theorem TI (p:Prop) [Decidable p] (K:Option R)(h:p):Bi (decide p) K=K:=by simp[Bi,h]
theorem TT (b c:Bool)(K:Option R):Bi (b&&c) K=Bi b (Bi c K):=by cases b<;>rfl
theorem JH (x y:Option R):Bh true x y=x:=by exact id rfl
theorem GD (x y:Option R):Bh false x y=y:=by exact id rfl
theorem Z7 (p:Prop) [Decidable p] (x y:Option R)(h:p):Bh (decide p) x y=x:=by simp[Bh,h]
theorem R6 (p:Prop) [Decidable p] (x y:Option R)(h:¬p):Bh (decide p) x y=y:=by simp[Bh,h]
theorem Am4 (p:Prop) [Decidable p] (x y:Option R):Bh (decide p) x y=if p then x else y:=by by_cases h:p<;>simp[Bh,h]
theorem RR (a b:Int)(x y:Option R):Bh (a==b) x y=if a=b then x else y:=by
 rw[UK,Am4]
theorem TK (x:Option R):FO x x=x:=by unfold FO;simp
end
theorem Bc {x:Int}(h1: -9223372036854775808<=x)(h2:x<=9223372036854775807):IntKind.wrap .i64 x=x:=by
 have:=IntWalk.i64_in x (by omega)
 exact this
theorem Ms {x:Int}(h1:0<=x)(h2:x<=18446744073709551615):IntKind.wrap .u64 x=x:=by
 simp only[IntKind.wrap,IntKind.signed,IntKind.bits];simp;omega
theorem Xn {x:Int}(h1:0<=x)(h2:x<=255):IntKind.wrap .u8 x=x:=by
 simp only[IntKind.wrap,IntKind.signed,IntKind.bits];simp;omega
theorem Qd {α:Type}{l r:List α}{x:α}{i:Nat}(h:l.drop i=x::r):i<l.length∧l[i]?=some x∧l.drop (i+1)=r:=by
 have h1:i<l.length:=by
  rcases Nat.lt_or_ge i l.length with h1|h1
  ·exact h1
  ·rw[List.drop_of_length_le h1] at h;cases h
 rw[List.drop_eq_getElem_cons h1] at h;injection h with h2 h3;exact⟨h1,by rw[List.getElem?_eq_getElem h1,h2],h3⟩
theorem drop_nil {α:Type}{l:List α}{i:Nat}(h:l.drop i=[]):l.length<=i:=by
 have:=congrArg List.length h;simp at this;omega
section
variable {α:Type} {f:α->List PV} {k:Nat}
theorem Aas (hf:∀x,(f x).length=k):∀(l:List α),(l.flatMap f).length=l.length*k
 |[]=>by simp
 |x::l=>by simp[hf x,Aas hf l,Nat.succ_mul];omega
theorem IG (hf:∀x,(f x).length=k):∀(l:List α)(i:Nat),(l.flatMap f).drop (i*k)=(l.drop i).flatMap f
 |l,0=>by simp
 |[],i+1=>by simp
 |x::l,i+1=>by
  rw[List.flatMap_cons,Nat.succ_mul,Nat.add_comm,←List.drop_drop,List.drop_append_of_le_length (by rw[hf x];omega)]
  rw[show (f x).drop k=[] from List.drop_of_length_le (by rw[hf x];omega),List.nil_append]
  exact IG hf l i
theorem TB (hf:∀x,(f x).length=k):∀(l:List α)(i:Nat),(l.flatMap f).take (i*k)=(l.take i).flatMap f
 |l,0=>by simp
 |[],i+1=>by simp
 |x::l,i+1=>by
  rw[List.flatMap_cons,Nat.succ_mul,Nat.add_comm,List.take_succ_cons,List.flatMap_cons,←TB hf l i];rw[show k+i*k=(f x).length+i*k by rw[hf x],List.take_length_add_append]
theorem Apn (hf:∀x,(f x).length=k) {l:List α}{i:Nat}{x:α}(h:l[i]?=some x) {j:Nat}(hj:j<k):(l.flatMap f).getD (i*k+j) .top=(f x).getD j .top:=by
 have h1:((l.flatMap f).drop (i*k))[j]?=(l.flatMap f)[i*k+j]?:=List.getElem?_drop;rw[IG hf] at h1
 have h2:i<l.length:=by
  rcases Nat.lt_or_ge i l.length with h1|h1
  ·exact h1
  ·rw[List.getElem?_eq_none h1] at h;cases h
 rw[List.drop_eq_getElem_cons h2,List.flatMap_cons] at h1;have h3:l[i]=x:=by rw[List.getElem?_eq_getElem h2] at h;injection h
 rw[h3,List.getElem?_append_left (by rw[hf x];exact hj)] at h1
 simp only[List.getD_eq_getElem?_getD,←h1]
theorem Ym {c:List PV}{p:PV}{i:Nat}(h:i<c.length):B8 c [p] i=c.set i p:=by
 unfold B8;rw[List.set_eq_take_append_cons_drop,if_pos h];simp
end
abbrev Ap2 (k:IntKind)(n:Int):List PV:=[.sc (.int k n)]
abbrev Dw (k:IntKind)(l:List Int):List PV:=l.flatMap (Ap2 k)
theorem Sq (k:IntKind)(n:Int):(Ap2 k n).length=1:=rfl
theorem ati {k:IntKind}{l:List Int}{i:Nat}{n:Int}(h:l[i]?=some n):(Dw k l).getD i .top=.sc (.int k n):=by
 have:=Apn (Sq k) h (j:=0) (by omega)
 simpa using this
theorem Kn (k:IntKind)(l:List Int):(Dw k l).length=l.length:=by rw[Aas (Sq k)];omega
theorem Ek:type_of% @Xr∧type_of% @GY∧type_of% @Xu∧type_of% @Xm∧type_of% @FZ∧type_of% @HE∧type_of% @YO∧type_of% @Ag9∧type_of% @Ahg∧type_of% @Ab9∧type_of% @SY∧type_of% @Aau∧type_of% @Mr∧type_of% @Abf∧type_of% @TI∧type_of% @TT∧type_of% @JH∧type_of% @GD∧type_of% @Z7∧type_of% @R6∧type_of% @TK∧type_of% @Bool.not_true∧type_of% @Bool.not_false∧type_of% @Bool.false_eq_true∧type_of% @if_true.{1}∧type_of% @if_false.{1}∧type_of% @Bool.true_and∧type_of% @Bool.and_true∧type_of% @Bool.false_and∧type_of% @Bool.and_false∧type_of% @decide_true∧type_of% @decide_false:=
 ⟨@Xr,@GY,@Xu,@Xm,@FZ,@HE,@YO,@Ag9,@Ahg,@Ab9,@SY,@Aau,@Mr,@Abf,@TI,@TT,@JH,@GD,@Z7,@R6,@TK,@Bool.not_true,@Bool.not_false,@Bool.false_eq_true,@if_true.{1},@if_false.{1},@Bool.true_and,@Bool.and_true,@Bool.false_and,@Bool.and_false,@decide_true,@decide_false⟩
theorem gT:type_of% @Bool.and_eq_true∧type_of% @decide_eq_true_eq∧type_of% @beq_iff_eq.{0}∧type_of% @bne_iff_ne.{0}∧type_of% @ne_eq.{1}∧type_of% @Bool.not_eq_true'∧type_of% @true_and∧type_of% @and_true:=
 ⟨@Bool.and_eq_true,@decide_eq_true_eq,@beq_iff_eq.{0},@bne_iff_ne.{0},@ne_eq.{1},@Bool.not_eq_true',@true_and,@and_true⟩
theorem gF:type_of% @decide_eq_false_iff_not∧type_of% @beq_eq_false_iff_ne.{0}∧type_of% @bne_eq_false_iff_eq.{0}∧type_of% @ne_eq.{1}∧type_of% @Bool.not_eq_false':=
 ⟨@decide_eq_false_iff_not,@beq_eq_false_iff_ne.{0},@bne_eq_false_iff_eq.{0},@ne_eq.{1},@Bool.not_eq_false'⟩
end
section
open Go.RowKit
def Bb {α β:Type}(R:α->β->Prop):List α->List β->Prop
 |[],[]=>True
 |a::zs,b::bs=>R a b∧Bb R zs bs
 |_,_=>False
section
variable {α β γ:Type} {R S:α->β->Prop}
theorem Bb.len:∀{zs:List α}{bs:List β},Bb R zs bs->zs.length=bs.length
 |[],[],_=>rfl
 |_::_,_::_,h=>by simp[Bb.len h.2]
 |[],_::_,h=>h.elim
 |_::_,[],h=>h.elim
theorem Bb.at_:∀{zs:List α}{bs:List β},Bb R zs bs->∀{i:Nat} {a b},zs[i]?=some a->bs[i]?=some b->R a b
 |[],[],_,i,a,b,h,_=>by simp at h
 |_::_,_::_,h,0,a,b,ha,hb=>by simp at ha hb;subst ha;subst hb;exact h.1
 |_::_,_::_,h,i+1,a,b,ha,hb=>by simp at ha hb;exact Bb.at_ h.2 ha hb
 |[],_::_,h,_,_,_,_,_=>h.elim
 |_::_,[],h,_,_,_,_,_=>h.elim
theorem Bb.of_at:∀{zs:List α}{bs:List β},zs.length=bs.length->(∀(i:Nat) a b,zs[i]?=some a->bs[i]?=some b->R a b)->Bb R zs bs
 |[],[],_,_=>trivial
 |a::zs,b::bs,hl,h=>⟨h 0 a b rfl rfl,Bb.of_at (by simpa using hl) fun i x y hx hy=>h (i+1) x y hx hy⟩
 |[],_::_,hl,_=>by simp at hl
 |_::_,[],hl,_=>by simp at hl
theorem Bb.mono (hRS:∀a b,R a b->S a b):∀{zs:List α}{bs:List β},Bb R zs bs->Bb S zs bs
 |[],[],_=>trivial
 |_::_,_::_,h=>⟨hRS _ _ h.1,Bb.mono hRS h.2⟩
 |[],_::_,h=>h.elim
 |_::_,[],h=>h.elim
theorem Bb.mono_mem:∀{zs:List α}{bs:List β},(∀a∈zs,∀b,R a b->S a b)->Bb R zs bs->Bb S zs bs
 |[],[],_,_=>trivial
 |a::_,_::_,hRS,h=>⟨hRS a (by simp) _ h.1,Bb.mono_mem (fun x hx=>hRS x (by simp[hx])) h.2⟩
 |[],_::_,_,h=>h.elim
 |_::_,[],_,h=>h.elim
theorem Bb.app:∀{zs:List α}{bs:List β}{as':List α}{bs':List β},Bb R zs bs->Bb R as' bs'->Bb R (zs++as') (bs++bs')
 |[],[],_,_,_,h'=>h'
 |_::_,_::_,_,_,h,h'=>⟨h.1,Bb.app h.2 h'⟩
 |[],_::_,_,_,h,_=>h.elim
 |_::_,[],_,_,h,_=>h.elim
theorem Bb.take:∀(n:Nat){zs:List α}{bs:List β},Bb R zs bs->Bb R (zs.take n) (bs.take n)
 |0,_,_,_=>by simp[Bb]
 |_+1,[],[],_=>trivial
 |n+1,_::_,_::_,h=>⟨h.1,Bb.take n h.2⟩
 |_+1,[],_::_,h=>h.elim
 |_+1,_::_,[],h=>h.elim
theorem Bb.drop:∀(n:Nat){zs:List α}{bs:List β},Bb R zs bs->Bb R (zs.drop n) (bs.drop n)
 |0,_,_,h=>h
 |_+1,[],[],_=>trivial
 |n+1,_::_,_::_,h=>Bb.drop n h.2
 |_+1,[],_::_,h=>h.elim
 |_+1,_::_,[],h=>h.elim
end
inductive Ar (w:World) (A:Nat->Prop):PV->Value->Prop where
 |sc (v:Value):Ar w A (.sc v) v
 |top (v:Value):Ar w A .top v
 |ub (b:Bool):Ar w A .ub (.bool b)
 |lnil (z:Bool) (es:Nat):Ar w A (.lst z es 0 []) (.slice none 0 0)
 |lemp (es:Nat) (a:Addr) (cap:Nat):Ar w A (.lst false es 0 []) (.slice (some a) 0 cap)
 |lst (es n:Nat) (cells:List PV) (a:Addr) (cap:Nat) (f:Nat->Value) (hs:a.spot=none) (hb:a.block<w.heap.size) (hA:¬A a.block) (hn:n<=cap)
   (hc:∀j c,cells[j]?=some c->w.cell? (a.add j)=some (f j)) (h1:∀j c,cells[j]?=some c->(f j).oneCell'=true) (hr:∀j c,cells[j]?=some c->Ar w A c (f j)):Ar w A (.lst false es n cells) (.slice (some a) n cap)
def bsz (w:World)(b:Nat):Nat:=
 match w.heap[b]? with
 |some (.cells c _ _)=>c.size
 |_=>0
def MC (w:World)(b:Nat):Bool:=w.frozen? ⟨b,bsz w b,none⟩
def Fit (w:World)(es b e:Nat):Prop:=e<=bsz w b∧(es=1∨MC w b=false)
def F1 (w w':World)(b:Nat):Prop:=bsz w b<=bsz w' b∧(MC w b=false->MC w' b=false)
theorem F1.refl (w:World)(b:Nat):F1 w w b:=⟨Nat.le_refl _,id⟩
theorem F1.same {w w':World}{b:Nat}(h:w'.heap[b]?=w.heap[b]?):F1 w w' b:=by
 have e:bsz w' b=bsz w b:=by unfold bsz;rw[h]
 refine⟨by rw[e];exact Nat.le_refl _,fun q=>?_⟩
 unfold MC at q ⊢;rw[e];unfold World.frozen? at q ⊢;simp only[h];exact q
theorem F1.trans {w w' w'':World}{b:Nat}(h:F1 w w' b)(h':F1 w' w'' b):F1 w w'' b:=⟨Nat.le_trans h.1 h'.1,fun q=>h'.2 (h.2 q)⟩
theorem Fit.step {w w':World}{es b e:Nat}(h:Fit w es b e)(hb:F1 w w' b):Fit w' es b e:=⟨Nat.le_trans h.1 hb.1,h.2.imp id hb.2⟩
def NT (w:World)(A:Nat->Prop)(a:Addr)(cells:List PV):Prop:=∀j c,cells[j]?=some c->∃v,w.cell? (a.add j)=some v∧v.oneCell'=true∧Ar w A c v
def Bu (w:World)(A:Nat->Prop)(β:Nat->Option (Nat × Nat)) (p:PV)(v:Value):Prop:=
 match p with
 |.view id es off n=>(β id=none∧off=0∧n=0∧∃ad,v=.slice ad 0 0) ∨
   ∃b o x cap,β id=some (b,o)∧v=.slice (some ⟨b,x,none⟩) n cap∧(x=o+off∨(n=0∧off≠0))∧n<=cap∧Fit w es b (x+cap*es)∧b<w.heap.size
 |.ptr id off=>∃b o,β id=some (b,o)∧v=.pointer (some ⟨b,o+off,none⟩)
 |.iptr c off=>∃a:Addr,v=.pointer (some (a.add off))∧a.spot=none∧a.block<w.heap.size∧¬A a.block∧NT w A a c
 |p=>Ar w A p v
def Gk (w:World)(A:Nat->Prop)(β:Nat->Option (Nat × Nat)) (p:PV)(v:Value):Prop:=
 match p with
 |.agg cs=>∃vs,v=.agg ⟨vs⟩∧Bb (Bu w A β) cs vs
 |p=>Bu w A β p v
def Dx (w:World)(A:Nat->Prop)(β:Nat->Option (Nat × Nat)) (p:PV)(v:Value):Prop:=
 match p with
 |.tup ps=>∃vs,v=.tuple ⟨vs⟩∧Bb (Gk w A β) ps vs
 |p=>Gk w A β p v
structure B2 (A:Nat->Prop) (w w':World):Prop where
 size:w.heap.size<=w'.heap.size
 keep:∀b,b<w.heap.size->¬A b->w'.heap[b]?=w.heap[b]?
 bs:∀b,b<w.heap.size->F1 w w' b
theorem Eb (a:Addr)(j:Nat):(a.add j).block=a.block:=by unfold Addr.add;split<;>rfl
theorem add_add (a:Addr)(i j:Nat):(a.add i).add j=a.add (i+j):=by
 unfold Addr.add;by_cases hi:i=0<;>by_cases hj:j=0<;>simp[hi,hj,Nat.add_assoc]
theorem D4 (b o j:Nat):(⟨b,o,none⟩:Addr).add j=⟨b,o+j,none⟩:=by
 unfold Addr.add;by_cases hj:j=0<;>simp[hj]
theorem Aan {a:Addr}(h:a.spot=none)(j:Nat):(a.add j).spot=none:=by unfold Addr.add;split<;>simp[h]
section
variable {w w':World} {A A':Nat->Prop} {β β':Nat->Option (Nat × Nat)}
theorem B2.cell (h:B2 A w w'){a:Addr}(hb:a.block<w.heap.size)(hA:¬A a.block):w'.cell? a=w.cell? a:=
 World.cell?_of_block (h.keep a.block hb hA)
theorem Ar.step (h:B2 A w w')(hA:∀b,b<w.heap.size->A' b->A b){p:PV}{v:Value}(t:Ar w A p v):Ar w' A' p v:=by
 induction t with
 |sc v=>exact .sc v
 |top v=>exact .top v
 |ub b=>exact .ub b
 |lnil z es=>exact .lnil z es
 |lemp es a cap=>exact .lemp es a cap
 |lst es n cells a cap f hs hb hA1 hn hc h1 hr ih=>
  refine .lst es n cells a cap f hs (Nat.lt_of_lt_of_le hb h.size) (fun x=>hA1 (hA _ hb x)) hn (fun j c hj=>?_) h1 (fun j c hj=>ih j c hj)
  rw[h.cell (by rw[Eb];exact hb) (by rw[Eb];exact hA1)]
  exact hc j c hj
theorem NT.step (h:B2 A w w')(hA:∀b,b<w.heap.size->A' b->A b){a:Addr}(hb:a.block<w.heap.size)(hn:¬A a.block){cells:List PV}(t:NT w A a cells):NT w' A' a cells:=by
 intro j c hj;obtain⟨v,hv,h1,ht⟩:=t j c hj;exact⟨v,by rw[h.cell (by rw[Eb];exact hb) (by rw[Eb];exact hn)];exact hv,h1,ht.step h hA⟩
theorem Bu.step (h:B2 A w w')(hA:∀b,b<w.heap.size->A' b->A b){p:PV}{v:Value}(hβ:∀id∈Am p,β' id=β id)(t:Bu w A β p v):Bu w' A' β' p v:=by
 cases p with
 |view id es off n=>
  have e:=hβ id (by simp[Am])
  rcases t with⟨h1,h2,h3,h4⟩|⟨b,o,x,cap,h1,h2,hx,h3,h4,h5⟩
  ·exact .inl ⟨by rw[e];exact h1,h2,h3,h4⟩
  ·exact .inr ⟨b,o,x,cap,by rw[e];exact h1,h2,hx,h3,h4.step (h.bs b h5),Nat.lt_of_lt_of_le h5 h.size⟩
 |ptr id off=>
  have e:=hβ id (by simp[Am])
  obtain⟨b,o,h1,h2⟩:=t;exact⟨b,o,by rw[e];exact h1,h2⟩
 |iptr c off=>
  obtain⟨a,h1,h2,h3,h4,h5⟩:=t;exact⟨a,h1,h2,Nat.lt_of_lt_of_le h3 h.size,fun x=>h4 (hA _ h3 x),h5.step h hA h3 h4⟩
 |sc v=>exact Ar.step h hA t
 |lst z es n c=>exact Ar.step h hA t
 |own es n c=>exact Ar.step h hA t
 |pbox c=>exact Ar.step h hA t
 |agg c=>exact Ar.step h hA t
 |tup c=>exact Ar.step h hA t
 |top=>exact Ar.step h hA t
 |ub=>exact Ar.step h hA t
theorem Gk.step (h:B2 A w w')(hA:∀b,b<w.heap.size->A' b->A b){p:PV}{v:Value}(hβ:∀id∈B6 p,β' id=β id)(t:Gk w A β p v):Gk w' A' β' p v:=by
 cases p with
 |agg cs=>
  obtain⟨vs,rfl,h2⟩:=t;exact⟨vs,rfl,h2.mono_mem fun c hc v hv=>hv.step h hA fun id Bf=>hβ id (by simp only[B6,List.mem_flatMap];exact⟨c,hc,Bf⟩)⟩
 |sc x=>exact Bu.step (p:=.sc x) h hA hβ t
 |lst x y z u=>exact Bu.step (p:=.lst x y z u) h hA hβ t
 |own x y z=>exact Bu.step (p:=.own x y z) h hA hβ t
 |view x y z u=>exact Bu.step (p:=.view x y z u) h hA hβ t
 |ptr x y=>exact Bu.step (p:=.ptr x y) h hA hβ t
 |iptr x y=>exact Bu.step (p:=.iptr x y) h hA hβ t
 |pbox x=>exact Bu.step (p:=.pbox x) h hA hβ t
 |tup x=>exact Bu.step (p:=.tup x) h hA hβ t
 |top=>exact Bu.step (p:=.top) h hA hβ t
 |ub=>exact Bu.step (p:=.ub) h hA hβ t
theorem Dx.step (h:B2 A w w')(hA:∀b,b<w.heap.size->A' b->A b){p:PV}{v:Value}(hβ:∀id∈Bo p,β' id=β id)(t:Dx w A β p v):Dx w' A' β' p v:=by
 cases p with
 |tup cs=>
  obtain⟨vs,rfl,h2⟩:=t;exact⟨vs,rfl,h2.mono_mem fun c hc v hv=>hv.step h hA fun id Bf=>hβ id (by simp only[Bo,List.mem_flatMap];exact⟨c,hc,Bf⟩)⟩
 |sc x=>exact Gk.step (p:=.sc x) h hA hβ t
 |lst x y z u=>exact Gk.step (p:=.lst x y z u) h hA hβ t
 |own x y z=>exact Gk.step (p:=.own x y z) h hA hβ t
 |view x y z u=>exact Gk.step (p:=.view x y z u) h hA hβ t
 |ptr x y=>exact Gk.step (p:=.ptr x y) h hA hβ t
 |iptr x y=>exact Gk.step (p:=.iptr x y) h hA hβ t
 |pbox x=>exact Gk.step (p:=.pbox x) h hA hβ t
 |top=>exact Gk.step (p:=.top) h hA hβ t
 |ub=>exact Gk.step (p:=.ub) h hA hβ t
 |agg x=>exact Gk.step (p:=.agg x) h hA hβ t
theorem B2.refl (A:Nat->Prop)(w:World):B2 A w w:=⟨Nat.le_refl _,fun _ _ _=>rfl,fun _ _=>F1.refl _ _⟩
theorem NT.weak (hA:∀b,b<w.heap.size->A' b->A b){a:Addr}{cells:List PV}(t:NT w A a cells):NT w A' a cells:=by
 intro j c hj;obtain⟨v,hv,h1,ht⟩:=t j c hj;exact⟨v,hv,h1,ht.step (B2.refl A w) hA⟩
theorem B2.trans {w'':World}(h:B2 A w w')(h':B2 A' w' w'')(hA:∀b,b<w.heap.size->A' b->A b):B2 A w w'':=
  ⟨Nat.le_trans h.size h'.size,fun b hb hn=>(h'.keep b (Nat.lt_of_lt_of_le hb h.size) (fun x=>hn (hA b hb x))).trans (h.keep b hb hn),
   fun b hb=>(h.bs b hb).trans (h'.bs b (Nat.lt_of_lt_of_le hb h.size))⟩
theorem B2.weaken (h:B2 A w w')(hA:∀b,b<w.heap.size->A b->A' b):B2 A' w w':=⟨h.size,fun b hb hn=>h.keep b hb (fun x=>hn (hA b hb x)),h.bs⟩
end
section
variable {R:Type} {r:R}
theorem Dv {k:IntKind}{p:PV}{K:Int->Option R}(h:Ak k p K=some r):∃n,p=.sc (.int k n)∧K n=some r:=by
 unfold Ak at h;split at h
 ·split at h
  ·rename_i hk;subst hk;exact⟨_,rfl,h⟩
  ·cases h
 ·cases h
theorem Dd {p:PV}{K:Bool->Option R}(h:Aq p K=some r):∃b,p=.sc (.bool b)∧K b=some r:=by
 unfold Aq at h;split at h
 ·exact⟨_,rfl,h⟩
 ·cases h
theorem C7 {p:PV}{K:ByteArray->Option R}(h:Az p K=some r):∃b,p=.sc (.string b)∧K b=some r:=by
 unfold Az at h;split at h
 ·exact⟨_,rfl,h⟩
 ·cases h
theorem C3 {p:PV}{K:IntKind->Int->Option R}(h:C8 p K=some r):∃k n,p=.sc (.int k n)∧K k n=some r:=by
 unfold C8 at h;split at h
 ·exact⟨_,_,rfl,h⟩
 ·cases h
theorem Aj {b:Bool}{K:Option R}(h:Bi b K=some r):b=true∧K=some r:=by
 unfold Bi at h;cases b
 ·cases h
 ·exact⟨rfl,h⟩
theorem B3 {α:Type}{o:Option α}{K:α->Option R}(h:Dk o K=some r):∃a,o=some a∧K a=some r:=by
 unfold Dk at h;split at h
 ·exact⟨_,rfl,h⟩
 ·cases h
theorem A6 {α:Type}{l:List α}{K:α->List α->Option R}(h:Aa l K=some r):∃a t,l=a::t∧K a t=some r:=by
 unfold Aa at h;split at h
 ·exact⟨_,_,rfl,h⟩
 ·cases h
theorem C6 {α:Type}{l:List α}{K:Option R}(h:Ad l K=some r):l=[]∧K=some r:=by
 unfold Ad at h;split at h
 ·exact⟨rfl,h⟩
 ·cases h
theorem F2 {p:PV}{K:List PV->Option R}(h:Fo p K=some r):∃c,p=.agg c∧K c=some r:=by
 unfold Fo at h;split at h
 ·exact⟨_,rfl,h⟩
 ·cases h
theorem EW {p:PV}{K:List PV->Option R}(h:Sy p K=some r):∃c,p=.pbox c∧K c=some r:=by
 unfold Sy at h;split at h
 ·exact⟨_,rfl,h⟩
 ·cases h
theorem TE {p:PV}{K:Value->Option R}(h:WV p K=some r):∃v,p=.sc v∧v.oneCell'=true∧K v=some r:=by
 unfold WV at h;split at h
 ·exact⟨_,rfl,rfl,h⟩
 ·exact⟨_,rfl,rfl,h⟩
 ·cases h
theorem Aea {p:PV}{K:FuncId->Option R}(h:fvK p K=some r):∃f,p=.sc (.func (.func f) #[] #[])∧K f=some r:=by
 unfold fvK at h;split at h
 ·rename_i f a b;cases hb:(a.isEmpty&&b.isEmpty)<;>rw[hb] at h
  ·cases h
  ·simp only[Bool.and_eq_true,Array.isEmpty_iff] at hb;rw[hb.1,hb.2];exact⟨f,rfl,h⟩
 ·cases h
theorem DM {o:Option Ay}{K:List PV->List (List PV)->Option R} (h:Ah o K=some r):∃v x,o=some ⟨v,x⟩∧K v x=some r:=by
 unfold Ah at h;split at h
 ·exact⟨_,_,rfl,h⟩
 ·cases h
theorem Jv {b:Bool}{x y:Option R}(h:Bh b x y=some r):(b=true∧x=some r)∨(b=false∧y=some r):=by
 unfold Bh at h;cases b
 ·exact .inr ⟨rfl,h⟩
 ·exact .inl ⟨rfl,h⟩
theorem Ep {es:Nat}{p:PV}{K:Bool->Nat->List PV->Option R}(h:R8 es p K=some r):
  ∃z n c,K z n c=some r∧(p=.lst z es n c∨(p=.sc (.slice none 0 0)∧z=true∧n=0∧c=[])):=by
 unfold R8 at h;split at h
 ·rename_i z es' n c;cases hb:Nat.beq es' es
  ·rw[hb] at h;cases h
  ·rw[hb] at h;have:=Nat.eq_of_beq_eq_true hb;subst this;exact⟨z,n,c,h,.inl rfl⟩
 ·exact⟨true,0,[],h,.inr ⟨rfl,rfl,rfl,rfl⟩⟩
 ·cases h
def Q6:PV->Prop
 |.sc _=>True
 |.lst _ _ _ _=>True
 |_=>False
def BM:PV->Prop
 |.sc _=>True
 |.lst _ _ _ _=>True
 |.view _ _ _ _=>True
 |_=>False
theorem Nu {c:PV}(h:Q6 c):BM c:=by
 cases c<;>first|trivial|exact h.elim
theorem Gd {c:PV}(h:Q6 c):Am c=[]:=by
 cases c<;>first|rfl|exact h.elim
variable {w:World} {A:Nat->Prop} {β:Nat->Option (Nat × Nat)}
theorem Iv {c:PV}{v:Value}(h:Q6 c):Bu w A β c v↔Ar w A c v:=by
 cases c<;>first|exact Iff.rfl|exact h.elim
theorem Tq {c:PV}{v:Value}(h:∀cs,c ≠ .agg cs):Gk w A β c v↔Bu w A β c v:=by
 cases c<;>first|exact Iff.rfl|exact absurd rfl (h _)
theorem Lg {c:PV}{v:Value}(h:∀cs,c ≠ .tup cs):Dx w A β c v↔Gk w A β c v:=by
 cases c<;>first|exact Iff.rfl|exact absurd rfl (h _)
theorem S5 {c:PV}(h:Q6 c)(cs:List PV):c ≠ .agg cs:=by rintro rfl;exact h
theorem SX {c:PV}(h:Q6 c)(cs:List PV):c ≠ .tup cs:=by rintro rfl;exact h
theorem Ar.val {v u:Value}(h:Ar w A (.sc v) u):u=v:=by cases h;rfl
theorem Rg {es n:Nat}{z:Bool}{c:List PV}{p:PV}{v:Value}(h:p=.lst z es n c∨(p=.sc (.slice none 0 0)∧z=true∧n=0∧c=[])) (hv:Bu w A β p v):Ar w A (.lst z es n c) v:=by
 rcases h with rfl|⟨rfl,rfl,rfl,rfl⟩
 ·exact hv
 ·have:=Ar.val (w:=w) (A:=A) hv;subst this;exact .lnil true es
theorem J0 {t:CT}{p:PV}{K:PV->Option R}(h:Uh t p K=some r):
  ∃c,K c=some r∧Q6 c∧Q6 p∧∀(w:World) (A:Nat->Prop) (β:Nat->Option (Nat × Nat)) (v:Value),Bu w A β p v->Ar w A c v∧v.oneCell'=true:=by
 cases t with
 |int k=>obtain⟨n,rfl,h2⟩:=Dv h;exact⟨_,h2,trivial,trivial,fun w A β v hv=>⟨hv,by have:=Ar.val (w:=w) (A:=A) hv;subst this;rfl⟩⟩
 |bool=>obtain⟨n,rfl,h⟩:=Dd h;exact⟨_,h,trivial,trivial,fun w A β v hv=>⟨hv,by have:=Ar.val (w:=w) (A:=A) hv;subst this;rfl⟩⟩
 |str=>obtain⟨n,rfl,h⟩:=C7 h;exact⟨_,h,trivial,trivial,fun w A β v hv=>⟨hv,by have:=Ar.val (w:=w) (A:=A) hv;subst this;rfl⟩⟩
 |sl es=>
  obtain⟨z,n,c,h,hp⟩:=Ep h;refine⟨_,h,trivial,?_,fun w A β v hv=>⟨Rg hp hv,?_⟩⟩
  ·rcases hp with rfl|⟨rfl,_⟩<;>trivial
  ·have ht:=Rg hp hv;cases ht<;>rfl
 |any=>
  obtain⟨u,rfl,h1,h2⟩:=TE (show WV p (fun v=>K (.sc v))=some r from h)
  exact⟨_,h2,trivial,trivial,fun w A β v hv=>⟨hv,by have:=Ar.val (w:=w) (A:=A) hv;subst this;exact h1⟩⟩
theorem Add {t:CT}{p:PV}{K:PV->Option R}(h:fcK t p K=some r):
  ∃c,K c=some r∧(Q6 c∨c=p)∧BM p∧p ≠ .top∧(∀cs,c ≠ .agg cs)∧(∀cs,c ≠ .tup cs)∧(∀id,id∈Am c->id∈Am p)∧∀(w:World) (A:Nat->Prop) (β:Nat->Option (Nat × Nat)) (v:Value),Bu w A β p v->Bu w A β c v∧v.oneCell'=true:=by
 have tree:∀t',Uh t' p K=some r->∃c,K c=some r∧(Q6 c∨c=p)∧BM p∧p ≠ .top∧(∀cs,c ≠ .agg cs)∧(∀cs,c ≠ .tup cs)∧(∀id,id∈Am c->id∈Am p)∧∀(w:World) (A:Nat->Prop) (β:Nat->Option (Nat × Nat)) (v:Value),Bu w A β p v->Bu w A β c v∧v.oneCell'=true:=by
  intro t' h;obtain⟨c,h,hc,hp,hv⟩:=J0 h;exact⟨c,h,.inl hc,Nu hp,by rintro rfl;exact hp,S5 hc,SX hc,by rw[Gd hc];simp,fun w A β v h=>⟨(Iv hc).2 (hv w A β v h).1,(hv w A β v h).2⟩⟩
 cases t with
 |sl es=>
  unfold fcK fsK at h;dsimp only at h;split at h
  ·rename_i id es' off n;cases hb:Nat.beq es' es
   ·rw[hb] at h;cases h
   ·rw[hb] at h;have:=Nat.eq_of_beq_eq_true hb;subst this;exact⟨_,h,.inr rfl,trivial,by simp,by simp,by simp,fun _ h=>h,fun _ _ _ _ h=>⟨h,by rcases h with⟨_,_,_,_,rfl⟩|⟨_,_,_,_,_,rfl,_⟩<;>rfl⟩⟩
  ·exact tree (.sl es) h
 |int k=>exact tree (.int k) h
 |bool=>exact tree (.bool) h
 |str=>exact tree (.str) h
 |any=>exact tree (.any) h
theorem Wb {cells:List PV}{i:Nat}{p:PV}(h:cells.getD i .top=p)(hp:p ≠ .top):cells[i]?=some p:=by
 rw[List.getD_eq_getElem?_getD] at h;cases hc:cells[i]? with
 |none=>rw[hc] at h;exact absurd h.symm hp
 |some q=>rw[hc] at h;simp at h;rw[h]
theorem Pb:∀{ts:List CT}{cells:List PV}{off:Nat}{K:List PV->Option R},Ob ts cells off K=some r ->
  ∃cs,K cs=some r∧cs.length=ts.length∧∀j c,cs[j]?=some c->Q6 c∧∃p,cells[off+j]?=some p∧Q6 p ∧
   ∀(w:World) (A:Nat->Prop) (β:Nat->Option (Nat × Nat)) (v:Value),Bu w A β p v->Ar w A c v∧v.oneCell'=true
 |[],_,_,_,h=>⟨[],h,rfl,fun j c hj=>by simp at hj⟩
 |t::ts,cells,off,K,h=>by
  unfold Ob at h;obtain⟨c,h,hc,hp,hv⟩:=J0 h;obtain⟨cs,h,hl,Xt⟩:=Pb h;refine⟨c::cs,h,by simp[hl],fun j c' hj=>?_⟩
  cases j with
  |zero=>
   simp at hj;subst hj;refine⟨hc,cells.getD off .top,Wb rfl ?_,hp,hv⟩;intro e;rw[e] at hp;exact hp
  |succ j=>
   simp at hj;have:=Xt j c' hj
   rwa [Nat.add_right_comm,Nat.add_assoc] at this
theorem Oz:∀{ts:List CT}{cells:List PV}{off:Nat}{K:List PV->Option R},K7 ts cells off K=some r ->
  ∃cs,K cs=some r∧cs.length=ts.length∧(∀c∈cs,(∀x,c ≠ .agg x)∧(∀x,c ≠ .tup x))∧∀j c,cs[j]?=some c->∃p,cells[off+j]?=some p∧BM p∧(∀id,id∈Am c->id∈Am p) ∧
   ∀(w:World) (A:Nat->Prop) (β:Nat->Option (Nat × Nat)) (v:Value),Bu w A β p v->Bu w A β c v∧v.oneCell'=true
 |[],_,_,_,h=>⟨[],h,rfl,by simp,fun j c hj=>by simp at hj⟩
 |t::ts,cells,off,K,h=>by
  unfold K7 at h;obtain⟨c,h,hc,hf,hp,ha,ht,hr,hv⟩:=Add h;obtain⟨cs,h,hl,U9,Xt⟩:=Oz h;refine⟨c::cs,h,by simp[hl],?_,fun j c' hj=>?_⟩
  ·intro x hx;rcases List.mem_cons.1 hx with rfl|hx
   ·exact⟨ha,ht⟩
   ·exact U9 x hx
  ·cases j with
   |zero=>
    simp at hj;subst hj;exact⟨cells.getD off .top,Wb rfl hp,hf,hr,hv⟩
   |succ j=>
    simp at hj;have:=Xt j c' hj
    rwa [Nat.add_right_comm,Nat.add_assoc] at this
theorem GO {agg:Bool}{cells:List PV}{K:PV->Option R}(h:SW agg cells K=some r):
  (agg=true∧K (.agg cells)=some r)∨(agg=false∧∃c,cells=[c]∧K c=some r):=by
 unfold SW at h;cases agg
 ·obtain⟨c,t,rfl,h⟩:=A6 h;obtain⟨rfl,h⟩:=C6 h;exact .inr ⟨rfl,c,rfl,h⟩
 ·exact .inl ⟨rfl,h⟩
end
open Go.RowKit
def Cu (b:Option Bk):Prop:=
 match b with
 |some (.st _)=>True
 |some (.ar false _)=>True
 |_=>False
abbrev Bt:=Nat->Option (Nat × Nat)
def HW (hp:Nat->Option Bk)(β:Bt)(b:Nat):Prop:=∃id o,Cu (hp id)∧β id=some (b,o)
def Ct (hp:Nat->Option Bk)(β:Bt)(Y:Nat->Prop)(b:Nat):Prop:=HW hp β b∨Y b
def Nf (w:World)(A:Nat->Prop)(β:Bt)(id:Nat)(bx:Bk):Prop:=
 match bx with
 |.st cells=>∃b o,β id=some (b,o)∧(∀j c,cells[j]?=some c->∃v,w.cell? ⟨b,o+j,none⟩=some v∧Bu w A β c v)∧∀j,j<cells.length->w.frozen? ⟨b,o+j,none⟩=false
 |.ar fz cells=>(β id=none∧cells=[])∨∃b o,β id=some (b,o)∧NT w A ⟨b,o,none⟩ cells∧(fz=false->∀j,o<=j->j<bsz w b->w.frozen? ⟨b,j,none⟩=false)∧(fz=true->¬A b)
 |.mv=>True
structure Gq where
 X:Nat->Prop
 L:Nat->Nat->Prop
 pn:Nat->Prop
 pt:Nat->Option (Nat × Nat)
 p8:∀i,pn i->i<8
def BR (bx:Bk)(o j:Nat):Prop:=
 match bx with
 |.st c=>o<=j∧j<o+c.length
 |.ar _ _=>o<=j
 |.mv=>False
structure Fr (X0:Gq) (w0 w:World):Prop where
 os:w.os=w0.os
 tape:w.tape=w0.tape
 output:w.output=w0.output
 step:B2 X0.X w0 w
 rng:∀b j,b<w0.heap.size->¬X0.L b j->w.cell? ⟨b,j,none⟩=w0.cell? ⟨b,j,none⟩∧w.frozen? ⟨b,j,none⟩=w0.frozen? ⟨b,j,none⟩
structure Cj (N:Nat) (w0:World) (X0:Gq) (Y:Nat->Prop) (β:Bt) (s:St) (a:Act) (w:World):Prop where
 dfr:a.defers=[]
 tsz:a.tmps.size=N
 tmo:∀i,N<=i->s.tm i=.top
 tms:∀i,i<N->Dx w (Ct s.hp β Y) β (s.tm i) (a.tmps.getD i undef)
 box:∀id b,s.hp id=some b->Nf w (Ct s.hp β Y) β id b
 inj:∀id id' b o o',Cu (s.hp id)->Cu (s.hp id')->β id=some (b,o)->β id'=some (b,o')->id=id'
 blt:∀id b o,s.hp id≠none->β id=some (b,o)->b<w.heap.size
 wfT:∀i,i<N->∀id∈Bo (s.tm i),s.hp id≠none
 wfB:∀id cells,s.hp id=some (.st cells)->∀c∈cells,∀id'∈Am c,s.hp id'≠none
 ownd:∀b,HW s.hp β b->X0.X b∨w0.heap.size<=b
 rngB:∀id bx b o,s.hp id=some bx->Cu (some bx)->β id=some (b,o)->b<w0.heap.size->∀j,BR bx o j->X0.L b j
 pin:∀i,X0.pn i->s.hp (C4 N i)≠none∧β (C4 N i)=X0.pt i
 stp:∀id c b o,s.hp id=some (.st c)->β id=some (b,o)->b<w0.heap.size->∃i,id=C4 N i∧X0.pn i
 Yx:∀b,Y b->¬HW s.hp β b
 Ylt:∀b,Y b->b<w0.heap.size
 fr:Fr X0 w0 w
theorem Cl {b:Option Bk}(h:Cu b):b≠none:=by rintro rfl;exact h
theorem Al {α:Type}(f:Nat->α)(i:Nat)(v:α):Cg f i v i=v:=by simp[Cg,Nat.beq_refl]
theorem Ai {α:Type}(f:Nat->α){i j:Nat}(v:α)(h:j≠i):Cg f i v j=f j:=by
 have:Nat.beq j i=false:=by
  cases hb:Nat.beq j i
  ·rfl
  ·exact absurd (Nat.eq_of_beq_eq_true hb) h
 simp[Cg,this]
theorem Sf {α:Type}(f:Nat->α){i:Nat}{v:α}(h:f i=v):Cg f i v=f:=by
 funext j
 by_cases e:j=i
 ·subst e;rw[Al];exact h.symm
 ·exact Ai f v e
theorem MG {α:Type}(f:Nat->α){i j:Nat}(u v:α)(h:i≠j):Cg (Cg f i u) j v=Cg (Cg f j v) i u:=by
 funext k
 by_cases e:k=j
 ·subst e;rw[Al,Ai _ _ (Ne.symm h),Al]
 ·rw[Ai _ _ e];by_cases e':k=i
  ·subst e';rw[Al,Al]
  ·rw[Ai _ _ e',Ai _ _ e',Ai _ _ e]
theorem CO {a:Act}{d:Nat}{v:Value}(h:d<a.tmps.size):(a.put (some d) v).tmps.getD d undef=v:=by
 simp[Act.put,h]
theorem Y8 {a:Act}{d i:Nat}{v:Value}(h:i≠d):(a.put (some d) v).tmps.getD i undef=a.tmps.getD i undef:=by
 have h':d≠i:=fun e=>h e.symm
 simp[Act.put,Array.getElem?_setIfInBounds_ne h']
section
variable {N:Nat} {w0:World} {X0:Gq} {Y:Nat->Prop} {β β':Bt} {s:St} {a:Act} {w w':World}
theorem Td (d:Option Tmp)(v:Value):(a.put d v).tmps.size=a.tmps.size:=by cases d<;>simp[Act.put]
theorem Nj (d:Option Tmp)(v:Value):(a.put d v).defers=a.defers:=by cases d<;>rfl
theorem Mb {d:Option Tmp}(h:Fe N d=true){i:Nat}(e:d=some i):i<N:=by
 subst e;exact Nat.lt_of_succ_le (Nat.le_of_ble_eq_true h)
theorem Li {Q:Nat->PV->Value->Prop}{tm:Nat->PV}{d:Option Tmp}{v:PV}{val:Value}(hN:a.tmps.size=N)(hd:Fe N d=true)
  (h:∀i,i<N->Q i (tm i) (a.tmps.getD i undef)) (hv:∀i,Q i v val):∀i,i<N->Q i (Bj tm d v i) ((a.put d val).tmps.getD i undef):=by
 intro i hi;cases d with
 |none=>exact h i hi
 |some d=>
  have B4:=Mb hd rfl;by_cases e:i=d
  ·subst e;show Q i (Cg tm i v i) _;rw[Al,CO (by omega)]
   exact hv i
  ·show Q i (Cg tm d v i) _;rw[Ai _ _ e,Y8 e];exact h i hi
theorem JF {tm:Nat->PV}{d:Option Tmp}{v:PV}(hd:Fe N d=true)(h:∀i,N<=i->tm i=.top):∀i,N<=i->Bj tm d v i=.top:=by
 intro i hi;cases d with
 |none=>exact h i hi
 |some d=>
  have:=Mb hd rfl;show Cg tm d v i=_;rw[Ai _ _ (by omega)]
  exact h i hi
theorem Cj.put (h:Cj N w0 X0 Y β s a w){d:Option Tmp}{v:PV}{val:Value}(hd:Fe N d=true)(hv:Dx w (Ct s.hp β Y) β v val) (hr:∀id∈Bo v,s.hp id≠none):
  Cj N w0 X0 Y β ⟨Bj s.tm d v,s.hp⟩ (a.put d val) w where
 dfr:=by rw[Nj];exact h.dfr
 tsz:=by rw[Td];exact h.tsz
 tmo:=JF hd h.tmo
 tms:=Li (Q:=fun _ p u=>Dx w (Ct s.hp β Y) β p u) h.tsz hd h.tms (fun _=>hv)
 box:=h.box
 inj:=h.inj
 blt:=h.blt
 wfT:=by
  have:=Li (Q:=fun _ p _=>∀id∈Bo p,s.hp id≠none) (val:=val) h.tsz hd h.wfT (fun _=>hr)
  exact this
 wfB:=h.wfB
 ownd:=h.ownd
 rngB:=h.rngB
 pin:=h.pin
 stp:=h.stp
 Yx:=h.Yx
 Ylt:=h.Ylt
 fr:=h.fr
theorem Bq (hp:Nat->Option Bk)(ids:List Nat)(i:Nat):Af hp ids i=if i∈ids then (hp i).map Pd else hp i:=by
 unfold Af;by_cases hi:i∈ids
 ·have:ids.any (Nat.beq i)=true:=List.any_eq_true.2 ⟨i,hi,Nat.beq_refl i⟩;rw[this,if_pos hi];rfl
 ·have:ids.any (Nat.beq i)=false:=by
   cases hb:ids.any (Nat.beq i)
   ·rfl
   ·obtain⟨j,hj,e⟩:=List.any_eq_true.1 hb;exact absurd (Nat.eq_of_beq_eq_true e ▸ hj) hi
  rw[this,if_neg hi];rfl
theorem Dl {hp:Nat->Option Bk}{ids:List Nat}{i:Nat}:Af hp ids i=none↔hp i=none:=by
 rw[Bq];split<;>simp
theorem Ll {hp:Nat->Option Bk}{ids:List Nat}{i:Nat}(h:Cu (Af hp ids i)):Cu (hp i):=by
 rw[Bq] at h;split at h
 ·cases hb:hp i with
  |none=>rw[hb] at h;exact h
  |some b=>cases b with
   |st c=>trivial
   |ar fz c=>rw[hb] at h;exact h.elim
   |mv=>rw[hb] at h;exact h
 ·exact h
theorem G3 {hp:Nat->Option Bk}{ids:List Nat}{i:Nat}{bx:Bk}(h:Af hp ids i=some bx)(hl:Cu (some bx)):hp i=some bx:=by
 rw[Bq] at h;split at h
 ·cases hb:hp i with
  |none=>rw[hb] at h;cases h
  |some b=>
   rw[hb] at h;cases b with
   |st c=>exact h
   |ar fz c=>simp only[Option.map_some,Pd,Option.some.injEq] at h;subst h;exact hl.elim
   |mv=>simp only[Option.map_some,Pd,Option.some.injEq] at h;subst h;exact hl.elim
 ·exact h
theorem Mg {hp:Nat->Option Bk}{ids:List Nat}{b:Nat}(h:HW (Af hp ids) β b):HW hp β b:=by
 obtain⟨id,o,hl,hb⟩:=h;exact⟨id,o,Ll hl,hb⟩
theorem Nf.step' {A A':Nat->Prop}{id:Nat}{bx:Bk}(hA:∀b,A' b->A b)(h:Nf w A β id bx):Nf w A' β id bx:=by
 have hs:=B2.refl A w;cases bx with
 |st c=>
  obtain⟨b,o,h1,h2,h3⟩:=h;exact⟨b,o,h1,fun j c hj=>let ⟨v,hv,hc⟩:=h2 j c hj;⟨v,hv,hc.step hs (fun b _=>hA b) (fun _ _=>rfl)⟩,h3⟩
 |ar fz c=>
  rcases h with h|⟨b,o,h1,h2,h3,h4⟩
  ·exact .inl h
  ·exact .inr ⟨b,o,h1,h2.weak (fun b _=>hA b),h3,fun e x=>h4 e (hA b x)⟩
 |mv=>trivial
theorem Cj.freeze (h:Cj N w0 X0 Y β s a w){fz:List Nat}(Ur:∀id∈fz,∃f c,s.hp id=some (.ar f c)):Cj N w0 X0 Y β ⟨s.tm,Af s.hp fz⟩ a w:=by
 have hA:∀b,Ct (Af s.hp fz) β Y b->Ct s.hp β Y b:=fun b hb=>hb.imp Mg id
 refine⟨h.dfr,h.tsz,h.tmo,fun i hi=>(h.tms i hi).step (B2.refl _ _) (fun b _=>hA b) (fun _ _=>rfl),fun id b hb=>?_,fun id id' b o o' h1 h2=>h.inj id id' b o o' (Ll h1) (Ll h2),
  fun id b o hn=>h.blt id b o (fun e=>hn (Dl.2 e)),fun i hi id Bf e=>h.wfT i hi id Bf (Dl.1 e),fun id cells hc c MN id' Bf e=>?_,fun b hb=>h.ownd b (Mg hb),
  fun id bx b o hb hl=>h.rngB id bx b o (G3 hb hl) hl,fun i hi=>⟨fun e=>(h.pin i hi).1 (Dl.1 e),(h.pin i hi).2⟩,fun id c b o hc=>h.stp id c b o (G3 hc trivial),fun b hb x=>h.Yx b hb (Mg x),h.Ylt,h.fr⟩
 ·simp only at hb;rw[Bq] at hb;split at hb
  ·rename_i hm;obtain⟨f,c,hc⟩:=Ur id hm;rw[hc] at hb;simp only[Option.map_some,Pd,Option.some.injEq] at hb;subst hb;have I2:=h.box id _ hc;rcases I2 with I2|⟨b,o,h1,h2,h3,h4⟩
   ·exact .inl I2
   ·refine .inr ⟨b,o,h1,h2.weak (fun b _=>hA b),(fun e=>by cases e),fun _ hb=>?_⟩
    rcases hb with⟨id',o',hl,hb⟩|hY
    ·have hl0:=Ll hl;cases f with
     |true=>exact h4 rfl (.inl ⟨id',o',hl0,hb⟩)
     |false=>
      have e:=h.inj id' id b o' o hl0 (by rw[hc];trivial) hb h1
      subst e;simp only at hl;rw[Bq,if_pos hm,hc] at hl;exact hl
    ·cases f with
     |true=>exact h4 rfl (.inr hY)
     |false=>exact h.Yx b hY ⟨id,o,by rw[hc];trivial,h1⟩
  ·exact (h.box id b hb).step' hA
 ·simp only at hc;rw[Bq] at hc;refine h.wfB id cells ?_ c MN id' Bf (Dl.1 e);split at hc
  ·rename_i hm;obtain⟨f,c,Nn⟩:=Ur id hm;rw[Nn] at hc;cases hc
  ·exact hc
theorem Bg:∀{nw:List (Nat × Bk)} {hp:Nat->Option Bk},Bn hp nw=true ->
  (∀id bx,(id,bx)∈nw->hp id=none)∧(∀id bx bx',(id,bx)∈nw->(id,bx')∈nw->bx=bx')
 |[],_,_=>⟨by simp,by simp⟩
 |(i,b)::r,hp,h=>by
  simp only[Bn,Bool.and_eq_true,Option.isNone_iff_eq_none,Bool.not_eq_true'] at h;obtain⟨⟨h1,h2⟩,h3⟩:=h;obtain⟨h4,h5⟩:=Bg h3
  have Ec:∀bx,(i,bx) ∉ r:=by
   intro bx hm;have:r.any (fun q=>Nat.beq q.1 i)=true:=List.any_eq_true.2 ⟨_,hm,Nat.beq_refl i⟩
   rw[this] at h2;cases h2
  refine⟨fun id bx hm=>?_,fun id bx bx' hm Hw=>?_⟩
  ·rcases List.mem_cons.1 hm with e|hm
   ·cases e;exact h1
   ·exact h4 id bx hm
  ·rcases List.mem_cons.1 hm with e|hm
   ·cases e;rcases List.mem_cons.1 Hw with e|Hw
    ·cases e;rfl
    ·exact absurd Hw (Ec _)
   ·rcases List.mem_cons.1 Hw with e|Hw
    ·cases e;exact absurd hm (Ec _)
    ·exact h5 id bx bx' hm Hw
theorem Du:∀{nw:List (Nat × Bk)} {hp:Nat->Option Bk},(∀id bx bx',(id,bx)∈nw->(id,bx')∈nw->bx=bx') ->
  (∀id bx,(id,bx)∈nw->An hp nw id=some bx)∧(∀id,(∀bx,(id,bx) ∉ nw)->An hp nw id=hp id)
 |[],_,_=>⟨by simp,fun _ _=>rfl⟩
 |(i,b)::r,hp,h=>by
  obtain⟨h1,h2⟩:=Du (nw:=r) (hp:=Cg hp i (some b)) (fun id bx bx' hm Hw=>h id bx bx' (by simp[hm]) (by simp[Hw]))
  refine⟨fun id bx hm=>?_,fun id hn=>?_⟩
  ·by_cases hr:∃bx',(id,bx')∈r
   ·obtain⟨bx',hr⟩:=hr;have:=h id bx bx' hm (by simp[hr])
    subst this;exact h1 id bx hr
   ·rcases List.mem_cons.1 hm with e|hm
    ·cases e;show An (Cg hp i (some b)) r i=_;rw[h2 i (fun bx' hb=>hr ⟨bx',hb⟩),Al]
    ·exact absurd ⟨bx,hm⟩ hr
  ·show An (Cg hp i (some b)) r id=_;rw[h2 id (fun bx hb=>hn bx (by simp[hb])),Ai]
   rintro rfl
   exact hn b (by simp)
structure DX (Y:Nat->Prop) (β:Bt) (s:St) (w:World) (v:PV) (nw:List (Nat × Bk)) (val:Value) (w':World) (β':Bt):Prop where
 os:w'.os=w.os
 tape:w'.tape=w.tape
 output:w'.output=w.output
 ext:B2 (fun _=>False) w w'
 old:∀id,s.hp id≠none->β' id=β id
 nlive:∀id bx,(id,bx)∈nw->Cu (some bx)
 nbox:∀id bx,(id,bx)∈nw->Nf w' (Ct (An s.hp nw) β' Y) β' id bx
 nblk:∀id bx b o,(id,bx)∈nw->β' id=some (b,o)->w.heap.size<=b∧b<w'.heap.size
 ninj:∀id bx id' bx' b o o',(id,bx)∈nw->(id',bx')∈nw->β' id=some (b,o)->β' id'=some (b,o')->id=id'
 nwf:∀id cells,(id,.st cells)∈nw->∀c∈cells,∀id'∈Am c,s.hp id'≠none∨∃bx,(id',bx)∈nw
 val:Dx w' (Ct (An s.hp nw) β' Y) β' v val
 vwf:∀id∈Bo v,s.hp id≠none∨∃bx,(id,bx)∈nw
theorem Cj.stepR (h:Cj N w0 X0 Y β s a w){d:Option Tmp}{v:PV}{nw:List (Nat × Bk)} {val:Value}(hd:Fe N d=true)(Lw:Bn s.hp nw=true)
  (st:DX Y β s w v nw val w' β'):Cj N w0 X0 Y β' ⟨Bj s.tm d v,An s.hp nw⟩ (a.put d val) w':=by
 obtain⟨ha1,H6⟩:=Bg Lw;obtain⟨YE,hg2⟩:=Du (hp:=s.hp) H6
 have F7:∀id,(∃bx,(id,bx)∈nw)∨An s.hp nw id=s.hp id:=fun id=>by
  by_cases hx:∃bx,(id,bx)∈nw
  ·exact .inl hx
  ·exact .inr (hg2 id fun bx hb=>hx ⟨bx,hb⟩)
 have Arz:∀id,s.hp id≠none->An s.hp nw id=s.hp id:=fun id hn=>by
  rcases F7 id with⟨bx,hx⟩|e
  ·exact absurd (ha1 id bx hx) hn
  ·exact e
 have Rb:∀id,(s.hp id≠none∨∃bx,(id,bx)∈nw)->An s.hp nw id≠none:=by
  rintro id (hn|⟨bx,hx⟩)
  ·rw[Arz id hn];exact hn
  ·rw[YE id bx hx];simp
 have Ahp:∀b,b<w.heap.size->HW (An s.hp nw) β' b->HW s.hp β b:=by
  rintro b hb ⟨id,o,hl,hβ⟩
  rcases F7 id with⟨bx,hx⟩|e
  ·have:=(st.nblk id bx b o hx hβ).1;omega
  ·rw[e] at hl;exact⟨id,o,hl,by rw[←st.old id (Cl hl)];exact hβ⟩
 have TD:∀b,b<w.heap.size->Ct (An s.hp nw) β' Y b->Ct s.hp β Y b:=fun b hb hA=>hA.imp (Ahp b hb) id
 have TO:B2 (Ct s.hp β Y) w w':=st.ext.weaken (fun _ _ x=>x.elim)
 refine⟨by rw[Nj];exact h.dfr,by rw[Td];exact h.tsz,JF hd h.tmo,?_,?_,?_,?_,?_,?_,?_,?_,?_,?_,?_,h.Ylt,?_⟩
 ·refine Li (Q:=fun _ p u=>Dx w' (Ct (An s.hp nw) β' Y) β' p u) h.tsz hd (fun i hi=>?_) (fun _=>st.val)
  exact (h.tms i hi).step TO TD fun id Bf=>st.old id (h.wfT i hi id Bf)
 ·intro id b hb;simp only at hb;rcases F7 id with⟨bx,hx⟩|e
  ·rw[YE id bx hx] at hb;cases hb;exact st.nbox id _ hx
  ·rw[e] at hb;have hβ:=st.old id (by rw[hb];simp)
   have I2:=h.box id b hb;have B4:=h.blt id;have Ec:s.hp id≠none:=by rw[hb];simp
   cases b with
   |st c=>
    obtain⟨b,o,h1,h2,h3⟩:=I2;have Gi:=B4 b o Ec h1;have Ng:=st.ext.keep b Gi (fun x=>x)
    refine⟨b,o,by rw[hβ];exact h1,fun j c hj=>?_,fun j hj=>?_⟩
    ·obtain⟨v,hv,hc⟩:=h2 j c hj;refine⟨v,by rw[World.cell?_of_block (w:=w) Ng];exact hv,hc.step TO TD fun id' Bf=>st.old id' ?_⟩
     exact h.wfB id _ hb c (List.mem_of_getElem? hj) id' Bf
    ·rw[World.frozen?_of_block (w:=w) Ng];exact h3 j hj
   |ar fz c=>
    rcases I2 with⟨h1,h2⟩|⟨b,o,h1,h2,h3,h4⟩
    ·exact .inl ⟨by rw[hβ];exact h1,h2⟩
    ·have Gi:=B4 b o Ec h1;have Ng:=st.ext.keep b Gi (fun x=>x)
     have CS:bsz w' b=bsz w b:=by unfold bsz;rw[Ng]
     refine .inr ⟨b,o,by rw[hβ];exact h1,fun j c hj=>?_,fun e j hj Om=>?_,fun e x=>h4 e (TD b Gi x)⟩
     ·obtain⟨v,hv,h5,hc⟩:=h2 j c hj;exact⟨v,by rw[World.cell?_of_block (w:=w) (by rw[Eb];exact Ng)];exact hv,h5,hc.step TO TD⟩
     ·rw[World.frozen?_of_block (w:=w) Ng];exact h3 e j hj (by rw[←CS];exact Om)
   |mv=>trivial
 ·intro id id' b o o' hl Ib hb Gi;simp only at hl Ib;rcases F7 id with⟨bx,hx⟩|e
  ·rcases F7 id' with⟨bx',Pn⟩|e'
   ·exact st.ninj id bx id' bx' b o o' hx Pn hb Gi
   ·rw[e'] at Ib;have h1:=(st.nblk id bx b o hx hb).1;have h2:=h.blt id' b o' (Cl Ib) (by rw[←st.old id' (Cl Ib)];exact Gi)
    omega
  ·rw[e] at hl;rcases F7 id' with⟨bx',Pn⟩|e'
   ·have h1:=(st.nblk id' bx' b o' Pn Gi).1;have h2:=h.blt id b o (Cl hl) (by rw[←st.old id (Cl hl)];exact hb)
    omega
   ·rw[e'] at Ib;exact h.inj id id' b o o' hl Ib (by rw[←st.old id (Cl hl)];exact hb) (by rw[←st.old id' (Cl Ib)];exact Gi)
 ·intro id b o hn hb;simp only at hn;rcases F7 id with⟨bx,hx⟩|e
  ·exact (st.nblk id bx b o hx hb).2
  ·rw[e] at hn;exact Nat.lt_of_lt_of_le (h.blt id b o hn (by rw[←st.old id hn];exact hb)) st.ext.size
 ·have:=Li (Q:=fun _ p _=>∀id∈Bo p,An s.hp nw id≠none) (val:=val) (d:=d) (v:=v) h.tsz hd (fun i hi id Bf=>Rb id (.inl (h.wfT i hi id Bf))) (fun _ id Bf=>Rb id (st.vwf id Bf))
  exact this
 ·intro id cells hc c MN id' Bf;simp only at hc;rcases F7 id with⟨bx,hx⟩|e
  ·rw[YE id bx hx] at hc;cases hc;exact Rb id' (st.nwf id _ hx c MN id' Bf)
  ·rw[e] at hc;exact Rb id' (.inl (h.wfB id cells hc c MN id' Bf))
 ·rintro b ⟨id,o,hl,hb⟩
  simp only at hl;rcases F7 id with⟨bx,hx⟩|e
  ·exact .inr (Nat.le_trans h.fr.step.size (st.nblk id bx b o hx hb).1)
  ·rw[e] at hl;exact h.ownd b ⟨id,o,hl,by rw[←st.old id (Cl hl)];exact hb⟩
 ·intro id bx b o hb hl hβ B4;simp only at hb;rcases F7 id with⟨bx',hx⟩|e
  ·have:=(st.nblk id bx' b o hx hβ).1;have:=h.fr.step.size;omega
  ·rw[e] at hb;exact h.rngB id bx b o hb hl (by rw[←st.old id (by rw[hb];simp)];exact hβ) B4
 ·intro i hi;obtain⟨h1,h2⟩:=h.pin i hi;exact⟨Rb _ (.inl h1),by rw[st.old _ h1];exact h2⟩
 ·intro id c b o hb hβ B4;simp only at hb;rcases F7 id with⟨bx',hx⟩|e
  ·have:=(st.nblk id bx' b o hx hβ).1;have:=h.fr.step.size;omega
  ·rw[e] at hb;exact h.stp id c b o hb (by rw[←st.old id (by rw[hb];simp)];exact hβ) B4
 ·rintro b hY hX
  have hb:b<w.heap.size:=Nat.lt_of_lt_of_le (h.Ylt b hY) h.fr.step.size;exact h.Yx b hY (Ahp b hb hX)
 ·refine⟨st.os.trans h.fr.os,st.tape.trans h.fr.tape,st.output.trans h.fr.output,h.fr.step.trans st.ext (fun _ _ x=>x.elim),fun b j hb hL=>?_⟩
  have Ng:=st.ext.keep b (Nat.lt_of_lt_of_le hb h.fr.step.size) (fun x=>x)
  have hc:w'.cell? ⟨b,j,none⟩=w.cell? ⟨b,j,none⟩:=World.cell?_of_block (w:=w) Ng;have hf:w'.frozen? ⟨b,j,none⟩=w.frozen? ⟨b,j,none⟩:=World.frozen?_of_block (w:=w) Ng;rw[hc,hf];exact h.fr.rng b j hb hL
end
open Go.RowKit
section
variable {P:Program} {N:Nat} {w0:World} {X0:Gq} {Y:Nat->Prop} {β β':Bt} {s:St} {a:Act} {w w':World} {o:Oper}
theorem KS (cs:List Value)(A:Nat->Prop):Bb (Bu w A β) (cs.map PV.sc) cs:=by
 induction cs with
 |nil=>trivial
 |cons v r ih=>exact⟨Ar.sc v,ih⟩
theorem QU (cs:List Value):(cs.map PV.sc).flatMap Am=[]:=by
 induction cs with
 |nil=>rfl
 |cons v r ih=>exact ih
theorem Cn (h:Cj N w0 X0 Y β s a w)(x:Operand):Dx w (Ct s.hp β Y) β (Bv s.tm x) (a.eval x):=by
 cases x with
 |tmp t=>
  show Dx _ _ _ (s.tm t) (a.tmps.getD t undef);by_cases ht:t<N
  ·exact h.tms t ht
  ·rw[h.tmo t (Nat.le_of_not_lt ht)];exact Ar.top _
 |const v=>
  cases v with
  |agg cs=>exact⟨cs.toList,by simp[Act.eval],KS cs.toList _⟩
  |_=>exact Ar.sc _
 |func f=>exact Ar.sc _
 |global g=>exact Ar.sc _
theorem Eg (h:Cj N w0 X0 Y β s a w)(x:Operand):∀id∈Bo (Bv s.tm x),s.hp id≠none:=by
 cases x with
 |tmp t=>
  show ∀id∈Bo (s.tm t),_;by_cases ht:t<N
  ·exact h.wfT t ht
  ·rw[h.tmo t (Nat.le_of_not_lt ht)];intro id Bf;cases Bf
 |const v=>
  cases v with
  |agg cs=>
   intro id Bf;have:Bo (.agg (cs.toList.map .sc))=[]:=QU cs.toList;simp only[Bv] at Bf;rw[this] at Bf;cases Bf
  |_=>intro id Bf;cases Bf
 |func f=>intro id Bf;cases Bf
 |global g=>intro id Bf;cases Bf
theorem Us {A:Nat->Prop}{v u:Value}(h:Dx w A β (.sc v) u):u=v:=Ar.val h
theorem B1 (h:Cj N w0 X0 Y β s a w){x:Operand}{v:Value}(e:Bv s.tm x=.sc v):a.eval x=v:=by
 have:=Cn h x;rw[e] at this;exact Us this
def Dt (P:Program)(a:Act)(w:World)(o:Oper)(Y:Nat->Prop)(β:Bt)(s:St)(v:PV)(fz:List Nat)(nw:List (Nat × Bk)):Prop:=
 (∀id∈fz,∃f c,s.hp id=some (.ar f c))∧∃val w',(execOp a.eval o).run P w=.ok (.value val) w'∧(Bn s.hp nw=true->∃β',DX Y β ⟨s.tm,Af s.hp fz⟩ w v nw val w' β')
theorem PL {v:PV}{val:Value}(hv:Dx w (Ct s.hp β Y) β v val) (hr:∀id∈Bo v,s.hp id≠none):DX Y β s w v [] val w β:=
 ⟨rfl,rfl,rfl,B2.refl _ _,fun _ _=>rfl,by simp,by simp,by simp,by simp,by simp,hv,fun id Bf=>.inl (hr id Bf)⟩
theorem Bx {v:PV}{val:Value}(Ch:(execOp a.eval o).run P w=.ok (.value val) w) (hv:Dx w (Ct s.hp β Y) β v val) (hr:∀id∈Bo v,s.hp id≠none):Dt P a w o Y β s v [] []:=
 ⟨by simp,val,w,Ch,fun _=>⟨β,PL (s:=⟨s.tm,Af s.hp []⟩) hv hr⟩⟩
theorem Cc {v:Value}(Ch:(execOp a.eval o).run P w=.ok (.value v) w):Dt P a w o Y β s (.sc v) [] []:=Bx Ch (Ar.sc v) (by intro id Bf;cases Bf)
structure Ff (w w':World) (c:Array Value) (e:TypeId):Prop where
 os:w'.os=w.os
 tape:w'.tape=w.tape
 output:w'.output=w.output
 old:∀b,b<w.heap.size->w'.heap[b]?=w.heap[b]?
 size:w'.heap.size=w.heap.size+1
 new:∃fz:Nat × Nat,w'.heap[w.heap.size]?=some (.cells c e fz)∧(fz.1=fz.2∨c.size<=fz.1)
theorem Ff.alloc (w:World)(c:Array Value)(e:TypeId):Ff w (w.alloc (.cells c e)) c e:=
 ⟨rfl,rfl,rfl,fun b hb=>Below.heap_alloc w _ b hb,by show (w.heap.push _).size=_;simp,(0,0),by show (w.heap.push _)[w.heap.size]?=_;simp,.inl rfl⟩
theorem Ff.drew {c:Array Value}{e:TypeId}(h:Ff w w' c e):Ff w w'.drew c e:=⟨h.os,h.tape,h.output,h.old,h.size,h.new⟩
section
variable {c:Array Value} {e:TypeId}
theorem Ff.step (h:Ff w w' c e):B2 (fun _=>False) w w':=
 ⟨by rw[h.size];omega,fun b hb _=>h.old b hb,fun b hb=>F1.same (h.old b hb)⟩
theorem Ff.cell (h:Ff w w' c e)(j:Nat):w'.cell? ⟨w.heap.size,j,none⟩=c[j]?:=by
 obtain⟨fz,hn,_⟩:=h.new;simp[World.cell?,hn]
theorem Ff.frozen (h:Ff w w' c e){j:Nat}(hj:j<c.size):w'.frozen? ⟨w.heap.size,j,none⟩=false:=by
 obtain⟨fz,hn,hf⟩:=h.new;simp only[World.frozen?,hn];rcases hf with hf|hf<;>simp<;>omega
theorem Hz (w:World)(c:Array Value)(e:TypeId):MC (w.alloc (.cells c e)) w.heap.size=false:=by
 unfold MC World.frozen?;have:(w.alloc (.cells c e)).heap[w.heap.size]?=some (.cells c e (0,0)):=by show (w.heap.push _)[w.heap.size]?=_;simp
 simp only[this];simp
theorem Ff.bsz (h:Ff w w' c e):bsz w' w.heap.size=c.size:=by
 obtain⟨fz,hn,_⟩:=h.new;simp[Pv.bsz,hn]
end
theorem M1 {c:Array Value}{e:TypeId}{d:Nat}{bx:Bk}{v:PV}{val:Value}(hg:Ff w w' c e)(hd:s.hp d=none)(hl:Cu (some bx))
  (I2:Nf w' (Ct (Cg s.hp d (some bx)) (Cg β d (some (w.heap.size,0))) Y) (Cg β d (some (w.heap.size,0))) d bx)
  (hcw:∀cells,bx=.st cells->∀x∈cells,∀id'∈Am x,s.hp id'≠none)
  (hv:Dx w' (Ct (Cg s.hp d (some bx)) (Cg β d (some (w.heap.size,0))) Y) (Cg β d (some (w.heap.size,0))) v val)
  (hvr:∀id∈Bo v,s.hp id≠none∨id=d):DX Y β s w v [(d,bx)] val w' (Cg β d (some (w.heap.size,0))) where
 os:=hg.os
 tape:=hg.tape
 output:=hg.output
 ext:=hg.step
 old:=fun id hn=>Ai _ _ (by rintro rfl;exact hn hd)
 nlive:=by intro id b hm;simp at hm;obtain⟨rfl,rfl⟩:=hm;exact hl
 nbox:=by intro id b hm;simp at hm;obtain⟨rfl,rfl⟩:=hm;exact I2
 nblk:=by
  intro id b x y hm hb;simp at hm;obtain⟨rfl,rfl⟩:=hm;rw[Al] at hb;simp at hb;have:=hg.size;omega
 ninj:=by intro id b id' b' x y z hm Hw _ _;simp at hm Hw;rw[hm.1,Hw.1]
 nwf:=by intro id cells hm x hx id' Bf;simp at hm;exact .inl (hcw cells hm.2.symm x hx id' Bf)
 val:=hv
 vwf:=by
  intro id Bf;rcases hvr id Bf with h|rfl
  ·exact .inl h
  ·exact .inr ⟨bx,by simp⟩
theorem TM {c:Array Value}{e:TypeId}(hg:Ff w w' c e){A A':Nat->Prop}(hA:∀b,b<w.heap.size->A' b->A b){cells:List PV}
  (h:∀(j:Nat) p,cells[j]?=some p->∃v,c[j]?=some v∧v.oneCell'=true∧Ar w A p v):NT w' A' ⟨w.heap.size,0,none⟩ cells:=by
 intro j p hj;obtain⟨v,hv,h1,ht⟩:=h j p hj;exact⟨v,by rw[D4,Nat.zero_add,hg.cell];exact hv,h1,ht.step (hg.step.weaken (fun _ _ x=>x.elim)) hA⟩
theorem SQ {d:Nat}{bx:Bk}(hwf:s.hp d=none):∀b,b<w.heap.size->Ct (Cg s.hp d (some bx)) (Cg β d (some (w.heap.size,0))) Y b->Ct s.hp β Y b:=by
 intro b hb hA;rcases hA with⟨id,o,hl,hβ⟩|hY
 ·by_cases e:id=d
  ·subst e;rw[Al] at hβ;simp at hβ;omega
  ·rw[Ai _ _ e] at hl hβ;exact .inl ⟨id,o,hl,hβ⟩
 ·exact .inr hY
theorem Mo {c:Array Value}{e:TypeId}{d:Nat}{cells:List PV}{fz:List Nat}{v:PV}{val:Value}
  (Ur:∀id∈fz,∃f c,s.hp id=some (.ar f c))
  (Ch:(execOp a.eval o).run P w=.ok (.value val) w') (hg:Ff w w' c e)
  (hc:∀(j:Nat) p,cells[j]?=some p->∃u,c[j]?=some u∧u.oneCell'=true∧Ar w (Ct (Af s.hp fz) β Y) p u)
  (hv:(v=.ptr d 0∧val=.pointer (some ⟨w.heap.size,0,none⟩))∨∃es n cap,v=.view d es 0 n∧val=.slice (some ⟨w.heap.size,0,none⟩) n cap∧n<=cap∧cap*es<=c.size∧(es=1∨MC w' w.heap.size=false)):
  Dt P a w o Y β s v fz [(d,.ar false cells)]:=by
 refine⟨Ur,val,w',Ch,fun Lw=>⟨Cg β d (some (w.heap.size,0)),?_⟩⟩
 have hd:s.hp d=none:=(Bg Lw).1 d (.ar false cells) (by simp)
 have hd':Af s.hp fz d=none:=Dl.2 hd;refine M1 (s:=⟨s.tm,Af s.hp fz⟩) hg hd' trivial ?_ (fun cells hx=>by cases hx) ?_ ?_
 ·refine .inr ⟨w.heap.size,0,Al _ _ _,?_,fun _ j _ hj=>?_,(fun x=>by cases x)⟩
  ·exact TM hg (SQ (s:=⟨s.tm,Af s.hp fz⟩) hd') hc
  ·rw[hg.bsz] at hj;exact hg.frozen hj
 ·rcases hv with⟨rfl,rfl⟩|⟨es,n,cap,rfl,rfl,hn,Ru,Az7⟩
  ·exact⟨w.heap.size,0,Al _ _ _,rfl⟩
  ·exact .inr ⟨w.heap.size,0,0,cap,Al _ _ _,rfl,.inl rfl,hn,⟨by rw[hg.bsz];omega,Az7⟩,by rw[hg.size];omega⟩
 ·intro id Bf;rcases hv with⟨rfl,_⟩|⟨es,n,cap,rfl,_⟩<;>(simp[Bo,B6,Am] at Bf;exact .inr Bf)
theorem EY {c:Array Value}{e:TypeId}{d:Nat}{cells:List PV}
  (Ch:(execOp a.eval o).run P w=.ok (.value (.pointer (some ⟨w.heap.size,0,none⟩))) w') (hg:Ff w w' c e)
  (hc:∀(j:Nat) p,cells[j]?=some p->∃u,c[j]?=some u∧Bu w (Ct s.hp β Y) β p u) (hr:∀x∈cells,∀id∈Am x,s.hp id≠none):
  Dt P a w o Y β s (.ptr d 0) [] [(d,.st cells)]:=by
 refine⟨by simp,_,w',Ch,fun Lw=>⟨Cg β d (some (w.heap.size,0)),?_⟩⟩
 have hd:s.hp d=none:=(Bg Lw).1 d (.st cells) (by simp)
 refine M1 (s:=⟨s.tm,Af s.hp []⟩) hg hd trivial ?_ (fun cs hx x UD id Bf=>?_) ?_ ?_
 ·refine⟨w.heap.size,0,Al _ _ _,fun j p hj=>?_,fun j hj=>?_⟩
  ·obtain⟨u,hu,hp⟩:=hc j p hj;refine⟨u,by rw[Nat.zero_add,hg.cell];exact hu,hp.step (hg.step.weaken (fun _ _ x=>x.elim)) (SQ (s:=⟨s.tm,Af s.hp []⟩) hd) fun id Bf=>Ai _ _ ?_⟩
   rintro rfl
   exact hr p (List.mem_of_getElem? hj) id Bf hd
  ·rw[Nat.zero_add];obtain⟨u,hu,_⟩:=hc j _ (List.getElem?_eq_getElem hj)
   exact hg.frozen (by
    rcases Nat.lt_or_ge j c.size with h|h
    ·exact h
    ·rw[Array.getElem?_eq_none h] at hu;cases hu)
 ·injection hx with hx;subst hx;exact hr x UD id Bf
 ·exact⟨w.heap.size,0,Al _ _ _,rfl⟩
 ·intro id Bf;simp[Bo,B6,Am] at Bf;exact .inr Bf
end
open Go.RowKit
section
variable {R:Type} {r:R} {P:Program} {N:Nat} {w0:World} {X0:Gq} {Y:Nat->Prop} {β β':Bt} {s:St} {a:Act} {w w':World} {o:Oper}
theorem H3 {t:TypeId}{n:Nat}(h:(P.info? t).map (·.size)=some n) (w:World):(sizeOf t).run P w=.ok n w:=by
 cases hi:P.info? t with
 |none=>rw[hi] at h;cases h
 |some i=>rw[hi] at h;simp at h;simp[sizeOf,typeInfo,hi,h]
theorem Abu {t:TypeId}{n:Nat}(h:A7 P t=n)(hn:0<n):(P.info? t).map (·.size)=some n:=by
 unfold A7 at h;cases hi:(P.info? t).map (·.size) with
 |none=>rw[hi] at h;simp at h;omega
 |some i=>rw[hi] at h;simp at h;rw[h]
theorem J3 {t:TypeId}{d:TypeDesc}(h:P.underlying t=some d)(w:World):(isAgg t).run P w=.ok (B0 P t) w:=by
 unfold isAgg B0;rw[h];simp only[Sem.run_bind,run_underlying h,Result.andThen_ok];cases d<;>rfl
theorem SS {t:TypeId}{v:Value}{K:PV->Option R}(h:cvK P t v K=some r):∃p,K p=some r∧Bo p=[]∧∀(w:World)(A:Nat->Prop)(β:Bt),Dx w A β p v:=by
 have sc:∀v:Value,K (.sc v)=some r->∃p,K p=some r∧Bo p=[]∧∀(w:World) (A:Nat->Prop) (β:Bt),Dx w A β p v:=fun v h=>⟨_,h,rfl,fun w A β=>Ar.sc v⟩
 unfold cvK at h;split at h
 ·rename_i cs;obtain⟨hl,h⟩:=Aj h;obtain⟨xs,h,hxl,hx⟩:=Pb h;have hl:=Nat.eq_of_beq_eq_true hl;refine⟨_,h,?_,fun w A β=>⟨cs.toList,by simp,?_⟩⟩
  ·show xs.flatMap Am=[];rw[List.flatMap_eq_nil_iff];intro c hc;obtain⟨j,hj⟩:=List.mem_iff_getElem?.1 hc;exact Gd (hx j c hj).1
  ·refine Bb.of_at (by rw[hxl,hl]) fun i c u hc hu=>?_
   obtain⟨hT,p,hp,_,Uy⟩:=hx i c hc;refine (Iv hT).2 (Uy w A β u ?_).1;rw[Nat.zero_add,List.getElem?_map,hu] at hp;simp at hp;subst hp;exact Ar.sc u
 ·split at h
  ·exact⟨_,h,rfl,fun w A β=>Ar.lnil true _⟩
  ·cases h
 ·exact sc _ h
theorem T9 (h:Cj N w0 X0 Y β s a w){x:Operand}(Ch:(execOp a.eval o).run P w=.ok (.value (a.eval x)) w) {K:PV->Option R}(hk:Uu P o.type s.tm x K=some r):
  ∃v,K v=some r∧Dt P a w o Y β s v [] []:=by
 have dflt:K (Bv s.tm x)=some r->∃v,K v=some r∧Dt P a w o Y β s v [] []:=fun hk=>⟨_,hk,Bx Ch (Cn h x) (Eg h x)⟩
 cases x with
 |const v=>
  obtain⟨p,hk,hr,hv⟩:=SS hk;exact⟨p,hk,Bx Ch (hv _ _ _) (by rw[hr];simp)⟩
 |tmp t=>exact dflt hk
 |func f=>exact dflt hk
 |global g=>exact dflt hk
theorem XK {x:Operand}(ho:o.op=.move x):(execOp a.eval o).run P w=.ok (.value (a.eval x)) w:=by unfold execOp;rw[ho];rfl
theorem JY {x:Operand}(ho:o.op=.assign x):(execOp a.eval o).run P w=.ok (.value (a.eval x)) w:=by unfold execOp;rw[ho];rfl
theorem RD (h:Cj N w0 X0 Y β s a w){c x y:Operand}(ho:o.op=.pick c x y){K:PV->Option R}(hk:(Aq (Bv s.tm c) fun t=>Bh t (K (Bv s.tm x)) (K (Bv s.tm y)))=some r):
  ∃v,K v=some r∧Dt P a w o Y β s v [] []:=by
 obtain⟨b,hb,hk⟩:=Dd hk;have hc:=B1 h hb;rcases Jv hk with⟨rfl,hk⟩|⟨rfl,hk⟩
 ·exact⟨_,hk,Bx (by unfold execOp;rw[ho];simp[asBool,hc]) (Cn h x) (Eg h x)⟩
 ·exact⟨_,hk,Bx (by unfold execOp;rw[ho];simp[asBool,hc]) (Cn h y) (Eg h y)⟩
theorem Lb {t:TypeId}{K:List PV->Option R}(h:Fw P t K=some r):∃(v:Value)(cs:List PV),K cs=some r∧L0 P t=some v∧cs.length=(Gr P t).length∧cs.length=v.cells.toList.length∧cs.length=A7 P t ∧
  ∀(j:Nat) c,cs[j]?=some c->Q6 c∧∃u,v.cells.toList[j]?=some u∧u.oneCell'=true∧∀(w:World) (A:Nat->Prop),Ar w A c u:=by
 unfold Fw at h;obtain⟨v,hz,h⟩:=B3 h;obtain⟨hl,h⟩:=Aj h;obtain⟨cs,h,J6,hc⟩:=Pb h;simp only[Bool.and_eq_true] at hl;have Ya:=Nat.eq_of_beq_eq_true hl.1
 have On:(Gr P t).length=A7 P t:=by
  have:=hl.2;simp only[G5,Bool.and_eq_true] at this;exact Nat.eq_of_beq_eq_true this.2
 refine⟨v,cs,h,hz,J6,by rw[J6,Ya],by rw[J6,On],fun j c hj=>?_⟩
 obtain⟨hT,p,hp,_,Uy⟩:=hc j c hj;rw[Nat.zero_add,List.getElem?_map] at hp;cases hu:v.cells.toList[j]? with
 |none=>rw[hu] at hp;cases hp
 |some u=>
  rw[hu] at hp;simp at hp;subst hp;exact⟨hT,u,rfl,(Uy default (fun _=>False) (fun _=>none) u (Ar.sc u)).2,fun w A=>(Uy w A (fun _=>none) u (Ar.sc u)).1⟩
theorem Q8 {t:TypeId}{v:Value}(h:L0 P t=some v)(w:World):(zeroValue t).run P w=.ok v w:=by
 unfold L0 at h;cases hi:P.info? t with
 |none=>rw[hi] at h;cases h
 |some i=>rw[hi] at h;simp at h;simp[zeroValue,typeInfo,hi,h]
theorem KP {t:TypeId}(ho:o.op=.alloc t){d:Nat}{K:PV->List Nat->List (Nat × Bk)->Option R}
  (hk:(Fw P t fun cs=>K (.ptr d 0) [] [(d,Aap P t cs)])=some r):∃v fz nw,K v fz nw=some r∧Dt P a w o Y β s v fz nw:=by
 obtain⟨z,cs,hk,hz,_,hl,_,hc⟩:=Lb hk
 have Ch:(execOp a.eval o).run P w=.ok (.value (.pointer (some ⟨w.heap.size,0,none⟩))) (w.alloc (.cells z.cells t)):=by
  unfold execOp;rw[ho];simp[Instr.alloc,Q8 hz,newVar,newRow]
 have hg:=Ff.alloc w z.cells t;refine⟨_,_,_,hk,?_⟩;unfold Aap;cases Pp P t
 ·refine EY Ch hg (fun j p hj=>?_) fun x hx id Bf=>?_
  ·obtain⟨hT,u,hu,_,hv⟩:=hc j p hj;exact⟨u,by simpa using hu,(Iv hT).2 (hv _ _)⟩
  ·obtain⟨j,hj⟩:=List.mem_iff_getElem?.1 hx;rw[Gd (hc j x hj).1] at Bf;cases Bf
 ·refine Mo (by simp) Ch hg (fun j p hj=>?_) (.inl ⟨rfl,rfl⟩)
  obtain⟨hT,u,hu,h1,hv⟩:=hc j p hj;exact⟨u,by simpa using hu,h1,hv _ _⟩
end
open Go.RowKit
section
variable {R:Type} {r:R} {P:Program} {N:Nat} {w0:World} {X0:Gq} {Y:Nat->Prop} {β β':Bt} {s:St} {a:Act} {w w':World} {o:Oper} {A:Nat->Prop}
theorem M0 {t:TypeId}(h:G5 P t=true):(∃d,P.underlying t=some d)∧(Gr P t).length=A7 P t∧(P.info? t).map (·.size)=some (A7 P t):=by
 simp only[G5,Bool.and_eq_true] at h;refine⟨Option.isSome_iff_exists.1 h.1,Nat.eq_of_beq_eq_true h.2,?_⟩;unfold A7;cases hi:P.info? t with
 |none=>unfold Program.underlying at h;rw[hi] at h;cases h.1
 |some i=>simp
theorem J8 {v:Value}(h:v.oneCell'=true):v.cells = #[v]:=by cases v<;>first|rfl|cases h
theorem TL {p:PV}{v:Value}{ts:List CT}{K:List PV->Option R}(hv:Dx w A β p v)(hl:(cellsOf p).length=ts.length) (h:K7 ts (cellsOf p) 0 K=some r):
  ∃cs,K cs=some r∧cs.length=ts.length∧Bb (Bu w A β) cs v.cells.toList∧(∀u∈v.cells.toList,u.oneCell'=true)∧(∀c∈cs,∀id∈Am c,id∈Bo p)∧∀c∈cs,(∀x,c ≠ .agg x)∧(∀x,c ≠ .tup x):=by
 obtain⟨cs,h,J6,U9,hc⟩:=Oz h;refine⟨cs,h,J6,?_⟩
 have single:(∀x,p ≠ .agg x)->cellsOf p=[p]:=by
  intro hp;cases p<;>first|rfl|exact absurd rfl (hp _)
 by_cases E6:∃x,p=.agg x
 ·obtain⟨x,rfl⟩:=E6;obtain⟨vs,rfl,h2⟩:=hv;have Dc:cs.length=vs.length:=by rw[J6,←hl];exact h2.len
  have key:∀(i:Nat) c u,cs[i]?=some c->vs[i]?=some u->Bu w A β c u∧u.oneCell'=true:=by
   intro i c u Nn hu;obtain⟨q,hq,_,_,hqv⟩:=hc i c Nn;rw[Nat.zero_add] at hq;exact hqv w A β u (h2.at_ hq hu)
  refine⟨Bb.of_at Dc fun i c u Nn hu=>(key i c u Nn hu).1,?_,?_,U9⟩
  ·intro u hu;obtain⟨i,hi⟩:=List.mem_iff_getElem?.1 (show u∈vs from hu)
   have B4:i<vs.length:=by
    rcases Nat.lt_or_ge i vs.length with h|h
    ·exact h
    ·rw[List.getElem?_eq_none h] at hi;cases hi
   exact (key i _ u (List.getElem?_eq_getElem (by omega)) hi).2
  ·intro c MN id Bf;obtain⟨i,hi⟩:=List.mem_iff_getElem?.1 MN;obtain⟨q,hq,_,hr,_⟩:=hc i c hi;rw[Nat.zero_add] at hq;show id∈x.flatMap Am;exact List.mem_flatMap.2 ⟨q,List.mem_of_getElem? hq,hr id Bf⟩
 ·have hp:∀x,p ≠ .agg x:=fun x e=>E6 ⟨x,e⟩
  rw[single hp] at hl hc;have Ya:cs.length=1:=by rw[J6,←hl];rfl
  match cs,Ya with
  |[c],_=>
   obtain⟨q,hq,hf,hr,hqv⟩:=hc 0 c rfl;simp at hq;subst hq;have L7:∀x,p ≠ .tup x:=by rintro x rfl;exact hf
   have Lh:Bu w A β p v:=(Tq hp).1 ((Lg L7).1 hv);obtain⟨h5,h6⟩:=hqv w A β v Lh;rw[J8 h6];refine⟨⟨h5,trivial⟩,?_,?_,U9⟩
   ·intro u hu;simp at hu;subst hu;exact h6
   ·intro c' Nn id Bf;simp at Nn;subst Nn;have:=hr id Bf;cases p<;>first|exact this|exact absurd rfl (hp _)|exact absurd rfl (L7 _)
end
open Go.RowKit
section
variable {R:Type} {r:R} {P:Program} {N:Nat} {w0:World} {X0:Gq} {Y:Nat->Prop} {β β':Bt} {s:St} {a:Act} {w w':World} {o:Oper} {A:Nat->Prop}
theorem Bb.get {α β':Type}{R':α->β'->Prop}{zs:List α}{bs:List β'}(h:Bb R' zs bs){i:Nat}{x:α}(hx:zs[i]?=some x):∃y,bs[i]?=some y∧R' x y:=by
 have B4:i<zs.length:=by
  rcases Nat.lt_or_ge i zs.length with h|h
  ·exact h
  ·rw[List.getElem?_eq_none h] at hx;cases hx
 have hb:bs[i]?=some (bs[i]'(by rw[←h.len];exact B4)):=List.getElem?_eq_getElem _
 exact⟨_,hb,h.at_ hx hb⟩
theorem Aef {p:PV}{v:Value}{ts:List CT}{K:List PV->Option R}(hv:Dx w A β p v)(hl:(cellsOf p).length=ts.length) (h:Ob ts (cellsOf p) 0 K=some r):
  ∃cs,K cs=some r∧cs.length=ts.length∧Bb (Ar w A) cs v.cells.toList∧∀u∈v.cells.toList,u.oneCell'=true:=by
 obtain⟨cs,h,J6,hc⟩:=Pb h;refine⟨cs,h,J6,?_⟩;by_cases E6:∃x,p=.agg x
 ·obtain⟨x,rfl⟩:=E6;obtain⟨vs,rfl,h2⟩:=hv;have Dc:cs.length=vs.length:=by rw[J6,←hl];exact h2.len
  have key:∀(i:Nat) c u,cs[i]?=some c->vs[i]?=some u->Ar w A c u∧u.oneCell'=true:=by
   intro i c u Nn hu;obtain⟨_,q,hq,_,hqv⟩:=hc i c Nn;rw[Nat.zero_add] at hq;exact hqv w A β u (h2.at_ hq hu)
  refine⟨Bb.of_at Dc fun i c u Nn hu=>(key i c u Nn hu).1,?_⟩
  intro u hu;obtain⟨i,hi⟩:=List.mem_iff_getElem?.1 (show u∈vs from hu)
  have B4:i<vs.length:=by
   rcases Nat.lt_or_ge i vs.length with h|h
   ·exact h
   ·rw[List.getElem?_eq_none h] at hi;cases hi
  exact (key i _ u (List.getElem?_eq_getElem (by omega)) hi).2
 ·have hp:∀x,p ≠ .agg x:=fun x e=>E6 ⟨x,e⟩
  have single:cellsOf p=[p]:=by cases p<;>first|rfl|exact absurd rfl (hp _)
  rw[single] at hl hc;have Ya:cs.length=1:=by rw[J6,←hl];rfl
  match cs,Ya with
  |[c],_=>
   obtain⟨_,q,hq,hf,hqv⟩:=hc 0 c rfl;simp at hq;subst hq;have L7:∀x,p ≠ .tup x:=by rintro x rfl;exact hf
   have Lh:Bu w A β p v:=(Tq hp).1 ((Lg L7).1 hv);obtain⟨h5,h6⟩:=hqv w A β v Lh;rw[J8 h6];exact⟨⟨h5,trivial⟩,fun u hu=>by simp at hu;subst hu;exact h6⟩
theorem VX (h:Cj N w0 X0 Y β s a w){t:TypeId}{x:Operand}(ho:o.op=.box t x){d:Nat}{K:PV->List Nat->List (Nat × Bk)->Option R}
    (hk:(Bi (G5 P t&&Nat.beq (cellsOf (Bv s.tm x)).length (Gr P t).length)
      (bif Pp P t then Ob (Gr P t) (cellsOf (Bv s.tm x)) 0 fun cs=>K (.ptr d 0) [] [(d,.ar false cs)]
       else K7 (Gr P t) (cellsOf (Bv s.tm x)) 0 fun cs=>K (.ptr d 0) [] [(d,.st cs)]))=some r):∃v fz nw,K v fz nw=some r∧Dt P a w o Y β s v fz nw:=by
  obtain⟨hl,hk⟩:=Aj hk
  simp only[Bool.and_eq_true] at hl
  have hl:=Nat.eq_of_beq_eq_true hl.2
  have Ch:(execOp a.eval o).run P w=.ok (.value (.pointer (some ⟨w.heap.size,0,none⟩))) (w.alloc (.cells (a.eval x).cells t)):=by
    unfold execOp
    rw[ho]
    simp[Instr.box,newVar,newRow]
  have hg:=Ff.alloc w (a.eval x).cells t
  cases ha:Pp P t
  · rw[ha] at hk
    obtain⟨cs,hk,_,h2,_,hr,_⟩:=TL (Cn h x) hl hk
    refine⟨_,_,_,hk,EY Ch hg (fun j p hj=>?_) fun c hc id Bf=>Eg h x id (hr c hc id Bf)⟩
    obtain⟨u,hu,hp⟩:=h2.get hj
    exact⟨u,by simpa using hu,hp⟩
  · rw[ha] at hk
    obtain⟨cs,hk,_,h2,h1⟩:=Aef (Cn h x) hl hk
    refine⟨_,_,_,hk,Mo (by simp) Ch hg (fun j p hj=>?_) (.inl ⟨rfl,rfl⟩)⟩
    obtain⟨u,hu,hp⟩:=h2.get hj
    exact⟨u,by simpa using hu,h1 u (List.mem_of_getElem? hu),hp⟩
theorem OS {c:PV}(h1:∀x,c ≠ .agg x)(h2:∀x,c ≠ .tup x):Bo c=Am c:=by
 cases c<;>first|rfl|exact absurd rfl (h1 _)|exact absurd rfl (h2 _)
theorem Tc {t:TypeId}{ad:Addr}{cs:List PV}{p:PV}(hok:G5 P t=true)(Dc:cs.length=(Gr P t).length)
  (U9:∀c∈cs,(∀x,c ≠ .agg x)∧(∀x,c ≠ .tup x))
  (hc:∀(j:Nat) c,cs[j]?=some c->∃v,w.cell? (ad.add j)=some v∧Bu w A β c v)
  (hp:(B0 P t=true∧p=.agg cs)∨(B0 P t=false∧cs=[p])):∃val,(loadVar t ad).run P w=.ok val w∧Dx w A β p val:=by
 obtain⟨⟨d,hd⟩,hl,hi⟩:=M0 hok;rcases hp with⟨E6,rfl⟩|⟨E6,rfl⟩
 ·have hf:∀j,j<A7 P t->w.cell? (ad.add j)=some ((w.cell? (ad.add j)).getD undef):=by
   intro j hj;obtain⟨v,hv,_⟩:=hc j _ (List.getElem?_eq_getElem (by omega))
   rw[hv];rfl
  refine⟨_,?_,(List.range (A7 P t)).map (fun j=>(w.cell? (ad.add j)).getD undef),rfl,?_⟩
  ·simp only[loadVar,Sem.run_bind,J3 hd,E6,Result.andThen_ok,if_true,H3 hi,run_loadCells w ad (A7 P t) _ hf];simp
  ·refine Bb.of_at (by simp;omega) fun i c u Nn hu=>?_
   obtain⟨v,hv,We⟩:=hc i c Nn
   have B4:i<A7 P t:=by
    rcases Nat.lt_or_ge i cs.length with h|h
    ·omega
    ·rw[List.getElem?_eq_none h] at Nn;cases Nn
   rw[List.getElem?_map,List.getElem?_range B4] at hu;simp[hv] at hu;subst hu;exact We
 ·obtain⟨v,hv,We⟩:=hc 0 p rfl;have hn:=U9 p (by simp)
  have h0:ad.add 0=ad:=by simp[Addr.add]
  rw[h0] at hv;refine⟨v,?_,(Lg hn.2).2 ((Tq hn.1).2 We)⟩;simp only[loadVar,Sem.run_bind,J3 hd,E6,Result.andThen_ok];simp[hv]
theorem Aa3 {hp:Nat->Option Bk}{id:Nat}{c:List PV}(h:rd hp id=some c):hp id=some (.st c)∨∃f,hp id=some (.ar f c):=by
 unfold rd at h;split at h
 ·rename_i e;simp at h;subst h;exact .inl e
 ·rename_i f _ e;simp at h;subst h;exact .inr ⟨_,e⟩
 ·cases h
theorem GZ {hp:Nat->Option Bk}{id:Nat}{c:List PV}(h:Hl hp id=some c):∃f,hp id=some (.ar f c):=by
 unfold Hl at h;split at h
 ·rename_i e;simp at h;subst h;exact⟨_,e⟩
 ·cases h
theorem Zc (h:Cj N w0 X0 Y β s a w){id:Nat}{c:List PV}(hr:rd s.hp id=some c){b ob:Nat}(hβ:β id=some (b,ob)) {j:Nat}{p:PV}(hj:c[j]?=some p):
  ∃v,w.cell? ⟨b,ob+j,none⟩=some v∧Bu w (Ct s.hp β Y) β p v:=by
 rcases Aa3 hr with hb|⟨f,hb⟩
 ·obtain⟨b',o',h1,h2,_⟩:=h.box id _ hb;rw[hβ] at h1;simp at h1;obtain⟨rfl,rfl⟩:=h1;exact h2 j p hj
 ·rcases h.box id _ hb with⟨h1,_⟩|⟨b',o',h1,h2,_⟩
  ·rw[hβ] at h1;cases h1
  ·rw[hβ] at h1;simp at h1;obtain⟨rfl,rfl⟩:=h1
   obtain⟨v,hv,_,ht⟩:=h2 j p hj;rw[D4] at hv;refine⟨v,hv,?_⟩;cases ht with
   |sc=>exact Ar.sc _
   |top=>exact Ar.top _
   |ub=>exact Ar.ub _
   |lnil=>exact Ar.lnil _ _
   |lemp=>exact Ar.lemp _ _ _
   |lst es n cells a cap f hs hb hA hn hc h1 hr=>exact Ar.lst es n cells a cap f hs hb hA hn hc h1 hr
theorem H8:∀{ts:List CT}{cells:List PV}{off:Nat}{K:List PV->Option R},Ob ts cells off K=some r->K7 ts cells off K=some r
 |[],_,_,_,h=>h
 |.int k::ts,cells,off,K,h=>by
  obtain⟨n,hp,h⟩:=Dv (show Ak k (cells.getD off .top) _=some r from h)
  show Ak k _ _=_;rw[hp];simp only[Ak,if_true];exact H8 h
 |.bool::ts,cells,off,K,h=>by
  obtain⟨n,hp,h⟩:=Dd (show Aq (cells.getD off .top) _=some r from h)
  show Aq _ _=_;rw[hp];exact H8 h
 |.str::ts,cells,off,K,h=>by
  obtain⟨n,hp,h⟩:=C7 (show Az (cells.getD off .top) _=some r from h)
  show Az _ _=_;rw[hp];exact H8 h
 |.sl es::ts,cells,off,K,h=>by
  obtain⟨z,n,c,h,hp⟩:=Ep (show R8 es (cells.getD off .top) _=some r from h)
  change fcK (.sl es) (cells.getD off .top) (fun c=>K7 ts cells (off+1) fun r=>K (c::r))=some r
  unfold fcK;dsimp only;unfold fsK;rcases hp with hp|⟨hp,rfl,rfl,rfl⟩
  ·rw[hp];simp only[R8,Nat.beq_refl,cond_true];exact H8 h
  ·rw[hp];exact H8 h
 |.any::ts,cells,off,K,h=>by
  have hK:∀v,Ob ts cells (off+1) (fun r=>K (.sc v::r))=some r->K7 ts cells (off+1) (fun r=>K (.sc v::r))=some r:=fun v h=>H8 h
  have h:WV (cells.getD off .top) (fun v=>Ob ts cells (off+1) fun r=>K (.sc v::r))=some r:=h
  show WV (cells.getD off .top) (fun v=>K7 ts cells (off+1) fun r=>K (.sc v::r))=some r
  unfold WV at h ⊢;split at h
  ·rename_i e;exact hK _ h
  ·exact hK _ h
  ·cases h
theorem Ar.unz {w:World}{A:Nat->Prop}{z:Bool}{es n:Nat}{c:List PV}{u:Value}(h:Ar w A (.lst z es n c) u):Ar w A (.lst false es n c) u:=by
 cases h with
 |lnil z es=>exact .lnil false es
 |lemp es a cap=>exact .lemp es a cap
 |lst es n c a cap f h1 h2 h3 h4 h5 h6 h7=>exact .lst es n c a cap f h1 h2 h3 h4 h5 h6 h7
theorem WX {w:World}{A:Nat->Prop}{β:Bt}{p:PV}{u:Value}(h:Bu w A β p u):Bu w A β (II p) u:=by
 cases p with
 |lst z es n c=>exact Ar.unz h
 |_=>exact h
theorem PO (p:PV):Am (II p)=Am p:=by cases p<;>rfl
theorem DZ {w:World}{A:Nat->Prop}{β:Bt}:∀{cs:List PV}{vs:List Value},Bb (Bu w A β) cs vs->Bb (Bu w A β) (cs.map II) vs
 |[],[],_=>trivial
 |_::_,_::_,h=>⟨WX h.1,DZ h.2⟩
 |[],_::_,h=>h.elim
 |_::_,[],h=>h.elim
theorem VR {w:World}{A:Nat->Prop}{β:Bt}{p:PV}{u:Value}(h:Dx w A β p u):Dx w A β (QE p) u:=by
 cases p with
 |agg cs=>
  obtain⟨vs,h1,h2⟩:=(show Gk w A β (.agg cs) u from h)
  exact⟨vs,h1,DZ h2⟩
 |lst z es n c=>exact Ar.unz (show Ar w A (.lst z es n c) u from h)
 |_=>exact h
theorem WM (p:PV):Bo (QE p)=Bo p:=by
 cases p with
 |agg cs=>
  show (cs.map II).flatMap Am=cs.flatMap Am
  induction cs with
  |nil=>rfl
  |cons a l ih=>rw[List.map_cons,List.flatMap_cons,List.flatMap_cons,ih,PO]
 |_=>rfl
theorem Aen {nz:Bool}{hp:Nat->Option Bk}{t:TypeId}{x:PV}{K:PV->Option R}(h:Sn nz P (rd hp) (Hl hp) t x K=some r):
  Rm P (rd hp) t x K=some r∨Rm P (rd hp) t x (fun v=>K (QE v))=some r:=by
 have h':Rm P (rd hp) t x K=some r∨Rm P (rd hp) t x (fun v=>K (bif nz then v else QE v))=some r:=by
  unfold Sn at h;unfold Rm;split at h
  ·rename_i id off;obtain⟨hb,h⟩:=Aj h;rw[hb];show Dk _ _=_∨Dk _ _=_;split at h
   ·rename_i c hc;obtain⟨f,I2⟩:=GZ hc;have:rd hp id=some c:=by unfold rd;rw[I2]
    rw[this];exact .inr (H8 h)
   ·exact .inl h
  ·exact .inr h
  ·cases h
 cases nz
 ·exact h'
 ·exact .inl (h'.elim id id)
theorem FB (h:Cj N w0 X0 Y β s a w){t:TypeId}{x:PV}{u:Value}(hx:Dx w (Ct s.hp β Y) β x u) {K:PV->Option R}(hk:Rm P (rd s.hp) t x K=some r):
  ∃v ad val,K v=some r∧u=.pointer (some ad)∧(loadVar t ad).run P w=.ok val w∧Dx w (Ct s.hp β Y) β v val∧∀i∈Bo v,s.hp i≠none:=by
 unfold Rm at hk;split at hk
 ·rename_i id off;obtain⟨hok,hk⟩:=Aj hk;obtain⟨c,hr,hk⟩:=B3 hk;obtain⟨cs,hk,hl,U9,hc⟩:=Oz hk;obtain⟨b,ob,hβ,Cv⟩:=hx
  have Cm:∀(j:Nat) q,cs[j]?=some q->∃v,w.cell? ((⟨b,ob+off,none⟩:Addr).add j)=some v∧Bu w (Ct s.hp β Y) β q v:=by
   intro j q hq;obtain⟨p,hp,_,_,Uy⟩:=hc j q hq;obtain⟨v,hv,We⟩:=Zc h hr hβ hp;exact⟨v,by rw[D4,Nat.add_assoc];exact hv,(Uy _ _ _ _ We).1⟩
  have Q3:∀q∈cs,∀i∈Am q,s.hp i≠none:=by
   intro q hq i hi;obtain⟨j,hj⟩:=List.mem_iff_getElem?.1 hq;obtain⟨p,hp,_,hpr,_⟩:=hc j q hj;rcases Aa3 hr with hb|⟨f,hb⟩
   ·exact h.wfB id c hb p (List.mem_of_getElem? hp) i (hpr i hi)
   ·obtain⟨v,hv,We⟩:=Zc h hr hβ hp;exfalso;have Ck:=hpr i hi;rcases h.box id _ hb with⟨_,rfl⟩|⟨b',o',h1,h2,_⟩
    ·simp at hp
    ·obtain⟨v',_,_,ht⟩:=h2 _ p hp;cases ht<;>cases Ck
  rcases GO hk with⟨E6,D8⟩|⟨E6,q,rfl,D8⟩
  ·obtain⟨val,Tj,hv⟩:=Tc hok hl U9 Cm (.inl ⟨E6,rfl⟩);refine⟨_,_,val,D8,Cv,Tj,hv,fun i hi=>?_⟩
   obtain⟨q,hq,hi⟩:=List.mem_flatMap.1 (show i∈cs.flatMap Am from hi)
   exact Q3 q hq i hi
  ·obtain⟨val,Tj,hv⟩:=Tc hok hl U9 Cm (.inr ⟨E6,rfl⟩);refine⟨_,_,val,D8,Cv,Tj,hv,fun i hi=>Q3 q (by simp) i ?_⟩
   have hn:=U9 q (by simp)
   rw[OS hn.1 hn.2] at hi;exact hi
 ·rename_i c off;obtain⟨hok,hk⟩:=Aj hk;obtain⟨cs,hk,hl,hc⟩:=Pb hk;obtain⟨ad,Cv,hs,hb,hA,XY⟩:=hx
  have U9:∀q∈cs,(∀x,q ≠ .agg x)∧(∀x,q ≠ .tup x):=by
   intro q hq;obtain⟨j,hj⟩:=List.mem_iff_getElem?.1 hq;exact⟨S5 (hc j q hj).1,SX (hc j q hj).1⟩
  have Cm:∀(j:Nat) q,cs[j]?=some q->∃v,w.cell? ((ad.add off).add j)=some v∧Bu w (Ct s.hp β Y) β q v:=by
   intro j q hq;obtain⟨hT,p,hp,Ze,Uy⟩:=hc j q hq;obtain⟨v,hv,_,ht⟩:=XY (off+j) p hp;exact⟨v,by rw[add_add];exact hv,(Iv hT).2 (Uy w (Ct s.hp β Y) β v ((Iv Ze).2 ht)).1⟩
  have Q3:∀q∈cs,Am q=[]:=by
   intro q hq;obtain⟨j,hj⟩:=List.mem_iff_getElem?.1 hq;exact Gd (hc j q hj).1
  rcases GO hk with⟨E6,D8⟩|⟨E6,q,rfl,D8⟩
  ·obtain⟨val,Tj,hv⟩:=Tc hok hl U9 Cm (.inl ⟨E6,rfl⟩);refine⟨_,_,val,D8,Cv,Tj,hv,fun i hi=>?_⟩
   obtain⟨q,hq,hi⟩:=List.mem_flatMap.1 (show i∈cs.flatMap Am from hi)
   rw[Q3 q hq] at hi;cases hi
  ·obtain⟨val,Tj,hv⟩:=Tc hok hl U9 Cm (.inr ⟨E6,rfl⟩);refine⟨_,_,val,D8,Cv,Tj,hv,fun i hi=>?_⟩
   have hn:=U9 q (by simp)
   rw[OS hn.1 hn.2,Q3 q (by simp)] at hi
   cases hi
 ·cases hk
theorem MH (h:Cj N w0 X0 Y β s a w){t:TypeId}{x:PV}{u:Value}(hx:Dx w (Ct s.hp β Y) β x u) {nz:Bool}{K:PV->Option R}(hk:Sn nz P (rd s.hp) (Hl s.hp) t x K=some r):
  ∃v ad val,K v=some r∧u=.pointer (some ad)∧(loadVar t ad).run P w=.ok val w∧Dx w (Ct s.hp β Y) β v val∧∀i∈Bo v,s.hp i≠none:=by
 rcases Aen hk with hk|hk
 ·exact FB h hx hk
 ·obtain⟨v,ad,val,h1,h2,h3,h4,h5⟩:=FB h hx hk;exact⟨QE v,ad,val,h1,h2,h3,VR h4,by rw[WM];exact h5⟩
theorem QJ (h:Cj N w0 X0 Y β s a w){t:TypeId}{x:Operand}(ho:o.op=.load t x){nz:Bool}{K:PV->Option R}(hk:Sn nz P (rd s.hp) (Hl s.hp) t (Bv s.tm x) K=some r):
  ∃v,K v=some r∧Dt P a w o Y β s v [] []:=by
 obtain⟨v,ad,val,Dn,Cv,hl,hv,hr⟩:=MH h (Cn h x) hk;refine⟨v,Dn,Bx ?_ hv hr⟩;unfold execOp;rw[ho];simp[Instr.loadAt,Instr.sureAddr,Cv,hl]
theorem UY {x:PV}{d:Nat}{K:PV->Option R}(h:Pw x d K=some r):(∃id off,x=.ptr id off∧K (.ptr id (off+d))=some r)∨∃c off,x=.iptr c off∧K (.iptr c (off+d))=some r:=by
 unfold Pw at h;split at h
 ·exact .inl ⟨_,_,rfl,h⟩
 ·exact .inr ⟨_,_,rfl,h⟩
 ·cases h
theorem R0 (h:Cj N w0 X0 Y β s a w){x:Operand}{d:Nat}{K:PV->Option R}(hk:Pw (Bv s.tm x) d K=some r)
  (Ch:∀ad:Addr,a.eval x=.pointer (some ad)->(execOp a.eval o).run P w=.ok (.value (.pointer (some (ad.add d)))) w):∃v,K v=some r∧Dt P a w o Y β s v [] []:=by
 have hx:=Cn h x;have AZ:=Eg h x;rcases UY hk with⟨id,off,e,hk⟩|⟨c,off,e,hk⟩
 ·rw[e] at hx AZ;obtain⟨b,ob,hβ,Cv⟩:=hx;refine⟨_,hk,Bx (Ch _ Cv) ⟨b,ob,hβ,by rw[D4,Nat.add_assoc]⟩ AZ⟩
 ·rw[e] at hx;obtain⟨ad,Cv,h1,h2,h3,h4⟩:=hx;exact⟨_,hk,Bx (Ch _ Cv) ⟨ad,by rw[add_add],h1,h2,h3,h4⟩ (by intro i hi;cases hi)⟩
theorem Zt (h:Cj N w0 X0 Y β s a w){x:Operand}(ho:o.op=.nilCheck x){K:PV->Option R}(hk:Pw (Bv s.tm x) 0 K=some r):∃v,K v=some r∧Dt P a w o Y β s v [] []:=by
 refine R0 h hk fun ad Cv=>?_
 unfold execOp;rw[ho];simp[Cv,Addr.add]
theorem Tz {t:TypeId}{f:Nat}{q:Nat × TypeId}(h:L6 P t f=some q):∃fs g,P.underlying t=some (.struct fs)∧fs[f]?=some g∧q=(g.offset,g.type):=by
 unfold L6 at h;split at h
 ·rename_i fs e;cases hg:fs[f]? with
  |none=>rw[hg] at h;cases h
  |some g=>rw[hg] at h;simp at h;exact⟨fs,g,e,hg,h.symm⟩
 ·cases h
theorem Wj (h:Cj N w0 X0 Y β s a w){t:TypeId}{x:Operand}{f:Nat}(ho:o.op=.fieldAddr t x f){K:PV->Option R}
  (hk:(Dk (L6 P t f) fun q=>Bi (Nat.ble 1 (A7 P q.2)) (Pw (Bv s.tm x) q.1 K))=some r):∃v,K v=some r∧Dt P a w o Y β s v [] []:=by
 obtain⟨q,hq,hk⟩:=B3 hk;obtain⟨hs,hk⟩:=Aj hk;obtain⟨fs,g,hu,hg,rfl⟩:=Tz hq;have hs:1<=A7 P g.type:=Nat.le_of_ble_eq_true hs;have K1:=Abu (P:=P) (t:=g.type) rfl (by omega)
 refine R0 h hk fun ad Cv=>?_
 unfold execOp;rw[ho];have Ec:¬A7 P g.type=0:=by omega
 simp[Instr.fieldAt,run_underlying hu,hg,Instr.sureAddr,Cv,fieldPlace,H3 K1,Ec]
end
open Go.RowKit
section
variable {R:Type} {r:R} {P:Program} {N:Nat} {w0:World} {X0:Gq} {Y:Nat->Prop} {β β':Bt} {s:St} {a:Act} {w w':World} {o:Oper} {A:Nat->Prop}
theorem Zu (h:Cj N w0 X0 Y β s a w){t:TypeId}{cs:List PV}{vs:List Value}{off:Nat}{K:PV->Option R}{x:Operand}(hx:Bv s.tm x=.agg cs)(hv:Bb (Bu w (Ct s.hp β Y) β) cs vs)
  (hk:Bi (G5 P t) (K7 (Gr P t) cs off fun c=>SW (B0 P t) c K)=some r)
  (Ch:∀val,(part t ⟨vs⟩ off).run P w=.ok val w->(execOp a.eval o).run P w=.ok (.value val) w):∃v,K v=some r∧Dt P a w o Y β s v [] []:=by
 obtain⟨hok,hk⟩:=Aj hk;obtain⟨⟨d,hd⟩,hl,hi⟩:=M0 hok;obtain⟨qs,hk,hql,U9,hq⟩:=Oz hk;have AZ:=Eg h x;rw[hx] at AZ
 have Cm:∀(j:Nat) q,qs[j]?=some q->∃v,vs[off+j]?=some v∧Bu w (Ct s.hp β Y) β q v:=by
  intro j q hj;obtain⟨p,hp,_,_,Uy⟩:=hq j q hj;obtain⟨v,Lh,hc⟩:=hv.get hp;exact⟨v,Lh,(Uy _ _ _ _ hc).1⟩
 have Q3:∀q∈qs,∀i∈Am q,s.hp i≠none:=by
  intro q hqm i hi;obtain⟨j,hj⟩:=List.mem_iff_getElem?.1 hqm;obtain⟨p,hp,_,hpr,_⟩:=hq j q hj;exact AZ i (List.mem_flatMap.2 ⟨p,List.mem_of_getElem? hp,hpr i hi⟩)
 rcases GO hk with⟨E6,D8⟩|⟨E6,q,rfl,D8⟩
 ·have Xc:A7 P t=0∨off+A7 P t<=vs.length:=by
   rcases Nat.eq_zero_or_pos (A7 P t) with h0|h0
   ·exact .inl h0
   ·obtain⟨v,Lh,_⟩:=Cm (A7 P t-1) _ (List.getElem?_eq_getElem (by omega))
    have:off+(A7 P t-1)<vs.length:=by
     rcases Nat.lt_or_ge (off+(A7 P t-1)) vs.length with h|h
     ·exact h
     ·rw[List.getElem?_eq_none h] at Lh;cases Lh
    exact .inr (by omega)
  refine⟨_,D8,Bx (Ch (.agg ⟨(vs.drop off).take (A7 P t)⟩) ?_) ⟨(vs.drop off).take (A7 P t),rfl,?_⟩ fun i hi=>?_⟩
  ·simp only[part,Sem.run_bind,J3 hd,E6,Result.andThen_ok,if_true,H3 hi];simp[List.extract_eq_take_drop]
  ·refine Bb.of_at ?_ fun i c u hc hu=>?_
   ·simp only[List.length_take,List.length_drop];omega
   ·obtain⟨v,Lh,We⟩:=Cm i c hc
    have B4:i<A7 P t:=by
     rcases Nat.lt_or_ge i qs.length with h|h
     ·omega
     ·rw[List.getElem?_eq_none h] at hc;cases hc
    rw[List.getElem?_take_of_lt B4,List.getElem?_drop,Lh] at hu;cases hu;exact We
  ·obtain⟨q,hqm,hi⟩:=List.mem_flatMap.1 (show i∈qs.flatMap Am from hi)
   exact Q3 q hqm i hi
 ·obtain⟨v,Lh,We⟩:=Cm 0 q rfl;have hn:=U9 q (by simp)
  refine⟨_,D8,Bx (Ch v ?_) ((Lg hn.2).2 ((Tq hn.1).2 We)) fun i hi=>?_⟩
  ·simp only[part,Sem.run_bind,J3 hd,E6,Result.andThen_ok];rw[Nat.add_zero] at Lh;simp[Lh]
  ·rw[OS hn.1 hn.2] at hi;exact Q3 q (by simp) i hi
theorem NQ (h:Cj N w0 X0 Y β s a w){t:TypeId}{x:Operand}{f:Nat}(ho:o.op=.field t x f){K:PV->Option R}
  (hk:(Dk (L6 P t f) fun q=>Bi (G5 P q.2)<|Fo (Bv s.tm x) fun cs=>K7 (Gr P q.2) cs q.1 fun c=>SW (B0 P q.2) c K)=some r):∃v,K v=some r∧Dt P a w o Y β s v [] []:=by
 obtain⟨q,hq,hk⟩:=B3 hk;obtain⟨hok,hk⟩:=Aj hk;obtain⟨cs,hx,hk⟩:=F2 hk;obtain⟨fs,g,hu,hg,rfl⟩:=Tz hq;have hxv:=Cn h x;rw[hx] at hxv;obtain⟨vs,Cv,hv⟩:=hxv;refine Zu (t:=g.type) (off:=g.offset) h hx hv (by rw[show G5 P g.type=true from hok];exact hk) fun val hp=>?_
 unfold execOp;rw[ho];simp[Instr.field,run_underlying hu,hg,asAgg,Cv,hp]
theorem CG (h:Cj N w0 X0 Y β s a w){x:Operand}{i:Nat}(ho:o.op=.extract x i){K:PV->Option R}
  (hk:(match Bv s.tm x with | .tup vs=>Dk vs[i]? K|_=>none)=some r):∃v,K v=some r∧Dt P a w o Y β s v [] []:=by
 have hx:=Cn h x;have AZ:=Eg h x;split at hk
 ·rename_i ps e;rw[e] at hx AZ;obtain⟨p,hp,hk⟩:=B3 hk;obtain⟨vs,Cv,hv⟩:=hx;obtain⟨v,Lh,Uy⟩:=hv.get hp
  have Ag7:∀y,p ≠ .tup y:=by
   rintro y rfl
   have A2h:Ar _ _ (.tup y) v:=Uy;cases A2h
  refine⟨p,hk,Bx (val:=v) ?_ ((Lg Ag7).2 Uy) fun id Bf=>AZ id ?_⟩
  ·unfold execOp;rw[ho];simp[Instr.extract,Cv,Lh]
  ·refine List.mem_flatMap.2 ⟨p,List.mem_of_getElem? hp,?_⟩;cases p<;>first|exact Bf|exact absurd rfl (Ag7 _)
 ·cases hk
theorem Fh {es:Nat}{p:PV}{z:Bool}{n:Nat}{c:List PV}{v:Value}(hp:p=.lst z es n c∨(p=.sc (.slice none 0 0)∧z=true∧n=0∧c=[])) (hv:Dx w A β p v):
  (v=.slice none 0 0∧n=0∧c=[])∨(∃ad cap,v=.slice (some ad) n cap∧z=false∧n<=cap∧ad.spot=none∧ad.block<w.heap.size∧¬A ad.block∧NT w A ad c)∨∃ad cap,v=.slice (some ad) 0 cap∧z=false∧n=0∧c=[]:=by
 have Lh:Bu w A β p v:=by rcases hp with rfl|⟨rfl,_⟩<;>exact hv
 have ht:=Rg hp Lh;cases ht with
 |lnil=>exact .inl ⟨rfl,rfl,rfl⟩
 |lst _ _ _ ad cap f hs hb hA hn hc h1 hr=>exact .inr (.inl ⟨ad,cap,rfl,rfl,hn,hs,hb,hA,fun j q hj=>⟨f j,hc j q hj,h1 j q hj,hr j q hj⟩⟩)
 |lemp _ ad cap=>exact .inr (.inr ⟨ad,cap,rfl,rfl,rfl,rfl⟩)
theorem Wm (h:Cj N w0 X0 Y β s a w){t:TypeId}{x i:Operand}(ho:o.op=.indexAddr t x i){K:PV->Option R}
  (hk:(C8 (Bv s.tm i) fun _ n=>H9 P t (Bv s.tm x) n K)=some r):∃v,K v=some r∧Dt P a w o Y β s v [] []:=by
 obtain⟨ik,n,hi,hk⟩:=C3 hk;have hai:=B1 h hi;have hx:=Cn h x;have AZ:=Eg h x;unfold H9 at hk;split at hk
 ·rename_i len e hu;obtain⟨hz,hk⟩:=Aj hk;obtain⟨hb,hk⟩:=Aj hk;simp only[Bool.and_eq_true,decide_eq_true_eq] at hb;obtain⟨inf,Lz⟩:=Option.isSome_iff_exists.1 hz;refine R0 h hk fun ad Cv=>?_
  unfold execOp;rw[ho];simp[Instr.indexAt,asIntOf,hai,Cv,run_underlying hu,Instr.sureAddr,hb.1,hb.2,sizeOf,typeInfo,Lz,A7]
 ·rename_i e hu;obtain⟨hz,hk⟩:=Aj hk;obtain⟨inf,Lz⟩:=Option.isSome_iff_exists.1 hz;have K1:A7 P e=inf.size:=by simp[A7,Lz]
  split at hk
  ·rename_i id es off n' e';rw[e'] at hx AZ;obtain⟨Qp,hk⟩:=Aj hk;have Qp:=Nat.eq_of_beq_eq_true Qp;subst Qp;obtain⟨hb,hk⟩:=Aj hk;simp only[Bool.and_eq_true,decide_eq_true_eq] at hb;rcases hx with⟨_,_,rfl,_⟩|⟨b,ob,y,cap,hβ,Cv,hy,_⟩
   ·omega
   ·have hy:y=ob+off:=by rcases hy with hy|⟨rfl,_⟩<;>omega
    subst hy;refine⟨_,hk,Bx (val:=.pointer (some ⟨b,ob+(off+n.toNat*A7 P e),none⟩)) ?_ ⟨b,ob,hβ,rfl⟩ AZ⟩;unfold execOp;rw[ho];simp[Instr.indexAt,asIntOf,hai,Cv,run_underlying hu,hb.1,hb.2,sizeOf,typeInfo,Lz,K1,D4,Nat.add_assoc]
  ·obtain⟨z,n',c,hk,hp⟩:=Ep hk;obtain⟨hb,hk⟩:=Aj hk;simp only[Bool.and_eq_true,decide_eq_true_eq] at hb;rcases Fh hp hx with⟨_,rfl,_⟩|⟨ad,cap,Cv,_,_,h1,h2,h3,h4⟩|⟨_,_,_,_,rfl,_⟩
   ·omega
   rotate_left
   ·omega
   ·refine⟨_,hk,Bx (val:=.pointer (some (ad.add (n.toNat*A7 P e)))) ?_ ⟨ad,rfl,h1,h2,h3,h4⟩ (by intro i hi;cases hi)⟩
    unfold execOp;rw[ho];simp[Instr.indexAt,asIntOf,hai,Cv,run_underlying hu,hb.1,hb.2,sizeOf,typeInfo,Lz,K1]
 ·cases hk
theorem ME (h:Cj N w0 X0 Y β s a w){t:TypeId}{x i:Operand}(ho:o.op=.index t x i){K:PV->Option R}
  (hk:(C8 (Bv s.tm i) fun _ n=>
   match P.underlying t with
   |some .string=>Az (Bv s.tm x) fun s=>Bi (decide (0<=n)) (Dk (s.data.toList[n.toNat]?) fun b=>K (.sc (.int .u8 b.toNat)))
   |some (.array len e)=>Fo (Bv s.tm x) fun cs=>Bi (decide (0<=n)&&decide (n<len)&&G5 P e) (K7 (Gr P e) cs (n.toNat*A7 P e) fun c=>SW (B0 P e) c K)
   |_=>none)=some r):∃v,K v=some r∧Dt P a w o Y β s v [] []:=by
 obtain⟨ik,n,hi,hk⟩:=C3 hk;have hai:=B1 h hi;split at hk
 ·rename_i hu;obtain⟨sb,hx,hk⟩:=C7 hk;have Cv:=B1 h hx;obtain⟨h0,hk⟩:=Aj hk;obtain⟨b,hb,hk⟩:=B3 hk;have h0:=of_decide_eq_true h0;refine⟨_,hk,Cc ?_⟩
  have B4:n.toNat<sb.size:=by
   rcases Nat.lt_or_ge n.toNat sb.data.toList.length with h|h
   ·simpa using h
   ·rw[List.getElem?_eq_none h] at hb;cases hb
  have Gi:sb[n.toNat]=b:=by
   have:sb.data.toList[n.toNat]?=some sb[n.toNat]:=by
    rw[List.getElem?_eq_getElem (by simpa using B4)]
    rfl
   rw[hb] at this;injection this with this;exact this.symm
  unfold execOp;rw[ho];simp[Instr.index,asIntOf,hai,Cv,run_underlying hu,h0,B4,Gi]
 ·rename_i len e hu;obtain⟨cs,hx,hk⟩:=F2 hk;obtain⟨hb,hk⟩:=Aj hk;simp only[Bool.and_eq_true,decide_eq_true_eq] at hb;have hxv:=Cn h x;rw[hx] at hxv;obtain⟨vs,Cv,hv⟩:=hxv;obtain⟨_,_,K1⟩:=M0 hb.2;refine Zu (t:=e) (off:=n.toNat*A7 P e) h hx hv (by rw[hb.2];exact hk) fun val hp=>?_
  unfold execOp;rw[ho];simp[Instr.index,asIntOf,hai,Cv,run_underlying hu,hb.1.1,hb.1.2,H3 K1,hp]
 ·cases hk
end
open Go.RowKit
section
variable {R:Type} {r:R} {P:Program} {N:Nat} {w0:World} {X0:Gq} {Y:Nat->Prop} {β β':Bt} {s:St} {a:Act} {w w':World} {o:Oper} {A:Nat->Prop}
theorem Dh (h:Cj N w0 X0 Y β s a w){x:Option Operand}{dflt:Nat}{K:Nat->Option R}(hk:Fp (x.map (Bv s.tm)) dflt K=some r):
  ∃l,K l=some r∧((x=none∧l=dflt)∨∃y k,x=some y∧a.eval y=.int k (l:Int)):=by
 cases x with
 |none=>exact⟨dflt,hk,.inl ⟨rfl,rfl⟩⟩
 |some y=>
  obtain⟨k,i,hi,hk⟩:=C3 (show C8 (Bv s.tm y) _=some r from hk)
  obtain⟨h0,hk⟩:=Aj hk;have h0:=of_decide_eq_true h0;exact⟨i.toNat,hk,.inr ⟨y,k,rfl,by rw[B1 h hi,Int.toNat_of_nonneg h0]⟩⟩
theorem Gz {lo hi:Option Operand}{isS:Bool}{len cap l u:Nat}(hl:(lo=none∧l=0)∨∃y k,lo=some y∧a.eval y=.int k (l:Int))
  (hu:(hi=none∧u=len)∨∃y k,hi=some y∧a.eval y=.int k (u:Int)) (h1:l<=u)(h2:u<=cap):
  (Instr.sliceBounds isS len cap (lo.map a.eval) (hi.map a.eval) none).run P w=.ok (l,u,cap) w:=by
 rcases hl with⟨rfl,rfl⟩|⟨y,k,rfl,hy⟩<;>rcases hu with⟨rfl,rfl⟩|⟨y',k',rfl,hy'⟩
 ·simp[Instr.sliceBounds]
 ·simp[Instr.sliceBounds,Instr.sliceBound,asIntOf,hy',h2]
 ·simp[Instr.sliceBounds,Instr.sliceBound,asIntOf,hy,h1]
 ·simp[Instr.sliceBounds,Instr.sliceBound,asIntOf,hy,hy',h1,h2]
theorem Ci {e:TypeId}(h:(P.info? e).isSome=true) (w:World):(sizeOf e).run P w=.ok (A7 P e) w:=by
 obtain⟨i,hi⟩:=Option.isSome_iff_exists.1 h;exact H3 (by simp[A7,hi]) w
theorem Zl {b j:Nat}{v:Value}(h:w.cell? ⟨b,j,none⟩=some v):j<bsz w b:=by
 unfold World.cell? at h;unfold bsz;split at h
 ·rename_i c e fz hb;simp only at hb;rw[hb];simp only[Option.isSome_none,Bool.false_eq_true,if_false] at h;rcases Nat.lt_or_ge j c.size with B4|XW
  ·exact B4
  ·rw[Array.getElem?_eq_none XW] at h;cases h
 ·cases h
theorem KE (h:Cj N w0 X0 Y β s a w){t:TypeId}{x:Operand}{lo hi:Option Operand}(ho:o.op=.slice t x lo hi none){K:PV->Option R}
  (hk:Uz P (rd s.hp) t (Bv s.tm x) (lo.map (Bv s.tm)) (hi.map (Bv s.tm)) K=some r):∃v,K v=some r∧Dt P a w o Y β s v [] []:=by
 have hx:=Cn h x;have AZ:=Eg h x;unfold Uz at hk;split at hk
 ·rename_i hu;obtain⟨sb,BB,hk⟩:=C7 hk;have Cv:=B1 h BB;obtain⟨l,hk,hl⟩:=Dh h hk;obtain⟨u,hk,Hc⟩:=Dh h hk;obtain⟨hb,hk⟩:=Aj hk;simp only[Bool.and_eq_true,decide_eq_true_eq] at hb;refine⟨_,hk,Cc ?_⟩;unfold execOp;rw[ho];simp[Instr.sliceAt,Instr.slice,run_underlying hu,Cv,Gz hl Hc hb.1 hb.2]
 ·rename_i e hu;obtain⟨Lz,hk⟩:=Aj hk;split at hk
  ·rename_i id es off n e';rw[e'] at hx AZ;obtain⟨Qp,hk⟩:=Aj hk;have Qp:=Nat.eq_of_beq_eq_true Qp;subst Qp;obtain⟨l,hk,hl⟩:=Dh h hk;obtain⟨u,hk,Hc⟩:=Dh h hk;obtain⟨hb,hk⟩:=Aj hk;simp only[Bool.and_eq_true,decide_eq_true_eq] at hb;rcases hx with⟨hβ,rfl,rfl,ad,Cv⟩|⟨b,ob,y,cap,hβ,Cv,hy,hn,Ru,B4⟩
   ·have hu0:u=0:=by omega
    have hl0:l=0:=by omega
    subst hu0 hl0;refine⟨_,hk,Bx (val:=.slice ad 0 0) ?_ (.inl ⟨hβ,by simp,rfl,ad,rfl⟩) AZ⟩
    unfold execOp;rw[ho];cases ad<;>simp[Instr.sliceAt,Instr.slice,run_underlying hu,Cv,Gz hl Hc (Nat.le_refl 0) (Nat.le_refl 0),Ci Lz]
   ·have Ch:(execOp a.eval o).run P w=.ok (.value (.slice (some (if cap=l then ⟨b,y,none⟩ else ⟨b,y+l*A7 P e,none⟩)) (u-l) (cap-l))) w:=by
     unfold execOp;rw[ho];have JP:=Gz (P:=P) (w:=w) (isS:=true) hl Hc hb.1 (Nat.le_trans hb.2 hn);simp[Instr.sliceAt,Instr.slice,run_underlying hu,Cv,JP,Ci Lz,D4];split<;>rfl
    refine⟨_,hk,Bx Ch (.inr ?_) AZ⟩;by_cases hc:cap=l
    ·rw[if_pos hc];refine⟨b,ob,y,cap-l,hβ,rfl,?_,by omega,⟨by rw[hc,Nat.sub_self];have:=Ru.1;omega,Ru.2⟩,B4⟩
     by_cases h0:l*A7 P e=0
     ·rw[h0,Nat.add_zero];rcases hy with hy|⟨Ub,Ls⟩
      ·exact .inl hy
      ·exact .inr ⟨by omega,Ls⟩
     ·exact .inr ⟨by omega,by omega⟩
    ·rw[if_neg hc];refine⟨b,ob,y+l*A7 P e,cap-l,hβ,rfl,?_,by omega,?_,B4⟩
     ·rcases hy with hy|⟨Ub,Ls⟩
      ·exact .inl (by omega)
      ·exact .inr ⟨by omega,by omega⟩
     ·have:l*A7 P e+(cap-l)*A7 P e=cap*A7 P e:=by
       rw[←Nat.add_mul]
       congr 1
       omega
      have:=Ru.1;exact⟨by omega,Ru.2⟩
  ·obtain⟨z,n,c,hk,hp⟩:=Ep hk;obtain⟨l,hk,hl⟩:=Dh h hk;obtain⟨u,hk,Hc⟩:=Dh h hk;obtain⟨hb,hk⟩:=Aj hk;simp only[Bool.and_eq_true,decide_eq_true_eq] at hb;rcases Fh hp hx with⟨Cv,rfl,rfl⟩|⟨ad,cap,Cv,rfl,hn,h1,h2,h3,h4⟩|⟨ad,cap,Cv,rfl,rfl,rfl⟩
   rotate_right
   ·have hu0:u=0:=by omega
    have hl0:l=0:=by omega
    subst hu0 hl0;refine⟨_,hk,Bx (val:=.slice (some (if cap=0 then ad else ad.add (0*A7 P e))) (0-0) (cap-0)) ?_ ?_ (by intro i hi;cases hi)⟩
    ·unfold execOp;rw[ho];have JP:=Gz (P:=P) (w:=w) (isS:=true) hl Hc (Nat.le_refl 0) (Nat.zero_le cap);simp[Instr.sliceAt,Instr.slice,run_underlying hu,Cv,JP,Ci Lz];split<;>rfl
    ·have:((([]:List PV).drop (0*A7 P e)).take ((0-0)*A7 P e))=[]:=by simp
     rw[this];exact Ar.lemp _ _ _
   ·have hu0:u=0:=by omega
    have hl0:l=0:=by omega
    subst hu0 hl0;refine⟨_,hk,Bx (val:=.slice none 0 0) ?_ ?_ (by intro i hi;cases hi)⟩
    ·unfold execOp;rw[ho];simp[Instr.sliceAt,Instr.slice,run_underlying hu,Cv,Gz hl Hc (Nat.le_refl 0) (Nat.le_refl 0),Ci Lz]
    ·have:((([]:List PV).drop (0*A7 P e)).take ((0-0)*A7 P e))=[]:=by simp
     rw[this];exact Ar.lnil z _
   ·have Ch:(execOp a.eval o).run P w=.ok (.value (.slice (some (if cap=l then ad else ad.add (l*A7 P e))) (u-l) (cap-l))) w:=by
     unfold execOp;rw[ho];have JP:=Gz (P:=P) (w:=w) (isS:=true) hl Hc hb.1 (Nat.le_trans hb.2 hn);simp[Instr.sliceAt,Instr.slice,run_underlying hu,Cv,JP,Ci Lz];split<;>rfl
    refine⟨_,hk,Bx Ch ?_ (by intro i hi;cases hi)⟩
    by_cases hc:cap=l
    ·rw[if_pos hc];have:u-l=0:=by omega
     rw[this];simp only[Nat.zero_mul,List.take_zero];exact Ar.lst _ _ [] ad _ (fun _=>undef) h1 h2 h3 (by omega) (by simp) (by simp) (by simp)
    ·rw[if_neg hc]
     have Cm:∀(j:Nat) q,((c.drop (l*A7 P e)).take ((u-l)*A7 P e))[j]?=some q->c[l*A7 P e+j]?=some q:=by
      intro j q hq;rw[List.getElem?_take] at hq;split at hq
      ·rw[List.getElem?_drop] at hq;exact hq
      ·cases hq
     refine Ar.lst _ _ _ (ad.add (l*A7 P e)) _ (fun j=>(w.cell? (ad.add (l*A7 P e+j))).getD undef) (Aan h1 _) (by rw[Eb];exact h2) (by rw[Eb];exact h3) (by omega) (fun j q hq=>?_) (fun j q hq=>?_) (fun j q hq=>?_)
     ·obtain⟨v,hv,_⟩:=h4 _ q (Cm j q hq);rw[add_add,hv];rfl
     ·obtain⟨v,hv,h5,_⟩:=h4 _ q (Cm j q hq);rw[hv];exact h5
     ·obtain⟨v,hv,_,ht⟩:=h4 _ q (Cm j q hq);rw[hv];exact ht
 ·rename_i n e hu;obtain⟨Lz,hk⟩:=Aj hk;split at hk
  ·rename_i id off e';rw[e'] at hx AZ;obtain⟨c,hrc,hk⟩:=B3 hk;obtain⟨Dc,hk⟩:=Aj hk;simp only[Bool.and_eq_true,decide_eq_true_eq] at Dc;have Qp:=Nat.eq_of_beq_eq_true Dc.2
   replace Dc:=Dc.1
   obtain⟨l,hk,hl⟩:=Dh h hk;obtain⟨u,hk,Hc⟩:=Dh h hk;obtain⟨hb,hk⟩:=Aj hk;simp only[Bool.and_eq_true,decide_eq_true_eq] at hb;obtain⟨b,ob,hβ,Cv⟩:=hx
   have CS:ob+off+n*A7 P e<=bsz w b:=by
    obtain⟨v,hv,_⟩:=Zc h hrc hβ (j:=off+n*A7 P e-1) (List.getElem?_eq_getElem (by omega))
    have:=Zl hv;omega
   have B4:b<w.heap.size:=h.blt id b ob (AZ id (by simp[Bo,B6,Am])) hβ
   have Ch:(execOp a.eval o).run P w=.ok (.value (.slice (some (if n=l then ⟨b,ob+off,none⟩ else ⟨b,ob+off+l*A7 P e,none⟩)) (u-l) (n-l))) w:=by
    unfold execOp;rw[ho];have JP:=Gz (P:=P) (w:=w) (isS:=false) hl Hc hb.1 hb.2;simp[Instr.sliceAt,Instr.sureAddr,run_underlying hu,Cv,JP,Ci Lz,D4]
   refine⟨_,hk,Bx Ch (.inr ?_) AZ⟩;by_cases hc:n=l
   ·rw[if_pos hc];refine⟨b,ob,ob+off,n-l,hβ,rfl,?_,by omega,⟨by rw[hc,Nat.sub_self];omega,.inl Qp⟩,B4⟩
    by_cases h0:l*A7 P e=0
    ·rw[h0,Nat.add_zero];exact .inl rfl
    ·exact .inr ⟨by omega,by omega⟩
   ·rw[if_neg hc];refine⟨b,ob,ob+off+l*A7 P e,n-l,hβ,rfl,.inl (by omega),by omega,?_,B4⟩
    have:l*A7 P e+(n-l)*A7 P e=n*A7 P e:=by
     rw[←Nat.add_mul]
     congr 1
     omega
    exact⟨by omega,.inl Qp⟩
  ·cases hk
 ·cases hk
end
open Go.RowKit
section
variable {R:Type} {r:R} {P:Program} {N:Nat} {w0:World} {X0:Gq} {Y:Nat->Prop} {β β':Bt} {s:St} {a:Act} {w w':World} {o:Oper} {A:Nat->Prop}
theorem VU (h:Cj N w0 X0 Y β s a w){c:Call}(ho:o.op=.call c)(hc:c.callee=.builtin .len){K:PV->Option R}
  (hk:(Aa c.args.toList fun x _=>Aa c.argTypes.toList fun t _=>WA P t (Bv s.tm x) fun n=>K (.sc (.int .i64 n)))=some r):∃v,K v=some r∧Dt P a w o Y β s v [] []:=by
 obtain⟨x,xs,BB,hk⟩:=A6 hk;obtain⟨t,ts,JS,hk⟩:=A6 hk;have hx:=Cn h x;have Eh:c.args=(x::xs).toArray:=by rw[←BB]
 have Xb:c.argTypes=(t::ts).toArray:=by rw[←JS]
 have Ch:∀n:Nat,(Builtin.len_ c.argTypes o.type (c.args.map a.eval)).run P w=.ok (.int .i64 n) w->(execOp a.eval o).run P w=.ok (.value (.int .i64 n)) w:=by
  intro n hl;unfold execOp;rw[ho];simp only[resolve,hc,invoke,builtin,Sem.run_bind,Sem.run_pure,Result.andThen_ok,hl]
 unfold WA at hk;split at hk
 ·rename_i hu;obtain⟨sb,A0a,hk⟩:=C7 hk;have Cv:=B1 h A0a;refine⟨_,hk,Cc (Ch _ ?_)⟩;simp[Builtin.len_,Eh,Xb,run_underlying hu,Cv,goInt]
 ·rename_i n e hu;refine⟨_,hk,Cc (Ch _ ?_)⟩;simp[Builtin.len_,Eh,Xb,run_underlying hu,goInt]
 ·rename_i e hu;split at hk
  ·rename_i id es off n e';rw[e'] at hx;obtain⟨_,hk⟩:=Aj hk;refine⟨_,hk,Cc (Ch _ ?_)⟩;rcases hx with⟨_,_,rfl,ad,Cv⟩|⟨b,ob,y,cap,_,Cv,_⟩<;>simp[Builtin.len_,Eh,Xb,run_underlying hu,Cv,goInt]
  ·obtain⟨z,n,cc,hk,hp⟩:=Ep hk;refine⟨_,hk,Cc (Ch _ ?_)⟩;rcases Fh hp hx with⟨Cv,rfl,_⟩|⟨ad,cap,Cv,_⟩|⟨ad,cap,Cv,_,rfl,_⟩<;>simp[Builtin.len_,Eh,Xb,run_underlying hu,Cv,goInt]
 ·cases hk
theorem WK (h:Cj N w0 X0 Y β s a w){c:Call}(ho:o.op=.call c)(hc:c.callee=.builtin .cap){K:PV->Option R}
  (hk:(Aa c.args.toList fun x _=>Aa c.argTypes.toList fun t _=>UP P t (Bv s.tm x) fun n=>K (.sc (.int .i64 n)))=some r):∃v,K v=some r∧Dt P a w o Y β s v [] []:=by
 obtain⟨x,xs,BB,hk⟩:=A6 hk;obtain⟨t,ts,JS,hk⟩:=A6 hk;have hx:=Cn h x;have Eh:c.args=(x::xs).toArray:=by rw[←BB]
 have Xb:c.argTypes=(t::ts).toArray:=by rw[←JS]
 have Ch:∀n:Nat,(Builtin.cap_ c.argTypes o.type (c.args.map a.eval)).run P w=.ok (.int .i64 n) w->(execOp a.eval o).run P w=.ok (.value (.int .i64 n)) w:=by
  intro n hl;unfold execOp;rw[ho];simp only[resolve,hc,invoke,builtin,Sem.run_bind,Sem.run_pure,Result.andThen_ok,hl]
 unfold UP at hk;split at hk
 ·rename_i e hu;obtain⟨z,n,cc,hk,hp⟩:=Ep hk;obtain⟨hz,hk⟩:=Aj hk;refine⟨_,hk,Cc (Ch _ ?_)⟩;rcases Fh hp hx with⟨Cv,rfl,_⟩|⟨ad,cap,Cv,Ys,_⟩|⟨ad,cap,Cv,Ys,_,_⟩
  ·simp[Builtin.cap_,Eh,Xb,run_underlying hu,Cv,goInt]
  ·rw[hz] at Ys;cases Ys
  ·rw[hz] at Ys;cases Ys
 ·cases hk
theorem XJ (h:Cj N w0 X0 Y β s a w){c:Call}(ho:o.op=.call c)(hc:c.callee=.builtin .min){K:PV->Option R}
  (hk:(Aa c.args.toList fun x r=>Aa r fun y r'=>Ad r' (Aec (Bv s.tm x) (Bv s.tm y) K))=some r):∃v,K v=some r∧Dt P a w o Y β s v [] []:=by
 obtain⟨x,xs,BB,hk⟩:=A6 hk;obtain⟨y,ys,rfl,hk⟩:=A6 hk;obtain⟨rfl,hk⟩:=C6 hk;obtain⟨k,n,hx,hk⟩:=C3 hk;obtain⟨m,hy,hk⟩:=Dv hk
 have Eh:c.args = #[x,y]:=by
  have:c.args=([x,y]:List Operand).toArray:=by rw[←BB]
  exact this
 refine⟨_,hk,Cc ?_⟩;unfold execOp;rw[ho];simp[resolve,hc,invoke,builtin,Eh,Builtin.min_,Builtin.min2,B1 h hx,B1 h hy]
theorem XH (h:Cj N w0 X0 Y β s a w){c:Call}(ho:o.op=.call c)(hc:c.callee=.builtin .max){K:PV->Option R}
  (hk:(Aa c.args.toList fun x r=>Aa r fun y r'=>Ad r' (Aev (Bv s.tm x) (Bv s.tm y) K))=some r):∃v,K v=some r∧Dt P a w o Y β s v [] []:=by
 obtain⟨x,xs,BB,hk⟩:=A6 hk;obtain⟨y,ys,rfl,hk⟩:=A6 hk;obtain⟨rfl,hk⟩:=C6 hk;obtain⟨k,n,hx,hk⟩:=C3 hk;obtain⟨m,hy,hk⟩:=Dv hk
 have Eh:c.args = #[x,y]:=by
  have:c.args=([x,y]:List Operand).toArray:=by rw[←BB]
  exact this
 refine⟨_,hk,Cc ?_⟩;unfold execOp;rw[ho];simp[resolve,hc,invoke,builtin,Eh,Builtin.max_,Builtin.max2,B1 h hx,B1 h hy]
theorem PT (h:Cj N w0 X0 Y β s a w){op:UnOp}{t:TypeId}{x:Operand}(ho:o.op=.unOp op t x){K:PV->Option R}(hk:unK op (Bv s.tm x) K=some r):
  ∃v,K v=some r∧Dt P a w o Y β s v [] []:=by
 unfold unK at hk;split at hk
 ·obtain⟨b,hb,hk⟩:=Dd hk;refine⟨_,hk,Cc ?_⟩;unfold execOp;rw[ho];simp[Op.unary,B1 h hb]
 ·obtain⟨k,n,hb,hk⟩:=C3 hk;refine⟨_,hk,Cc ?_⟩;unfold execOp;rw[ho];simp[Op.unary,Op.intArith,B1 h hb]
 ·obtain⟨k,n,hb,hk⟩:=C3 hk;refine⟨_,hk,Cc ?_⟩;unfold execOp;rw[ho];simp[Op.unary,Op.intBits,B1 h hb,Aqe]
 ·cases hk
theorem VV {op:BinOp}{k:IntKind}{m n:Int}{t:TypeId}{x y:Operand}{K:PV->Option R}(XQ:op ≠ .shl)(Q9:op ≠ .shr)(hk:Y0 op k m n K=some r):
  ∃v,K (.sc v)=some r∧(do eqGuard op t x y (.int k m) (.int k n);binOp op t (.int k m) (.int k n)).run P w=.ok v w:=by
 cases op<;>first
  |exact absurd rfl XQ
  |exact absurd rfl Q9
  |(obtain⟨hb,hk⟩:=Aj hk;have hb:=of_decide_eq_true hb;exact⟨_,hk,by simp[eqGuard,binOp,Op.intDiv,hb]⟩)
  |exact⟨_,hk,by simp[eqGuard,binOp,-BitVec.toNat_and,-BitVec.toNat_or,-BitVec.toNat_xor,-gt_iff_lt,-ge_iff_le]<;>rfl⟩
theorem WP {op:BinOp}{m n:ByteArray}{t:TypeId}{x y:Operand}{K:PV->Option R}(hk:Xz op m n K=some r):
  ∃v,K (.sc v)=some r∧(do eqGuard op t x y (.string m) (.string n);binOp op t (.string m) (.string n)).run P w=.ok v w:=by
 cases op<;>first
  |cases hk
  |(obtain⟨hb,hk⟩:=Aj hk;have hb:=of_decide_eq_true hb;exact⟨_,hk,by
    have Gi:¬(((m.size+n.size:Nat):Int)>IntKind.i64.max):=by
     have:IntKind.i64.max=9223372036854775807:=rfl;rw[this];omega
    simp only[eqGuard,binOp,Op.stringOp,if_neg Gi];rfl⟩)
  |exact⟨_,hk,by simp only[eqGuard,binOp,Op.stringOp,ByteArray.toList_eq];rfl⟩
end
open Go.RowKit
section
variable {R:Type} {r:R} {P:Program} {N:Nat} {w0:World} {X0:Gq} {Y:Nat->Prop} {β β':Bt} {s:St} {a:Act} {w w':World} {o:Oper} {A:Nat->Prop}
theorem Zo {t:TypeId}(hu:P.underlying t=some .bool)(x y:Bool):(Op.equal t (.bool x) (.bool y)).run P w=.ok (x==y) w:=by
 have h:∀d,(Op.equalIn (d+1) t (.bool x) (.bool y)).run P w=.ok (x==y) w:=fun d=>by simp[Op.equalIn,run_underlying hu]
 exact h 9999
theorem Qe {t e:TypeId}(hu:P.underlying t=some (.slice e)) (x:Option Addr)(n c:Nat):(Op.equal t (.slice x n c) (.slice none 0 0)).run P w=.ok x.isNone w:=by
 have h:∀d,(Op.equalIn (d+1) t (.slice x n c) (.slice none 0 0)).run P w=.ok x.isNone w:=fun d=>by
  cases x<;>simp[Op.equalIn,run_underlying hu]
 exact h 9999
theorem Tn {t k e:TypeId}(hu:P.underlying t=some (.map k e)):(Op.equal t (.map none) (.map none)).run P w=.ok true w:=by
 have h:∀d,(Op.equalIn (d+1) t (.map none) (.map none)).run P w=.ok true w:=fun d=>by
  simp[Op.equalIn,run_underlying hu]
 exact h 9999
theorem G7 {t:TypeId}(d:Nat){v u:Value}(hv:(∃k m n,P.underlying t=some (.int k)∧v=.int k m∧u=.int k n)∨(∃m n,P.underlying t=some .bool∧v=.bool m∧u=.bool n)∨∃m n,P.underlying t=some .string∧v=.string m∧u=.string n) {b:Bool}
  (hb:∀k m n,v=.int k m->u=.int k n->b=(m==n)) (Gi:∀m n,v=.bool m->u=.bool n->b=(m==n)) (Ayq:∀m n,v=.string m->u=.string n->b=(m==n)):(Op.equalIn (d+1) t v u).run P w=.ok b w:=by
 rcases hv with⟨k,m,n,hu,rfl,rfl⟩|⟨m,n,hu,rfl,rfl⟩|⟨m,n,hu,rfl,rfl⟩
 ·rw[hb k m n rfl rfl];simp[Op.equalIn,run_underlying hu]
 ·rw[Gi m n rfl rfl];simp[Op.equalIn,run_underlying hu]
 ·rw[Ayq m n rfl rfl];simp[Op.equalIn,run_underlying hu]
theorem Ns {t:TypeId}{dsc:TypeDesc}(hu:P.underlying t=some dsc)(hd:B0 P t=false){xs:Array Value}{i:Nat}{v:Value}(hv:xs[i]?=some v):(part t xs i).run P w=.ok v w:=by
 simp only[part,Sem.run_bind,J3 hu,hd,Result.andThen_ok];simp[hv]
theorem DJ (k:IntKind)(n:Int)(K:Int->Option R):Ak k (.sc (.int k n)) K=K n:=by simp[Ak]
theorem KV (d : Nat) : ∀ (fs : List Field) (i : Nat) (xs ys : Array Value) (ps qs : List PV) (K : Bool -> Option R), MD P fs i = true -> Ir (fs.map (ZO P)) ps qs K = some r ->
    (∀ (j : Nat) p, ps[j]? = some p -> ∃ v, xs[i + j]? = some v ∧ Bu w A β p v) -> (∀ (j : Nat) p, qs[j]? = some p -> ∃ v, ys[i + j]? = some v ∧ Bu w A β p v) ->
    ∃ b, K b = some r ∧ (forIn fs ((none, ()) : Option Bool × Unit) fun (f : Field) (_ : Option Bool × Unit) =>
            if f.name = "_" then pure (ForInStep.yield ((none, ()) : Option Bool × Unit))
            else do
              let x ← part f.type xs f.offset
              let y ← part f.type ys f.offset
              let e ← Op.equalIn (d + 1) f.type x y
              if e = false then pure (ForInStep.done ((some false, ()) : Option Bool × Unit)) else pure (ForInStep.yield ((none, ()) : Option Bool × Unit)) : Sem (Option Bool × Unit)).run P w = .ok (if b then (none, ()) else (some false, ())) w
  | [], i, xs, ys, ps, qs, K, _, hk, _, _ => by
    cases ps with
    | nil => cases qs with
      | nil => exact⟨true, hk, by simp⟩
      | cons q qs => cases hk
    | cons p ps => cases hk
  | f :: fs, i, xs, ys, ps, qs, K, CL, hk, hp, hq => by
    simp only[MD, Bool.and_eq_true] at CL
    obtain⟨⟨⟨Ls, YH⟩, hty⟩, Rc⟩ := CL
    have Ls := Nat.eq_of_beq_eq_true Ls
    have Yu : f.name ≠ "_" := by simpa using YH
    cases ps with
    | nil =>
      simp only[List.map_cons] at hk
      cases Akk : ZO P f <;> rw[Akk] at hk <;> cases hk
    | cons p ps =>
      cases qs with
      | nil =>
        simp only[List.map_cons] at hk
        cases Akk : ZO P f <;> rw[Akk] at hk <;> cases hk
      | cons q qs =>
        obtain⟨v, hv, Uy⟩ := hp 0 p rfl
        obtain⟨u, hu, hqu⟩ := hq 0 q rfl
        rw[Nat.add_zero] at hv hu
        have main : ∃ b0 dsc, P.underlying f.type = some dsc ∧ B0 P f.type = false ∧ (Op.equalIn (d + 1) f.type v u).run P w = .ok b0 w ∧ Ir (fs.map (ZO P)) ps qs (fun r => K (b0 && r)) = some r := by
          simp only[List.map_cons] at hk
          unfold ZO at hk
          split at hk
          · rename_i k Hq
            obtain⟨m, DY, Dn⟩ := Dv (show Ak k p _ = some r from hk)
            obtain⟨n, AW, D8⟩ := Dv Dn
            subst DY AW
            have Lh : v = .int k m := Ar.val (w := w) (A := A) Uy
            have Hc : u = .int k n := Ar.val (w := w) (A := A) hqu
            subst Lh Hc
            refine⟨m == n, _, Hq, by simp[B0, Hq], G7 d (.inl ⟨k, m, n, Hq, rfl, rfl⟩) ?_ ?_ ?_, D8⟩
            · intro k' m' n' h1 h2; injection h1 with _ h1; injection h2 with _ h2; rw[h1, h2]
            · intro m' n' h1; cases h1
            · intro m' n' h1; cases h1
          · rename_i Hq
            obtain⟨m, DY, Dn⟩ := Dd (show Aq p _ = some r from hk)
            obtain⟨n, AW, D8⟩ := Dd Dn
            subst DY AW
            have Lh : v = .bool m := Ar.val (w := w) (A := A) Uy
            have Hc : u = .bool n := Ar.val (w := w) (A := A) hqu
            subst Lh Hc
            refine⟨m == n, _, Hq, by simp[B0, Hq], G7 d (.inr (.inl ⟨m, n, Hq, rfl, rfl⟩)) ?_ ?_ ?_, D8⟩
            · intro k' m' n' h1; cases h1
            · intro m' n' h1 h2; injection h1 with h1; injection h2 with h2; rw[h1, h2]
            · intro m' n' h1; cases h1
          · rename_i Hq
            obtain⟨m, DY, Dn⟩ := C7 (show Az p _ = some r from hk)
            obtain⟨n, AW, D8⟩ := C7 Dn
            subst DY AW
            have Lh : v = .string m := Ar.val (w := w) (A := A) Uy
            have Hc : u = .string n := Ar.val (w := w) (A := A) hqu
            subst Lh Hc
            refine⟨m == n, _, Hq, by simp[B0, Hq], G7 d (.inr (.inr ⟨m, n, Hq, rfl, rfl⟩)) ?_ ?_ ?_, D8⟩
            · intro k' m' n' h1; cases h1
            · intro m' n' h1; cases h1
            · intro m' n' h1 h2; injection h1 with h1; injection h2 with h2; rw[h1, h2]
          · cases hk
        obtain⟨b0, dsc, Hq, E6, he, hk⟩ := main
        obtain⟨b, hkb, Ch⟩ := KV d fs (i + 1) xs ys ps qs _ Rc hk (fun j p' hj => by have := hp (j + 1) p' hj; rwa [Nat.add_assoc, Nat.add_comm 1 j]) (fun j p' hj => by have := hq (j + 1) p' hj; rwa [Nat.add_assoc, Nat.add_comm 1 j])
        refine⟨b0 && b, hkb, ?_⟩
        have hpx : (part f.type xs f.offset).run P w = .ok v w := Ns Hq E6 (by rw[Ls]; exact hv)
        have hpy : (part f.type ys f.offset).run P w = .ok u w := Ns Hq E6 (by rw[Ls]; exact hu)
        cases b0
        · simp[List.forIn_cons, Yu, hpx, hpy, he]
        · simp only[Bool.true_and]
          rw[← Ch]
          simp[List.forIn_cons, Yu, hpx, hpy, he]
theorem Xa (d:Nat){t:TypeId}{fs:Array Field}(hu:P.underlying t=some (.struct fs)) (E8:P.stoodInHeld t=false)(CL:MD P fs.toList 0=true){xs ys:List PV}{vx vy:List Value}
  (hvx:Bb (Bu w A β) xs vx) (hvy:Bb (Bu w A β) ys vy) {K:Bool->Option R}(hk:Ir (fs.toList.map (ZO P)) xs ys K=some r):
  ∃b,K b=some r∧(Op.equalIn (d+2) t (.agg ⟨vx⟩) (.agg ⟨vy⟩)).run P w=.ok b w:=by
 obtain⟨b,hkb,Ch⟩:=KV (P:=P) (w:=w) (A:=A) (β:=β) d fs.toList 0 ⟨vx⟩ ⟨vy⟩ xs ys K CL hk (fun j p hj=>by
   obtain⟨v,hv,hc⟩:=hvx.get hj;exact⟨v,by simpa using hv,hc⟩) (fun j p hj=>by
   obtain⟨v,hv,hc⟩:=hvy.get hj;exact⟨v,by simpa using hv,hc⟩)
 refine⟨b,hkb,?_⟩;rw[Array.forIn_toList] at Ch;rw[Op.equalIn];simp[run_underlying hu,E8];rw[Ch];cases b<;>simp
theorem S8:∀(ts1:List CT){ts2:List CT}{ps qs:List PV}{K:Bool->Option R},Ir (ts1++ts2) ps qs K=some r ->
  Ir ts1 (ps.take ts1.length) (qs.take ts1.length) (fun b=>Ir ts2 (ps.drop ts1.length) (qs.drop ts1.length) fun r'=>K (b&&r'))=some r
 |[],ts2,ps,qs,K,h=>by
  simp only[List.length_nil,List.take_zero,List.drop_zero,Ir,Bool.true_and];exact h
 |t::ts1,ts2,ps,qs,K,h=>by
  rw[List.cons_append] at h;cases ps with
  |nil=>cases t<;>cases h
  |cons p ps=>
   cases qs with
   |nil=>cases t<;>cases h
   |cons q qs=>
    simp only[List.length_cons,List.take_succ_cons,List.drop_succ_cons];cases t with
    |int k=>
     obtain⟨m,DY,h1⟩:=Dv (show Ak k p _=some r from h)
     obtain⟨n,AW,h2⟩:=Dv h1;subst DY AW;have:=S8 ts1 h2;simp only[←Bool.and_assoc] at this;exact (DJ _ _ _).trans ((DJ _ _ _).trans this)
    |bool=>
     obtain⟨m,DY,h1⟩:=Dd (show Aq p _=some r from h)
     obtain⟨n,AW,h2⟩:=Dd h1;subst DY AW;have:=S8 ts1 h2;simp only[←Bool.and_assoc] at this;exact this
    |str=>
     obtain⟨m,DY,h1⟩:=C7 (show Az p _=some r from h)
     obtain⟨n,AW,h2⟩:=C7 h1;subst DY AW;have:=S8 ts1 h2;simp only[←Bool.and_assoc] at this;exact this
    |sl es=>cases h
    |any=>cases h
theorem KM:∀(ts:List CT){ps qs:List PV}{K:Bool->Option R},Ir ts ps qs K=some r->ps.length=ts.length∧qs.length=ts.length
 |[],ps,qs,K,h=>by
  cases ps with
  |nil=>cases qs with
   |nil=>exact⟨rfl,rfl⟩
   |cons q qs=>cases h
  |cons p ps=>cases h
 |t::ts,ps,qs,K,h=>by
  cases ps with
  |nil=>cases t<;>cases h
  |cons p ps=>
   cases qs with
   |nil=>cases t<;>cases h
   |cons q qs=>
    have go:∃K',Ir ts ps qs K'=some r:=by
     cases t with
     |int k=>
      obtain⟨m,DY,h1⟩:=Dv (show Ak k p _=some r from h)
      obtain⟨n,AW,h2⟩:=Dv h1;exact⟨_,h2⟩
     |bool=>
      obtain⟨m,DY,h1⟩:=Dd (show Aq p _=some r from h)
      obtain⟨n,AW,h2⟩:=Dd h1;exact⟨_,h2⟩
     |str=>
      obtain⟨m,DY,h1⟩:=C7 (show Az p _=some r from h)
      obtain⟨n,AW,h2⟩:=C7 h1;exact⟨_,h2⟩
     |sl es=>cases h
     |any=>cases h
    obtain⟨K',h'⟩:=go;have:=KM ts h';exact⟨by simp[this.1],by simp[this.2]⟩
theorem MQ {t:TypeId}{dsc:TypeDesc}(hu:P.underlying t=some dsc)(hd:B0 P t=true)(hi:(P.info? t).isSome=true) (xs:Array Value)(i:Nat):(part t xs i).run P w=.ok (.agg (xs.extract i (i+A7 P t))) w:=by
 simp only[part,Sem.run_bind,J3 hu,hd,Result.andThen_ok,if_true,Ci hi];rfl
theorem EF {xs:Array Value}{i n:Nat}{ps:List PV}(hn:n<=ps.length)(hp:∀(j:Nat) p,ps[j]?=some p->∃v,xs[i+j]?=some v∧Bu w A β p v):Bb (Bu w A β) (ps.take n) (xs.extract i (i+n)).toList:=by
 rcases Nat.eq_zero_or_pos n with h0|h0
 ·subst h0;simp[Bb]
 have hl:n-1<ps.length:=by omega
 obtain⟨v,hv,_⟩:=hp (n-1) _ (List.getElem?_eq_getElem hl);have K1:=(Array.getElem?_eq_some_iff.1 hv).1;refine Bb.of_at (by simp;omega) fun j a b ha hb=>?_
 rw[List.getElem?_take] at ha;split at ha
 ·rename_i hj;obtain⟨v,hv,hc⟩:=hp j a ha;rw[Array.getElem?_toList,Array.getElem?_extract] at hb;split at hb
  ·rw[hv] at hb;cases hb;exact hc
  ·cases hb
 ·cases ha
theorem Wg {f:Field}{gs:Array Field}(hu:P.underlying f.type=some (.struct gs)):KZ P f=gs.toList.map (ZO P):=by unfold KZ;rw[hu]
theorem QP {f:Field}(h:∀gs,P.underlying f.type≠some (.struct gs)):KZ P f=[ZO P f]:=by
 unfold KZ;split
 ·rename_i gs hu;exact absurd hu (h gs)
 ·rfl
theorem SD (d : Nat) : ∀ (fs : List Field) (i : Nat) (xs ys : Array Value) (ps qs : List PV) (K : Bool -> Option R), Ku P fs i = true -> Ir (Ra P fs) ps qs K = some r ->
    (∀ (j : Nat) p, ps[j]? = some p -> ∃ v, xs[i + j]? = some v ∧ Bu w A β p v) -> (∀ (j : Nat) p, qs[j]? = some p -> ∃ v, ys[i + j]? = some v ∧ Bu w A β p v) ->
    ∃ b, K b = some r ∧ (forIn fs ((none, ()) : Option Bool × Unit) fun (f : Field) (_ : Option Bool × Unit) =>
            if f.name = "_" then pure (ForInStep.yield ((none, ()) : Option Bool × Unit))
            else do
              let x ← part f.type xs f.offset
              let y ← part f.type ys f.offset
              let e ← Op.equalIn (d + 2) f.type x y
              if e = false then pure (ForInStep.done ((some false, ()) : Option Bool × Unit)) else pure (ForInStep.yield ((none, ()) : Option Bool × Unit)) : Sem (Option Bool × Unit)).run P w = .ok (if b then (none, ()) else (some false, ())) w
  | [], i, xs, ys, ps, qs, K, _, hk, _, _ => by
    cases ps with
    | nil => cases qs with
      | nil => exact⟨true, hk, by simp⟩
      | cons q qs => cases hk
    | cons p ps => cases hk
  | f :: fs, i, xs, ys, ps, qs, K, CL, hk, hp, hq => by
    simp only[Ku, Bool.and_eq_true] at CL
    obtain⟨⟨Ls, YH⟩, hty⟩ := CL
    have Ls := Nat.eq_of_beq_eq_true Ls
    have Yu : f.name ≠ "_" := by simpa using YH
    have main : ∃ b0 v u n, (part f.type xs f.offset).run P w = .ok v w ∧ (part f.type ys f.offset).run P w = .ok u w ∧ (Op.equalIn (d + 2) f.type v u).run P w = .ok b0 w ∧ Ku P fs (i + n) = true ∧ Ir (Ra P fs) (ps.drop n) (qs.drop n) (fun r' => K (b0 && r')) = some r := by
      have hk := S8 (KZ P f) (show Ir (KZ P f ++ Ra P fs) ps qs K = some r from hk)
      have Dc := KM _ hk
      rw[List.length_take, List.length_take] at Dc
      have plain : (∀ gs, P.underlying f.type ≠ some (.struct gs)) -> Ku P fs (i + 1) = true -> (match P.underlying f.type with | some (.int _) => true | some .bool => true | some .string => true | _ => false) = true ->
          ∃ b0 v u n, (part f.type xs f.offset).run P w = .ok v w ∧ (part f.type ys f.offset).run P w = .ok u w ∧ (Op.equalIn (d + 2) f.type v u).run P w = .ok b0 w ∧ Ku P fs (i + n) = true ∧ Ir (Ra P fs) (ps.drop n) (qs.drop n) (fun r' => K (b0 && r')) = some r := by
        intro hs Ajx Sd
        rw[QP hs] at hk Dc
        simp only[List.length_singleton] at hk Dc
        obtain⟨p, ps, rfl⟩ : ∃ p ps', ps = p :: ps' := by
          cases ps with
          | nil => simp at Dc
          | cons p ps => exact⟨p, ps, rfl⟩
        obtain⟨q, qs, rfl⟩ : ∃ q qs', qs = q :: qs' := by
          cases qs with
          | nil => simp at Dc
          | cons q qs => exact⟨q, qs, rfl⟩
        obtain⟨v, hv, Uy⟩ := hp 0 p rfl
        obtain⟨u, hu, hqu⟩ := hq 0 q rfl
        rw[Nat.add_zero] at hv hu
        simp only[List.take_succ_cons, List.take_zero, List.drop_succ_cons, List.drop_zero] at hk ⊢
        have one : ∃ b0 dsc, P.underlying f.type = some dsc ∧ B0 P f.type = false ∧ (Op.equalIn (d + 2) f.type v u).run P w = .ok b0 w ∧ Ir (Ra P fs) ps qs (fun r' => K (b0 && r')) = some r := by
          unfold ZO at hk
          split at hk
          · rename_i k Hq
            obtain⟨m, DY, Dn⟩ := Dv (show Ak k p _ = some r from hk)
            obtain⟨n, AW, D8⟩ := Dv Dn
            subst DY AW
            have Lh : v = .int k m := Ar.val (w := w) (A := A) Uy
            have Hc : u = .int k n := Ar.val (w := w) (A := A) hqu
            subst Lh Hc
            have e : ∀ b : Bool, (b && true) = b := Bool.and_true
            simp only[Ir, e] at D8
            refine⟨m == n, _, Hq, by simp[B0, Hq], G7 (d + 1) (.inl ⟨k, m, n, Hq, rfl, rfl⟩) ?_ ?_ ?_, D8⟩
            · intro k' m' n' h1 h2; injection h1 with _ h1; injection h2 with _ h2; rw[h1, h2]
            · intro m' n' h1; cases h1
            · intro m' n' h1; cases h1
          · rename_i Hq
            obtain⟨m, DY, Dn⟩ := Dd (show Aq p _ = some r from hk)
            obtain⟨n, AW, D8⟩ := Dd Dn
            subst DY AW
            have Lh : v = .bool m := Ar.val (w := w) (A := A) Uy
            have Hc : u = .bool n := Ar.val (w := w) (A := A) hqu
            subst Lh Hc
            have e : ∀ b : Bool, (b && true) = b := Bool.and_true
            simp only[Ir, e] at D8
            refine⟨m == n, _, Hq, by simp[B0, Hq], G7 (d + 1) (.inr (.inl ⟨m, n, Hq, rfl, rfl⟩)) ?_ ?_ ?_, D8⟩
            · intro k' m' n' h1; cases h1
            · intro m' n' h1 h2; injection h1 with h1; injection h2 with h2; rw[h1, h2]
            · intro m' n' h1; cases h1
          · rename_i Hq
            obtain⟨m, DY, Dn⟩ := C7 (show Az p _ = some r from hk)
            obtain⟨n, AW, D8⟩ := C7 Dn
            subst DY AW
            have Lh : v = .string m := Ar.val (w := w) (A := A) Uy
            have Hc : u = .string n := Ar.val (w := w) (A := A) hqu
            subst Lh Hc
            have e : ∀ b : Bool, (b && true) = b := Bool.and_true
            simp only[Ir, e] at D8
            refine⟨m == n, _, Hq, by simp[B0, Hq], G7 (d + 1) (.inr (.inr ⟨m, n, Hq, rfl, rfl⟩)) ?_ ?_ ?_, D8⟩
            · intro k' m' n' h1; cases h1
            · intro m' n' h1; cases h1
            · intro m' n' h1 h2; injection h1 with h1; injection h2 with h2; rw[h1, h2]
          · cases hk
        obtain⟨b0, dsc, Hq, E6, he, hk⟩ := one
        exact⟨b0, v, u, 1, Ns Hq E6 (by rw[Ls]; exact hv), Ns Hq E6 (by rw[Ls]; exact hu), he, Ajx, by simpa using hk⟩
      split at hty
      · rename_i k Hq
        exact plain (fun gs e => by rw[Hq] at e; cases e) hty (by rw[Hq])
      · rename_i Hq
        exact plain (fun gs e => by rw[Hq] at e; cases e) hty (by rw[Hq])
      · rename_i Hq
        exact plain (fun gs e => by rw[Hq] at e; cases e) hty (by rw[Hq])
      · rename_i gs Hq
        simp only[Bool.and_eq_true, Bool.not_eq_true'] at hty
        obtain⟨⟨⟨⟨hfp, E8⟩, hi⟩, K1⟩, Rc⟩ := hty
        have K1 := Nat.eq_of_beq_eq_true K1
        have J6 : (KZ P f).length = gs.size := by rw[Wg Hq, List.length_map, Array.length_toList]
        rw[J6] at hk Dc
        rw[Wg Hq] at hk
        have hx := EF (n := gs.size) (by omega) hp
        have hy := EF (n := gs.size) (by omega) hq
        obtain⟨b0, hkb, he⟩ := Xa d Hq E8 hfp hx hy hk
        have ha : B0 P f.type = true := by simp[B0, Hq]
        exact⟨b0, _, _, gs.size, by rw[MQ Hq ha hi, Ls, K1], by rw[MQ Hq ha hi, Ls, K1], he, Rc, hkb⟩
      · cases hty
    obtain⟨b0, v, u, n, hpx, hpy, he, Ajx, hk⟩ := main
    obtain⟨b, hkb, Ch⟩ := SD d fs (i + n) xs ys (ps.drop n) (qs.drop n) _ Ajx hk (fun j p' hj => by rw[List.getElem?_drop] at hj; have := hp (n + j) p' hj; rwa [← Nat.add_assoc] at this) (fun j p' hj => by rw[List.getElem?_drop] at hj; have := hq (n + j) p' hj; rwa [← Nat.add_assoc] at this)
    refine⟨b0 && b, hkb, ?_⟩
    cases b0
    · simp[List.forIn_cons, Yu, hpx, hpy, he]
    · simp only[Bool.true_and]
      rw[← Ch]
      simp[List.forIn_cons, Yu, hpx, hpy, he]
theorem Yl (d:Nat){t:TypeId}{fs:Array Field}(hu:P.underlying t=some (.struct fs)) (E8:P.stoodInHeld t=false)(CL:Ku P fs.toList 0=true){xs ys:List PV}{vx vy:List Value}
  (hvx:Bb (Bu w A β) xs vx) (hvy:Bb (Bu w A β) ys vy) {K:Bool->Option R}(hk:Ir (Ra P fs.toList) xs ys K=some r):
  ∃b,K b=some r∧(Op.equalIn (d+3) t (.agg ⟨vx⟩) (.agg ⟨vy⟩)).run P w=.ok b w:=by
 obtain⟨b,hkb,Ch⟩:=SD (P:=P) (w:=w) (A:=A) (β:=β) d fs.toList 0 ⟨vx⟩ ⟨vy⟩ xs ys K CL hk (fun j p hj=>by
   obtain⟨v,hv,hc⟩:=hvx.get hj;exact⟨v,by simpa using hv,hc⟩) (fun j p hj=>by
   obtain⟨v,hv,hc⟩:=hvy.get hj;exact⟨v,by simpa using hv,hc⟩)
 refine⟨b,hkb,?_⟩;rw[Array.forIn_toList] at Ch;rw[Op.equalIn];simp[run_underlying hu,E8];rw[Ch];cases b<;>simp
theorem FG (h:Cj N w0 X0 Y β s a w){t:TypeId}{fs:Array Field}{x y:Operand}{op:BinOp}(hop:op=.eql∨op=.neq)(hu:P.underlying t=some (.struct fs)) (CL:GJ P t fs=true){xs ys:List PV}
  (hx:Bv s.tm x=.agg xs)(hy:Bv s.tm y=.agg ys){K:Bool->Option R}(hk:Ir (Ra P fs.toList) xs ys K=some r):
  ∃b,K b=some r∧(do eqGuard op t x y (a.eval x) (a.eval y);binOp op t (a.eval x) (a.eval y)).run P w=.ok (.bool (if op=.eql then b else !b)) w:=by
 have hxv:=Cn h x;have RU:=Cn h y;rw[hx] at hxv;rw[hy] at RU;obtain⟨vx,Cv,hvx⟩:=hxv;obtain⟨vy,hay,hvy⟩:=RU;simp only[GJ,Bool.and_eq_true,Bool.not_eq_true'] at CL;obtain⟨⟨CL,E8⟩,heg⟩:=CL;obtain⟨b,hkb,heq⟩:=Yl 9997 hu E8 CL hvx hvy hk;have heq:(Op.equal t (.agg ⟨vx⟩) (.agg ⟨vy⟩)).run P w=.ok b w:=heq;refine⟨b,hkb,?_⟩;rw[Cv,hay];rcases hop with rfl|rfl
 ·simp[eqGuard,binOp,heq,heg]
 ·simp[eqGuard,binOp,heq,heg]
theorem MB (h:Cj N w0 X0 Y β s a w){op:BinOp}{t ty:TypeId}{x y:Operand}(ho:o.op=.binOp op t x y ty){K:PV->Option R}
  (hk:P3 P op t (Bv s.tm x) (Bv s.tm y) K=some r):∃v,K v=some r∧Dt P a w o Y β s v [] []:=by
 have Ch:∀v,(do eqGuard op t x y (a.eval x) (a.eval y);binOp op t (a.eval x) (a.eval y)).run P w=.ok v w->(execOp a.eval o).run P w=.ok (.value v) w:=by
  intro v hv;unfold execOp;rw[ho];simp only[Sem.run_bind] at hv ⊢;rw[hv];rfl
 unfold P3 at hk;split at hk
 ·rename_i fs hu;split at hk
  ·obtain⟨CL,hk⟩:=Aj hk;obtain⟨xs,hx,hk⟩:=F2 hk;obtain⟨ys,hy,hk⟩:=F2 hk;obtain⟨b,hk,hr⟩:=FG h (.inl rfl) hu CL hx hy hk;exact⟨_,hk,Cc (Ch _ (by rw[hr];rfl))⟩
  ·obtain⟨CL,hk⟩:=Aj hk;obtain⟨xs,hx,hk⟩:=F2 hk;obtain⟨ys,hy,hk⟩:=F2 hk;obtain⟨b,hk,hr⟩:=FG h (.inr rfl) hu CL hx hy hk;exact⟨_,hk,Cc (Ch _ (by rw[hr];rfl))⟩
  ·cases hk
 ·unfold YR at hk;split at hk
  ·rename_i k hu;split at hk
   ·obtain⟨m,hx,hk⟩:=Dv hk;obtain⟨k2,n,hy,hk⟩:=C3 hk;obtain⟨hb,hk⟩:=Aj hk;have hb:=of_decide_eq_true hb;refine⟨_,hk,Cc (Ch _ ?_)⟩;have:¬n<0:=by omega
    simp[eqGuard,binOp,Op.shift,B1 h hx,B1 h hy,this]
   ·obtain⟨m,hx,hk⟩:=Dv hk;obtain⟨k2,n,hy,hk⟩:=C3 hk;obtain⟨hb,hk⟩:=Aj hk;have hb:=of_decide_eq_true hb;refine⟨_,hk,Cc (Ch _ ?_)⟩;have:¬n<0:=by omega
    simp[eqGuard,binOp,Op.shift,B1 h hx,B1 h hy,this]
   ·rename_i XQ Q9;obtain⟨m,hx,hk⟩:=Dv hk;obtain⟨n,hy,hk⟩:=Dv hk;obtain⟨v,hk,hr⟩:=VV (P:=P) (w:=w) (t:=t) (x:=x) (y:=y) XQ Q9 hk;exact⟨_,hk,Cc (Ch _ (by rw[B1 h hx,B1 h hy];exact hr))⟩
  ·rename_i hu;obtain⟨m,hx,hk⟩:=C7 hk;obtain⟨n,hy,hk⟩:=C7 hk;obtain⟨v,hk,hr⟩:=WP (P:=P) (w:=w) (t:=t) (x:=x) (y:=y) hk;exact⟨_,hk,Cc (Ch _ (by rw[B1 h hx,B1 h hy];exact hr))⟩
  ·rename_i hu;split at hk
   ·obtain⟨m,hx,hk⟩:=Dd hk;obtain⟨n,hy,hk⟩:=Dd hk;refine⟨_,hk,Cc (Ch _ ?_)⟩;simp[eqGuard,binOp,B1 h hx,B1 h hy,Zo hu]
   ·obtain⟨m,hx,hk⟩:=Dd hk;obtain⟨n,hy,hk⟩:=Dd hk;refine⟨_,hk,Cc (Ch _ ?_)⟩;simp[eqGuard,binOp,B1 h hx,B1 h hy,Zo hu]
   ·cases hk
  ·rename_i e hu;have hx:=Cn h x
   have nilQ:∀{e:Bool} {K':PV->Option R},Zn e (Bv s.tm x) K'=some r->∃q ad n c,K' q=some r∧a.eval x=.slice ad n c∧(q=.sc (.bool (if ad.isNone then e else !e))∨q=.ub):=by
    intro e K' hq;unfold Zn at hq;split at hq
    ·rename_i e';exact⟨_,none,0,0,hq,B1 h e',.inl rfl⟩
    ·rename_i z es n c e';rcases Fh (.inl e') hx with⟨Cv,rfl,_⟩|⟨ad,cap,Cv,rfl,_⟩|⟨ad,cap,Cv,rfl,rfl,_⟩
     ·rcases Jv hq with⟨_,hq⟩|⟨_,hq⟩
      ·exact⟨_,none,0,0,hq,Cv,.inl rfl⟩
      ·rcases Jv hq with⟨hb,_⟩|⟨_,hq⟩
       ·exact absurd (of_decide_eq_true hb) (by omega)
       ·exact⟨_,none,0,0,hq,Cv,.inr rfl⟩
     ·rcases Jv hq with⟨hz,_⟩|⟨_,hq⟩
      ·cases hz
      ·rcases Jv hq with⟨_,hq⟩|⟨_,hq⟩
       ·exact⟨_,some ad,n,cap,hq,Cv,.inl rfl⟩
       ·exact⟨_,some ad,n,cap,hq,Cv,.inr rfl⟩
     ·rcases Jv hq with⟨hz,_⟩|⟨_,hq⟩
      ·cases hz
      ·rcases Jv hq with⟨hb,_⟩|⟨_,hq⟩
       ·exact absurd (of_decide_eq_true hb) (by omega)
       ·exact⟨_,some ad,0,cap,hq,Cv,.inr rfl⟩
    ·rename_i id es off n e';rw[e'] at hx;rcases hx with⟨_,_,rfl,ad,Cv⟩|⟨b,ob,y',cap,_,Cv,_⟩
     ·rcases Jv hq with⟨hb,_⟩|⟨_,hq⟩
      ·exact absurd (of_decide_eq_true hb) (by omega)
      ·exact⟨_,ad,0,0,hq,Cv,.inr rfl⟩
     ·rcases Jv hq with⟨_,hq⟩|⟨_,hq⟩
      ·exact⟨_,_,n,cap,hq,Cv,.inl rfl⟩
      ·exact⟨_,_,n,cap,hq,Cv,.inr rfl⟩
    ·cases hq
   split at hk
   ·rename_i hy;obtain⟨q,ad,n,c,hk,Cv,hb⟩:=nilQ hk;rcases hb with rfl|rfl
    ·refine⟨_,hk,Cc (Ch _ ?_)⟩;cases ad<;>simp[eqGuard,binOp,Cv,B1 h hy,Qe hu]
    ·refine⟨_,hk,Bx (val:=.bool ad.isNone) (Ch _ ?_) (Ar.ub _) (by intro i hi;cases hi)⟩
     simp[eqGuard,binOp,Cv,B1 h hy,Qe hu]
   ·rename_i hy;obtain⟨q,ad,n,c,hk,Cv,hb⟩:=nilQ hk;rcases hb with rfl|rfl
    ·refine⟨_,hk,Cc (Ch _ ?_)⟩;cases ad<;>simp[eqGuard,binOp,Cv,B1 h hy,Qe hu]
    ·refine⟨_,hk,Bx (val:=.bool !ad.isNone) (Ch _ ?_) (Ar.ub _) (by intro i hi;cases hi)⟩
     simp[eqGuard,binOp,Cv,B1 h hy,Qe hu]
   ·cases hk
  ·rename_i kt vt hu;split at hk
   ·rename_i hx hy;refine⟨_,hk,Cc (Ch _ ?_)⟩;simp[eqGuard,binOp,B1 h hx,B1 h hy,Tn hu]
   ·rename_i hx hy;refine⟨_,hk,Cc (Ch _ ?_)⟩;simp[eqGuard,binOp,B1 h hx,B1 h hy,Tn hu]
   ·cases hk
  ·cases hk
end
open Go.RowKit
section
variable {R:Type} {r:R} {P:Program} {N:Nat} {w0:World} {X0:Gq} {Y:Nat->Prop} {β β':Bt} {s:St} {a:Act} {w w':World} {o:Oper} {A:Nat->Prop}
theorem V9:∀{c:List PV}{ns:List Int},P9 c=some ns->c=ns.map (fun n=>.sc (.int .i32 n))
 |[],ns,h=>by simp[P9] at h;subst h;rfl
 |p::c,ns,h=>by
  unfold P9 at h;split at h
  ·rename_i e;cases e
  ·rename_i n r e;cases e;cases hr:P9 c with
   |none=>rw[hr] at h;cases h
   |some l'=>
    rw[hr] at h;simp at h;subst h;rw[V9 hr];rfl
  ·cases h
theorem Vx:∀{c:List PV}{l:List UInt8},Lj c=some l->∃ns:List Int,c=ns.map (fun n=>.sc (.int .u8 n))∧l=ns.map fun n=>n.toNat.toUInt8
 |[],l,h=>⟨[],rfl,by simp[Lj] at h;subst h;rfl⟩
 |p::c,l,h=>by
  unfold Lj at h;split at h
  ·rename_i e;cases e
  ·rename_i n r e;cases e;cases hr:Lj c with
   |none=>rw[hr] at h;cases h
   |some l'=>
    rw[hr] at h;simp at h;obtain⟨ns,rfl,rfl⟩:=Vx hr;exact⟨n::ns,rfl,h.symm⟩
  ·cases h
theorem N5:∀(ns:List Int)(b:ByteArray),ns.foldl (fun r n=>r.push (UInt8.ofNat n.toNat)) b=⟨b.data++(ns.map fun n=>n.toNat.toUInt8).toArray⟩
 |[],b=>by simp
 |n::ns,b=>by
  simp only[List.foldl_cons];rw[N5 ns];simp[ByteArray.push]
theorem X6 (h:Cj N w0 X0 Y β s a w){es:Nat}{x:Operand}{K:Nat->List PV->Option R}(hk:MM (Hl s.hp) es (Bv s.tm x) K=some r):
  ∃n c,K n c=some r∧(((∃ad,a.eval x=.slice ad 0 0)∧n=0∧c=[])∨∃ad cap,a.eval x=.slice (some ad) n cap∧n<=cap∧(c=[]∨ad.block<w.heap.size)∧NT w (Ct s.hp β Y) ad c):=by
 have hx:=Cn h x;have AZ:=Eg h x;unfold MM at hk;split at hk
 ·rename_i id es' off n e;rw[e] at hx AZ;cases hb:Nat.beq es' es
  ·rw[hb] at hk;cases hk
  ·rw[hb] at hk;obtain⟨c,hc,hk⟩:=B3 (show Dk _ _=some r from hk)
   obtain⟨hl,hk⟩:=Aj hk;have hl:=of_decide_eq_true hl;obtain⟨f,VA⟩:=GZ hc;refine⟨_,_,hk,?_⟩;rcases hx with⟨_,rfl,rfl,ad,Cv⟩|⟨b,ob,y,cap,hβ,Cv,hy,hn,_,B4⟩
   ·exact .inl ⟨⟨ad,Cv⟩,rfl,by simp⟩
   ·refine .inr ⟨_,cap,Cv,hn,.inr B4,fun j p hj=>?_⟩
    have VE:0<n*es:=by
     rcases Nat.eq_zero_or_pos (n*es) with h0|h0
     ·rw[h0] at hj;simp at hj
     ·exact h0
    have Ub:n≠0:=by rintro rfl;simp at VE
    have hy:y=ob+off:=by rcases hy with hy|⟨h0,_⟩<;>omega
    subst hy;rw[List.getElem?_take] at hj;split at hj
    ·rw[List.getElem?_drop] at hj;rcases h.box id _ VA with⟨h1,_⟩|⟨b',o',h1,h2,_⟩
     ·rw[hβ] at h1;cases h1
     ·rw[hβ] at h1;simp at h1;obtain⟨rfl,rfl⟩:=h1
      obtain⟨v,hv,h3,ht⟩:=h2 (off+j) p hj;rw[D4] at hv;exact⟨v,by rw[D4,Nat.add_assoc];exact hv,h3,ht⟩
    ·cases hj
 ·obtain⟨z,n,c,hk,hp⟩:=Ep hk;refine⟨n,c,hk,?_⟩;rcases Fh hp hx with h1|⟨ad,cap,Cv,_,hn,h1,h2,_,h4⟩|⟨ad,cap,Cv,_,rfl,rfl⟩
  ·exact .inl ⟨⟨none,h1.1⟩,h1.2⟩
  ·exact .inr ⟨ad,cap,Cv,hn,.inr h2,h4⟩
  ·exact .inr ⟨ad,cap,Cv,Nat.zero_le _,.inl rfl,fun j c hj=>by simp at hj⟩
theorem UN (b:ByteArray)(j:Nat)(p:PV)(h:(Es b)[j]?=some p):∃x,b.data[j]?=some x∧p=.sc (.int .u8 x.toNat):=by
 unfold Es at h;rw[List.getElem?_map] at h;cases hx:b.data.toList[j]? with
 |none=>rw[hx] at h;cases h
 |some x=>
  rw[hx] at h;simp at h;exact⟨x,by simpa using hx,h.symm⟩
theorem OP (h:Cj N w0 X0 Y β s a w){src dst:TypeId}{x:Operand}(ho:o.op=.convert src dst x){d:Nat}{K:PV->List (Nat × Bk)->Option R}
  (hk:AB P (Hl s.hp) d src dst (Bv s.tm x) K=some r):∃v nw,K v nw=some r∧Dt P a w o Y β s v [] nw:=by
 have Ch:∀v w',(convert src dst (a.eval x)).run P w=.ok v w'->(execOp a.eval o).run P w=.ok (.value v) w':=by
  intro v w' hv;unfold execOp;rw[ho];simp[hv]
 unfold AB at hk;split at hk
 ·rename_i k hu;obtain⟨hs,hk⟩:=Aj hk;obtain⟨k',n,hx,hk⟩:=C3 hk;exact⟨_,_,hk,Cc (Ch _ _ (by rw[B1 h hx];obtain⟨ds,hds⟩:=Option.isSome_iff_exists.1 hs;cases ds<;>simp[convert,run_underlying hds,run_underlying hu,Conv.intToInt]))⟩
 ·rename_i hu;split at hk
  ·rename_i hs;obtain⟨b,hx,hk⟩:=C7 hk;exact⟨_,_,hk,Cc (Ch _ _ (by rw[B1 h hx];simp[convert,run_underlying hs,run_underlying hu]))⟩
  ·rename_i e hs;split at hk
   ·rename_i he;obtain⟨n,c,hk,hc⟩:=X6 h hk;obtain⟨hl,hk⟩:=Aj hk;have hl:=of_decide_eq_true hl;obtain⟨l,hb,hk⟩:=B3 hk;obtain⟨ns,rfl,rfl⟩:=Vx hb;refine⟨_,_,hk,Cc (Ch _ _ ?_)⟩;rcases hc with⟨⟨ad,Cv⟩,rfl,hn⟩|⟨ad,cap,Cv,_,_,XY⟩
    ·have:ns=[]:=by simpa using hn
     subst this;rw[Cv,run_convert_bytes_string w src dst e ad 0 0 hs he hu];cases ad<;>rfl
    ·rw[Cv,run_convert_bytes_string w src dst e _ _ _ hs he hu]
     have hld:(loadCells ad n).run P w=.ok (ns.map (Value.int .u8)).toArray w:=by
      have:=run_loadCells_list (P:=P) w ad (ns.map (Value.int .u8)) (fun j v hj=>by
       rw[List.getElem?_map] at hj;cases hn:ns[j]? with
       |none=>rw[hn] at hj;cases hj
       |some m=>
        rw[hn] at hj;simp at hj;subst hj;obtain⟨v,hv,_,ht⟩:=XY j (.sc (.int .u8 m)) (by rw[List.getElem?_map,hn];rfl)
        rw[ht.val] at hv;exact hv)
      simp only[List.length_map] at this hl;rw[hl] at this;exact this
     rw[run_bytesToString w ad n cap ns hld,N5];simp
   ·rename_i he;obtain⟨n,c,hk,hc⟩:=X6 h hk;obtain⟨hl,hk⟩:=Aj hk;have hl:=of_decide_eq_true hl;obtain⟨ns,hb,D8⟩:=B3 hk;have Xt:=V9 hb;clear hk;subst Xt;refine⟨_,_,D8,Cc (Ch _ _ ?_)⟩;rcases hc with⟨⟨ad,Cv⟩,Ut,hn⟩|⟨ad,cap,Cv,_,_,XY⟩
    ·have:ns=[]:=by simpa using hn
     subst this;rw[Cv,run_convert_runes_string w src dst e ad _ _ hs he hu];cases ad with
     |none=>rfl
     |some p=>
      have Ub:n=0:=by simpa using Ut
      subst Ub;exact run_runesToString w p 0 0 [] (by simpa using run_loadCells_list (P:=P) w p [] (by simp))
    ·rw[Cv,run_convert_runes_string w src dst e _ _ _ hs he hu]
     have hld:(loadCells ad n).run P w=.ok (ns.map (Value.int .i32)).toArray w:=by
      have:=run_loadCells_list (P:=P) w ad (ns.map (Value.int .i32)) (fun j v hj=>by
       rw[List.getElem?_map] at hj;cases hn:ns[j]? with
       |none=>rw[hn] at hj;cases hj
       |some m=>
        rw[hn] at hj;simp at hj;subst hj;obtain⟨v,hv,_,ht⟩:=XY j (.sc (.int .i32 m)) (by rw[List.getElem?_map,hn];rfl)
        rw[ht.val] at hv;exact hv)
      simp only[List.length_map] at this hl;rw[hl] at this;exact this
     exact run_runesToString w ad n cap ns hld
   ·cases hk
  ·cases hk
 ·rename_i e hu;split at hk
  ·rename_i he hs;obtain⟨b,hx,hk⟩:=C7 hk;obtain⟨K1,hk⟩:=Aj hk;have hr:=run_bytes_of_string (P:=P) w src dst e b hs hu he;rw[←B1 h hx] at hr
   have Ru:b.size<=grownCap w b.size 0 e:=by
    unfold grownCap;simp[Question.cut]
   have KQ:(bytesRow b (grownCap w b.size 0 e)).size=grownCap w b.size 0 e:=by
    simp only[bytesRow,Array.size_append,Array.size_map,Array.size_replicate];have:b.data.size=b.size:=rfl;omega
   refine⟨_,_,hk,Mo (c:=bytesRow b (grownCap w b.size 0 e)) (e:=e) (by simp) (Ch _ _ hr) ?_ (fun j p hj=>?_) (.inr ⟨1,b.size,grownCap w b.size 0 e,rfl,rfl,Ru,by rw[KQ];omega,.inl rfl⟩)⟩
   ·exact⟨rfl,rfl,rfl,fun i hi=>Below.heap_alloc w.drew _ i hi,by show (w.heap.push _).size=_;simp,_,by show (w.heap.push _)[w.heap.size]?=_;simp;rfl,.inr (Nat.le_refl _)⟩
   ·obtain⟨y,hy,rfl⟩:=UN b j p hj;refine⟨.int .u8 y.toNat,?_,rfl,Ar.sc _⟩
    have B4:j<b.data.size:=by
     rcases Nat.lt_or_ge j b.data.size with h|h
     ·exact h
     ·rw[Array.getElem?_eq_none h] at hy;cases hy
    simp only[bytesRow];rw[Array.getElem?_append_left (by simpa using B4),Array.getElem?_map,hy]
    rfl
  ·cases hk
 ·cases hk
end
open Go.RowKit
section
variable {R:Type} {r:R} {P:Program} {N:Nat} {w0:World} {X0:Gq} {Y:Nat->Prop} {β β':Bt} {s:St} {a:Act} {w w':World} {o:Oper} {A:Nat->Prop}
theorem S9:∀{n:Nat}{l:List PV}{j:Nat}{c:PV},(M7 n l)[j]?=some c->j<n*l.length∧l[j % l.length]?=some c
 |0,l,j,c,h=>by simp[M7] at h
 |n+1,l,j,c,h=>by
  have e:M7 (n+1) l=l++M7 n l:=by simp[M7,List.replicate_succ]
  rw[e] at h;by_cases hj:j<l.length
  ·rw[List.getElem?_append_left hj] at h;refine⟨by rw[Nat.add_mul];omega,?_⟩
   rw[Nat.mod_eq_of_lt hj];exact h
  ·rw[List.getElem?_append_right (by omega)] at h
   obtain⟨h1,h2⟩:=S9 h;refine⟨by rw[Nat.add_mul];omega,?_⟩
   rw[Nat.mod_eq_sub_mod (by omega)];exact h2
theorem LO (n:Nat)(l:List PV):(M7 n l).length=n*l.length:=by
 induction n with
 |zero=>simp[M7]
 |succ n ih=>
  have e:M7 (n+1) l=l++M7 n l:=by simp[M7,List.replicate_succ]
  rw[e,List.length_append,ih,Nat.add_mul];omega
theorem LF {z:Array Value}{n j:Nat}(hj:j<n){v:Value}(hv:z[j % z.size]?=some v):(madeCells z n)[j]?=some v:=by
 unfold madeCells;rw[Array.getElem?_map,Array.getElem?_range,if_pos hj];simp only[Option.map_some];rw[getElem!_def,hv]
theorem PZ (h:Cj N w0 X0 Y β s a w){t:TypeId}{x y:Operand}(ho:o.op=.makeSlice t x y){d:Nat}{K:PV->List Nat->List (Nat × Bk)->Option R}
  (hk:(match P.underlying t with
   |some (.slice e)=>C8 (Bv s.tm x) fun _ n=>C8 (Bv s.tm y) fun _ m=>
     Bi (decide (0<=n)&&decide (n<=m)&&decide (m*((P.info? e).map (·.bytes)).getD 0<=1099511627776)&&decide (m<=1099511627776))
      (Fw P e fun z=>K (.view d (A7 P e) 0 n.toNat) [] [(d,.ar false (M7 n.toNat z))])
   |_=>none)=some r):∃v fz nw,K v fz nw=some r∧Dt P a w o Y β s v fz nw:=by
 split at hk
 ·rename_i e hu;obtain⟨k1,n,hx,hk⟩:=C3 hk;obtain⟨k2,m,hy,hk⟩:=C3 hk;obtain⟨hb,hk⟩:=Aj hk;simp only[Bool.and_eq_true,decide_eq_true_eq] at hb;obtain⟨⟨⟨h0,CY⟩,Ps⟩,hm⟩:=hb;obtain⟨z,cs,hk,hz,hct,hl,K1,hc⟩:=Lb hk
  have hzc:∃i,P.info? e=some i∧i.zero=some z:=by
   unfold L0 at hz;cases hi:P.info? e with
   |none=>rw[hi] at hz;cases hz
   |some i=>rw[hi] at hz;exact⟨i,rfl,hz⟩
  obtain⟨i,hi,TY⟩:=hzc;have Ar8:A7 P e=i.size:=by simp[A7,hi]
  simp only[hi,Option.map_some,Option.getD_some] at Ps;have hr:=run_make (P:=P) w t e i z hu hi TY k1 k2 n m h0 CY (by rw[Int.mul_comm];omega) (by omega)
  have Ch:(execOp a.eval o).run P w=.ok (.value (.slice (some ⟨w.heap.size,0,none⟩) n.toNat m.toNat)) (w.alloc (.cells (madeCells z.cells (m.toNat*i.size)) e)):=by
   unfold execOp;rw[ho];simp[B1 h hx,B1 h hy,hr]
  have hzl:z.cells.size=A7 P e:=by
   have:z.cells.toList.length=z.cells.size:=by simp
   omega
  refine⟨_,_,_,hk,Mo (c:=madeCells z.cells (m.toNat*i.size)) (e:=e) (by simp) Ch (Ff.alloc w _ e) (fun j p hj=>?_) (.inr ⟨A7 P e,n.toNat,m.toNat,rfl,rfl,by omega,by rw[size_madeCells,Ar8];exact Nat.le_refl _,.inr (Hz w _ e)⟩)⟩
  obtain⟨h1,h2⟩:=S9 hj;obtain⟨hT,u,Hc,GU,hv⟩:=hc _ p h2;refine⟨u,LF ?_ ?_,GU,hv _ _⟩
  ·have:n.toNat*cs.length<=m.toNat*i.size:=by
    rw[K1,Ar8];exact Nat.mul_le_mul_right _ (by omega)
   omega
  ·rw[hzl,←K1]
   simpa using Hc
 ·cases hk
theorem UB {p:PV}{v:Value}(hp:okP p=true)(hv:Dx w A β p v):Bb (Bu w A β) (cellsOf p) v.cells.toList:=by
 have one:v.oneCell'=true->Bu w A β p v->(∀x,p ≠ .agg x)->Bb (Bu w A β) (cellsOf p) v.cells.toList:=by
  intro h1 h2 h3;have:cellsOf p=[p]:=by cases p<;>first|rfl|exact absurd rfl (h3 _)
  rw[this,J8 h1];exact⟨h2,trivial⟩
 unfold okP at hp;split at hp
 ·obtain⟨vs,rfl,h2⟩:=hv;exact h2
 ·refine one ?_ hv (by simp)
  have Lh:Ar w A _ v:=hv;cases Lh<;>rfl
 ·refine one ?_ hv (by simp)
  rcases hv with⟨_,_,_,_,rfl⟩|⟨_,_,_,_,_,rfl,_⟩<;>rfl
 ·have:=Us hv;subst this;exact one rfl hv (by simp)
 ·have:=Us hv;subst this;exact one rfl hv (by simp)
 ·have:=Us hv;subst this;exact one rfl hv (by simp)
 ·have:=Us hv;subst this;exact one rfl hv (by simp)
 ·cases hp
theorem TP:∀(vs:List Value)(k off:Nat)(cells:Array Value),off+k+vs.length<=cells.size ->
  ((vs.zipIdx k).foldl (fun cs (q:Value × Nat)=>cs.setIfInBounds (off+q.2) q.1) cells).toList=cells.toList.take (off+k)++vs++cells.toList.drop (off+k+vs.length)
 |[],k,off,cells,_=>by simp
 |v::vs,k,off,cells,h=>by
  simp only[List.zipIdx_cons,List.foldl_cons,List.length_cons] at h ⊢;rw[TP vs (k+1) off _ (by simp;omega)]
  have B4:off+k<cells.toList.length:=by simp;omega
  simp only[Array.toList_setIfInBounds];rw[show off+(k+1)=off+k+1 from by omega,List.take_succ_eq_append_getElem (by simpa using B4)]
  rw[List.getElem_set_self,List.take_set_of_le (Nat.le_refl _),List.drop_set_of_lt (by omega)]
  simp only[List.append_assoc,List.cons_append,List.nil_append];rw[show off+k+1+vs.length=off+k+(vs.length+1) from by omega]
theorem AO (h:Cj N w0 X0 Y β s a w){Fy:Nat->Option (Nat × Nat)}:∀{parts:List (Nat × Operand)} {pc:List PV}{vc:Array Value}{K:List PV->Option R},
  Pc Fy (parts.map fun q=>(q.1,Bv s.tm q.2)) pc K=some r->Bb (Bu w (Ct s.hp β Y) β) pc vc.toList->(∀c∈pc,∀id∈Am c,s.hp id≠none) ->
  ∃pc' vc',K pc'=some r∧Instr.fill Fy vc (parts.map fun q=>(q.1,a.eval q.2))=some vc'∧Bb (Bu w (Ct s.hp β Y) β) pc' vc'.toList∧pc'.length=pc.length∧∀c∈pc',∀id∈Am c,s.hp id≠none
 |[],pc,vc,K,hk,hv,hr=>⟨pc,vc,hk,rfl,hv,rfl,hr⟩
 |(i,x)::parts,pc,vc,K,hk,hv,hr=>by
  simp only[List.map_cons] at hk;unfold Pc at hk;obtain⟨⟨off,size⟩,Sd,hk⟩:=B3 hk;obtain⟨hb,hk⟩:=Aj hk;simp only[Bool.and_eq_true] at hb;obtain⟨⟨hok,K1⟩,Xc⟩:=hb;have K1:(cellsOf (Bv s.tm x)).length=size:=Nat.eq_of_beq_eq_true K1;have Xc:off+size<=pc.length:=Nat.le_of_ble_eq_true Xc;have hxc:=UB hok (Cn h x);have hxl:=hxc.len;have hvl:=hv.len;have Of:vc.toList.length=vc.size:=by simp
  have Xt:(a.eval x).cells.toList.length=(a.eval x).cells.size:=by simp
  have Aqg:=TP (a.eval x).cells.toList 0 off vc (by omega)
  simp only[Nat.add_zero] at Aqg
  have Aqn:((a.eval x).cells.zipIdx.foldl (fun cs (q:Value × Nat)=>cs.setIfInBounds (off+q.2) q.1) vc).toList=vc.toList.take off++(a.eval x).cells.toList++vc.toList.drop (off+(a.eval x).cells.toList.length):=by
   rw[←Aqg,←Array.foldl_toList];simp
  obtain⟨pc',vc',hk,hf,h2,hl,hr'⟩:=AO h (pc:=B8 pc (cellsOf (Bv s.tm x)) off) (vc:=(a.eval x).cells.zipIdx.foldl (fun cs (q:Value × Nat)=>cs.setIfInBounds (off+q.2) q.1) vc) hk (by
    rw[Aqn,←hxl];exact (((hv.take off).app hxc).app (hv.drop _))) (by
    intro c hc id Bf;unfold B8 at hc;rcases List.mem_append.1 hc with hc|hc
    ·rcases List.mem_append.1 hc with hc|hc
     ·exact hr c (List.mem_of_mem_take hc) id Bf
     ·refine Eg h x id ?_;cases hp:Bv s.tm x with
      |agg cs=>rw[hp] at hc;exact List.mem_flatMap.2 ⟨c,hc,Bf⟩
      |tup cs=>rw[hp] at hc;simp[cellsOf] at hc;subst hc;cases Bf
      |_=>rw[hp] at hc;simp[cellsOf] at hc;subst hc;exact Bf
    ·exact hr c (List.mem_of_mem_drop hc) id Bf)
  refine⟨pc',vc',hk,?_,h2,?_,hr'⟩
  ·simp only[List.map_cons,Instr.fill,Sd];rw[if_neg (by simp;omega)]
   exact hf
  ·rw[hl];simp[B8];omega
theorem JX {t:TypeId}{z:Value}{cs:List PV}(hl:cs.length=z.cells.toList.length)(hc:∀(j:Nat) c,cs[j]?=some c->Q6 c∧∃u,z.cells.toList[j]?=some u∧u.oneCell'=true∧∀(w:World)(A:Nat->Prop),Ar w A c u) (_ht:L0 P t=some z):
  Bb (Bu w A β) cs z.cells.toList∧∀c∈cs,Am c=[]:=by
 refine⟨Bb.of_at hl fun i c u hci hu=>?_,fun c MN=>?_⟩
 ·obtain⟨hT,u',Hc,_,hv⟩:=hc i c hci;rw[hu] at Hc;cases Hc;exact (Iv hT).2 (hv _ _)
 ·obtain⟨j,hj⟩:=List.mem_iff_getElem?.1 MN;exact Gd (hc j c hj).1
theorem AE:∀{fs:List Field},(fs.all fun f=>Zg P f.type)=true->fs.mapM (fun f=>(P.info? f.type).map fun i=>(f.offset,i.size))=some (fs.map fun f=>(f.offset,A7 P f.type))
 |[],_=>rfl
 |f::fs,h=>by
  simp only[List.all_cons,Bool.and_eq_true] at h;obtain⟨i,hi⟩:=Option.isSome_iff_exists.1 h.1;simp[List.mapM_cons,hi,AE h.2,A7]
theorem R1 {p q:Nat->Option (Nat × Nat)} (h:∀i,p i=q i)(cells:Array Value)(parts:List (Nat × Value)):Instr.fill p cells parts=Instr.fill q cells parts:=by
 have:p=q:=funext h;rw[this]
theorem NC (h:Cj N w0 X0 Y β s a w){t:TypeId}{ps:Array (Nat × Operand)} (ho:o.op=.build t ps){K:PV->Option R}
  (hk:(Bi (Mx P t&&B0 P t)<|Fw P t fun z=>Pc (M6 P t) (ps.toList.map fun q=>(q.1,Bv s.tm q.2)) z fun cs=>K7 (Gr P t) cs 0 fun cs'=>K (.agg cs'))=some r):∃v,K v=some r∧Dt P a w o Y β s v [] []:=by
 obtain⟨Sd,hk⟩:=Aj hk;simp only[Bool.and_eq_true] at Sd;obtain⟨Sd,E6⟩:=Sd;obtain⟨z,cs,hk,hz,hct,hl,K1,hc⟩:=Lb hk;obtain⟨hzr,Ys⟩:=JX (w:=w) (A:=Ct s.hp β Y) (β:=β) hl hc hz;obtain⟨pc',vc',hk,hf,h2,Ib,hr'⟩:=AO h hk hzr (fun c MN id Bf=>by rw[Ys c MN] at Bf;cases Bf)
 obtain⟨qs,hk,hql,U9,hq⟩:=Oz hk
 have Am6:P.built t (ps.toList.map fun q=>(q.1,a.eval q.2))=some vc':=by
  have TY:∃i,P.info? t=some i∧i.zero=some z:=by
   unfold L0 at hz;cases hi:P.info? t with
   |none=>rw[hi] at hz;cases hz
   |some i=>rw[hi] at hz;exact⟨i,rfl,hz⟩
  obtain⟨i,hi,TY⟩:=TY;unfold Mx at Sd;unfold Program.built;split at Sd
  ·rename_i fs hu
   have VO:Instr.fill (((fs.toList.map fun f=>(f.offset,A7 P f.type)).toArray)[·]?) z.cells (ps.toList.map fun q=>(q.1,a.eval q.2))=some vc':=by
    rw[←hf];refine R1 (fun j=>?_) _ _
    simp[M6,hu]
   simp only[hi,hu,TY,AE Sd];exact VO
  ·rename_i n e hu;obtain⟨ie,hie⟩:=Option.isSome_iff_exists.1 Sd
   have VO:Instr.fill (fun j=>some (j*ie.size,ie.size)) z.cells (ps.toList.map fun q=>(q.1,a.eval q.2))=some vc':=by
    rw[←hf];refine R1 (fun j=>?_) _ _
    simp[M6,hu,A7,hie]
   simp only[hi,hu,TY,hie];exact VO
  ·rename_i e hu;simp[B0,hu] at E6
  ·cases Sd
 refine⟨_,hk,Bx (val:=.agg vc') ?_ ⟨vc'.toList,rfl,?_⟩ ?_⟩
 ·unfold execOp;rw[ho];have:=run_build (P:=P) w t (ps.map fun q=>(q.1,a.eval q.2)) vc' (by simpa using Am6)
  simp[this]
 ·refine Bb.of_at (by have:=h2.len;omega) fun j c u hcj hu=>?_
  obtain⟨p,hp,_,_,Uy⟩:=hq j c hcj;rw[Nat.zero_add] at hp;exact (Uy _ _ _ _ (h2.at_ hp hu)).1
 ·intro id Bf;obtain⟨c,MN,Bf⟩:=List.mem_flatMap.1 (show id∈qs.flatMap Am from Bf)
  obtain⟨j,hj⟩:=List.mem_iff_getElem?.1 MN;obtain⟨p,hp,_,hpr,_⟩:=hq j c hj;rw[Nat.zero_add] at hp;exact hr' p (List.mem_of_getElem? hp) id (hpr id Bf)
end
open Go.RowKit
section
variable {R:Type} {r:R} {P:Program} {N:Nat} {w0:World} {X0:Gq} {Y:Nat->Prop} {β β':Bt} {s:St} {a:Act} {w w':World} {o:Oper} {A:Nat->Prop}
theorem PB (h:Cj N w0 X0 Y β s a w){fz:List Nat}(Ur:∀id∈fz,∃f c,s.hp id=some (.ar f c)) {id:Nat}(hm:id∈fz){f:Bool}{c:List PV}(hb:s.hp id=some (.ar f c)) {b ob:Nat}(hβ:β id=some (b,ob)):
  ¬Ct (Af s.hp fz) β Y b∧NT w (Ct (Af s.hp fz) β Y) ⟨b,ob,none⟩ c∧b<w.heap.size:=by
 have hf:=h.freeze Ur;have he:Af s.hp fz id=some (.ar true c):=by rw[Bq,if_pos hm,hb];rfl
 rcases hf.box id _ he with⟨h1,_⟩|⟨b',o',h1,h2,_,h4⟩
 ·rw[hβ] at h1;cases h1
 ·rw[hβ] at h1;simp at h1;obtain⟨rfl,rfl⟩:=h1;exact⟨h4 rfl,h2,h.blt id b ob (by rw[hb];simp) hβ⟩
theorem US (h:Cj N w0 X0 Y β s a w){fz:List Nat}(Ur:∀id∈fz,∃f c,s.hp id=some (.ar f c)) {id es off n:Nat}(hm:id∈fz){f:Bool}{c:List PV}(hb:s.hp id=some (.ar f c)) {v:Value}
  (hv:Bu w (Ct s.hp β Y) β (.view id es off n) v):Ar w (Ct (Af s.hp fz) β Y) (.lst false es n ((c.drop off).take (n*es))) v:=by
 rcases hv with⟨_,rfl,rfl,ad,rfl⟩|⟨b,ob,y,cap,hβ,rfl,hy,hn,_,B4⟩
 ·simp only[Nat.zero_mul,List.take_zero];cases ad with
  |none=>exact Ar.lnil false es
  |some p=>exact Ar.lemp es p 0
 ·obtain⟨h1,h2,_⟩:=PB h Ur hm hb hβ;by_cases Ub:n*es=0
  ·rw[Ub,List.take_zero];exact Ar.lst es n [] ⟨b,y,none⟩ cap (fun _=>undef) rfl B4 h1 hn (by simp) (by simp) (by simp)
  ·have hy:y=ob+off:=by
    rcases hy with hy|⟨h0,_⟩
    ·exact hy
    ·rw[h0] at Ub;simp at Ub
   subst hy
   have Cm:∀(j:Nat) q,((c.drop off).take (n*es))[j]?=some q->c[off+j]?=some q:=by
    intro j q hq;rw[List.getElem?_take] at hq;split at hq
    ·rw[List.getElem?_drop] at hq;exact hq
    ·cases hq
   refine Ar.lst es n _ ⟨b,ob+off,none⟩ cap (fun j=>(w.cell? ⟨b,ob+off+j,none⟩).getD undef) rfl B4 h1 hn (fun j q hq=>?_) (fun j q hq=>?_) (fun j q hq=>?_)
   ·obtain⟨v,hv,_⟩:=h2 _ q (Cm j q hq);rw[D4,←Nat.add_assoc] at hv;rw[D4,hv];rfl
   ·obtain⟨v,hv,h3,_⟩:=h2 _ q (Cm j q hq);rw[D4,←Nat.add_assoc] at hv;rw[hv];exact h3
   ·obtain⟨v,hv,_,ht⟩:=h2 _ q (Cm j q hq);rw[D4,←Nat.add_assoc] at hv;rw[hv];exact ht
theorem Ar.zf {A:Nat->Prop}{z:Bool}{es n:Nat}{c:List PV}{v:Value}(h:Ar w A (.lst z es n c) v):Ar w A (.lst false es n c) v:=by
 cases h with
 |lnil=>exact .lnil _ _
 |lemp=>exact .lemp _ _ _
 |lst _ _ _ a cap f hs hb hA hn hc h1 hr=>exact .lst _ _ _ a cap f hs hb hA hn hc h1 hr
theorem Yi (h:Cj N w0 X0 Y β s a w){t:CT}{p:PV}{K:PV->List Nat->Option R}(hk:K9 (Hl s.hp) t p K=some r):
  ∃c m,K c m=some r∧Q6 c∧BM p∧(∀id∈m,∃f cc,s.hp id=some (.ar f cc))∧∀fz:List Nat,(∀id∈m,id∈fz)->(∀id∈fz,∃f cc,s.hp id=some (.ar f cc))->∀v,Bu w (Ct s.hp β Y) β p v->Ar w (Ct (Af s.hp fz) β Y) c v∧v.oneCell'=true:=by
 have tree:∀t',(Uh t' p fun c=>K c [])=some r->∃c m,K c m=some r∧Q6 c∧BM p∧(∀id∈m,∃f cc,s.hp id=some (.ar f cc))∧∀fz:List Nat,(∀id∈m,id∈fz)->(∀id∈fz,∃f cc,s.hp id=some (.ar f cc))->∀v,Bu w (Ct s.hp β Y) β p v->Ar w (Ct (Af s.hp fz) β Y) c v∧v.oneCell'=true:=by
  intro t' hk;obtain⟨c,hk,hT,Ze,hv⟩:=J0 hk;refine⟨c,[],hk,hT,Nu Ze,by simp,fun fz _ Ur v Uy=>?_⟩
  obtain⟨h1,h2⟩:=hv _ _ _ _ Uy;exact⟨h1.step (B2.refl _ _) (fun b _ hb=>hb.imp Mg id),h2⟩
 cases t with
 |sl es=>
  unfold K9 at hk;dsimp only at hk;split at hk
  ·rename_i id es' off n;cases hb:Nat.beq es' es
   ·rw[hb] at hk;cases hk
   ·rw[hb] at hk;have:=Nat.eq_of_beq_eq_true hb;subst this;obtain⟨c,hc,hk⟩:=B3 (show Dk _ _=some r from hk)
    obtain⟨_,hk⟩:=Aj hk;obtain⟨f,I2⟩:=GZ hc;refine⟨_,[id],hk,trivial,trivial,?_,fun fz hm Ur v hv=>⟨US h Ur (hm id (by simp)) I2 hv,?_⟩⟩
    ·intro i hi;simp at hi;subst hi;exact⟨f,c,I2⟩
    ·rcases hv with⟨_,_,_,_,rfl⟩|⟨_,_,_,_,_,rfl,_⟩<;>rfl
  ·obtain⟨z,n,c,hk,hp⟩:=Ep hk;refine⟨_,[],hk,trivial,?_,by simp,fun fz _ Ur v Uy=>?_⟩
   ·rcases hp with rfl|⟨rfl,_⟩<;>trivial
   ·have ht:=Rg hp Uy;refine⟨Ar.zf (ht.step (B2.refl _ _) (fun b _ hb=>hb.imp Mg id)),?_⟩
    cases ht<;>rfl
 |int k=>exact tree (.int k) hk
 |bool=>exact tree .bool hk
 |str=>exact tree .str hk
 |any=>exact tree .any hk
theorem Mh (h:Cj N w0 X0 Y β s a w):∀{ts:List CT}{ps:List PV}{K:List PV->List Nat->Option R},Kf (Hl s.hp) ts ps K=some r ->
  ∃cs m,K cs m=some r∧cs.length=ts.length∧ps.length=ts.length∧(∀c∈cs,Q6 c)∧(∀p∈ps,BM p)∧(∀id∈m,∃f cc,s.hp id=some (.ar f cc)) ∧
   ∀fz:List Nat,(∀id∈m,id∈fz)->(∀id∈fz,∃f cc,s.hp id=some (.ar f cc))->∀vs,Bb (Bu w (Ct s.hp β Y) β) ps vs->Bb (Ar w (Ct (Af s.hp fz) β Y)) cs vs∧∀v∈vs,v.oneCell'=true
 |[],[],K,hk=>⟨[],[],hk,rfl,rfl,by simp,by simp,by simp,fun fz _ _ vs hv=>by
   cases vs with
   |nil=>exact⟨trivial,by simp⟩
   |cons v vs=>exact hv.elim⟩
 |[],_::_,K,hk=>by cases hk
 |_::_,[],K,hk=>by cases hk
 |t::ts,p::ps,K,hk=>by
  unfold Kf at hk;obtain⟨c,m,hk,hT,hF,hm,hv⟩:=Yi h hk;obtain⟨cs,ms,hk,hl,Ib,hTs,hFs,Z9,Of⟩:=Mh h hk;refine⟨c::cs,m++ms,hk,by simp[hl],by simp[Ib],?_,?_,?_,fun fz hfm Ur vs h2=>?_⟩
  ·intro x hx;rcases List.mem_cons.1 hx with rfl|hx
   ·exact hT
   ·exact hTs x hx
  ·intro x hx;rcases List.mem_cons.1 hx with rfl|hx
   ·exact hF
   ·exact hFs x hx
  ·intro x hx;rcases List.mem_append.1 hx with hx|hx
   ·exact hm x hx
   ·exact Z9 x hx
  ·cases vs with
   |nil=>exact h2.elim
   |cons v vs=>
    obtain⟨h3,h4⟩:=hv fz (fun i hi=>hfm i (by simp[hi])) Ur v h2.1
    obtain⟨h5,h6⟩:=Of fz (fun i hi=>hfm i (by simp[hi])) Ur vs h2.2
    refine⟨⟨h3,h5⟩,?_⟩;intro x hx;rcases List.mem_cons.1 hx with rfl|hx
    ·exact h4
    ·exact h6 x hx
theorem VQ {R':PV->Value->Prop}{cs:List PV}{z:Array Value}(h:Bb R' cs z.toList)(n:Nat):Bb R' (M7 n cs) (madeCells z (n*cs.length)).toList:=by
 have hzl:z.size=cs.length:=by have:=h.len;simp at this;exact this.symm
 refine Bb.of_at ?_ fun j c v hc hv=>?_
 ·rw[LO];simp[size_madeCells]
 ·obtain⟨h1,h2⟩:=S9 hc
  have B4:j % cs.length<cs.length:=by
   rcases Nat.lt_or_ge (j % cs.length) cs.length with h|h
   ·exact h
   ·rw[List.getElem?_eq_none h] at h2;cases h2
  obtain⟨u,hu,hcu⟩:=h.get h2;have:(madeCells z (n*cs.length))[j]?=some u:=LF h1 (by rw[hzl];simpa using hu)
  have Lh:(madeCells z (n*cs.length))[j]?=some v:=by simpa using hv
  rw[this] at Lh;cases Lh;exact hcu
theorem DI {A':Nat->Prop}:∀{ps cs:List PV}{vs:List Value},Bb (Bu w (Ct s.hp β Y) β) ps vs->Bb (Ar w A') cs vs->Bb (Ar w A') (NE true ps cs) vs
 |[],_,_,_,h=>h
 |_::_,[],_,_,h=>h
 |p::ps,c::cs,[],_,h=>h.elim
 |p::ps,c::cs,v::vs,hp,h=>by
  refine⟨?_,DI hp.2 h.2⟩;split
  ·have h1:Ar w (Ct s.hp β Y) (.lst true _ 0 []) v:=hp.1;cases h1;exact .lnil true _
  ·exact h.1
theorem Vg (h:Cj N w0 X0 Y β s a w){nz:Bool}{t:TypeId}{n:Nat}{ps:Array (Nat × Operand)} (ho:o.op=.buildSlice t n ps){d:Nat}{K:PV->List Nat->List (Nat × Bk)->Option R}
  (hk:(match P.underlying t with
   |some (.slice e)=>Bi (Mx P t&&Nat.ble (n*A7 P e) 16777216) (Fw P e fun z=>Pc (M6 P t) (ps.toList.map fun q=>(q.1,Bv s.tm q.2)) (M7 n z) fun cs=>
     Kf (Hl s.hp) (List.replicate n (Gr P e)).flatten cs fun cs' m=>K (.view d (A7 P e) 0 n) m [(d,.ar false (bif nz then NE true cs cs' else cs'))])
   |_=>none)=some r):∃v fz nw,K v fz nw=some r∧Dt P a w o Y β s v fz nw:=by
 split at hk
 ·rename_i e hu;obtain⟨hb,hk⟩:=Aj hk;simp only[Bool.and_eq_true] at hb;have Xc:n*A7 P e<=16777216:=Nat.le_of_ble_eq_true hb.2;have Lz:(P.info? e).isSome=true:=by have:=hb.1;unfold Mx at this;rw[hu] at this;exact this
  obtain⟨z,cs,hk,hz,hct,hl,K1,hc⟩:=Lb hk;obtain⟨hzr,Ys⟩:=JX (w:=w) (A:=Ct s.hp β Y) (β:=β) hl hc hz;have A2r:=VQ hzr n
  obtain⟨pc',vc',hk,hf,h2,Ib,hr'⟩:=AO h hk A2r (fun c MN id Bf=>by
   obtain⟨j,hj⟩:=List.mem_iff_getElem?.1 MN;obtain⟨_,hg⟩:=S9 hj;rw[Ys c (List.mem_of_getElem? hg)] at Bf;cases Bf)
  obtain⟨qs,m,hk,hql,Sd,hqT,_,hm,hqv⟩:=Mh h hk;obtain⟨h3,h3'⟩:=hqv m (fun _ hi=>hi) hm _ h2
  have h3:Bb (Ar w (Ct (Af s.hp m) β Y)) (bif nz then NE true pc' qs else qs) vc'.toList:=by
   cases nz
   ·exact h3
   ·exact DI h2 h3
  have VO:Instr.fill (fun i=>some (i*A7 P e,A7 P e)) (madeCells z.cells (n*cs.length)) (ps.toList.map fun q=>(q.1,a.eval q.2))=some vc':=by
   rw[←hf];refine R1 (fun i=>?_) _ _
   simp[M6,hu]
  have hvl:vc'.size=n*A7 P e:=by
   have h4:=h2.len;rw[Ib,LO] at h4;simp at h4;rw[←h4,K1]
  have Ch:(execOp a.eval o).run P w=.ok (.value (.slice (some ⟨w.heap.size,0,none⟩) n n)) (w.alloc (.cells vc' e)):=by
   unfold execOp;rw[ho];have Arb:¬(n*A7 P e>2 ^ 24):=by omega
   rw[K1] at VO;by_cases Ub:n*A7 P e=0
   ·simp only[Instr.buildSlice,Sem.run_bind,run_underlying hu,Result.andThen_ok,Ci Lz,if_neg Arb,Ub];rw[Ub] at VO;have e0:madeCells z.cells 0=(Array.range 0).map (fun _=>default):=by simp[madeCells]
    rw[e0] at VO;simp[VO,newRow]
   ·simp only[Instr.buildSlice,Sem.run_bind,run_underlying hu,Result.andThen_ok,Ci Lz,if_neg Arb,if_neg Ub,Q8 hz];unfold madeCells at VO;simp[VO,newRow]
  refine⟨_,_,_,hk,Mo (c:=vc') (e:=e) hm Ch (Ff.alloc w vc' e) (fun j p hj=>?_) (.inr ⟨A7 P e,n,n,rfl,rfl,Nat.le_refl _,by rw[hvl];exact Nat.le_refl _,.inr (Hz w vc' e)⟩)⟩
  obtain⟨u,Hc,hp⟩:=h3.get hj;exact⟨u,by simpa using Hc,h3' u (List.mem_of_getElem? Hc),hp⟩
 ·cases hk
theorem GQ (h:Cj N w0 X0 Y β s a w){t:TypeId}{x k:Operand}{ok:Bool}(ho:o.op=.lookup t x k ok){K:PV->Option R}
  (hk:(match P.underlying t with
   |some (.map kt vt)=>Bi (match P.underlying kt with|some .string=>true|_=>false) (
    match Bv s.tm x with
    |.sc (.map none)=>Az (Bv s.tm k) fun _=>Dk (L0 P vt) fun z=>cvK P vt z fun v=>Bi (match v with | .tup _=>false|_=>true) (K (bif ok then .tup [v,.sc (.bool false)] else v))
    |_=>none)
   |_=>none)=some r):∃v,K v=some r∧Dt P a w o Y β s v [] []:=by
 split at hk
 ·rename_i kt vt hu;obtain⟨hkt,hk⟩:=Aj hk
  have hkt:P.underlying kt=some .string:=by
   split at hkt
   ·assumption
   ·cases hkt
  split at hk
  ·rename_i hx;obtain⟨b,hkk,hk⟩:=C7 hk;obtain⟨z,hz,hk⟩:=B3 hk;obtain⟨v,hk,hr,hv⟩:=SS hk;obtain⟨PQ,hk⟩:=Aj hk
   have PQ:∀cs,v ≠ .tup cs:=by
    rintro cs rfl
    cases PQ
   have hzr:∀w:World,(zeroValue vt).run P w=.ok z w:=by
    intro w;unfold L0 at hz;cases hi:P.info? vt with
    |none=>rw[hi] at hz;cases hz
    |some i=>
     rw[hi] at hz;simp[zeroValue,typeInfo,hi,show i.zero=some z from hz]
   have Ch:(execOp a.eval o).run P w=.ok (.value (if ok then .tuple #[z,.bool false] else z)) w:=by
    unfold execOp;rw[ho];have hck:∀c (n:Nat),(Instr.checkKey c (n+1) kt (.string b)).run P w=.ok () w:=fun c n=>by simp[Instr.checkKey,run_underlying hkt]
    have AU:∀c,(Instr.checkKey c 10000 kt (.string b)).run P w=.ok () w:=fun c=>hck c 9999
    cases ok<;>simp[Instr.lookup,run_underlying hu,B1 h hx,B1 h hkk,AU,Instr.findKey,Instr.findNow,run_underlying hkt,hzr]
   refine⟨_,hk,Bx Ch ?_ ?_⟩
   ·cases ok
    ·exact hv _ _ _
    ·refine⟨[z,.bool false],rfl,(Lg PQ).1 (hv _ _ _),?_,trivial⟩;exact Ar.sc _
   ·cases ok
    ·intro id Bf;simp only[cond_false] at Bf;rw[hr] at Bf;cases Bf
    ·intro id Bf;have:Bo (.tup [v,.sc (.bool false)])=B6 v++[]:=by simp[Bo,B6,Am]
     simp only[cond_true] at Bf;rw[this,List.append_nil] at Bf;have e:B6 v=Bo v:=by cases v<;>first|rfl|exact absurd rfl (PQ _)
     rw[e,hr] at Bf;cases Bf
  ·cases hk
 ·cases hk
end
end
end Go.Proofs.YtodnjibebeghjaaDoor.Pv
