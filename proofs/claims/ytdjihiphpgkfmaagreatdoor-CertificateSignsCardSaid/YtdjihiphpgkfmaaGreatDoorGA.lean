/-
  The proof of CertificateSigns, part 1.
-/
import Derived.Orders
import Derived.LoopN
import Derived.Below
import Derived.Lib.ValidU
import Derived.Lib.Bytealg
import Derived.IntWalk
import Derived.WalkKit
import Derived.WalkLawsBesides
import Derived.Laws.IdiomStrings
import Derived.Laws.MakeOwn
import Derived.Laws.Tables
set_option linter.unusedSimpArgs false
set_option linter.unusedVariables false
namespace Go.Proofs.YtdjihiphpgkfmaaGreatDoor.Pv
section
inductive PV where
 |sc (v:Value)
 |lst (z:Bool) (es n:Nat) (cells:List PV)
 |own (es n:Nat) (cells:List PV)
 |view (id es off n:Nat)
 |ptr (id off:Nat)
 |iptr (cells:List PV) (off:Nat)
 |pbox (cells:List PV)
 |agg (cells:List PV)
 |tup (vs:List PV)
 |top
 |ub
inductive Bl where
 |st (cells:List PV)
 |ar (fz:Bool) (cells:List PV)
 |mv
structure St where
 tm:Nat->PV
 hp:Nat->Option Bl
structure At where
 vals:List PV
 outs:List (List PV)
structure G2 where
 shr:FuncId->Bool
 mvd:FuncId->Nat->Bool
 lnd:FuncId->Nat->Bool
 kz:FuncId->Bool
 ext:FuncId->Option (List PV->Option At)
def G2.core (C:G2):G2:={ C with ext:=fun _=>none }
def Cn {α:Type}(f:Nat->α)(i:Nat)(v:α):Nat->α:=fun j=>bif Nat.beq j i then v else f j
def rd (hp:Nat->Option Bl)(id:Nat):Option (List PV):=
 match hp id with
 |some (.st c)=>some c
 |some (.ar _ c)=>some c
 |_=>none
def J6 (hp:Nat->Option Bl)(id:Nat):Option (List PV):=
 match hp id with
 |some (.ar _ c)=>some c
 |_=>none
inductive CT where
 |int (k:IntKind)
 |bool
 |str
 |sl (es:Nat)
 |any
def Bg (P:Program)(t:TypeId):Nat:=((P.info? t).map (·.size)).getD 0
def Cj (P:Program)(t:TypeId):Bool:=
 match P.underlying t with
 |some (.struct _)=>true
 |some (.array _ _)=>true
 |_=>false
def Ap7 (P:Program):Nat->TypeId->List CT
 |0,_=>[]
 |d+1,t=>
  match P.underlying t with
  |some (.int k)=>[.int k]
  |some .bool=>[.bool]
  |some .string=>[.str]
  |some (.slice e)=>[.sl (Bg P e)]
  |some (.struct fs)=>fs.toList.flatMap fun f=>Ap7 P d f.type
  |some (.array n e)=>(List.replicate n (Ap7 P d e)).flatten
  |_=>[.any]
abbrev H5 (P:Program)(t:TypeId):List CT:=Ap7 P 9 t
def I3 (P:Program)(t:TypeId):Bool:=(P.underlying t).isSome&&Nat.beq (H5 P t).length (Bg P t)
abbrev Ps (k:IntKind)(a b:Int):Int:=k.wrap (BitVec.ofInt k.bits a &&& BitVec.ofInt k.bits b).toNat
abbrev QK (k:IntKind)(a b:Int):Int:=k.wrap (BitVec.ofInt k.bits a ||| BitVec.ofInt k.bits b).toNat
abbrev C8 (k:IntKind)(a b:Int):Int:=k.wrap (BitVec.ofInt k.bits a ^^^ BitVec.ofInt k.bits b).toNat
abbrev Aj6 (k:IntKind)(a b:Int):Int:=k.wrap (BitVec.ofInt k.bits a &&& ~~~BitVec.ofInt k.bits b).toNat
abbrev Gl (k:IntKind)(a b:Int):Int:=k.wrap (a*2 ^ (min b.toNat k.bits))
abbrev Dw (k:IntKind)(a b:Int):Int:=a.fdiv (2 ^ (min b.toNat k.bits))
abbrev Ara (k:IntKind)(n:Int):Int:=k.wrap (BitVec.ofInt k.bits (if k.signed then -1 else k.max) ^^^ BitVec.ofInt k.bits n).toNat
section
variable {R:Type}
def Ad (k:IntKind)(p:PV)(K:Int->Option R):Option R:=
 match p with
 |.sc (.int k' n)=>if k'=k then K n else none
 |_=>none
def Bm (p:PV)(K:Bool->Option R):Option R:=
 match p with
 |.sc (.bool b)=>K b
 |_=>none
def Cw (p:PV)(K:ByteArray->Option R):Option R:=
 match p with
 |.sc (.string s)=>K s
 |_=>none
def Ha (es:Nat)(p:PV)(K:Bool->Nat->List PV->Option R):Option R:=
 match p with
 |.lst z es' n c=>bif Nat.beq es' es then K z n c else none
 |.sc (.slice none 0 0)=>K true 0 []
 |_=>none
def fsK (es:Nat)(p:PV)(K:PV->Option R):Option R:=
 match p with
 |.view id es' off n=>bif Nat.beq es' es then K (.view id es off n) else none
 |p=>Ha es p fun z n c=>K (.lst z es n c)
def Ea (es:Nat)(p:PV)(K:Nat->List PV->Option R):Option R:=
 match p with
 |.own es' n c=>bif Nat.beq es' es then K n c else none
 |_=>none
def Ap (b:Bool)(K:Option R):Option R:=bif b then K else none
abbrev Aa {α:Type}(x:α)(K:α->Option R):Option R:=K x
def NM (b:Bool)(x y:Option R):Option R:=bif b then x else y
abbrev Asj (x:Nat)(K:Nat->Option R):Option R:=K x
def Ais (x:List (List Nat)) (K:List (List Nat)->Option R):Option R:=K x
def Bb (b:Bool)(x y:Option R):Option R:=bif b then x else y
def Ek {α:Type}(o:Option α)(K:α->Option R):Option R:=
 match o with
 |some a=>K a
 |none=>none
def Ab {α:Type}(l:List α)(K:α->List α->Option R):Option R:=
 match l with
 |a::r=>K a r
 |[]=>none
def Ac {α:Type}(l:List α)(K:Option R):Option R:=
 match l with
 |[]=>K
 |_::_=>none
def Dh (p:PV)(K:List PV->Option R):Option R:=
 match p with
 |.agg c=>K c
 |_=>none
def Xw (p:PV)(K:List PV->Option R):Option R:=
 match p with
 |.pbox c=>K c
 |_=>none
def Ag (r:Option At)(K:List PV->List (List PV)->Option R):Option R:=
 match r with
 |some ⟨v,o⟩=>K v o
 |none=>none
def fnK (p:PV)(K:Value->Option R):Option R:=
 match p with
 |.sc (.func f a b)=>K (.func f a b)
 |_=>none
def fvK (p:PV)(K:FuncId->Option R):Option R:=
 match p with
 |.sc (.func (.func f) a b)=>bif a.isEmpty&&b.isEmpty then K f else none
 |_=>none
def DV (t:CT)(p:PV)(K:PV->Option R):Option R:=
 match t with
 |.int k=>Ad k p fun n=>K (.sc (.int k n))
 |.bool=>Bm p fun b=>K (.sc (.bool b))
 |.str=>Cw p fun s=>K (.sc (.string s))
 |.sl es=>Ha es p fun z n c=>K (.lst z es n c)
 |.any=>fnK p fun v=>K (.sc v)
def fcK (t:CT)(p:PV)(K:PV->Option R):Option R:=
 match t with
 |.sl es=>fsK es p K
 |t=>DV t p K
def Vs:List CT->List PV->Nat->(List PV->Option R)->Option R
 |[],_,_,K=>K []
 |t::ts,cells,off,K=>DV t (cells.getD off .top) fun c=>Vs ts cells (off+1) fun r=>K (c::r)
def Qt:List CT->List PV->Nat->(List PV->Option R)->Option R
 |[],_,_,K=>K []
 |t::ts,cells,off,K=>fcK t (cells.getD off .top) fun c=>Qt ts cells (off+1) fun r=>K (c::r)
def mkV (agg:Bool)(cells:List PV)(K:PV->Option R):Option R:=
 bif agg then K (.agg cells) else Ab cells fun c r=>Ac r (K c)
def cellsOf:PV->List PV
 |.agg c=>c
 |p=>[p]
def cvK (P:Program)(t:TypeId)(v:Value)(K:PV->Option R):Option R:=
 match v with
 |.agg cs=>Ap (Nat.beq cs.toList.length (H5 P t).length) (Vs (H5 P t) (cs.toList.map .sc) 0 fun c=>K (.agg c))
 |.slice none 0 0=>
  match P.underlying t with
  |some (.slice e)=>K (.lst true (Bg P e) 0 [])
  |_=>none
 |v=>K (.sc v)
end
def Cf (tm:Nat->PV):Operand->PV
 |.tmp t=>tm t
 |.const (.agg cs)=>.agg (cs.toList.map .sc)
 |.const v=>.sc v
 |.func f=>.sc (.func (.func f) #[] #[])
 |.global g=>.sc (.pointer (some ⟨g,0,none⟩))
section
variable {R:Type}
def Dm (p:PV)(K:IntKind->Int->Option R):Option R:=
 match p with
 |.sc (.int k n)=>K k n
 |_=>none
def Aax (rdf:Nat->Option (List PV)) (es:Nat)(p:PV)(K:Nat->List PV->Option R):Option R:=
 match p with
 |.view id es' off n=>bif Nat.beq es' es then Ek (rdf id) fun c=>Ap (decide (off+n*es<=c.length)) (K n ((c.drop off).take (n*es))) else none
 |p=>Ha es p fun _ n c=>K n c
def Po (rdf:Nat->Option (List PV)) (t:CT)(p:PV)(K:PV->List Nat->Option R):Option R:=
 match t with
 |.sl es=>
  match p with
  |.view id es' off n=>bif Nat.beq es' es then Ek (rdf id) fun c=>Ap (decide (off+n*es<=c.length)) (K (.lst false es n ((c.drop off).take (n*es))) [id]) else none
  |p=>Ha es p fun _ n c=>K (.lst false es n c) []
 |t=>DV t p fun c=>K c []
def Pb (rdf:Nat->Option (List PV)):List CT->List PV->(List PV->List Nat->Option R)->Option R
 |[],[],K=>K [] []
 |t::ts,p::ps,K=>Po rdf t p fun c m=>Pb rdf ts ps fun cs ms=>K (c::cs) (m++ms)
 |_,_,_=>none
def Aa8 (P:Program)(rdf:Nat->Option (List PV)) (t:TypeId)(p:PV)(K:PV->List Nat->Option R):Option R:=
 bif Cj P t then Dh p fun ps=>Pb rdf (H5 P t) ps fun cs m=>K (.agg cs) m
 else Pb rdf (H5 P t) [p] fun cs m=>Ab cs fun c r=>Ac r (K c m)
def IV (P:Program)(rdf:Nat->Option (List PV)):List TypeId->List PV->(List PV->List Nat->Option R)->Option R
 |[],[],K=>K [] []
 |t::ts,p::ps,K=>Aa8 P rdf t p fun v m=>IV P rdf ts ps fun vs ms=>K (v::vs) (m++ms)
 |_,_,_=>none
def Ag1 (shr:Bool)(id:Nat)(t:CT)(p:PV)(K:PV->List (Nat × Bl)->Option R):Option R:=
 match t with
 |.sl es=>bif shr then Ha es p fun z n c=>K (.lst z es n c) [] else Ea es p fun n c=>K (.view id es 0 n) [(id,.ar false c)]
 |t=>DV t p fun c=>K c []
def Tm (shr:Bool)(N:Nat):Nat->List CT->List PV->(List PV->List (Nat × Bl)->Option R)->Option R
 |_,[],ps,K=>Ac ps (K [] [])
 |id,t::ts,ps,K=>Ab ps fun p ps=>Ag1 shr id t p fun c b=>Tm shr N (id+N) ts ps fun cs bs=>K (c::cs) (b++bs)
def BD (P:Program)(t:TypeId):Option TypeId:=
 match P.underlying t with
 |some (.pointer e)=>some e
 |_=>none
def VB (P:Program)(t:TypeId):Nat:=
 match BD P t with
 |some e=>1+(H5 P e).length
 |none=>(H5 P t).length
def Adl (P:Program)(shr:Bool)(N:Nat)(id:Nat)(t:TypeId)(p:PV)(K:PV->List (Nat × Bl)->Option R):Option R:=
 match BD P t with
 |some e=>Xw p fun ps=>Tm shr N (id+N) (H5 P e) ps fun cs bs=>K (.ptr id 0) ((id,.st cs)::bs)
 |none=>
 bif Cj P t then Dh p fun ps=>Tm shr N id (H5 P t) ps fun cs bs=>K (.agg cs) bs
 else Tm shr N id (H5 P t) [p] fun cs bs=>Ab cs fun c r=>Ac r (K c bs)
def FZ (P:Program)(shr:Bool)(N:Nat):Nat->List TypeId->List PV->(List PV->List (Nat × Bl)->Option R)->Option R
 |_,[],ps,K=>Ac ps (K [] [])
 |id,t::ts,ps,K=>Ab ps fun p ps=>Adl P shr N id t p fun v bs=>FZ P shr N (id+N*VB P t) ts ps fun vs bs'=>K (v::vs) (bs++bs')
def O2 (P:Program)(t:TypeId):List TypeId:=
 match P.underlying t with
 |some (.tuple ts)=>ts.toList
 |_=>[t]
def Pi (vs:List PV)(t:Bool):PV:=bif t then .tup vs else vs.headD .top
def P3 (P:Program)(t:TypeId):Bool:=
 match P.underlying t with
 |some (.tuple _)=>true
 |_=>false
def Ako (op:BinOp)(a b:Int)(K:Bool->Option R):Option R:=
 match op with
 |.eql=>K (a==b)
 |.neq=>K (a != b)
 |.lss=>K (decide (a<b))
 |.leq=>K (decide (a<=b))
 |.gtr=>K (decide (a>b))
 |.geq=>K (decide (a>=b))
 |_=>none
def LQ (op:BinOp)(k:IntKind)(a b:Int)(K:PV->Option R):Option R:=
 match op with
 |.add=>Aa ((k.wrap (a+b))) fun n=>K (.sc (.int k n))
 |.sub=>Aa ((k.wrap (a-b))) fun n=>K (.sc (.int k n))
 |.mul=>Aa ((k.wrap (a*b))) fun n=>K (.sc (.int k n))
 |.quo=>Ap (decide (b≠0)) (Aa ((k.wrap (a.tdiv b))) fun n=>K (.sc (.int k n)))
 |.rem=>Ap (decide (b≠0)) (Aa ((a.tmod b)) fun n=>K (.sc (.int k n)))
 |.and=>Aa (Ps k a b) fun n=>K (.sc (.int k n))
 |.or=>Aa (QK k a b) fun n=>K (.sc (.int k n))
 |.xor=>Aa (C8 k a b) fun n=>K (.sc (.int k n))
 |.andNot=>Aa (Aj6 k a b) fun n=>K (.sc (.int k n))
 |op=>Ako op a b fun r=>K (.sc (.bool r))
def II (op:BinOp)(x y:ByteArray)(K:PV->Option R):Option R:=
 match op with
 |.add=>Ap (decide (x.size+y.size<=9223372036854775807)) (Aa (x++y) fun s=>K (.sc (.string s)))
 |.eql=>K (.sc (.bool (x.data.toList==y.data.toList)))
 |.neq=>K (.sc (.bool !(x.data.toList==y.data.toList)))
 |.lss=>K (.sc (.bool (Op.bytesLess x.data.toList y.data.toList)))
 |.leq=>K (.sc (.bool (Op.bytesLess x.data.toList y.data.toList||x.data.toList==y.data.toList)))
 |.gtr=>K (.sc (.bool !(Op.bytesLess x.data.toList y.data.toList||x.data.toList==y.data.toList)))
 |.geq=>K (.sc (.bool !(Op.bytesLess x.data.toList y.data.toList)))
 |_=>none
def KG (e:Bool)(p:PV)(K:PV->Option R):Option R:=
 match p with
 |.sc (.slice none 0 0)=>K (.sc (.bool e))
 |.lst z _ n _=>Bb z (K (.sc (.bool e))) (Bb (decide (0<n)) (K (.sc (.bool !e))) (K .ub))
 |.view _ _ _ n=>Bb (decide (0<n)) (K (.sc (.bool !e))) (K .ub)
 |_=>none
def JI (P:Program):List Field->Nat->Bool
 |[],_=>true
 |f::r,i=>Nat.beq f.offset i&&(f.name != "_")&&(match P.underlying f.type with|some (.int _)=>true|some .bool=>true|some .string=>true|_=>false)&&JI P r (i+1)
def TX (P:Program)(t:TypeId)(fs:Array Field):Bool:=JI P fs.toList 0 && !P.stoodInHeld t && !P.eqGuardType P.depth t
def fty (P:Program)(f:Field):CT:=
 match P.underlying f.type with
 |some (.int k)=>.int k
 |some .bool=>.bool
 |some .string=>.str
 |_=>.any
def IW:List CT->List PV->List PV->(Bool->Option R)->Option R
 |[],[],[],K=>K true
 |.int k::ts,p::ps,q::qs,K=>Ad k p fun a=>Ad k q fun b=>IW ts ps qs fun r=>K ((a==b)&&r)
 |.bool::ts,p::ps,q::qs,K=>Bm p fun a=>Bm q fun b=>IW ts ps qs fun r=>K ((a==b)&&r)
 |.str::ts,p::ps,q::qs,K=>Cw p fun a=>Cw q fun b=>IW ts ps qs fun r=>K ((a==b)&&r)
 |_,_,_,_=>none
def Af5 (P:Program)(op:BinOp)(t:TypeId)(x y:PV)(K:PV->Option R):Option R:=
 match P.underlying t with
 |some (.int k)=>
  match op with
  |.shl=>Ad k x fun a=>Dm y fun _ b=>Ap (decide (0<=b)) (Aa (Gl k a b) fun n=>K (.sc (.int k n)))
  |.shr=>Ad k x fun a=>Dm y fun _ b=>Ap (decide (0<=b)) (Aa (Dw k a b) fun n=>K (.sc (.int k n)))
  |op=>Ad k x fun a=>Ad k y fun b=>LQ op k a b K
 |some .string=>Cw x fun a=>Cw y fun b=>II op a b K
 |some .bool=>
  match op with
  |.eql=>Bm x fun a=>Bm y fun b=>K (.sc (.bool (a==b)))
  |.neq=>Bm x fun a=>Bm y fun b=>K (.sc (.bool !(a==b)))
  |_=>none
 |some (.slice _)=>
  match op,y with
  |.eql,.sc (.slice none 0 0)=>KG true x K
  |.neq,.sc (.slice none 0 0)=>KG false x K
  |_,_=>none
 |_=>none
def Wm (P:Program)(op:BinOp)(t:TypeId)(x y:PV)(K:PV->Option R):Option R:=
 match P.underlying t with
 |some (.struct fs)=>
  match op with
  |.eql=>Ap (TX P t fs) (Dh x fun xs=>Dh y fun ys=>IW (fs.toList.map (fty P)) xs ys fun b=>K (.sc (.bool b)))
  |.neq=>Ap (TX P t fs) (Dh x fun xs=>Dh y fun ys=>IW (fs.toList.map (fty P)) xs ys fun b=>K (.sc (.bool !b)))
  |_=>none
 |_=>Af5 P op t x y K
def unK (op:UnOp)(x:PV)(K:PV->Option R):Option R:=
 match op with
 |.not=>Bm x fun b=>K (.sc (.bool !b))
 |.neg=>Dm x fun k n=>Aa (k.wrap (0-n)) fun n=>K (.sc (.int k n))
 |.xor=>Dm x fun k n=>Aa (Ara k n) fun n=>K (.sc (.int k n))
 |_=>none
def bytesOf:List PV->Option (List UInt8)
 |[]=>some []
 |.sc (.int .u8 n)::r=>(bytesOf r).map (n.toNat.toUInt8 :: ·)
 |_::_=>none
def Di (s:ByteArray):List PV:=s.data.toList.map fun b=>.sc (.int .u8 b.toNat)
def JU (P:Program)(rdf:Nat->Option (List PV)) (d:Nat)(src dst:TypeId)(x:PV)(K:PV->List (Nat × Bl)->Option R):Option R:=
 match P.underlying dst with
 |some (.int k)=>Ap (P.underlying src).isSome (Dm x fun _ n=>Aa (k.wrap n) fun n=>K (.sc (.int k n)) [])
 |some .string=>
  match P.underlying src with
  |some .string=>Cw x fun s=>K (.sc (.string s)) []
  |some (.slice e)=>
   match P.underlying e with
   |some (.int .u8)=>Aax rdf 1 x fun n c=>Ap (decide (c.length=n)) (Ek (bytesOf c) fun b=>K (.sc (.string ⟨b.toArray⟩)) [])
   |_=>none
  |_=>none
 |some (.slice e)=>
  match P.underlying e,P.underlying src with
  |some (.int .u8),some .string=>Cw x fun s=>Ap (decide (s.size<=1099511627776)) (K (.view d 1 0 s.size) [(d,.ar false (Di s))])
  |_,_=>none
 |_=>none
def Mw (p:Option PV)(dflt:Nat)(K:Nat->Option R):Option R:=
 match p with
 |none=>K dflt
 |some p=>Dm p fun _ i=>Ap (decide (0<=i)) (K i.toNat)
def DZ (P:Program)(rdf:Nat->Option (List PV)) (t:TypeId)(x:PV)(lo hi:Option PV)(K:PV->Option R):Option R:=
 match P.underlying t with
 |some .string=>Cw x fun s=>Mw lo 0 fun l=>Mw hi s.size fun h=>Ap (decide (l<=h)&&decide (h<=s.size)) (Aa (s.extract l h) fun s=>K (.sc (.string s)))
 |some (.slice e)=>Ap (P.info? e).isSome (
  match x with
  |.view id es off n=>Ap (Nat.beq es (Bg P e)) (Mw lo 0 fun l=>Mw hi n fun h=>Ap (decide (l<=h)&&decide (h<=n)) (Aa (off+l*es) fun o=>Aa (h-l) fun n=>K (.view id es o n)))
  |x=>Ha (Bg P e) x fun z n c=>Mw lo 0 fun l=>Mw hi n fun h=>Ap (decide (l<=h)&&decide (h<=n)) (Aa (h-l) fun n=>Aa ((c.drop (l*Bg P e)).take (n*Bg P e)) fun c=>K (.lst z (Bg P e) n c)))
 |some (.array n e)=>Ap (P.info? e).isSome (
  match x with
  |.ptr id off=>Ek (rdf id) fun c=>Ap (decide (1<=n*Bg P e)&&decide (off+n*Bg P e<=c.length))<|Mw lo 0 fun l=>Mw hi n fun h=>Ap (decide (l<=h)&&decide (h<=n)) (Aa (off+l*Bg P e) fun o=>Aa (h-l) fun n=>K (.view id (Bg P e) o n))
  |_=>none)
 |_=>none
def V2 (x:PV)(d:Nat)(K:PV->Option R):Option R:=
 match x with
 |.ptr id off=>K (.ptr id (off+d))
 |.iptr c off=>K (.iptr c (off+d))
 |_=>none
def KT (P:Program)(e:TypeId):Bool:=(P.info? e).isSome
def Ry (P:Program)(t:TypeId)(f:Nat):Option (Nat × TypeId):=
 match P.underlying t with
 |some (.struct fs)=>(fs[f]?).map fun g=>(g.offset,g.type)
 |_=>none
def Ko (P:Program)(t:TypeId)(x:PV)(i:Int)(K:PV->Option R):Option R:=
 match P.underlying t with
 |some (.array n e)=>Ap (KT P e) (Ap (decide (0<=i)&&decide (i<n)) (V2 x (i.toNat*Bg P e) K))
 |some (.slice e)=>Ap (KT P e) (
  match x with
  |.view id es off n=>Ap (Nat.beq es (Bg P e)) (Ap (decide (0<=i)&&decide (i<n)) (K (.ptr id (off+i.toNat*es))))
  |x=>Ha (Bg P e) x fun _ n c=>Ap (decide (0<=i)&&decide (i<n)) (K (.iptr c (i.toNat*Bg P e))))
 |_=>none
def KE (P:Program)(rdf:Nat->Option (List PV)) (t:TypeId)(x:PV)(K:PV->Option R):Option R:=
 match x with
 |.ptr id off=>Ap (I3 P t) (Ek (rdf id) fun c=>Qt (H5 P t) c off fun cs=>mkV (Cj P t) cs K)
 |.iptr c off=>Ap (I3 P t) (Vs (H5 P t) c off fun cs=>mkV (Cj P t) cs K)
 |_=>none
def Afd:PV->PV
 |.lst _ es n c=>.lst false es n c
 |p=>p
def Afj:PV->PV
 |.agg cs=>.agg (cs.map Afd)
 |p=>Afd p
def BM (P:Program)(rdf rdaf:Nat->Option (List PV)) (t:TypeId)(x:PV)(K:PV->Option R):Option R:=
 match x with
 |.ptr id off=>Ap (I3 P t) (
  match rdaf id with
  |some c=>Vs (H5 P t) c off fun cs=>mkV (Cj P t) cs fun v=>K (Afj v)
  |none=>Ek (rdf id) fun c=>Qt (H5 P t) c off fun cs=>mkV (Cj P t) cs K)
 |.iptr c off=>Ap (I3 P t) (Vs (H5 P t) c off fun cs=>mkV (Cj P t) cs fun v=>K (Afj v))
 |_=>none
def Bf (cells new:List PV)(off:Nat):List PV:=cells.take off++new++cells.drop (off+new.length)
def okP:PV->Bool
 |.agg _=>true
 |.lst _ _ _ _=>true
 |.view _ _ _ _=>true
 |.sc (.int _ _)=>true
 |.sc (.bool _)=>true
 |.sc (.string _)=>true
 |.sc (.slice none 0 0)=>true
 |_=>false
def V0 (G4:Nat->Option (Nat × Nat)):List (Nat × PV)->List PV->(List PV->Option R)->Option R
 |[],cells,K=>K cells
 |(i,p)::r,cells,K=>Ek (G4 i) fun q=>Ap (okP p&&Nat.beq (cellsOf p).length q.2&&Nat.ble (q.1+q.2) cells.length) (Aa (Bf cells (cellsOf p) q.1) fun cells=>V0 G4 r cells K)
def Su (P:Program)(t:TypeId)(i:Nat):Option (Nat × Nat):=
 match P.underlying t with
 |some (.struct fs)=>(fs[i]?).map fun f=>(f.offset,Bg P f.type)
 |some (.array _ e)=>some (i*Bg P e,Bg P e)
 |some (.slice e)=>some (i*Bg P e,Bg P e)
 |_=>none
def Se (P:Program)(t:TypeId):Bool:=
 match P.underlying t with
 |some (.struct fs)=>fs.toList.all fun f=>KT P f.type
 |some (.array _ e)=>KT P e
 |some (.slice e)=>KT P e
 |_=>false
def Y3 (P:Program)(t:TypeId):Option Value:=(P.info? t).bind (·.zero)
def G5 (P:Program)(t:TypeId)(K:List PV->Option R):Option R:=
 Ek (Y3 P t) fun v=>Ap (Nat.beq v.cells.toList.length (H5 P t).length&&I3 P t) (Vs (H5 P t) (v.cells.toList.map .sc) 0 K)
def Ur (P:Program)(t:TypeId):Bool:=
 match P.underlying t with
 |some (.array _ _)=>true
 |_=>false
def Ajo (P:Program)(t:TypeId)(cells:List PV):Bl:=bif Ur P t then .ar false cells else .st cells
def Rn (n:Nat)(l:List PV):List PV:=(List.replicate n l).flatten
def Aj4 (a b:PV)(K:PV->Option R):Option R:=Dm a fun k x=>Ad k b fun y=>Aa (if y<x then y else x) fun n=>K (.sc (.int k n))
def Akf (a b:PV)(K:PV->Option R):Option R:=Dm a fun k x=>Ad k b fun y=>Aa (if x<y then y else x) fun n=>K (.sc (.int k n))
def Aft (P:Program)(t:TypeId)(x:PV)(K:Nat->Option R):Option R:=
 match P.underlying t with
 |some .string=>Cw x fun s=>K s.size
 |some (.array n _)=>K n
 |some (.slice e)=>
  match x with
  |.view _ es _ n=>Ap (Nat.beq es (Bg P e)) (K n)
  |x=>Ha (Bg P e) x fun _ n _=>K n
 |_=>none
end
abbrev Ai:=FuncId->List PV->Option At
section
variable {R:Type}
def Js (P:Program)(ts:List TypeId):Bool:=ts.any fun t=>(BD P t).isSome||(H5 P t).any fun c=>match c with | .sl _=>true|_=>false
def DM (P:Program)(t:TypeId)(tm:Nat->PV)(x:Operand)(K:PV->Option R):Option R:=
 match x with
 |.const v=>cvK P t v K
 |x=>K (Cf tm x)
def SD (P:Program)(e:TypeId):Bool:=
 match P.info? e with
 |some i=>(match i.zero with|some z=>Nat.beq z.cells.size i.size|none=>false)
 |none=>false
def Abl (P:Program)(rdaf:Nat->Option (List PV)) (es:Nat)(t:TypeId)(x:PV)(K:Nat->List PV->Option R):Option R:=
 match P.underlying t with
 |some .string=>Ap (Nat.beq es 1) (Cw x fun b=>K b.size (Di b))
 |some (.slice _)=>Aax rdaf es x K
 |_=>none
abbrev Aae (P:Program)(s:St)(es:Nat)(t:TypeId)(x:PV)(K:Nat->List PV->Option R):Option R:=Abl P (J6 s.hp) es t x K
def AC (c:Call):Bool:=
 match c.args.toList with
 |.const (.slice none 0 0)::_=>true
 |_=>false
def We (P:Program)(rdaf:Nat->Option (List PV)) (d:Nat)(t tx:TypeId)(x:PV)(K:PV->List (Nat × Bl)->Option R):Option R:=
 match P.underlying t with
 |some (.slice e)=>Ap (SD P e) <|
  Abl P rdaf (Bg P e) tx x fun m new=>
   Ap (decide (new.length=m*Bg P e)&&decide (m*((P.info? e).map (·.bytes)).getD 0<=1099511627776)&&decide (m<=1099511627776)) (K (.view d (Bg P e) 0 m) [(d,.ar false new)])
 |_=>none
def Jq (k:Bool):List Operand->List PV->List PV
  |x::xs,p::ps=>
    (match x,p with
     |.const (.slice none 0 0),.lst z es 0 []=>.lst (k||z) es 0 []
     |_,p=>p)::Jq k xs ps
  |_,ps=>ps
def Adj (P:Program)(t:TypeId)(x:PV)(K:Nat->Option R):Option R:=
 match P.underlying t with
 |some (.slice e)=>Ha (Bg P e) x fun z _ _=>Ap z (K 0)
 |_=>none
def JS (P:Program)(f:FuncId)(c:Call):List TypeId:=
 match P.funcs[f]? with
 |some fn=>fn.params.toList
 |none=>c.argTypes.toList
def KQ (C:G2)(P:Program)(N:Nat)(call:Ai)(tm:Nat->PV)(rdaf:Nat->Option (List PV)) (o:Oper)(c:Call)(f:FuncId)(K:PV->List Nat->List (Nat × Bl)->Option R):Option R:=
 IV P rdaf (JS P f c) (c.args.toList.map (Cf tm)) fun vs m=>
  Ag (call f (Jq (C.kz f) c.args.toList vs)) fun rv ro=>Ac ro (Ap (Nat.blt 0 N)<|FZ P (C.shr f) N (o.dst.getD 0) (O2 P o.type) rv fun ws bs=>
   Ap (bif P3 P o.type then !Nat.beq ws.length 1 else Nat.beq ws.length 1)<|K (Pi ws (P3 P o.type)) (bif Js P (O2 P o.type) then m else []) bs)
def MM (C:G2)(P:Program)(N:Nat)(call:Ai)(tm:Nat->PV)(rdf rdaf:Nat->Option (List PV)) (o:Oper)(K:PV->List Nat->List (Nat × Bl)->Option R):Option R:=
  match o.op with
  |.move x=>DM P o.type tm x fun p=>K p [] []
  |.assign x=>DM P o.type tm x fun p=>K p [] []
  |.pick c a b=>Bm (Cf tm c) fun t=>Bb t (K (Cf tm a) [] []) (K (Cf tm b) [] [])
  |.alloc t=>Ek o.dst fun d=>G5 P t fun cs=>K (.ptr d 0) [] [(d,Ajo P t cs)]
  |.box t x=>Ek o.dst fun d=>Ap (I3 P t&&Nat.beq (cellsOf (Cf tm x)).length (H5 P t).length)
      (bif Ur P t then Vs (H5 P t) (cellsOf (Cf tm x)) 0 fun cs=>K (.ptr d 0) [] [(d,.ar false cs)]
       else Qt (H5 P t) (cellsOf (Cf tm x)) 0 fun cs=>K (.ptr d 0) [] [(d,.st cs)])
  |.build t ps=>Ap (Se P t&&Cj P t)<|G5 P t fun z=>V0 (Su P t) (ps.toList.map fun q=>(q.1,Cf tm q.2)) z fun cs=>Qt (H5 P t) cs 0 fun cs'=>K (.agg cs') [] []
  |.buildSlice t n ps=>Ek o.dst fun d=>
      match P.underlying t with
      |some (.slice e)=>Ap (Se P t&&Nat.ble (n*Bg P e) 16777216) (G5 P e fun z=>V0 (Su P t) (ps.toList.map fun q=>(q.1,Cf tm q.2)) (Rn n z) fun cs=>
          Pb rdaf (List.replicate n (H5 P e)).flatten cs fun cs' m=>K (.view d (Bg P e) 0 n) m [(d,.ar false cs')])
      |_=>none
  |.load t a=>BM P rdf rdaf t (Cf tm a) fun v=>K v [] []
  |.nilCheck x=>V2 (Cf tm x) 0 fun p=>K p [] []
  |.binOp op t x y _=>
      Wm P op t (Cf tm x) (Cf tm y) fun v=>K v [] []
  |.unOp op _ x=>unK op (Cf tm x) fun v=>K v [] []
  |.convert src dst x=>JU P rdaf (o.dst.getD 0) src dst (Cf tm x) fun v b=>Ek o.dst fun _=>K v [] b
  |.makeSlice t l c=>Ek o.dst fun d=>
      match P.underlying t with
      |some (.slice e)=>Dm (Cf tm l) fun _ n=>Dm (Cf tm c) fun _ m=>
          Ap (decide (0<=n)&&decide (n<=m)&&decide (m*((P.info? e).map (·.bytes)).getD 0<=1099511627776)&&decide (m<=1099511627776))
            (G5 P e fun z=>K (.view d (Bg P e) 0 n.toNat) [] [(d,.ar false (Rn n.toNat z))])
      |_=>none
  |.slice t x lo hi mx=>
      match mx with
      |none=>DZ P rdf t (Cf tm x) (lo.map (Cf tm)) (hi.map (Cf tm)) fun v=>K v [] []
      |some _=>none
  |.fieldAddr t x f=>Ek (Ry P t f) fun q=>Ap (Nat.ble 1 (Bg P q.2)) (V2 (Cf tm x) q.1 fun p=>K p [] [])
  |.field t x f=>Ek (Ry P t f) fun q=>Ap (I3 P q.2)<|Dh (Cf tm x) fun cs=>Qt (H5 P q.2) cs q.1 fun c=>mkV (Cj P q.2) c fun v=>K v [] []
  |.indexAddr t x i=>Dm (Cf tm i) fun _ n=>Ko P t (Cf tm x) n fun p=>K p [] []
  |.index t x i=>Dm (Cf tm i) fun _ n=>
      match P.underlying t with
      |some .string=>Cw (Cf tm x) fun s=>Ap (decide (0<=n)) (Ek (s.data.toList[n.toNat]?) fun b=>K (.sc (.int .u8 b.toNat)) [] [])
      |some (.array len e)=>Dh (Cf tm x) fun cs=>Ap (decide (0<=n)&&decide (n<len)&&I3 P e) (Qt (H5 P e) cs (n.toNat*Bg P e) fun c=>mkV (Cj P e) c fun v=>K v [] [])
      |_=>none
  |.extract x i=>
      match Cf tm x with
      |.tup vs=>Ek vs[i]? fun p=>K p [] []
      |_=>none
  |.call c=>
      match c.callee with
      |.builtin .len=>Ab c.args.toList fun x _=>Ab c.argTypes.toList fun t _=>Aft P t (Cf tm x) fun n=>K (.sc (.int .i64 n)) [] []
      |.builtin .cap=>Ab c.args.toList fun x _=>Ab c.argTypes.toList fun t _=>Adj P t (Cf tm x) fun n=>K (.sc (.int .i64 n)) [] []
      |.builtin .min=>Ab c.args.toList fun x r=>Ab r fun y r'=>Ac r' (Aj4 (Cf tm x) (Cf tm y) fun v=>K v [] [])
      |.builtin .max=>Ab c.args.toList fun x r=>Ab r fun y r'=>Ac r' (Akf (Cf tm x) (Cf tm y) fun v=>K v [] [])
      |.builtin .append=>Ap (AC c) (Ek o.dst fun d=>Ab c.args.toList fun _ r=>Ab r fun x r'=>Ac r' (Ab c.argTypes.toList fun t u=>Ab u fun tx _=>We P rdaf d t tx (Cf tm x) fun v nw=>K v [] nw))
      |.value (.func f)=>KQ C P N call tm rdaf o c f K
      |.value (.tmp t)=>fvK (tm t) fun f=>KQ C P N call tm rdaf o c f K
      |_=>none
  |_=>none
def S9 (C:G2)(P:Program)(o:Op):Bool:=
 match o with
 |.store .. =>true
 |.call c=>
  match c.callee with
  |.builtin .append=> !AC c
  |.builtin .copy=>true
  |.builtin _=>false
  |.value (.func f)=>((JS P f c).any fun t=>(BD P t).isSome)||((JS P f c).zipIdx.any fun q=>C.mvd f q.2||C.lnd f q.2)
  |_=>false
 |_=>false
def Vy (b:Bl):Bl:=
 match b with
 |.ar _ c=>.ar true c
 |b=>b
def Ah (hp:Nat->Option Bl)(ids:List Nat):Nat->Option Bl:=fun i=>bif ids.any (Nat.beq i) then (hp i).map Vy else hp i
def Au (hp:Nat->Option Bl):List (Nat × Bl)->Nat->Option Bl
 |[]=>hp
 |(i,b)::r=>Au (Cn hp i (some b)) r
def Bx (hp:Nat->Option Bl):List (Nat × Bl)->Bool
 |[]=>true
 |(i,_)::r=>(hp i).isNone && !(r.any fun q=>Nat.beq q.1 i)&&Bx hp r
def Bn (tm:Nat->PV)(d:Option Tmp)(v:PV):Nat->PV:=
 match d with
 |some i=>Cn tm i v
 |none=>tm
def Gm (N:Nat)(d:Option Tmp):Bool:=
 match d with
 |some i=>Nat.blt i N
 |none=>true
def FA (N:Nat)(s:St)(d:Option Tmp)(v:PV)(fz:List Nat)(nw:List (Nat × Bl)) (K:St->Option R):Option R:=
 Ap (Gm N d&&Bx s.hp nw) (K ⟨Bn s.tm d v,Au (Ah s.hp fz) nw⟩)
def EI (P:Program)(s:St)(t:TypeId)(a x:PV)(K:St->Option R):Option R:=
 match a with
 |.ptr id off=>
  match s.hp id with
  |some (.st c)=>Ap (I3 P t&&Nat.beq (cellsOf x).length (H5 P t).length&&decide (off+(H5 P t).length<=c.length)) (Qt (H5 P t) (cellsOf x) 0 fun cs=>Aa (Bf c cs off) fun c=>K ⟨s.tm,Cn s.hp id (some (.st c))⟩)
  |some (.ar false c)=>Ap (I3 P t&&decide (off+(H5 P t).length<=c.length)) (Pb (J6 s.hp) (H5 P t) (cellsOf x) fun cs m=>Ap (!m.any (Nat.beq id)) (Aa (Bf c cs off) fun c=>K ⟨s.tm,Cn (Ah s.hp m) id (some (.ar false c))⟩))
  |_=>none
 |_=>none
def CM (P:Program)(t:TypeId):Bool:=
 match P.underlying t with
 |some (.int _)=>true
 |_=>false
def Vh (P:Program)(N:Nat)(s:St)(d:Nat)(e:TypeId)(b x:PV)(K:St->Option R):Option R:=
 Dm x fun _ n=>Ha (Bg P e) b fun z _ _=>
  Ap (z&&Nat.blt d N&&(s.hp d).isNone&&decide (0<=n)&&decide (n.toNat*((P.info? e).map (·.bytes)).getD 0<=1099511627776)&&decide (n<=1099511627776))
   (K ⟨Cn s.tm d (.view d (Bg P e) 0 n.toNat),Cn s.hp d (some (.ar false []))⟩)
def Qf (P:Program)(N:Nat)(s:St)(d:Nat)(t tx:TypeId)(b x:PV)(K:St->Option R):Option R:=
 match P.underlying t with
 |some (.slice e)=>Ap (SD P e) <|
  bif CM P tx then Vh P N s d e b x K else
  Aae P s (Bg P e) tx x fun m new=>
  match b with
  |.view id es off n=>
   match s.hp id with
   |some (.ar false c)=>
    Ap (Nat.beq es (Bg P e)&&Nat.beq off 0&&Nat.blt d N&&(s.hp d).isNone&&decide (n*es<=c.length)&&decide (new.length=m*es)
     && decide ((n+m)*((P.info? e).map (·.bytes)).getD 0<=1099511627776)&&decide (n+m<=1099511627776))
     (Aa (n+m) fun n'=>Aa (c.take (n*es)++new) fun c=>K ⟨Cn s.tm d (.view d es 0 n'),Cn (Cn s.hp id (some .mv)) d (some (.ar false c))⟩)
   |_=>none
  |b=>Ha (Bg P e) b fun z _ _=>
    Ap (z&&Nat.blt d N&&(s.hp d).isNone&&decide (new.length=m*Bg P e)&&decide (m*((P.info? e).map (·.bytes)).getD 0<=1099511627776)&&decide (m<=1099511627776))
     (K ⟨Cn s.tm d (.view d (Bg P e) 0 m),Cn s.hp d (some (.ar false new))⟩)
 |_=>none
def OC (P:Program)(N:Nat)(s:St)(d:Option Tmp)(t tx:TypeId)(b x:PV)(K:St->Option R):Option R:=
 match P.underlying t with
 |some (.slice e)=>Ap (KT P e&&Gm N d) <|
  Aae P s (Bg P e) tx x fun m new=>
  match b with
  |.view id es off n=>
   match s.hp id with
   |some (.ar false c)=>Ap (Nat.beq es (Bg P e)&&decide (off+n*es<=c.length)&&decide (new.length=m*es))
     (Aa (min m n) fun k=>Aa (Bf c (new.take (k*es)) off) fun c=>K ⟨Bn s.tm d (.sc (.int .i64 k)),Cn s.hp id (some (.ar false c))⟩)
   |_=>none
  |_=>none
 |_=>none
def Aej (mv:Bool)(hp:Nat->Option Bl)(t:CT)(p:PV)(K:PV->List Nat->List Nat->Option R):Option R:=
 match t with
 |.sl es=>
  bif mv then
   match p with
   |.view id es' off n=>
    match hp id with
    |some (.ar false c)=>
     bif Nat.beq es' es&&Nat.beq off 0 then Ap (decide (n*es<=c.length)) (K (.own es n (c.take (n*es))) [] [id])
     else Po (J6 hp) (.sl es) (.view id es' off n) fun c m=>K c m []
    |_=>Po (J6 hp) (.sl es) (.view id es' off n) fun c m=>K c m []
   |p=>Ha es p fun z n c=>bif z then K (.own es 0 []) [] [] else K (.lst false es n c) [] []
  else Po (J6 hp) (.sl es) p fun c m=>K c m []
 |t=>DV t p fun c=>K c [] []
def FG (mv:Bool)(hp:Nat->Option Bl):List CT->List PV->(List PV->List Nat->List Nat->Option R)->Option R
 |[],[],K=>K [] [] []
 |t::ts,p::ps,K=>Aej mv hp t p fun c m x=>FG mv hp ts ps fun cs ms xs=>K (c::cs) (m++ms) (x++xs)
 |_,_,_=>none
inductive Gx where
 |var (id off:Nat) (cts:List CT) (ws:List PV)
 |row (id:Nat)
 |none
def Gx.ids:Gx->List Nat
 |.var id _ _ _=>[id]
 |.row id=>[id]
 |.none=>[]
def Aqu (P:Program)(t:TypeId):Option TypeId:=
 match P.underlying t with
 |some (.slice e)=>some e
 |_=>none
def Ahs (hp:Nat->Option Bl)(es:Nat)(p:PV)(K:PV->List Gx->Option R):Option R:=
 match p with
 |.view id es' off n=>
  match hp id with
  |some (.ar false c)=>Ap (Nat.beq es' es&&Nat.beq off 0) (K (.tup [.own es n c]) [.row id])
  |_=>none
 |p=>Ha es p fun z _ _=>Ap z (K (.tup [.own es 0 []]) [.none])
def EN (C:G2)(P:Program)(f:FuncId)(hp:Nat->Option Bl)(i:Nat)(t:TypeId)(p:PV)(K:PV->List Nat->List Nat->List Gx->Option R):Option R:=
 match BD P t with
 |some e=>
  match p with
  |.ptr id off=>
   match hp id with
   |some (.st c)=>Ap (I3 P e&&decide (off+(H5 P e).length<=c.length)) (FG (C.mvd f i) hp (H5 P e) ((c.drop off).take (H5 P e).length) fun cs m x=>K (.pbox cs) m x [.var id off (H5 P e) cs])
   |_=>none
  |_=>none
 |none=>
  bif C.lnd f i then Ek (Aqu P t) fun e=>Ahs hp (Bg P e) p fun v l=>K v [] [] l
  else bif Cj P t then Dh p fun ps=>FG (C.mvd f i) hp (H5 P t) ps fun cs m x=>K (.agg cs) m x []
  else FG (C.mvd f i) hp (H5 P t) [p] fun cs m x=>Ab cs fun c r=>Ac r (K c m x [])
def PX (C:G2)(P:Program)(f:FuncId)(hp:Nat->Option Bl):Nat->List TypeId->List PV->(List PV->List Nat->List Nat->List Gx->Option R)->Option R
 |_,[],[],K=>K [] [] [] []
 |i,t::ts,p::ps,K=>EN C P f hp i t p fun v m x l=>PX C P f hp (i+1) ts ps fun vs ms xs ls=>K (v::vs) (m++ms) (x++xs) (l++ls)
 |_,_,_,_=>none
def V1 (hp:Nat->Option Bl)(ids:List Nat):Nat->Option Bl:=fun i=>bif ids.any (Nat.beq i) then (hp i).map (fun _=>Bl.mv) else hp i
def YR (N t:Nat):Nat:=N*(1000+t)
def XW (N:Nat)(hp:Nat->Option Bl):Nat->Nat->Nat
 |0,t=>t
 |k+1,t=>bif (hp (YR N t)).isNone then t else XW N hp k (t+1)
def Adi (N t:Nat)(ct:CT)(was p:PV)(K:Nat->PV->List (Nat × Bl)->Option R):Option R:=
 match ct with
 |.sl es=>
  match was with
  |.own _ _ _=>Ea es p fun n c=>K (t+1) (.view (YR N t) es 0 n) [(YR N t,.ar false c)]
  |_=>Ha es p fun _ n c=>K t (.lst false es n c) []
 |ct=>DV ct p fun c=>K t c []
def PH (N:Nat):Nat->List CT->List PV->List PV->(Nat->List PV->List (Nat × Bl)->Option R)->Option R
 |t,[],[],ps,K=>Ac ps (K t [] [])
 |t,ct::cts,w::ws,ps,K=>Ab ps fun p ps=>Adi N t ct w p fun t' c b=>PH N t' cts ws ps fun t'' cs bs=>K t'' (c::cs) (b++bs)
 |_,_,_,_,_=>none
def Ze (N:Nat):Nat->List Gx->List (List PV)->(Nat->Option Bl)->((Nat->Option Bl)->List (Nat × Bl)->Option R)->Option R
 |_,[],ro,hp,K=>Ac ro (K hp [])
 |t,.var id off cts ws::l,ro,hp,K=>Ab ro fun cs ro=>PH N t cts ws cs fun t' cs' bs=>
   match hp id with
   |some (.st c)=>Aa (Bf c cs' off) fun c=>Ze N t' l ro (Cn hp id (some (.st c))) fun hp' bs'=>K hp' (bs++bs')
   |_=>none
 |t,.row id::l,ro,hp,K=>Ab ro fun cs ro=>Ze N t l ro (Cn hp id (some (.ar false cs))) K
 |t,.none::l,ro,hp,K=>Ab ro fun _ ro=>Ze N t l ro hp K
def D6:List Nat->Bool
 |[]=>true
 |a::r=> !(r.any (Nat.beq a))&&D6 r
def EQ (C:G2)(P:Program)(N:Nat)(call:Ai)(s:St)(o:Oper)(f:FuncId)(c:Call)(K:St->Option R):Option R:=
 PX C P f s.hp 0 (JS P f c) (c.args.toList.map (Cf s.tm)) fun vs m x l=>
  Ap (D6 (l.flatMap Gx.ids++x)&&m.all (fun i=> !((l.flatMap Gx.ids++x).any (Nat.beq i)))&&Nat.blt 0 N&&Gm N o.dst) <|
  Ag (call f (Jq (C.kz f) c.args.toList vs)) fun rv ro=>
   FZ P (C.shr f) N (o.dst.getD N) (O2 P o.type) rv fun ws bs=>
    Ap (bif P3 P o.type then !Nat.beq ws.length 1 else Nat.beq ws.length 1) <|
    Asj (XW N s.hp 100 0) fun t0=>Ze N t0 l ro (V1 (Ah s.hp m) x) fun hp' bs'=>
     Ap (Bx hp' (bs++bs')) (K ⟨Bn s.tm o.dst (Pi ws (P3 P o.type)),Au hp' (bs++bs')⟩)
def Xi (C:G2)(P:Program)(N:Nat)(call:Ai)(s:St)(o:Oper)(K:St->Option R):Option R:=
 match o.op with
 |.store t a x=>Ap (o.dst.isNone) (EI P s t (Cf s.tm a) (Cf s.tm x) K)
 |.call c=>
  match c.callee with
  |.builtin .append=>Ek o.dst fun d=>Ab c.args.toList fun b r=>Ab r fun x r'=>Ac r' (Ab c.argTypes.toList fun t u=>Ab u fun tx _=>Qf P N s d t tx (Cf s.tm b) (Cf s.tm x) K)
  |.builtin .copy=>Ab c.args.toList fun b r=>Ab r fun x r'=>Ac r' (Ab c.argTypes.toList fun t u=>Ab u fun tx _=>OC P N s o.dst t tx (Cf s.tm b) (Cf s.tm x) K)
  |.value (.func f)=>EQ C P N call s o f c K
  |_=>none
 |_=>none
def VR (C:G2)(P:Program)(N:Nat)(call:Ai)(o:Oper)(s:St)(K:St->Option R):Option R:=
 bif S9 C P o.op then Xi C P N call s o K
 else MM C P N call s.tm (rd s.hp) (J6 s.hp) o fun v fz nw=>FA N s o.dst v fz nw K
def Dj (C:G2)(P:Program)(N:Nat)(call:Ai)(ops:Array Oper)(o:Oper)(s:St)(K:St->Option R):Option R:=
 match o.guard with
 |none=>VR C P N call o s K
 |some (j,want)=>
  match (ops[j]?).bind (·.dst) with
  |none=>none
  |some d=>
   match s.tm d with
   |.sc (.bool b)=>
    Bb b (bif want then VR C P N call o ⟨Cn s.tm d (.sc (.bool true)),s.hp⟩ K else Ap (Gm N o.dst) (K ⟨Bn (Cn s.tm d (.sc (.bool true))) o.dst (.sc undef),s.hp⟩))
     (bif want then Ap (Gm N o.dst) (K ⟨Bn (Cn s.tm d (.sc (.bool false))) o.dst (.sc undef),s.hp⟩) else VR C P N call o ⟨Cn s.tm d (.sc (.bool false)),s.hp⟩ K)
   |.sc (.tuple _)=>Ap (Gm N o.dst) (K ⟨Bn s.tm o.dst (.sc undef),s.hp⟩)
   |_=>none
def Ok (C:G2)(P:Program)(N:Nat)(call:Ai)(ops:Array Oper):List Oper->St->(St->Option R)->Option R
 |[],s,K=>K s
 |o::r,s,K=>Dj C P N call ops o s fun s'=>Ok C P N call ops r s' K
noncomputable def Xu (x y:Option R):Option R:=open Classical in if x=y then x else none
noncomputable def Aai (ops:Array Oper)(o:Oper)(s:St)(F:St->Option R):Option R:=
 match o.guard with
 |none=>F s
 |some (j,_)=>
  match (ops[j]?).bind (·.dst) with
  |none=>F s
  |some d=>
   match s.tm d with
   |.ub=>Xu (F ⟨Cn s.tm d (.sc (.bool true)),s.hp⟩) (F ⟨Cn s.tm d (.sc (.bool false)),s.hp⟩)
   |_=>F s
noncomputable def Mx (C:G2)(P:Program)(N:Nat)(call:Ai)(ops:Array Oper):List Oper->St->(St->Option R)->Option R
 |[],s,K=>K s
 |o::r,s,K=>Aai ops o s fun s1=>Dj C P N call ops o s1 fun s'=>Mx C P N call ops r s' K
end
def Ahv (o:Oper):List Nat:=o.op.operands.toList.filterMap fun x=>match x with | .tmp t=>some t|_=>none
def looks (ops:Array Oper)(o:Oper):List Nat:=
 Ahv o++(match o.guard with|some (g,_)=>((ops[g]?).bind (·.dst)).toList|none=>[])
def Hv (P:Program)(o:Op):Bool:=
 match o with
 |.slice t .. =>match P.underlying t with|some (.array _ _)=>true|_=>false
 |.buildSlice t _ _=>match P.underlying t with|some (.slice e)=>Js P [e]|_=>true
 |.convert _ dst _=>match P.underlying dst with|some .string=>true|_=>false
 |.alloc _ | .box .. | .makeSlice .. =>false
 |.move _ | .assign _ | .pick .. | .build .. | .binOp .. | .unOp .. | .fieldAddr .. | .field .. | .index .. | .indexAddr .. | .extract .. | .nilCheck _=>false
 |.call c=>match c.callee with | .builtin .len=>false | .builtin .min=>false | .builtin .max=>false|_=>true
 |_=>true
def IP (C:G2)(P:Program)(ops:Array Oper)(x y:Oper):Bool:=
 (match x.dst with|some d=>(looks ops y).any (Nat.beq d)||(match y.dst with|some e=>Nat.beq d e|none=>false)|none=>false) ||
 (match y.dst with|some e=>(looks ops x).any (Nat.beq e)|none=>false) ||
 (S9 C P x.op&&Hv P y.op)||(S9 C P y.op&&Hv P x.op)
def Ii (ops:List Oper):List Nat->List Nat
 |acc=>match ops with
  |[]=>acc
  |o::r=>Ii r (acc++[o.after.toList.foldl (fun s e=>bif Region.binds .any e then s ||| 2 ^ e.on ||| acc.getD e.on 0 else s) 0])
def HO (C:G2)(P:Program)(ops:Array Oper)(bs:List Nat):List Oper->Nat->Bool
 |[],_=>true
 |o::r,i=>(ops.toList.zipIdx.all fun q=> !Nat.blt q.2 i || !IP C P ops q.1 o||(bs.getD i 0).testBit q.2)&&HO C P ops bs r (i+1)
def MN (C:G2)(P:Program)(ops:Array Oper):Bool:=
 ops.toList.zipIdx.all (fun q=>q.1.after.toList.all fun e=> !Region.binds .any e||Nat.blt e.on q.2)&&HO C P ops (Ii ops.toList []) ops.toList 0
def Ar:PV->List Nat
 |.view id _ _ _=>[id]
 |.ptr id _=>[id]
 |_=>[]
def B8:PV->List Nat
 |.agg cs=>cs.flatMap Ar
 |p=>Ar p
def Bq:PV->List Nat
 |.tup ps=>ps.flatMap B8
 |p=>B8 p
def Uo (P:Program)(o:Op):Bool:=
 match o with
 |.load .. =>true
 |.convert _ dst _=>(match P.underlying dst with|some .string=>true|_=>false)
 |_=>false
def O1 (o:Op):Bool:=
 match o with
 |.call c=>(match c.callee with | .builtin .append=> !AC c|_=>false)
 |_=>false
def Ag9 (ops:Array Oper)(x y:Oper):Bool:=
 (match x.dst with|some d=>(looks ops y).any (Nat.beq d)||(match y.dst with|some e=>Nat.beq d e|none=>false)|none=>false) ||
 (match y.dst with|some e=>(looks ops x).any (Nat.beq e)|none=>false)
def S6 (C:G2)(P:Program)(x y:Oper):Bool:=(S9 C P x.op&&Hv P y.op)||(S9 C P y.op&&Hv P x.op)
def Kj (C:G2)(P:Program)(x y:Oper):Bool:=(S9 C P x.op&&Uo P y.op)||(S9 C P y.op&&Uo P x.op)||(O1 x.op&&O1 y.op)
def Agu (C:G2)(P:Program)(ops:Array Oper)(x y:Oper):Bool:=Ag9 ops x y||(S6 C P x y && !Kj C P x y)
def AU (C:G2)(P:Program)(ops:Array Oper)(bs:List Nat):List Oper->Nat->Bool
 |[],_=>true
 |o::r,i=>(ops.toList.zipIdx.all fun q=> !Nat.blt q.2 i || !Agu C P ops q.1 o||(bs.getD i 0).testBit q.2)&&AU C P ops bs r (i+1)
def MP (C:G2)(P:Program)(ops:Array Oper):Bool:=
 ops.toList.zipIdx.all (fun q=>q.1.after.toList.all fun e=> !Region.binds .any e||Nat.blt e.on q.2)&&AU C P ops (Ii ops.toList []) ops.toList 0
def Mz (C:G2)(P:Program)(s:St)(o:Oper):List Nat:=
 let l:=o.op.operands.toList.flatMap fun y=>Bq (Cf s.tm y)
 bif S9 C P o.op && !O1 o.op then l++l.flatMap (fun i=>match s.hp i with|some (.st c)=>c.flatMap Ar|_=>[])
 else bif Uo P o.op||O1 o.op then l else []
def Aff (a b:List Nat):Bool:=a.all fun i=> !b.any (Nat.beq i)
def AJ (C:G2)(P:Program)(ops:Array Oper)(bs:List Nat)(i:Nat)(o:Oper):List Nat:=
 (ops.toList.zipIdx.filter fun q=>Kj C P q.1 o && !(Nat.blt q.2 i&&(bs.getD i 0).testBit q.2) && !(Nat.blt i q.2&&(bs.getD q.2 0).testBit i)).map (·.2)
def FU (C:G2)(P:Program)(ops:Array Oper)(bs:List Nat):List (List Nat):=ops.toList.zipIdx.map fun q=>AJ C P ops bs q.2 q.1
def HI (C:G2)(P:Program)(sm:List (List Nat)) (s:St)(i:Nat)(o:Oper):List Nat:=
 match sm.getD i [] with
 |[]=>[]
 |_::_=>Mz C P s o
def ND (C:G2)(P:Program)(sm:List (List Nat)) (s:St)(i:Nat)(o:Oper)(q:Nat × Oper × List Nat):Bool:=
 !((sm.getD i []).any (Nat.beq q.1))||Aff q.2.2 (HI C P sm s i o)
def H3 {R:Type}(C:G2)(P:Program)(N:Nat)(call:Ai)(ops:Array Oper)(sm:List (List Nat)):List (Nat × Oper × List Nat)->List Nat->St->(St->Option R)->Option R
 |_,[],s,K=>K s
 |dn,i::l,s,K=>Ek ops[i]? fun o=>Ap (dn.all (ND C P sm s i o)&&(HI C P sm s i o).all (fun k=>(s.hp k).isSome)) (Dj C P N call ops o s fun s'=>H3 C P N call ops sm ((i,o,HI C P sm s i o)::dn) l s' K)
def Ai8 (m i:Nat):Nat:=m ||| 2 ^ i
def Aso (m i:Nat):Nat:=bif m.testBit i then m ^^^ 2 ^ i else m
def Acf (ops:Array Oper):List Oper->Nat->Nat
 |[],m=>m
 |o::r,m=>
  let m1:=Acf ops r m
  let m2:=match o.dst with|some d=>Aso m1 d|none=>m1
  (looks ops o).foldl Ai8 m2
def Pq:Code->Nat->(Nat->Nat)->Nat->Nat
 |.skip,ln,_,_=>ln
 |.region _ ops _,ln,_,_=>Acf ops ops.toList ln
 |.seq a b,ln,lx,lr=>Pq a (Pq b ln lx lr) lx lr
 |.cond c a b,ln,lx,lr=>let m:=Pq a ln lx lr ||| Pq b ln lx lr;match c with | .tmp d=>Ai8 m d|_=>m
 |.block id c,ln,lx,lr=>Pq c ln (fun j=>bif Nat.beq j id then ln else lx j) lr
 |.loop c,_,lx,lr=>Pq c (Pq c 0 lx lr) lx lr
 |.exit id,_,lx,_=>lx id
 |.ret,_,_,lr=>lr
 |_,_,_,_=>0
def Ahz (ops:List Oper):List Nat:=(ops.filterMap fun o=>o.guard.map (·.1)).eraseDups
def Qj:Code->Nat
 |.region _ _ _=>1
 |.seq a b=>Qj a+Qj b
 |.cond _ a b=>Qj a+Qj b
 |.block _ c=>Qj c
 |.loop c=>Qj c
 |_=>0
def HG:Code->Nat
 |.skip=>1
 |.region _ ops _=>2 ^ min 6 (Ahz ops.toList).length
 |.seq a b=>bif (Nat.ble 7 (HG a)&&Nat.ble 6 (Qj b))||(Nat.ble 5 (HG a)&&Nat.ble 9 (Qj b)) then HG b else min 1000 (HG a*HG b)
 |.cond _ a b=>HG a+HG b
 |.block _ c=>HG c
 |.loop _=>1
 |.exit _=>1
 |_=>0
def Al2 (P:Program)(o:Oper):Bool:=
 match o.op with
 |.load t _=>Ur P t&&Nat.ble 8 (Bg P t)
 |.store t _ _=>Ur P t&&Nat.ble 8 (Bg P t)
 |_=>false
def UR (P:Program):Code->Bool
 |.region _ ops _=>ops.toList.any (Al2 P)
 |.seq a _=>UR P a
 |_=>false
def Acq (P:Program):Code->Bool
 |.region _ ops _=>ops.toList.any (Al2 P)
 |.seq _ b=>Acq P b
 |_=>false
def BZ (a b:Code):Bool:=(Nat.beq (HG a) 4&&Nat.beq (Qj b) 3&&Nat.beq (Qj a) 7)||(match b with | .seq x y=>Nat.beq (HG x) 4&&Nat.beq (Qj y) 3&&Nat.beq (Qj x) 7|_=>false)
def Acd (P:Program)(a b:Code):Bool:=(Nat.ble 7 (HG a)&&Nat.ble 6 (Qj b))||(Nat.ble 5 (HG a)&&Nat.ble 9 (Qj b))||BZ a b||UR P b||Acq P a
def Mr (m:Nat):Nat->List Nat
 |0=>[]
 |n+1=>Mr m n++(bif m.testBit n then [n] else [])
def lk (l:List (Nat × PV)) (i:Nat):PV:=
 match l with
 |[]=>.top
 |(j,p)::r=>bif Nat.beq i j then p else lk r i
def B3 (l:List (Nat × Bl)) (i:Nat):Option Bl:=
 match l with
 |[]=>none
 |(j,b)::r=>bif Nat.beq i j then some b else B3 r i
def W9 (l:List (Nat × Nat)) (i:Nat):Option Nat:=
 match l with
 |[]=>none
 |(j,b)::r=>bif Nat.beq i j then some b else W9 r i
def HM (s:St)(i:Nat):St:=
 match s.tm i with
 |.lst true es 0 []=>bif (s.hp i).isNone then ⟨Cn s.tm i (.view i es 0 0),Cn s.hp i (some (.ar false []))⟩ else s
 |_=>s
def RE (N:Nat)(id:Nat)(s:St)(j:Nat):St:=
 match s.hp id with
 |some (.st c)=>
  match c[j]? with
  |some (.lst true es 0 [])=>bif (s.hp (id+N*(j+1))).isNone then ⟨s.tm,Cn (Cn s.hp id (some (.st (c.set j (.view (id+N*(j+1)) es 0 0))))) (id+N*(j+1)) (some (.ar false []))⟩ else s
  |_=>s
 |_=>s
def RQ (N:Nat)(s:St)(i:Nat):St:=
 match s.tm i with
 |.ptr id _=>
  match s.hp id with
  |some (.st c)=>(List.range c.length).foldl (RE N id) s
  |_=>s
 |_=>s
def QV (m:List (Nat × Nat)) (old new:Nat):List (Nat × Nat):=
 match W9 m old with
 |some _=>m
 |none=>m++[(old,new)]
def Sw (N new:Nat):List PV->Nat->List (Nat × Nat)->List (Nat × Nat)
 |[],_,m=>m
 |.view id _ _ _::r,j,m=>Sw N new r (j+1) (QV m id (new+N*(j+1)))
 |_::r,j,m=>Sw N new r (j+1) m
def HN (N:Nat)(s:St)(m:List (Nat × Nat)) (i:Nat):List (Nat × Nat):=
 match s.tm i with
 |.view id _ _ _=>QV m id i
 |.ptr id _=>
  match W9 m id with
  |some _=>m
  |none=>
   match s.hp id with
   |some (.st c)=>Sw N i c 0 (QV m id i)
   |_=>QV m id i
 |.agg c=>Sw N i c 0 m
 |_=>m
def Aa0 (m:List (Nat × Nat)):PV->PV
 |.view id es off n=>match W9 m id with|some j=>.view j es off n|none=>.top
 |.ptr id off=>match W9 m id with|some j=>.ptr j off|none=>.top
 |.sc v=>.sc v
 |.lst z es n c=>.lst z es n c
 |.iptr c off=>.iptr c off
 |_=>.top
def Afa (m:List (Nat × Nat)):PV->PV
 |.agg c=>.agg (c.map (Aa0 m))
 |p=>Aa0 m p
def Alh (m:List (Nat × Nat)):Bl->Bl
 |.st c=>.st (c.map (Aa0 m))
 |b=>b
def Cs (N i:Nat):Nat:=i+N*2000
def XP (N:Nat)(hp:Nat->Option Bl):Nat->List (Nat × Nat)
 |0=>[]
 |i+1=>bif (hp (Cs N i)).isSome then XP N hp i++[(Cs N i,Cs N i)] else XP N hp i
def Uw (N:Nat)(hp:Nat->Option Bl):Nat->List (Nat × Nat)->List (Nat × Nat)
 |0,m=>m
 |i+1,m=>
  match hp (Cs N i) with
  |some (.st c)=>Sw N (Cs N i) c 0 (Uw N hp i m)
  |_=>Uw N hp i m
def Ar3 (N:Nat)(hp:Nat->Option Bl)(k:Nat):List (Nat × Nat):=Uw N hp k (XP N hp k)
def Ni (m:List (Nat × Nat)) (hp:Nat->Option Bl):List (Nat × Nat)->List (Nat × Bl)
 |[]=>[]
 |(old,new)::r=>match hp old with
  |some b=>(new,Alh m b)::Ni m hp r
  |none=>Ni m hp r
section
variable {R:Type}
def Acl (N:Nat)(ls:List Nat)(q:Bool)(s:St)(K:St->Option R):Option R:=
 let s2:=bif q then s else ls.foldl (RQ N) (ls.foldl HM s)
 let m:=ls.foldl (HN N s2) (Ar3 N s2.hp 8)
 Ap (D6 (m.map (·.1))&&D6 (m.map (·.2))) (K ⟨lk (ls.map fun i=>(i,Afa m (s2.tm i))),B3 (Ni m s2.hp m)⟩)
def Kc (N L:Nat)(s:St)(K:St->Option R):Option R:=Acl N (Mr L N) false s K
def UZ (N L:Nat)(s:St)(K:St->Option R):Option R:=Acl N (Mr L N) true s K
def XQ (F:(St->Option R)->St->Option R) (nm:St->(St->Option R)->Option R):Nat->St->Option R
 |0,_=>none
 |n+1,s=>F (fun s'=>nm s' (XQ F nm n)) s
def MH (n:Nat)(F:St->Option R)(s:St):Option R:=
 match n with
 |0=>none
 |_+1=>F s
noncomputable def Ajp (s:St)(c:Operand)(kt kf:St->Option R):Option R:=
 match c with
 |.tmp d=>
  match s.tm d with
  |.sc (.bool b)=>Bb b (kt ⟨Cn s.tm d (.sc (.bool true)),s.hp⟩) (kf ⟨Cn s.tm d (.sc (.bool false)),s.hp⟩)
  |.ub=>Xu (kt s) (kf s)
  |_=>none
 |.const (.bool true)=>kt s
 |.const (.bool false)=>kf s
 |_=>none
noncomputable def J5 (C:G2)(P:Program)(fu N:Nat)(call:Ai):Code->Nat->(Nat->Nat)->Nat->(St->Option R)->(Nat->St->Option R)->(St->Option R)->St->Option R
 |.skip,_,_,_,kn,_,_,s=>kn s
 |.region _ ops draw,_,_,_,kn,_,_,s=>NM (draw && !MN C P ops) (Ap (MP C P ops) (Ais (FU C P ops (Ii ops.toList [])) fun sm=>H3 C P N call ops sm [] (List.range ops.size) s kn)) (NM draw (Ok C P N call ops ops.toList s kn) (Mx C P N call ops ops.toList s kn))
 |.seq a b,ln,lx,lr,kn,kx,kr,s=>J5 C P fu N call a (Pq b ln lx lr) lx lr (fun s'=>NM (Acd P a b) (NM (BZ a b) (UZ N (Pq b ln lx lr) s' (MH fu fun s''=>J5 C P fu N call b ln lx lr kn kx kr s'')) (Kc N (Pq b ln lx lr) s' (MH fu fun s''=>J5 C P fu N call b ln lx lr kn kx kr s''))) (J5 C P fu N call b ln lx lr kn kx kr s')) kx kr s
 |.cond c a b,ln,lx,lr,kn,kx,kr,s=>Ajp s c (J5 C P fu N call a ln lx lr kn kx kr) (J5 C P fu N call b ln lx lr kn kx kr)
 |.block id c,ln,lx,lr,kn,kx,kr,s=>J5 C P fu N call c ln (fun j=>bif Nat.beq j id then ln else lx j) lr kn (fun j s'=>bif Nat.beq j id then kn s' else kx j s') kr s
 |.loop c,ln,lx,lr,_,kx,kr,s=>
  Kc N (Pq (.loop c) ln lx lr) s (XQ (fun k s'=>J5 C P fu N call c (Pq (.loop c) ln lx lr) lx lr k kx kr s') (Kc N (Pq (.loop c) ln lx lr)) fu)
 |.exit id,_,_,_,_,kx,_,s=>kx id s
 |.ret,_,_,_,_,_,kr,s=>kr s
 |_,_,_,_,_,_,_,_=>none
def Agd (id:Nat)(t:CT)(p:PV)(K:PV->List (Nat × Bl)->Option R):Option R:=
 match t with
 |.sl es=>
  match p with
  |.own es' n c=>bif Nat.beq es' es then K (.view id es 0 n) [(id,.ar false c)] else none
  |p=>Ha es p fun z n c=>K (.lst z es n c) []
 |t=>DV t p fun c=>K c []
def FF (N:Nat):Nat->List CT->List PV->(List PV->List (Nat × Bl)->Option R)->Option R
 |_,[],ps,K=>Ac ps (K [] [])
 |id,t::ts,ps,K=>Ab ps fun p ps=>Agd id t p fun c b=>FF N (id+N) ts ps fun cs bs=>K (c::cs) (b++bs)
def inK (P:Program)(N i:Nat)(t:TypeId)(p:PV)(K:PV->List (Nat × Bl)->Option R):Option R:=
 match BD P t with
 |some e=>Xw p fun ps=>Ap (Nat.blt i 8) (FF N (Cs N i+N) (H5 P e) ps fun cs bs=>K (.ptr (Cs N i) 0) ((Cs N i,.st cs)::bs))
 |none=>
  match p with
  |.tup ps=>Ek (Aqu P t) fun e=>Ap (Nat.blt i 8) (Ab ps fun q r=>Ac r (Ea (Bg P e) q fun n c=>K (.view (Cs N i) (Bg P e) 0 n) [(Cs N i,.ar false c)]))
  |p=>
   bif Cj P t then Dh p fun ps=>FF N (i+N) (H5 P t) ps fun cs bs=>K (.agg cs) bs
   else FF N (i+N) (H5 P t) [p] fun cs bs=>Ab cs fun c r=>Ac r (K c bs)
def Ad4 (P:Program)(N:Nat):Nat->List TypeId->List PV->(List (Nat × PV)->List (Nat × Bl)->Option R)->Option R
 |_,[],ps,K=>Ac ps (K [] [])
 |i,t::ts,ps,K=>Ab ps fun p ps=>inK P N i t p fun v bs=>Ad4 P N (i+1) ts ps fun vs bs'=>K ((i,v)::vs) (bs++bs')
def Amd (hp:Nat->Option Bl)(t:CT)(p:PV)(K:PV->List Nat->List Nat->Option R):Option R:=
  match t with
  |.sl es=>
    match p with
    |.view id es' off n=>bif Nat.beq es' es&&Nat.beq off 0 then
        (match hp id with
         |some (.ar false c)=>Ap (decide (n*es<=c.length)) (K (.own es n (c.take (n*es))) [id] [])
         |_=>none) else none
    |p=>Ha es p fun z _ _=>Ap z (K (.own es 0 []) [] [])
  |t=>DV t p fun c=>K c [] []
def Ab2 (shr:Bool)(hp:Nat->Option Bl)(t:CT)(p:PV)(K:PV->List Nat->List Nat->Option R):Option R:=
 bif shr then Po (J6 hp) t p fun c m=>K c [] m else Amd hp t p K
def ED (shr:Bool)(hp:Nat->Option Bl):List CT->List PV->(List PV->List Nat->List Nat->Option R)->Option R
 |[],[],K=>K [] [] []
 |t::ts,p::ps,K=>Ab2 shr hp t p fun c m z=>ED shr hp ts ps fun cs ms zs=>K (c::cs) (m++ms) (z++zs)
 |_,_,_=>none
def Ag2 (P:Program)(shr:Bool)(hp:Nat->Option Bl)(t:TypeId)(p:PV)(K:PV->List Nat->List Nat->Option R):Option R:=
 match BD P t with
 |some e=>
  match p with
  |.ptr id off=>
   match hp id with
   |some (.st c)=>Ap (Nat.beq off 0) (ED shr hp (H5 P e) c fun cs m z=>K (.pbox cs) (id::m) z)
   |_=>none
  |_=>none
 |none=>
  bif Cj P t then Dh p fun ps=>ED shr hp (H5 P t) ps fun cs m z=>K (.agg cs) m z
  else ED shr hp (H5 P t) [p] fun cs m z=>Ab cs fun c r=>Ac r (K c m z)
def Ahm (P:Program)(s:St)(r:ResultVar)(K:PV->Option R):Option R:=
 match r with
 |.tmp t=>K (s.tm t)
 |.cell a t=>BM P (rd s.hp) (J6 s.hp) t (s.tm a) K
def RK (P:Program)(shr:Bool)(s:St):List ResultVar->List TypeId->(List PV->List Nat->List Nat->Option R)->Option R
 |[],[],K=>K [] [] []
 |r::rs,t::ts,K=>Ahm P s r fun p=>Ag2 P shr s.hp t p fun v m z=>RK P shr s rs ts fun vs ms zs=>K (v::vs) (m++ms) (z++zs)
 |_,_,_=>none
def HV (hp:Nat->Option Bl):List CT->List PV->List PV->(List PV->List Nat->List Nat->Option R)->Option R
 |[],[],[],K=>K [] [] []
 |t::ts,w::ws,p::ps,K=>Ab2 (match w with | .own _ _ _=>false|_=>true) hp t p fun c m z=>HV hp ts ws ps fun cs ms zs=>K (c::cs) (m++ms) (z++zs)
 |_,_,_,_=>none
def EO (P:Program)(N:Nat)(hp:Nat->Option Bl):Nat->List TypeId->List PV->(List (List PV)->List Nat->List Nat->List Nat->Option R)->Option R
 |_,[],ps,K=>Ac ps (K [] [] [] [])
 |i,t::ts,ps,K=>Ab ps fun p ps=>
  match p with
  |.pbox ws=>Ek (BD P t) fun e=>
    match hp (Cs N i) with
    |some (.st c)=>HV hp (H5 P e) ws c fun cs m z=>EO P N hp (i+1) ts ps fun r m' z' q=>K (cs::r) (m++m') (z++z') (Cs N i::q)
    |_=>none
  |.tup _=>
    match hp (Cs N i) with
    |some (.ar false c)=>EO P N hp (i+1) ts ps fun r m' z' q=>K (c::r) m' z' (Cs N i::q)
    |_=>none
  |_=>EO P N hp (i+1) ts ps K
def Aby (rs:List ResultVar):Nat:=rs.foldl (fun m r=>match r with | .tmp t=>Ai8 m t | .cell a _=>Ai8 m a) 0
end
def JZ (P:Program):Nat->List TypeId->Nat->Nat
 |_,[],m=>m
 |i,t::ts,m=>JZ P (i+1) ts (match P.underlying t with|some (.pointer _)=>Ai8 m i|_=>m)
def ZS (C:G2)(P:Program)(f:FuncId)(fn:Func)(args:List PV)(s:St):Option At:=
 RK P (C.shr f) s fn.results.toList fn.resultTypes.toList fun vs m z=>EO P fn.ntmps s.hp 0 fn.params.toList args fun os m' z' q=>
  Ap (D6 ((m++m')++q)&&(z++z').all (fun i=> !(((m++m')++q).any (Nat.beq i)))) (some ⟨vs,os⟩)
noncomputable def Als (C:G2)(P:Program)(fu:Nat)(call:Ai)(f:FuncId)(fn:Func)(c:Code)(args:List PV):Option At:=
  Ad4 P fn.ntmps 0 fn.params.toList args fun tms bs=>Ap (Nat.ble args.length fn.ntmps&&Bx (fun _=>none) bs)
    (let lr:=JZ P 0 fn.params.toList (Aby fn.results.toList)
     J5 C P fu fn.ntmps call c lr (fun _=>0) lr (ZS C P f fn args) (fun _ _=>none) (ZS C P f fn args) ⟨lk tms,B3 bs⟩)
noncomputable def Ae (C:G2)(P:Program)(fu:Nat):Nat->FuncId->List PV->Option At
 |0,_,_=>none
 |d+1,f,args=>
  match C.ext f with
  |some g=>g args
  |none=>
   match P.funcs[f]? with
   |none=>none
   |some fn=>match fn.body with
    |none=>none
    |some c=>Als C.core P fu (Ae C P fu d) f fn c args
inductive Dir where
 |l
 |r
 |i (m:Nat)
section
variable {R:Type}
noncomputable def Zn (C:G2)(P:Program)(fu N:Nat)(call:Ai):List Dir->Code->Nat->(Nat->Nat)->Nat->(St->Option R)->(Nat->St->Option R)->(St->Option R)->Nat->St->Option R
 |[],.seq _ b,ln,lx,lr,kn,kx,kr,n,s=>MH n (fun s''=>J5 C P fu N call b ln lx lr kn kx kr s'') s
 |[],.loop c,ln,lx,lr,_,kx,kr,n,s=>XQ (fun k s'=>J5 C P fu N call c (Pq (.loop c) ln lx lr) lx lr k kx kr s') (Kc N (Pq (.loop c) ln lx lr)) n s
 |.l::p,.seq a b,ln,lx,lr,kn,kx,kr,n,s=>Zn C P fu N call p a (Pq b ln lx lr) lx lr (fun s'=>NM (Acd P a b) (NM (BZ a b) (UZ N (Pq b ln lx lr) s' (MH fu fun s''=>J5 C P fu N call b ln lx lr kn kx kr s'')) (Kc N (Pq b ln lx lr) s' (MH fu fun s''=>J5 C P fu N call b ln lx lr kn kx kr s''))) (J5 C P fu N call b ln lx lr kn kx kr s')) kx kr n s
 |.r::p,.seq _ b,ln,lx,lr,kn,kx,kr,n,s=>Zn C P fu N call p b ln lx lr kn kx kr n s
 |.l::p,.cond _ a _,ln,lx,lr,kn,kx,kr,n,s=>Zn C P fu N call p a ln lx lr kn kx kr n s
 |.r::p,.cond _ _ b,ln,lx,lr,kn,kx,kr,n,s=>Zn C P fu N call p b ln lx lr kn kx kr n s
 |.l::p,.block id c,ln,lx,lr,kn,kx,kr,n,s=>Zn C P fu N call p c ln (fun j=>bif Nat.beq j id then ln else lx j) lr kn (fun j s'=>bif Nat.beq j id then kn s' else kx j s') kr n s
 |.i m::p,.loop c,ln,lx,lr,_,kx,kr,n,s=>
  Zn C P fu N call p c (Pq (.loop c) ln lx lr) lx lr
   (fun s'=>Kc N (Pq (.loop c) ln lx lr) s' (XQ (fun k s'=>J5 C P fu N call c (Pq (.loop c) ln lx lr) lx lr k kx kr s') (Kc N (Pq (.loop c) ln lx lr)) m)) kx kr n s
 |_,_,_,_,_,_,_,_,_,_=>none
end
noncomputable def C1 (C:G2)(P:Program)(fu:Nat)(call:Ai)(f:FuncId)(fn:Func)(c:Code)(args:List PV)(p:List Dir)(n:Nat)(s:St):Option At:=
 let lr:=JZ P 0 fn.params.toList (Aby fn.results.toList)
 Zn C P fu fn.ntmps call p c lr (fun _=>0) lr (ZS C P f fn args) (fun _ _=>none) (ZS C P f fn args) n s
def All:List Nat:=[
 1000000]
def Amw:List Nat:=[
 11,
 31,
 44,
 13,
 17,
 37,
 1000000]
def Anx:List Nat:=[
 1000000]
def Ano:List Nat:=[
 102,
 119,
 100,
 90,
 128,
 114,
 115,
 130,
 118,
 91,
 113,
 111,
 124,
 1000000]
def IF (args:List PV):Option At:=
 match args with
 |[.sc (.string s)]=>bif decide (s.size<=9223372036854775807) then some ⟨[.sc (.bool (Lib.validD s.data.toList))],[]⟩ else none
 |_=>none
def Vj (args:List PV):Option At:=
  match args with
  |[.lst _ 1 n c,.lst _ 1 m c']=>bif Nat.beq c.length n&&Nat.beq c'.length m then
      (match bytesOf c,bytesOf c' with
       |some a,some b=>some ⟨[.sc (.int .i64 (Lib.compareBytes a b))],[]⟩
       |_,_=>none) else none
  |_=>none
def AK:List Nat:=[
 132,
 89,
 121,
 122,
 120,
 103,
 73,
 123,
 117,
 98,
 65,
 34,
 88,
 84,
 112,
 104,
 105,
 110,
 81,
 106,
 108,
 76,
 74,
 75,
 92,
 82,
 66,
 53,
 50,
 54,
 41,
 1000000]
def CB:G2:=⟨fun f=>Amw.any (Nat.beq f),fun f i=>Nat.beq i 0&&Ano.any (Nat.beq f),fun f i=>Nat.beq i 0&&Anx.any (Nat.beq f),fun f=>All.any (Nat.beq f),fun _=>none⟩
def CX (xs:FuncId->Option (List PV->Option At)):G2:={ CB with ext:=fun f=>bif AK.any (Nat.beq f) then none else xs f }
def Bw (f:Func):Code:=match f.body with|some c=>c|none=>.skip
section
variable {R:Type} {r:Option R}
theorem Az {k:IntKind}{p:PV}{K:Int->Option R}{n:Int}(h:p=.sc (.int k n)) (hk:K n=r):Ad k p K=r:=by
 subst h;unfold Ad;simp [hk]
theorem Ar6 {p:PV}{K:IntKind->Int->Option R}{k:IntKind}{n:Int}(h:p=.sc (.int k n)) (hk:K k n=r):Dm p K=r:=by
 subst h;exact hk
theorem A5 {p:PV}{K:Bool->Option R}{b:Bool}(h:p=.sc (.bool b)) (hk:K b=r):Bm p K=r:=by
 subst h;exact hk
theorem Ba {p:PV}{K:ByteArray->Option R}{s:ByteArray}(h:p=.sc (.string s)) (hk:K s=r):Cw p K=r:=by
 subst h;exact hk
theorem Cu {es:Nat}{p:PV}{K:Bool->Nat->List PV->Option R}{z:Bool}{n:Nat}{c:List PV}(h:p=.lst z es n c)(hk:K z n c=r):Ha es p K=r:=by
 subst h;unfold Ha;simp [Nat.beq_refl,hk]
theorem Bi {es:Nat}{p:PV}{K:Nat->List PV->Option R}{n:Nat}{c:List PV}(h:p=.own es n c)(hk:K n c=r):Ea es p K=r:=by
 subst h;unfold Ea;simp [Nat.beq_refl,hk]
theorem Ax {b:Bool}{K:Option R}(h:b=true)(hk:K=r):Ap b K=r:=by
 subst h;exact hk
theorem Ai5 {b:Bool}{x y:Option R}(hx:b=true->x=r)(hy:b=false->y=r):Bb b x y=r:=by
 cases b
 ·exact hy rfl
 ·exact hx rfl
theorem Av {b:Bool}{x y:Option R}(h:b=true)(hx:x=r):Bb b x y=r:=by
 subst h;exact hx
theorem Aw {b:Bool}{x y:Option R}(h:b=false)(hx:y=r):Bb b x y=r:=by
 subst h;exact hx
theorem C9 {α:Type}{o:Option α}{K:α->Option R}{a:α}(h:o=some a)(hk:K a=r):Ek o K=r:=by
 subst h;exact hk
theorem Am {α:Type}{l:List α}{K:α->List α->Option R}{a:α}{t:List α}(h:l=a::t)(hk:K a t=r):Ab l K=r:=by
 subst h;exact hk
theorem Ay {α:Type}{l:List α}{K:Option R}(h:l=[]) (hk:K=r):Ac l K=r:=by
 subst h;exact hk
theorem B9 {p:PV}{K:List PV->Option R}{c:List PV}(h:p=.agg c)(hk:K c=r):Dh p K=r:=by
 subst h;exact hk
theorem Ac0 {p:PV}{K:List PV->Option R}{c:List PV}(h:p=.pbox c)(hk:K c=r):Xw p K=r:=by
 subst h;exact hk
theorem Ao {o:Option At}{K:List PV->List (List PV)->Option R} {v:List PV}{q:List (List PV)} (h:o=some ⟨v,q⟩)(hk:K v q=r):Ag o K=r:=by
 subst h;exact hk
theorem RN {x y:Option R}(hx:x=r)(hy:y=r):Xu x y=r:=by subst hx;subst hy;unfold Xu;simp
end
theorem GY (a b:Int):(a != b)=decide (a≠b):=by by_cases h:a=b<;>simp [h,bne]
theorem Afs (a b:Int):(a==b)=decide (a=b):=by by_cases h:a=b<;>simp [h]
section
variable {R:Type}
theorem Acr (v:List PV)(o:List (List PV)) (K:List PV->List (List PV)->Option R):Ag (some ⟨v,o⟩) K=K v o:=by exact id rfl
theorem Ahe {α:Type}(K:Option R):Ac ([]:List α) K=K:=by exact id rfl
theorem Adb {α:Type}(a:α)(r:List α)(K:α->List α->Option R):Ab (a::r) K=K a r:=by exact id rfl
theorem Ac8 (b:Bool)(K:Bool->Option R):Bm (.sc (.bool b)) K=K b:=by exact id rfl
theorem Ahw (s:ByteArray)(K:ByteArray->Option R):Cw (.sc (.string s)) K=K s:=by exact id rfl
theorem RZ (k:IntKind)(n:Int)(K:Int->Option R):Ad k (.sc (.int k n)) K=K n:=by unfold Ad;simp
theorem Af4 (k:IntKind)(n:Int)(K:IntKind->Int->Option R):Dm (.sc (.int k n)) K=K k n:=by exact id rfl
theorem Amo (z:Bool)(es n:Nat)(c:List PV)(K:Bool->Nat->List PV->Option R):Ha es (.lst z es n c) K=K z n c:=by unfold Ha;simp
theorem Al9 (es n:Nat)(c:List PV)(K:Nat->List PV->Option R):Ea es (.own es n c) K=K n c:=by unfold Ea;simp
theorem Ag5 (c:List PV)(K:List PV->Option R):Dh (.agg c) K=K c:=by exact id rfl
theorem Acy (c:List PV)(K:List PV->Option R):Xw (.pbox c) K=K c:=by exact id rfl
theorem Ain {α:Type}(a:α)(K:α->Option R):Ek (some a) K=K a:=by exact id rfl
theorem Gw {α:Type}(a:α)(K:α->Option R):Aa a K=K a:=by exact id rfl
theorem Aid (K:Option R):Ap true K=K:=by exact id rfl
theorem TT (p:Prop) [Decidable p] (K:Option R)(h:p):Ap (decide p) K=K:=by simp [Ap,h]
theorem Ab5 (b c:Bool)(K:Option R):Ap (b&&c) K=Ap b (Ap c K):=by cases b<;>rfl
theorem ZT (x y:Option R):Bb true x y=x:=by exact id rfl
theorem Aap (x y:Option R):Bb false x y=y:=by exact id rfl
theorem JO (p:Prop) [Decidable p] (x y:Option R)(h:p):Bb (decide p) x y=x:=by simp [Bb,h]
theorem Da (p:Prop) [Decidable p] (x y:Option R)(h:¬p):Bb (decide p) x y=y:=by simp [Bb,h]
theorem EB (p:Prop) [Decidable p] (x y:Option R):Bb (decide p) x y=if p then x else y:=by by_cases h:p<;>simp [Bb,h]
theorem Ed (a b:Int)(x y:Option R):Bb (a==b) x y=if a=b then x else y:=by
 rw [Afs,EB]
theorem Ds (a b:Int)(x y:Option R):Bb (a != b) x y=if a=b then y else x:=by
 rw [GY,EB];by_cases h:a=b<;>simp [h]
theorem Acz (x:Option R):Xu x x=x:=by unfold Xu;simp
end
theorem Ak {x:Int}(h1: -9223372036854775808<=x)(h2:x<=9223372036854775807):IntKind.wrap .i64 x=x:=by
 have:=IntWalk.i64_in x (by omega)
 exact this
theorem Ci {x:Int}(h1:0<=x)(h2:x<=18446744073709551615):IntKind.wrap .u64 x=x:=by
 simp only [IntKind.wrap,IntKind.signed,IntKind.bits];simp;omega
theorem Fj {x:Int}(h1:0<=x)(h2:x<=255):IntKind.wrap .u8 x=x:=by
 simp only [IntKind.wrap,IntKind.signed,IntKind.bits];simp;omega
theorem Bc (x:Int):0<=IntKind.wrap .u64 x∧IntKind.wrap .u64 x<=18446744073709551615:=by
 simp only [IntKind.wrap,IntKind.signed,IntKind.bits];simp;omega
theorem Ck {α:Type}{l r:List α}{x:α}{i:Nat}(h:l.drop i=x::r):i<l.length∧l[i]?=some x∧l.drop (i+1)=r:=by
 have h1:i<l.length:=by
  rcases Nat.lt_or_ge i l.length with h1|h1
  ·exact h1
  ·rw [List.drop_of_length_le h1] at h;cases h
 rw [List.drop_eq_getElem_cons h1] at h;injection h with h2 h3;exact ⟨h1,by rw [List.getElem?_eq_getElem h1,h2],h3⟩
theorem drop_nil {α:Type}{l:List α}{i:Nat}(h:l.drop i=[]):l.length<=i:=by
 have:=congrArg List.length h;simp at this;omega
section
variable {α:Type} {f:α->List PV} {k:Nat}
theorem RG (hf:∀x,(f x).length=k):∀(l:List α),(l.flatMap f).length=l.length*k
 |[]=>by simp
 |x::l=>by simp [hf x,RG hf l,Nat.succ_mul];omega
theorem TP (hf:∀x,(f x).length=k):∀(l:List α)(i:Nat),(l.flatMap f).drop (i*k)=(l.drop i).flatMap f
 |l,0=>by simp
 |[],i+1=>by simp
 |x::l,i+1=>by
  rw [List.flatMap_cons,Nat.succ_mul,Nat.add_comm,←List.drop_drop,List.drop_append_of_le_length (by rw [hf x];omega)]
  rw [show (f x).drop k=[] from List.drop_of_length_le (by rw [hf x];omega),List.nil_append]
  exact TP hf l i
theorem Ace (hf:∀x,(f x).length=k):∀(l:List α)(i:Nat),(l.flatMap f).take (i*k)=(l.take i).flatMap f
 |l,0=>by simp
 |[],i+1=>by simp
 |x::l,i+1=>by
  rw [List.flatMap_cons,Nat.succ_mul,Nat.add_comm,List.take_succ_cons,List.flatMap_cons,←Ace hf l i];rw [show k+i*k=(f x).length+i*k by rw [hf x],List.take_length_add_append]
theorem D3 (hf:∀x,(f x).length=k) {l:List α}{i:Nat}{x:α}(h:l[i]?=some x) {j:Nat}(hj:j<k):(l.flatMap f).getD (i*k+j) .top=(f x).getD j .top:=by
 have h1:((l.flatMap f).drop (i*k))[j]?=(l.flatMap f)[i*k+j]?:=List.getElem?_drop;rw [TP hf] at h1
 have h2:i<l.length:=by
  rcases Nat.lt_or_ge i l.length with h1|h1
  ·exact h1
  ·rw [List.getElem?_eq_none h1] at h;cases h
 rw [List.drop_eq_getElem_cons h2,List.flatMap_cons] at h1;have h3:l[i]=x:=by rw [List.getElem?_eq_getElem h2] at h;injection h
 rw [h3,List.getElem?_append_left (by rw [hf x];exact hj)] at h1
 simp only [List.getD_eq_getElem?_getD,←h1]
theorem Fa {c:List PV}{p:PV}{i:Nat}(h:i<c.length):Bf c [p] i=c.set i p:=by
 unfold Bf;rw [List.set_eq_take_append_cons_drop,if_pos h];simp
end
theorem Amr {α:Type}{l:List α}{i:Nat}{x:α}(h:l[i]?=some x):i<l.length:=by
 rcases Nat.lt_or_ge i l.length with h1|h1
 ·exact h1
 ·rw [List.getElem?_eq_none h1] at h;cases h
abbrev Am3 (k:IntKind)(n:Int):List PV:=[.sc (.int k n)]
abbrev Af (k:IntKind)(l:List Int):List PV:=l.flatMap (Am3 k)
theorem CG (k:IntKind)(n:Int):(Am3 k n).length=1:=rfl
theorem Uh {k:IntKind}{l:List Int}{i:Nat}{n:Int}(h:l[i]?=some n):(Af k l).getD i .top=.sc (.int k n):=by
 have:=D3 (CG k) h (j:=0) (by omega)
 simpa using this
theorem Aj (k:IntKind)(l:List Int):(Af k l).length=l.length:=by rw [RG (CG k)];omega
theorem E6 (k:IntKind)(l:List Int)(n:Int):Af k l++[.sc (.int k n)]=Af k (l++[n]):=by simp
theorem Jf (k:IntKind)(l:List Int):List.take l.length (Af k l)=Af k l:=List.take_of_length_le (by rw [Aj];omega)
theorem Br:type_of% @Acr∧type_of% @Ahe∧type_of% @Adb∧type_of% @Ac8∧type_of% @Ahw∧type_of% @RZ∧type_of% @Af4∧type_of% @Amo∧type_of% @Al9∧type_of% @Ag5∧type_of% @Acy∧type_of% @Ain∧type_of% @Gw∧type_of% @Aid∧type_of% @TT∧type_of% @Ab5∧type_of% @ZT∧type_of% @Aap∧type_of% @JO∧type_of% @Da∧type_of% @Acz∧type_of% @Bool.not_true∧type_of% @Bool.not_false∧type_of% @Bool.false_eq_true∧type_of% @if_true.{1}∧type_of% @if_false.{1}∧type_of% @Bool.true_and∧type_of% @Bool.and_true∧type_of% @Bool.false_and∧type_of% @Bool.and_false∧type_of% @decide_true∧type_of% @decide_false:=
 ⟨@Acr,@Ahe,@Adb,@Ac8,@Ahw,@RZ,@Af4,@Amo,@Al9,@Ag5,@Acy,@Ain,@Gw,@Aid,@TT,@Ab5,@ZT,@Aap,@JO,@Da,@Acz,@Bool.not_true,@Bool.not_false,@Bool.false_eq_true,@if_true.{1},@if_false.{1},@Bool.true_and,@Bool.and_true,@Bool.false_and,@Bool.and_false,@decide_true,@decide_false⟩
theorem gT:type_of% @Bool.and_eq_true∧type_of% @decide_eq_true_eq∧type_of% @beq_iff_eq.{0}∧type_of% @bne_iff_ne.{0}∧type_of% @ne_eq.{1}∧type_of% @Bool.not_eq_true'∧type_of% @true_and∧type_of% @and_true:=
 ⟨@Bool.and_eq_true,@decide_eq_true_eq,@beq_iff_eq.{0},@bne_iff_ne.{0},@ne_eq.{1},@Bool.not_eq_true',@true_and,@and_true⟩
theorem gF:type_of% @decide_eq_false_iff_not∧type_of% @beq_eq_false_iff_ne.{0}∧type_of% @bne_eq_false_iff_eq.{0}∧type_of% @ne_eq.{1}∧type_of% @Bool.not_eq_false':=
 ⟨@decide_eq_false_iff_not,@beq_eq_false_iff_ne.{0},@bne_eq_false_iff_eq.{0},@ne_eq.{1},@Bool.not_eq_false'⟩
end
section
open Go.RowKit
def Bj {α β:Type}(R:α->β->Prop):List α->List β->Prop
 |[],[]=>True
 |a::zs,b::bs=>R a b∧Bj R zs bs
 |_,_=>False
section
variable {α β γ:Type} {R S:α->β->Prop}
theorem Bj.len:∀{zs:List α}{bs:List β},Bj R zs bs->zs.length=bs.length
 |[],[],_=>rfl
 |_::_,_::_,h=>by simp [Bj.len h.2]
 |[],_::_,h=>h.elim
 |_::_,[],h=>h.elim
theorem Bj.at_:∀{zs:List α}{bs:List β},Bj R zs bs->∀{i:Nat} {a b},zs[i]?=some a->bs[i]?=some b->R a b
 |[],[],_,i,a,b,h,_=>by simp at h
 |_::_,_::_,h,0,a,b,ha,hb=>by simp at ha hb;subst ha;subst hb;exact h.1
 |_::_,_::_,h,i+1,a,b,ha,hb=>by simp at ha hb;exact Bj.at_ h.2 ha hb
 |[],_::_,h,_,_,_,_,_=>h.elim
 |_::_,[],h,_,_,_,_,_=>h.elim
theorem Bj.of_at:∀{zs:List α}{bs:List β},zs.length=bs.length->(∀(i:Nat) a b,zs[i]?=some a->bs[i]?=some b->R a b)->Bj R zs bs
 |[],[],_,_=>trivial
 |a::zs,b::bs,hl,h=>⟨h 0 a b rfl rfl,Bj.of_at (by simpa using hl) fun i x y hx hy=>h (i+1) x y hx hy⟩
 |[],_::_,hl,_=>by simp at hl
 |_::_,[],hl,_=>by simp at hl
theorem Bj.mono (hRS:∀a b,R a b->S a b):∀{zs:List α}{bs:List β},Bj R zs bs->Bj S zs bs
 |[],[],_=>trivial
 |_::_,_::_,h=>⟨hRS _ _ h.1,Bj.mono hRS h.2⟩
 |[],_::_,h=>h.elim
 |_::_,[],h=>h.elim
theorem Bj.mono_mem:∀{zs:List α}{bs:List β},(∀a∈zs,∀b,R a b->S a b)->Bj R zs bs->Bj S zs bs
 |[],[],_,_=>trivial
 |a::_,_::_,hRS,h=>⟨hRS a (by simp) _ h.1,Bj.mono_mem (fun x hx=>hRS x (by simp [hx])) h.2⟩
 |[],_::_,_,h=>h.elim
 |_::_,[],_,h=>h.elim
theorem Bj.app:∀{zs:List α}{bs:List β}{as':List α}{bs':List β},Bj R zs bs->Bj R as' bs'->Bj R (zs++as') (bs++bs')
 |[],[],_,_,_,h'=>h'
 |_::_,_::_,_,_,h,h'=>⟨h.1,Bj.app h.2 h'⟩
 |[],_::_,_,_,h,_=>h.elim
 |_::_,[],_,_,h,_=>h.elim
theorem Bj.take:∀(n:Nat){zs:List α}{bs:List β},Bj R zs bs->Bj R (zs.take n) (bs.take n)
 |0,_,_,_=>by simp [Bj]
 |_+1,[],[],_=>trivial
 |n+1,_::_,_::_,h=>⟨h.1,Bj.take n h.2⟩
 |_+1,[],_::_,h=>h.elim
 |_+1,_::_,[],h=>h.elim
theorem Bj.drop:∀(n:Nat){zs:List α}{bs:List β},Bj R zs bs->Bj R (zs.drop n) (bs.drop n)
 |0,_,_,h=>h
 |_+1,[],[],_=>trivial
 |n+1,_::_,_::_,h=>Bj.drop n h.2
 |_+1,[],_::_,h=>h.elim
 |_+1,_::_,[],h=>h.elim
end
inductive A4 (w:World) (A:Nat->Prop):PV->Value->Prop where
 |sc (v:Value):A4 w A (.sc v) v
 |top (v:Value):A4 w A .top v
 |ub (b:Bool):A4 w A .ub (.bool b)
 |lnil (z:Bool) (es:Nat):A4 w A (.lst z es 0 []) (.slice none 0 0)
 |lemp (es:Nat) (a:Addr) (cap:Nat):A4 w A (.lst false es 0 []) (.slice (some a) 0 cap)
 |lst (es n:Nat) (cells:List PV) (a:Addr) (cap:Nat) (f:Nat->Value) (hs:a.spot=none) (hb:a.block<w.heap.size) (hA:¬A a.block) (hn:n<=cap)
   (hc:∀j c,cells[j]?=some c->w.cell? (a.add j)=some (f j)) (h1:∀j c,cells[j]?=some c->(f j).oneCell'=true) (hr:∀j c,cells[j]?=some c->A4 w A c (f j)):A4 w A (.lst false es n cells) (.slice (some a) n cap)
def bsz (w:World)(b:Nat):Nat:=
 match w.heap[b]? with
 |some (.cells c _ _)=>c.size
 |_=>0
def OW (w:World)(A:Nat->Prop)(a:Addr)(cells:List PV):Prop:=∀j c,cells[j]?=some c->∃v,w.cell? (a.add j)=some v∧v.oneCell'=true∧A4 w A c v
def B6 (w:World)(A:Nat->Prop)(β:Nat->Option (Nat × Nat)) (p:PV)(v:Value):Prop:=
 match p with
 |.view id es off n=>(β id=none∧off=0∧n=0∧v=.slice none 0 0) ∨
   ∃b o x cap,β id=some (b,o)∧v=.slice (some ⟨b,x,none⟩) n cap∧(x=o+off∨(n=0∧off≠0))∧n<=cap∧x+cap*es<=bsz w b∧b<w.heap.size
 |.ptr id off=>∃b o,β id=some (b,o)∧v=.pointer (some ⟨b,o+off,none⟩)
 |.iptr c off=>∃a:Addr,v=.pointer (some (a.add off))∧a.spot=none∧a.block<w.heap.size∧¬A a.block∧OW w A a c
 |p=>A4 w A p v
def Gg (w:World)(A:Nat->Prop)(β:Nat->Option (Nat × Nat)) (p:PV)(v:Value):Prop:=
 match p with
 |.agg cs=>∃vs,v=.agg ⟨vs⟩∧Bj (B6 w A β) cs vs
 |p=>B6 w A β p v
def Dl (w:World)(A:Nat->Prop)(β:Nat->Option (Nat × Nat)) (p:PV)(v:Value):Prop:=
 match p with
 |.tup ps=>∃vs,v=.tuple ⟨vs⟩∧Bj (Gg w A β) ps vs
 |p=>Gg w A β p v
structure B5 (A:Nat->Prop) (w w':World):Prop where
 size:w.heap.size<=w'.heap.size
 keep:∀b,b<w.heap.size->¬A b->w'.heap[b]?=w.heap[b]?
 bs:∀b,b<w.heap.size->bsz w b<=bsz w' b
theorem Fn (a:Addr)(j:Nat):(a.add j).block=a.block:=by unfold Addr.add;split<;>rfl
theorem add_add (a:Addr)(i j:Nat):(a.add i).add j=a.add (i+j):=by
 unfold Addr.add;by_cases hi:i=0<;>by_cases hj:j=0<;>simp [hi,hj,Nat.add_assoc]
theorem Du (b o j:Nat):(⟨b,o,none⟩:Addr).add j=⟨b,o+j,none⟩:=by
 unfold Addr.add;by_cases hj:j=0<;>simp [hj]
theorem Agf {a:Addr}(h:a.spot=none)(j:Nat):(a.add j).spot=none:=by unfold Addr.add;split<;>simp [h]
section
variable {w w':World} {A A':Nat->Prop} {β β':Nat->Option (Nat × Nat)}
theorem B5.cell (h:B5 A w w'){a:Addr}(hb:a.block<w.heap.size)(hA:¬A a.block):w'.cell? a=w.cell? a:=
 World.cell?_of_block (h.keep a.block hb hA)
theorem A4.step (h:B5 A w w')(hA:∀b,b<w.heap.size->A' b->A b){p:PV}{v:Value}(t:A4 w A p v):A4 w' A' p v:=by
 induction t with
 |sc v=>exact .sc v
 |top v=>exact .top v
 |ub b=>exact .ub b
 |lnil z es=>exact .lnil z es
 |lemp es a cap=>exact .lemp es a cap
 |lst es n cells a cap f hs hb hA1 hn hc h1 hr ih=>
  refine .lst es n cells a cap f hs (Nat.lt_of_lt_of_le hb h.size) (fun x=>hA1 (hA _ hb x)) hn (fun j c hj=>?_) h1 (fun j c hj=>ih j c hj)
  rw [h.cell (by rw [Fn];exact hb) (by rw [Fn];exact hA1)]
  exact hc j c hj
theorem OW.step (h:B5 A w w')(hA:∀b,b<w.heap.size->A' b->A b){a:Addr}(hb:a.block<w.heap.size)(hn:¬A a.block){cells:List PV}(t:OW w A a cells):OW w' A' a cells:=by
 intro j c hj;obtain ⟨v,hv,h1,ht⟩:=t j c hj;exact ⟨v,by rw [h.cell (by rw [Fn];exact hb) (by rw [Fn];exact hn)];exact hv,h1,ht.step h hA⟩
theorem B6.step (h:B5 A w w')(hA:∀b,b<w.heap.size->A' b->A b){p:PV}{v:Value}(hβ:∀id∈Ar p,β' id=β id)(t:B6 w A β p v):B6 w' A' β' p v:=by
 cases p with
 |view id es off n=>
  have e:=hβ id (by simp [Ar])
  rcases t with ⟨h1,h2,h3,h4⟩|⟨b,o,x,cap,h1,h2,hx,h3,h4,h5⟩
  ·exact .inl ⟨by rw [e];exact h1,h2,h3,h4⟩
  ·exact .inr ⟨b,o,x,cap,by rw [e];exact h1,h2,hx,h3,Nat.le_trans h4 (h.bs b h5),Nat.lt_of_lt_of_le h5 h.size⟩
 |ptr id off=>
  have e:=hβ id (by simp [Ar])
  obtain ⟨b,o,h1,h2⟩:=t;exact ⟨b,o,by rw [e];exact h1,h2⟩
 |iptr c off=>
  obtain ⟨a,h1,h2,h3,h4,h5⟩:=t;exact ⟨a,h1,h2,Nat.lt_of_lt_of_le h3 h.size,fun x=>h4 (hA _ h3 x),h5.step h hA h3 h4⟩
 |sc v=>exact A4.step h hA t
 |lst z es n c=>exact A4.step h hA t
 |own es n c=>exact A4.step h hA t
 |pbox c=>exact A4.step h hA t
 |agg c=>exact A4.step h hA t
 |tup c=>exact A4.step h hA t
 |top=>exact A4.step h hA t
 |ub=>exact A4.step h hA t
theorem Gg.step (h:B5 A w w')(hA:∀b,b<w.heap.size->A' b->A b){p:PV}{v:Value}(hβ:∀id∈B8 p,β' id=β id)(t:Gg w A β p v):Gg w' A' β' p v:=by
 cases p with
 |agg cs=>
  obtain ⟨vs,rfl,h2⟩:=t;exact ⟨vs,rfl,h2.mono_mem fun c hc v hv=>hv.step h hA fun id hid=>hβ id (by simp only [B8,List.mem_flatMap];exact ⟨c,hc,hid⟩)⟩
 |sc x=>exact B6.step (p:=.sc x) h hA hβ t
 |lst x y z u=>exact B6.step (p:=.lst x y z u) h hA hβ t
 |own x y z=>exact B6.step (p:=.own x y z) h hA hβ t
 |view x y z u=>exact B6.step (p:=.view x y z u) h hA hβ t
 |ptr x y=>exact B6.step (p:=.ptr x y) h hA hβ t
 |iptr x y=>exact B6.step (p:=.iptr x y) h hA hβ t
 |pbox x=>exact B6.step (p:=.pbox x) h hA hβ t
 |tup x=>exact B6.step (p:=.tup x) h hA hβ t
 |top=>exact B6.step (p:=.top) h hA hβ t
 |ub=>exact B6.step (p:=.ub) h hA hβ t
theorem Dl.step (h:B5 A w w')(hA:∀b,b<w.heap.size->A' b->A b){p:PV}{v:Value}(hβ:∀id∈Bq p,β' id=β id)(t:Dl w A β p v):Dl w' A' β' p v:=by
 cases p with
 |tup cs=>
  obtain ⟨vs,rfl,h2⟩:=t;exact ⟨vs,rfl,h2.mono_mem fun c hc v hv=>hv.step h hA fun id hid=>hβ id (by simp only [Bq,List.mem_flatMap];exact ⟨c,hc,hid⟩)⟩
 |sc x=>exact Gg.step (p:=.sc x) h hA hβ t
 |lst x y z u=>exact Gg.step (p:=.lst x y z u) h hA hβ t
 |own x y z=>exact Gg.step (p:=.own x y z) h hA hβ t
 |view x y z u=>exact Gg.step (p:=.view x y z u) h hA hβ t
 |ptr x y=>exact Gg.step (p:=.ptr x y) h hA hβ t
 |iptr x y=>exact Gg.step (p:=.iptr x y) h hA hβ t
 |pbox x=>exact Gg.step (p:=.pbox x) h hA hβ t
 |top=>exact Gg.step (p:=.top) h hA hβ t
 |ub=>exact Gg.step (p:=.ub) h hA hβ t
 |agg x=>exact Gg.step (p:=.agg x) h hA hβ t
theorem B5.refl (A:Nat->Prop)(w:World):B5 A w w:=⟨Nat.le_refl _,fun _ _ _=>rfl,fun _ _=>Nat.le_refl _⟩
theorem OW.weak (hA:∀b,b<w.heap.size->A' b->A b){a:Addr}{cells:List PV}(t:OW w A a cells):OW w A' a cells:=by
 intro j c hj;obtain ⟨v,hv,h1,ht⟩:=t j c hj;exact ⟨v,hv,h1,ht.step (B5.refl A w) hA⟩
theorem B5.trans {w'':World}(h:B5 A w w')(h':B5 A' w' w'')(hA:∀b,b<w.heap.size->A' b->A b):B5 A w w'':=
  ⟨Nat.le_trans h.size h'.size,fun b hb hn=>(h'.keep b (Nat.lt_of_lt_of_le hb h.size) (fun x=>hn (hA b hb x))).trans (h.keep b hb hn),
   fun b hb=>Nat.le_trans (h.bs b hb) (h'.bs b (Nat.lt_of_lt_of_le hb h.size))⟩
theorem B5.weaken (h:B5 A w w')(hA:∀b,b<w.heap.size->A b->A' b):B5 A' w w':=⟨h.size,fun b hb hn=>h.keep b hb (fun x=>hn (hA b hb x)),h.bs⟩
end
section
variable {R:Type} {r:R}
theorem Hi {k:IntKind}{p:PV}{K:Int->Option R}(h:Ad k p K=some r):∃n,p=.sc (.int k n)∧K n=some r:=by
 unfold Ad at h;split at h
 ·split at h
  ·rename_i hk;subst hk;exact ⟨_,rfl,h⟩
  ·cases h
 ·cases h
theorem Gk {p:PV}{K:Bool->Option R}(h:Bm p K=some r):∃b,p=.sc (.bool b)∧K b=some r:=by
 unfold Bm at h;split at h
 ·exact ⟨_,rfl,h⟩
 ·cases h
theorem Fv {p:PV}{K:ByteArray->Option R}(h:Cw p K=some r):∃b,p=.sc (.string b)∧K b=some r:=by
 unfold Cw at h;split at h
 ·exact ⟨_,rfl,h⟩
 ·cases h
theorem Dc {p:PV}{K:IntKind->Int->Option R}(h:Dm p K=some r):∃k n,p=.sc (.int k n)∧K k n=some r:=by
 unfold Dm at h;split at h
 ·exact ⟨_,_,rfl,h⟩
 ·cases h
theorem Aq {b:Bool}{K:Option R}(h:Ap b K=some r):b=true∧K=some r:=by
 unfold Ap at h;cases b
 ·cases h
 ·exact ⟨rfl,h⟩
theorem Cz {α:Type}{o:Option α}{K:α->Option R}(h:Ek o K=some r):∃a,o=some a∧K a=some r:=by
 unfold Ek at h;split at h
 ·exact ⟨_,rfl,h⟩
 ·cases h
theorem Bd {α:Type}{l:List α}{K:α->List α->Option R}(h:Ab l K=some r):∃a t,l=a::t∧K a t=some r:=by
 unfold Ab at h;split at h
 ·exact ⟨_,_,rfl,h⟩
 ·cases h
theorem Dk {α:Type}{l:List α}{K:Option R}(h:Ac l K=some r):l=[]∧K=some r:=by
 unfold Ac at h;split at h
 ·exact ⟨rfl,h⟩
 ·cases h
theorem Hr {p:PV}{K:List PV->Option R}(h:Dh p K=some r):∃c,p=.agg c∧K c=some r:=by
 unfold Dh at h;split at h
 ·exact ⟨_,rfl,h⟩
 ·cases h
theorem QN {p:PV}{K:List PV->Option R}(h:Xw p K=some r):∃c,p=.pbox c∧K c=some r:=by
 unfold Xw at h;split at h
 ·exact ⟨_,rfl,h⟩
 ·cases h
theorem RM {p:PV}{K:Value->Option R}(h:fnK p K=some r):∃f a b,p=.sc (.func f a b)∧K (.func f a b)=some r:=by
 unfold fnK at h;split at h
 ·exact ⟨_,_,_,rfl,h⟩
 ·cases h
theorem Ald {p:PV}{K:FuncId->Option R}(h:fvK p K=some r):∃f,p=.sc (.func (.func f) #[] #[])∧K f=some r:=by
 unfold fvK at h;split at h
 ·rename_i f a b;cases hb:(a.isEmpty&&b.isEmpty)<;>rw [hb] at h
  ·cases h
  ·simp only [Bool.and_eq_true,Array.isEmpty_iff] at hb;rw [hb.1,hb.2];exact ⟨f,rfl,h⟩
 ·cases h
theorem OH {o:Option At}{K:List PV->List (List PV)->Option R} (h:Ag o K=some r):∃v x,o=some ⟨v,x⟩∧K v x=some r:=by
 unfold Ag at h;split at h
 ·exact ⟨_,_,rfl,h⟩
 ·cases h
theorem Nm {b:Bool}{x y:Option R}(h:Bb b x y=some r):(b=true∧x=some r)∨(b=false∧y=some r):=by
 unfold Bb at h;cases b
 ·exact .inr ⟨rfl,h⟩
 ·exact .inl ⟨rfl,h⟩
theorem F9 {es:Nat}{p:PV}{K:Bool->Nat->List PV->Option R}(h:Ha es p K=some r):
  ∃z n c,K z n c=some r∧(p=.lst z es n c∨(p=.sc (.slice none 0 0)∧z=true∧n=0∧c=[])):=by
 unfold Ha at h;split at h
 ·rename_i z es' n c;cases hb:Nat.beq es' es
  ·rw [hb] at h;cases h
  ·rw [hb] at h;have:=Nat.eq_of_beq_eq_true hb;subst this;exact ⟨z,n,c,h,.inl rfl⟩
 ·exact ⟨true,0,[],h,.inr ⟨rfl,rfl,rfl,rfl⟩⟩
 ·cases h
def Zi:PV->Prop
 |.sc _=>True
 |.lst _ _ _ _=>True
 |_=>False
def NH:PV->Prop
 |.sc _=>True
 |.lst _ _ _ _=>True
 |.view _ _ _ _=>True
 |_=>False
theorem Wc {c:PV}(h:Zi c):NH c:=by
 cases c<;>first|trivial|exact h.elim
theorem I7 {c:PV}(h:Zi c):Ar c=[]:=by
 cases c<;>first|rfl|exact h.elim
variable {w:World} {A:Nat->Prop} {β:Nat->Option (Nat × Nat)}
theorem O9 {c:PV}{v:Value}(h:Zi c):B6 w A β c v↔A4 w A c v:=by
 cases c<;>first|exact Iff.rfl|exact h.elim
theorem Te {c:PV}{v:Value}(h:∀cs,c ≠ .agg cs):Gg w A β c v↔B6 w A β c v:=by
 cases c<;>first|exact Iff.rfl|exact absurd rfl (h _)
theorem Ns {c:PV}{v:Value}(h:∀cs,c ≠ .tup cs):Dl w A β c v↔Gg w A β c v:=by
 cases c<;>first|exact Iff.rfl|exact absurd rfl (h _)
theorem HP {c:PV}(h:Zi c)(cs:List PV):c ≠ .agg cs:=by rintro rfl;exact h
theorem Ack {c:PV}(h:Zi c)(cs:List PV):c ≠ .tup cs:=by rintro rfl;exact h
theorem A4.val {v u:Value}(h:A4 w A (.sc v) u):u=v:=by cases h;rfl
theorem X7 {es n:Nat}{z:Bool}{c:List PV}{p:PV}{v:Value}(h:p=.lst z es n c∨(p=.sc (.slice none 0 0)∧z=true∧n=0∧c=[])) (hv:B6 w A β p v):A4 w A (.lst z es n c) v:=by
 rcases h with rfl|⟨rfl,rfl,rfl,rfl⟩
 ·exact hv
 ·have:=A4.val (w:=w) (A:=A) hv;subst this;exact .lnil true es
theorem Nn {t:CT}{p:PV}{K:PV->Option R}(h:DV t p K=some r):
  ∃c,K c=some r∧Zi c∧Zi p∧∀(w:World) (A:Nat->Prop) (β:Nat->Option (Nat × Nat)) (v:Value),B6 w A β p v->A4 w A c v∧v.oneCell'=true:=by
 cases t with
 |int k=>obtain ⟨n,rfl,h2⟩:=Hi h;exact ⟨_,h2,trivial,trivial,fun w A β v hv=>⟨hv,by have:=A4.val (w:=w) (A:=A) hv;subst this;rfl⟩⟩
 |bool=>obtain ⟨n,rfl,h⟩:=Gk h;exact ⟨_,h,trivial,trivial,fun w A β v hv=>⟨hv,by have:=A4.val (w:=w) (A:=A) hv;subst this;rfl⟩⟩
 |str=>obtain ⟨n,rfl,h⟩:=Fv h;exact ⟨_,h,trivial,trivial,fun w A β v hv=>⟨hv,by have:=A4.val (w:=w) (A:=A) hv;subst this;rfl⟩⟩
 |sl es=>
  obtain ⟨z,n,c,h,hp⟩:=F9 h;refine ⟨_,h,trivial,?_,fun w A β v hv=>⟨X7 hp hv,?_⟩⟩
  ·rcases hp with rfl|⟨rfl,_⟩<;>trivial
  ·have ht:=X7 hp hv;cases ht<;>rfl
 |any=>
  obtain ⟨f,a,b,rfl,h2⟩:=RM (show fnK p (fun v=>K (.sc v))=some r from h)
  exact ⟨_,h2,trivial,trivial,fun w A β v hv=>⟨hv,by have:=A4.val (w:=w) (A:=A) hv;subst this;rfl⟩⟩
theorem Ak6 {t:CT}{p:PV}{K:PV->Option R}(h:fcK t p K=some r):
  ∃c,K c=some r∧(Zi c∨c=p)∧NH p∧p ≠ .top∧(∀cs,c ≠ .agg cs)∧(∀cs,c ≠ .tup cs)∧(∀id,id∈Ar c->id∈Ar p)∧∀(w:World) (A:Nat->Prop) (β:Nat->Option (Nat × Nat)) (v:Value),B6 w A β p v->B6 w A β c v∧v.oneCell'=true:=by
 have tree:∀t',DV t' p K=some r->∃c,K c=some r∧(Zi c∨c=p)∧NH p∧p ≠ .top∧(∀cs,c ≠ .agg cs)∧(∀cs,c ≠ .tup cs)∧(∀id,id∈Ar c->id∈Ar p)∧∀(w:World) (A:Nat->Prop) (β:Nat->Option (Nat × Nat)) (v:Value),B6 w A β p v->B6 w A β c v∧v.oneCell'=true:=by
  intro t' h;obtain ⟨c,h,hc,hp,hv⟩:=Nn h;exact ⟨c,h,.inl hc,Wc hp,by rintro rfl;exact hp,HP hc,Ack hc,by rw [I7 hc];simp,fun w A β v h=>⟨(O9 hc).2 (hv w A β v h).1,(hv w A β v h).2⟩⟩
 cases t with
 |sl es=>
  unfold fcK fsK at h;dsimp only at h;split at h
  ·rename_i id es' off n;cases hb:Nat.beq es' es
   ·rw [hb] at h;cases h
   ·rw [hb] at h;have:=Nat.eq_of_beq_eq_true hb;subst this;exact ⟨_,h,.inr rfl,trivial,by simp,by simp,by simp,fun _ h=>h,fun _ _ _ _ h=>⟨h,by rcases h with ⟨_,_,_,rfl⟩|⟨_,_,_,_,_,rfl,_⟩<;>rfl⟩⟩
  ·exact tree (.sl es) h
 |int k=>exact tree (.int k) h
 |bool=>exact tree (.bool) h
 |str=>exact tree (.str) h
 |any=>exact tree (.any) h
theorem FV {cells:List PV}{i:Nat}{p:PV}(h:cells.getD i .top=p)(hp:p ≠ .top):cells[i]?=some p:=by
 rw [List.getD_eq_getElem?_getD] at h;cases hc:cells[i]? with
 |none=>rw [hc] at h;exact absurd h.symm hp
 |some q=>rw [hc] at h;simp at h;rw [h]
theorem Uy:∀{ts:List CT}{cells:List PV}{off:Nat}{K:List PV->Option R},Vs ts cells off K=some r ->
  ∃cs,K cs=some r∧cs.length=ts.length∧∀j c,cs[j]?=some c->Zi c∧∃p,cells[off+j]?=some p∧Zi p ∧
   ∀(w:World) (A:Nat->Prop) (β:Nat->Option (Nat × Nat)) (v:Value),B6 w A β p v->A4 w A c v∧v.oneCell'=true
 |[],_,_,_,h=>⟨[],h,rfl,fun j c hj=>by simp at hj⟩
 |t::ts,cells,off,K,h=>by
  unfold Vs at h;obtain ⟨c,h,hc,hp,hv⟩:=Nn h;obtain ⟨cs,h,hl,hcs⟩:=Uy h;refine ⟨c::cs,h,by simp [hl],fun j c' hj=>?_⟩
  cases j with
  |zero=>
   simp at hj;subst hj;refine ⟨hc,cells.getD off .top,FV rfl ?_,hp,hv⟩;intro e;rw [e] at hp;exact hp
  |succ j=>
   simp at hj;have:=hcs j c' hj
   rwa [Nat.add_right_comm,Nat.add_assoc] at this
theorem V3:∀{ts:List CT}{cells:List PV}{off:Nat}{K:List PV->Option R},Qt ts cells off K=some r ->
  ∃cs,K cs=some r∧cs.length=ts.length∧(∀c∈cs,(∀x,c ≠ .agg x)∧(∀x,c ≠ .tup x))∧∀j c,cs[j]?=some c->∃p,cells[off+j]?=some p∧NH p∧(∀id,id∈Ar c->id∈Ar p) ∧
   ∀(w:World) (A:Nat->Prop) (β:Nat->Option (Nat × Nat)) (v:Value),B6 w A β p v->B6 w A β c v∧v.oneCell'=true
 |[],_,_,_,h=>⟨[],h,rfl,by simp,fun j c hj=>by simp at hj⟩
 |t::ts,cells,off,K,h=>by
  unfold Qt at h;obtain ⟨c,h,hc,hf,hp,ha,ht,hr,hv⟩:=Ak6 h;obtain ⟨cs,h,hl,hna,hcs⟩:=V3 h;refine ⟨c::cs,h,by simp [hl],?_,fun j c' hj=>?_⟩
  ·intro x hx;rcases List.mem_cons.1 hx with rfl|hx
   ·exact ⟨ha,ht⟩
   ·exact hna x hx
  ·cases j with
   |zero=>
    simp at hj;subst hj;exact ⟨cells.getD off .top,FV rfl hp,hf,hr,hv⟩
   |succ j=>
    simp at hj;have:=hcs j c' hj
    rwa [Nat.add_right_comm,Nat.add_assoc] at this
theorem SU {agg:Bool}{cells:List PV}{K:PV->Option R}(h:mkV agg cells K=some r):
  (agg=true∧K (.agg cells)=some r)∨(agg=false∧∃c,cells=[c]∧K c=some r):=by
 unfold mkV at h;cases agg
 ·obtain ⟨c,t,rfl,h⟩:=Bd h;obtain ⟨rfl,h⟩:=Dk h;exact .inr ⟨rfl,c,rfl,h⟩
 ·exact .inl ⟨rfl,h⟩
end
open Go.RowKit
def Ca (b:Option Bl):Prop:=
 match b with
 |some (.st _)=>True
 |some (.ar false _)=>True
 |_=>False
abbrev Bt:=Nat->Option (Nat × Nat)
def BF (hp:Nat->Option Bl)(β:Bt)(b:Nat):Prop:=∃id o,Ca (hp id)∧β id=some (b,o)
def Co (hp:Nat->Option Bl)(β:Bt)(Y:Nat->Prop)(b:Nat):Prop:=BF hp β b∨Y b
def Rt (w:World)(A:Nat->Prop)(β:Bt)(id:Nat)(bx:Bl):Prop:=
 match bx with
 |.st cells=>∃b o,β id=some (b,o)∧(∀j c,cells[j]?=some c->∃v,w.cell? ⟨b,o+j,none⟩=some v∧B6 w A β c v)∧∀j,j<cells.length->w.frozen? ⟨b,o+j,none⟩=false
 |.ar fz cells=>(β id=none∧cells=[])∨∃b o,β id=some (b,o)∧OW w A ⟨b,o,none⟩ cells∧(fz=false->∀j,o<=j->j<bsz w b->w.frozen? ⟨b,j,none⟩=false)∧(fz=true->¬A b)
 |.mv=>True
structure Ew where
 X:Nat->Prop
 L:Nat->Nat->Prop
 pn:Nat->Prop
 pt:Nat->Option (Nat × Nat)
 p8:∀i,pn i->i<8
def BR (bx:Bl)(o j:Nat):Prop:=
 match bx with
 |.st c=>o<=j∧j<o+c.length
 |.ar _ _=>o<=j
 |.mv=>False
structure Fr (X0:Ew) (w0 w:World):Prop where
 os:w.os=w0.os
 tape:w.tape=w0.tape
 output:w.output=w0.output
 step:B5 X0.X w0 w
 rng:∀b j,b<w0.heap.size->¬X0.L b j->w.cell? ⟨b,j,none⟩=w0.cell? ⟨b,j,none⟩∧w.frozen? ⟨b,j,none⟩=w0.frozen? ⟨b,j,none⟩
structure Bu (N:Nat) (w0:World) (X0:Ew) (Y:Nat->Prop) (β:Bt) (s:St) (a:Act) (w:World):Prop where
 dfr:a.defers=[]
 tsz:a.tmps.size=N
 tmo:∀i,N<=i->s.tm i=.top
 tms:∀i,i<N->Dl w (Co s.hp β Y) β (s.tm i) (a.tmps.getD i undef)
 box:∀id b,s.hp id=some b->Rt w (Co s.hp β Y) β id b
 inj:∀id id' b o o',Ca (s.hp id)->Ca (s.hp id')->β id=some (b,o)->β id'=some (b,o')->id=id'
 blt:∀id b o,s.hp id≠none->β id=some (b,o)->b<w.heap.size
 wfT:∀i,i<N->∀id∈Bq (s.tm i),s.hp id≠none
 wfB:∀id cells,s.hp id=some (.st cells)->∀c∈cells,∀id'∈Ar c,s.hp id'≠none
 ownd:∀b,BF s.hp β b->X0.X b∨w0.heap.size<=b
 rngB:∀id bx b o,s.hp id=some bx->Ca (some bx)->β id=some (b,o)->b<w0.heap.size->∀j,BR bx o j->X0.L b j
 pin:∀i,X0.pn i->s.hp (Cs N i)≠none∧β (Cs N i)=X0.pt i
 stp:∀id c b o,s.hp id=some (.st c)->β id=some (b,o)->b<w0.heap.size->∃i,id=Cs N i∧X0.pn i
 Yx:∀b,Y b->¬BF s.hp β b
 Ylt:∀b,Y b->b<w0.heap.size
 fr:Fr X0 w0 w
theorem Cp {b:Option Bl}(h:Ca b):b≠none:=by rintro rfl;exact h
theorem As {α:Type}(f:Nat->α)(i:Nat)(v:α):Cn f i v i=v:=by simp [Cn,Nat.beq_refl]
theorem Al {α:Type}(f:Nat->α){i j:Nat}(v:α)(h:j≠i):Cn f i v j=f j:=by
 have:Nat.beq j i=false:=by
  cases hb:Nat.beq j i
  ·rfl
  ·exact absurd (Nat.eq_of_beq_eq_true hb) h
 simp [Cn,this]
theorem AW {α:Type}(f:Nat->α){i:Nat}{v:α}(h:f i=v):Cn f i v=f:=by
 funext j
 by_cases e:j=i
 ·subst e;rw [As];exact h.symm
 ·exact Al f v e
theorem WP {α:Type}(f:Nat->α){i j:Nat}(u v:α)(h:i≠j):Cn (Cn f i u) j v=Cn (Cn f j v) i u:=by
 funext k
 by_cases e:k=j
 ·subst e;rw [As,Al _ _ (Ne.symm h),As]
 ·rw [Al _ _ e];by_cases e':k=i
  ·subst e';rw [As,As]
  ·rw [Al _ _ e',Al _ _ e',Al _ _ e]
theorem NI {a:Act}{d:Nat}{v:Value}(h:d<a.tmps.size):(a.put (some d) v).tmps.getD d undef=v:=by
 simp [Act.put,h]
theorem IK {a:Act}{d i:Nat}{v:Value}(h:i≠d):(a.put (some d) v).tmps.getD i undef=a.tmps.getD i undef:=by
 have h':d≠i:=fun e=>h e.symm
 simp [Act.put,Array.getElem?_setIfInBounds_ne h']
section
variable {N:Nat} {w0:World} {X0:Ew} {Y:Nat->Prop} {β β':Bt} {s:St} {a:Act} {w w':World}
theorem H8 (d:Option Tmp)(v:Value):(a.put d v).tmps.size=a.tmps.size:=by cases d<;>simp [Act.put]
theorem Kx (d:Option Tmp)(v:Value):(a.put d v).defers=a.defers:=by cases d<;>rfl
theorem R3 {d:Option Tmp}(h:Gm N d=true){i:Nat}(e:d=some i):i<N:=by
 subst e;exact Nat.lt_of_succ_le (Nat.le_of_ble_eq_true h)
theorem Qe {Q:Nat->PV->Value->Prop}{tm:Nat->PV}{d:Option Tmp}{v:PV}{val:Value}(hN:a.tmps.size=N)(hd:Gm N d=true)
  (h:∀i,i<N->Q i (tm i) (a.tmps.getD i undef)) (hv:∀i,Q i v val):∀i,i<N->Q i (Bn tm d v i) ((a.put d val).tmps.getD i undef):=by
 intro i hi;cases d with
 |none=>exact h i hi
 |some d=>
  have hlt:=R3 hd rfl;by_cases e:i=d
  ·subst e;show Q i (Cn tm i v i) _;rw [As,NI (by omega)]
   exact hv i
  ·show Q i (Cn tm d v i) _;rw [Al _ _ e,IK e];exact h i hi
theorem TN {tm:Nat->PV}{d:Option Tmp}{v:PV}(hd:Gm N d=true)(h:∀i,N<=i->tm i=.top):∀i,N<=i->Bn tm d v i=.top:=by
 intro i hi;cases d with
 |none=>exact h i hi
 |some d=>
  have:=R3 hd rfl;show Cn tm d v i=_;rw [Al _ _ (by omega)]
  exact h i hi
theorem Bu.put (h:Bu N w0 X0 Y β s a w){d:Option Tmp}{v:PV}{val:Value}(hd:Gm N d=true)(hv:Dl w (Co s.hp β Y) β v val) (hr:∀id∈Bq v,s.hp id≠none):
  Bu N w0 X0 Y β ⟨Bn s.tm d v,s.hp⟩ (a.put d val) w where
 dfr:=by rw [Kx];exact h.dfr
 tsz:=by rw [H8];exact h.tsz
 tmo:=TN hd h.tmo
 tms:=Qe (Q:=fun _ p u=>Dl w (Co s.hp β Y) β p u) h.tsz hd h.tms (fun _=>hv)
 box:=h.box
 inj:=h.inj
 blt:=h.blt
 wfT:=by
  have:=Qe (Q:=fun _ p _=>∀id∈Bq p,s.hp id≠none) (val:=val) h.tsz hd h.wfT (fun _=>hr)
  exact this
 wfB:=h.wfB
 ownd:=h.ownd
 rngB:=h.rngB
 pin:=h.pin
 stp:=h.stp
 Yx:=h.Yx
 Ylt:=h.Ylt
 fr:=h.fr
theorem Bz (hp:Nat->Option Bl)(ids:List Nat)(i:Nat):Ah hp ids i=if i∈ids then (hp i).map Vy else hp i:=by
 unfold Ah;by_cases hi:i∈ids
 ·have:ids.any (Nat.beq i)=true:=List.any_eq_true.2 ⟨i,hi,Nat.beq_refl i⟩;rw [this,if_pos hi];rfl
 ·have:ids.any (Nat.beq i)=false:=by
   cases hb:ids.any (Nat.beq i)
   ·rfl
   ·obtain ⟨j,hj,e⟩:=List.any_eq_true.1 hb;exact absurd (Nat.eq_of_beq_eq_true e ▸ hj) hi
  rw [this,if_neg hi];rfl
theorem D1 {hp:Nat->Option Bl}{ids:List Nat}{i:Nat}:Ah hp ids i=none↔hp i=none:=by
 rw [Bz];split<;>simp
theorem Qm {hp:Nat->Option Bl}{ids:List Nat}{i:Nat}(h:Ca (Ah hp ids i)):Ca (hp i):=by
 rw [Bz] at h;split at h
 ·cases hb:hp i with
  |none=>rw [hb] at h;exact h
  |some b=>cases b with
   |st c=>trivial
   |ar fz c=>rw [hb] at h;exact h.elim
   |mv=>rw [hb] at h;exact h
 ·exact h
theorem I2 {hp:Nat->Option Bl}{ids:List Nat}{i:Nat}{bx:Bl}(h:Ah hp ids i=some bx)(hl:Ca (some bx)):hp i=some bx:=by
 rw [Bz] at h;split at h
 ·cases hb:hp i with
  |none=>rw [hb] at h;cases h
  |some b=>
   rw [hb] at h;cases b with
   |st c=>exact h
   |ar fz c=>simp only [Option.map_some,Vy,Option.some.injEq] at h;subst h;exact hl.elim
   |mv=>simp only [Option.map_some,Vy,Option.some.injEq] at h;subst h;exact hl.elim
 ·exact h
theorem Ro {hp:Nat->Option Bl}{ids:List Nat}{b:Nat}(h:BF (Ah hp ids) β b):BF hp β b:=by
 obtain ⟨id,o,hl,hb⟩:=h;exact ⟨id,o,Qm hl,hb⟩
theorem Rt.step' {A A':Nat->Prop}{id:Nat}{bx:Bl}(hA:∀b,A' b->A b)(h:Rt w A β id bx):Rt w A' β id bx:=by
 have hs:=B5.refl A w;cases bx with
 |st c=>
  obtain ⟨b,o,h1,h2,h3⟩:=h;exact ⟨b,o,h1,fun j c hj=>let ⟨v,hv,hc⟩:=h2 j c hj;⟨v,hv,hc.step hs (fun b _=>hA b) (fun _ _=>rfl)⟩,h3⟩
 |ar fz c=>
  rcases h with h|⟨b,o,h1,h2,h3,h4⟩
  ·exact .inl h
  ·exact .inr ⟨b,o,h1,h2.weak (fun b _=>hA b),h3,fun e x=>h4 e (hA b x)⟩
 |mv=>trivial
theorem Bu.freeze (h:Bu N w0 X0 Y β s a w){fz:List Nat}(hfz:∀id∈fz,∃f c,s.hp id=some (.ar f c)):Bu N w0 X0 Y β ⟨s.tm,Ah s.hp fz⟩ a w:=by
 have hA:∀b,Co (Ah s.hp fz) β Y b->Co s.hp β Y b:=fun b hb=>hb.imp Ro id
 refine ⟨h.dfr,h.tsz,h.tmo,fun i hi=>(h.tms i hi).step (B5.refl _ _) (fun b _=>hA b) (fun _ _=>rfl),fun id b hb=>?_,fun id id' b o o' h1 h2=>h.inj id id' b o o' (Qm h1) (Qm h2),
  fun id b o hn=>h.blt id b o (fun e=>hn (D1.2 e)),fun i hi id hid e=>h.wfT i hi id hid (D1.1 e),fun id cells hc c hcm id' hid e=>?_,fun b hb=>h.ownd b (Ro hb),
  fun id bx b o hb hl=>h.rngB id bx b o (I2 hb hl) hl,fun i hi=>⟨fun e=>(h.pin i hi).1 (D1.1 e),(h.pin i hi).2⟩,fun id c b o hc=>h.stp id c b o (I2 hc trivial),fun b hb x=>h.Yx b hb (Ro x),h.Ylt,h.fr⟩
 ·simp only at hb;rw [Bz] at hb;split at hb
  ·rename_i hm;obtain ⟨f,c,hc⟩:=hfz id hm;rw [hc] at hb;simp only [Option.map_some,Vy,Option.some.injEq] at hb;subst hb;have hbx:=h.box id _ hc;rcases hbx with hbx|⟨b,o,h1,h2,h3,h4⟩
   ·exact .inl hbx
   ·refine .inr ⟨b,o,h1,h2.weak (fun b _=>hA b),(fun e=>by cases e),fun _ hb=>?_⟩
    rcases hb with ⟨id',o',hl,hb⟩|hY
    ·have hl0:=Qm hl;cases f with
     |true=>exact h4 rfl (.inl ⟨id',o',hl0,hb⟩)
     |false=>
      have e:=h.inj id' id b o' o hl0 (by rw [hc];trivial) hb h1
      subst e;simp only at hl;rw [Bz,if_pos hm,hc] at hl;exact hl
    ·cases f with
     |true=>exact h4 rfl (.inr hY)
     |false=>exact h.Yx b hY ⟨id,o,by rw [hc];trivial,h1⟩
  ·exact (h.box id b hb).step' hA
 ·simp only at hc;rw [Bz] at hc;refine h.wfB id cells ?_ c hcm id' hid (D1.1 e);split at hc
  ·rename_i hm;obtain ⟨f,c,hc'⟩:=hfz id hm;rw [hc'] at hc;cases hc
  ·exact hc
theorem Bo:∀{nw:List (Nat × Bl)} {hp:Nat->Option Bl},Bx hp nw=true ->
  (∀id bx,(id,bx)∈nw->hp id=none)∧(∀id bx bx',(id,bx)∈nw->(id,bx')∈nw->bx=bx')
 |[],_,_=>⟨by simp,by simp⟩
 |(i,b)::r,hp,h=>by
  simp only [Bx,Bool.and_eq_true,Option.isNone_iff_eq_none,Bool.not_eq_true'] at h;obtain ⟨⟨h1,h2⟩,h3⟩:=h;obtain ⟨h4,h5⟩:=Bo h3
  have hne:∀bx,(i,bx) ∉ r:=by
   intro bx hm;have:r.any (fun q=>Nat.beq q.1 i)=true:=List.any_eq_true.2 ⟨_,hm,Nat.beq_refl i⟩
   rw [this] at h2;cases h2
  refine ⟨fun id bx hm=>?_,fun id bx bx' hm hm'=>?_⟩
  ·rcases List.mem_cons.1 hm with e|hm
   ·cases e;exact h1
   ·exact h4 id bx hm
  ·rcases List.mem_cons.1 hm with e|hm
   ·cases e;rcases List.mem_cons.1 hm' with e|hm'
    ·cases e;rfl
    ·exact absurd hm' (hne _)
   ·rcases List.mem_cons.1 hm' with e|hm'
    ·cases e;exact absurd hm (hne _)
    ·exact h5 id bx bx' hm hm'
theorem Eg:∀{nw:List (Nat × Bl)} {hp:Nat->Option Bl},(∀id bx bx',(id,bx)∈nw->(id,bx')∈nw->bx=bx') ->
  (∀id bx,(id,bx)∈nw->Au hp nw id=some bx)∧(∀id,(∀bx,(id,bx) ∉ nw)->Au hp nw id=hp id)
 |[],_,_=>⟨by simp,fun _ _=>rfl⟩
 |(i,b)::r,hp,h=>by
  obtain ⟨h1,h2⟩:=Eg (nw:=r) (hp:=Cn hp i (some b)) (fun id bx bx' hm hm'=>h id bx bx' (by simp [hm]) (by simp [hm']))
  refine ⟨fun id bx hm=>?_,fun id hn=>?_⟩
  ·by_cases hr:∃bx',(id,bx')∈r
   ·obtain ⟨bx',hr⟩:=hr;have:=h id bx bx' hm (by simp [hr])
    subst this;exact h1 id bx hr
   ·rcases List.mem_cons.1 hm with e|hm
    ·cases e;show Au (Cn hp i (some b)) r i=_;rw [h2 i (fun bx' hb=>hr ⟨bx',hb⟩),As]
    ·exact absurd ⟨bx,hm⟩ hr
  ·show Au (Cn hp i (some b)) r id=_;rw [h2 id (fun bx hb=>hn bx (by simp [hb])),Al]
   rintro rfl
   exact hn b (by simp)
structure PO (Y:Nat->Prop) (β:Bt) (s:St) (w:World) (v:PV) (nw:List (Nat × Bl)) (val:Value) (w':World) (β':Bt):Prop where
 os:w'.os=w.os
 tape:w'.tape=w.tape
 output:w'.output=w.output
 ext:B5 (fun _=>False) w w'
 old:∀id,s.hp id≠none->β' id=β id
 nlive:∀id bx,(id,bx)∈nw->Ca (some bx)
 nbox:∀id bx,(id,bx)∈nw->Rt w' (Co (Au s.hp nw) β' Y) β' id bx
 nblk:∀id bx b o,(id,bx)∈nw->β' id=some (b,o)->w.heap.size<=b∧b<w'.heap.size
 ninj:∀id bx id' bx' b o o',(id,bx)∈nw->(id',bx')∈nw->β' id=some (b,o)->β' id'=some (b,o')->id=id'
 nwf:∀id cells,(id,.st cells)∈nw->∀c∈cells,∀id'∈Ar c,s.hp id'≠none∨∃bx,(id',bx)∈nw
 val:Dl w' (Co (Au s.hp nw) β' Y) β' v val
 vwf:∀id∈Bq v,s.hp id≠none∨∃bx,(id,bx)∈nw
theorem Bu.stepR (h:Bu N w0 X0 Y β s a w){d:Option Tmp}{v:PV}{nw:List (Nat × Bl)} {val:Value}(hd:Gm N d=true)(hab:Bx s.hp nw=true)
  (st:PO Y β s w v nw val w' β'):Bu N w0 X0 Y β' ⟨Bn s.tm d v,Au s.hp nw⟩ (a.put d val) w':=by
 obtain ⟨ha1,ha2⟩:=Bo hab;obtain ⟨hg1,hg2⟩:=Eg (hp:=s.hp) ha2
 have hcase:∀id,(∃bx,(id,bx)∈nw)∨Au s.hp nw id=s.hp id:=fun id=>by
  by_cases hx:∃bx,(id,bx)∈nw
  ·exact .inl hx
  ·exact .inr (hg2 id fun bx hb=>hx ⟨bx,hb⟩)
 have hpres:∀id,s.hp id≠none->Au s.hp nw id=s.hp id:=fun id hn=>by
  rcases hcase id with ⟨bx,hx⟩|e
  ·exact absurd (ha1 id bx hx) hn
  ·exact e
 have hnn:∀id,(s.hp id≠none∨∃bx,(id,bx)∈nw)->Au s.hp nw id≠none:=by
  rintro id (hn|⟨bx,hx⟩)
  ·rw [hpres id hn];exact hn
  ·rw [hg1 id bx hx];simp
 have hXold:∀b,b<w.heap.size->BF (Au s.hp nw) β' b->BF s.hp β b:=by
  rintro b hb ⟨id,o,hl,hβ⟩
  rcases hcase id with ⟨bx,hx⟩|e
  ·have:=(st.nblk id bx b o hx hβ).1;omega
  ·rw [e] at hl;exact ⟨id,o,hl,by rw [←st.old id (Cp hl)];exact hβ⟩
 have hAold:∀b,b<w.heap.size->Co (Au s.hp nw) β' Y b->Co s.hp β Y b:=fun b hb hA=>hA.imp (hXold b hb) id
 have hstep:B5 (Co s.hp β Y) w w':=st.ext.weaken (fun _ _ x=>x.elim)
 refine ⟨by rw [Kx];exact h.dfr,by rw [H8];exact h.tsz,TN hd h.tmo,?_,?_,?_,?_,?_,?_,?_,?_,?_,?_,?_,h.Ylt,?_⟩
 ·refine Qe (Q:=fun _ p u=>Dl w' (Co (Au s.hp nw) β' Y) β' p u) h.tsz hd (fun i hi=>?_) (fun _=>st.val)
  exact (h.tms i hi).step hstep hAold fun id hid=>st.old id (h.wfT i hi id hid)
 ·intro id b hb;simp only at hb;rcases hcase id with ⟨bx,hx⟩|e
  ·rw [hg1 id bx hx] at hb;cases hb;exact st.nbox id _ hx
  ·rw [e] at hb;have hβ:=st.old id (by rw [hb];simp)
   have hbx:=h.box id b hb;have hlt:=h.blt id;have hne:s.hp id≠none:=by rw [hb];simp
   cases b with
   |st c=>
    obtain ⟨b,o,h1,h2,h3⟩:=hbx;have hb':=hlt b o hne h1;have hbl:=st.ext.keep b hb' (fun x=>x)
    refine ⟨b,o,by rw [hβ];exact h1,fun j c hj=>?_,fun j hj=>?_⟩
    ·obtain ⟨v,hv,hc⟩:=h2 j c hj;refine ⟨v,by rw [World.cell?_of_block (w:=w) hbl];exact hv,hc.step hstep hAold fun id' hid=>st.old id' ?_⟩
     exact h.wfB id _ hb c (List.mem_of_getElem? hj) id' hid
    ·rw [World.frozen?_of_block (w:=w) hbl];exact h3 j hj
   |ar fz c=>
    rcases hbx with ⟨h1,h2⟩|⟨b,o,h1,h2,h3,h4⟩
    ·exact .inl ⟨by rw [hβ];exact h1,h2⟩
    ·have hb':=hlt b o hne h1;have hbl:=st.ext.keep b hb' (fun x=>x)
     have hbs:bsz w' b=bsz w b:=by unfold bsz;rw [hbl]
     refine .inr ⟨b,o,by rw [hβ];exact h1,fun j c hj=>?_,fun e j hj hj'=>?_,fun e x=>h4 e (hAold b hb' x)⟩
     ·obtain ⟨v,hv,h5,hc⟩:=h2 j c hj;exact ⟨v,by rw [World.cell?_of_block (w:=w) (by rw [Fn];exact hbl)];exact hv,h5,hc.step hstep hAold⟩
     ·rw [World.frozen?_of_block (w:=w) hbl];exact h3 e j hj (by rw [←hbs];exact hj')
   |mv=>trivial
 ·intro id id' b o o' hl hl' hb hb';simp only at hl hl';rcases hcase id with ⟨bx,hx⟩|e
  ·rcases hcase id' with ⟨bx',hx'⟩|e'
   ·exact st.ninj id bx id' bx' b o o' hx hx' hb hb'
   ·rw [e'] at hl';have h1:=(st.nblk id bx b o hx hb).1;have h2:=h.blt id' b o' (Cp hl') (by rw [←st.old id' (Cp hl')];exact hb')
    omega
  ·rw [e] at hl;rcases hcase id' with ⟨bx',hx'⟩|e'
   ·have h1:=(st.nblk id' bx' b o' hx' hb').1;have h2:=h.blt id b o (Cp hl) (by rw [←st.old id (Cp hl)];exact hb)
    omega
   ·rw [e'] at hl';exact h.inj id id' b o o' hl hl' (by rw [←st.old id (Cp hl)];exact hb) (by rw [←st.old id' (Cp hl')];exact hb')
 ·intro id b o hn hb;simp only at hn;rcases hcase id with ⟨bx,hx⟩|e
  ·exact (st.nblk id bx b o hx hb).2
  ·rw [e] at hn;exact Nat.lt_of_lt_of_le (h.blt id b o hn (by rw [←st.old id hn];exact hb)) st.ext.size
 ·have:=Qe (Q:=fun _ p _=>∀id∈Bq p,Au s.hp nw id≠none) (val:=val) (d:=d) (v:=v) h.tsz hd (fun i hi id hid=>hnn id (.inl (h.wfT i hi id hid))) (fun _ id hid=>hnn id (st.vwf id hid))
  exact this
 ·intro id cells hc c hcm id' hid;simp only at hc;rcases hcase id with ⟨bx,hx⟩|e
  ·rw [hg1 id bx hx] at hc;cases hc;exact hnn id' (st.nwf id _ hx c hcm id' hid)
  ·rw [e] at hc;exact hnn id' (.inl (h.wfB id cells hc c hcm id' hid))
 ·rintro b ⟨id,o,hl,hb⟩
  simp only at hl;rcases hcase id with ⟨bx,hx⟩|e
  ·exact .inr (Nat.le_trans h.fr.step.size (st.nblk id bx b o hx hb).1)
  ·rw [e] at hl;exact h.ownd b ⟨id,o,hl,by rw [←st.old id (Cp hl)];exact hb⟩
 ·intro id bx b o hb hl hβ hlt;simp only at hb;rcases hcase id with ⟨bx',hx⟩|e
  ·have:=(st.nblk id bx' b o hx hβ).1;have:=h.fr.step.size;omega
  ·rw [e] at hb;exact h.rngB id bx b o hb hl (by rw [←st.old id (by rw [hb];simp)];exact hβ) hlt
 ·intro i hi;obtain ⟨h1,h2⟩:=h.pin i hi;exact ⟨hnn _ (.inl h1),by rw [st.old _ h1];exact h2⟩
 ·intro id c b o hb hβ hlt;simp only at hb;rcases hcase id with ⟨bx',hx⟩|e
  ·have:=(st.nblk id bx' b o hx hβ).1;have:=h.fr.step.size;omega
  ·rw [e] at hb;exact h.stp id c b o hb (by rw [←st.old id (by rw [hb];simp)];exact hβ) hlt
 ·rintro b hY hX
  have hb:b<w.heap.size:=Nat.lt_of_lt_of_le (h.Ylt b hY) h.fr.step.size;exact h.Yx b hY (hXold b hb hX)
 ·refine ⟨st.os.trans h.fr.os,st.tape.trans h.fr.tape,st.output.trans h.fr.output,h.fr.step.trans st.ext (fun _ _ x=>x.elim),fun b j hb hL=>?_⟩
  have hbl:=st.ext.keep b (Nat.lt_of_lt_of_le hb h.fr.step.size) (fun x=>x)
  have hc:w'.cell? ⟨b,j,none⟩=w.cell? ⟨b,j,none⟩:=World.cell?_of_block (w:=w) hbl;have hf:w'.frozen? ⟨b,j,none⟩=w.frozen? ⟨b,j,none⟩:=World.frozen?_of_block (w:=w) hbl;rw [hc,hf];exact h.fr.rng b j hb hL
end
open Go.RowKit
section
variable {P:Program} {N:Nat} {w0:World} {X0:Ew} {Y:Nat->Prop} {β β':Bt} {s:St} {a:Act} {w w':World} {o:Oper}
theorem XL (cs:List Value)(A:Nat->Prop):Bj (B6 w A β) (cs.map PV.sc) cs:=by
 induction cs with
 |nil=>trivial
 |cons v r ih=>exact ⟨A4.sc v,ih⟩
theorem Aa7 (cs:List Value):(cs.map PV.sc).flatMap Ar=[]:=by
 induction cs with
 |nil=>rfl
 |cons v r ih=>exact ih
theorem C4 (h:Bu N w0 X0 Y β s a w)(x:Operand):Dl w (Co s.hp β Y) β (Cf s.tm x) (a.eval x):=by
 cases x with
 |tmp t=>
  show Dl _ _ _ (s.tm t) (a.tmps.getD t undef);by_cases ht:t<N
  ·exact h.tms t ht
  ·rw [h.tmo t (Nat.le_of_not_lt ht)];exact A4.top _
 |const v=>
  cases v with
  |agg cs=>exact ⟨cs.toList,by simp [Act.eval],XL cs.toList _⟩
  |_=>exact A4.sc _
 |func f=>exact A4.sc _
 |global g=>exact A4.sc _
theorem Fh (h:Bu N w0 X0 Y β s a w)(x:Operand):∀id∈Bq (Cf s.tm x),s.hp id≠none:=by
 cases x with
 |tmp t=>
  show ∀id∈Bq (s.tm t),_;by_cases ht:t<N
  ·exact h.wfT t ht
  ·rw [h.tmo t (Nat.le_of_not_lt ht)];intro id hid;cases hid
 |const v=>
  cases v with
  |agg cs=>
   intro id hid;have:Bq (.agg (cs.toList.map .sc))=[]:=Aa7 cs.toList;simp only [Cf] at hid;rw [this] at hid;cases hid
  |_=>intro id hid;cases hid
 |func f=>intro id hid;cases hid
 |global g=>intro id hid;cases hid
theorem Oc {A:Nat->Prop}{v u:Value}(h:Dl w A β (.sc v) u):u=v:=A4.val h
theorem Cl (h:Bu N w0 X0 Y β s a w){x:Operand}{v:Value}(e:Cf s.tm x=.sc v):a.eval x=v:=by
 have:=C4 h x;rw [e] at this;exact Oc this
def Et (P:Program)(a:Act)(w:World)(o:Oper)(Y:Nat->Prop)(β:Bt)(s:St)(v:PV)(fz:List Nat)(nw:List (Nat × Bl)):Prop:=
 (∀id∈fz,∃f c,s.hp id=some (.ar f c))∧∃val w',(execOp a.eval o).run P w=.ok (.value val) w'∧(Bx s.hp nw=true->∃β',PO Y β ⟨s.tm,Ah s.hp fz⟩ w v nw val w' β')
theorem Abj {v:PV}{val:Value}(hv:Dl w (Co s.hp β Y) β v val) (hr:∀id∈Bq v,s.hp id≠none):PO Y β s w v [] val w β:=
 ⟨rfl,rfl,rfl,B5.refl _ _,fun _ _=>rfl,by simp,by simp,by simp,by simp,by simp,hv,fun id hid=>.inl (hr id hid)⟩
theorem Cb {v:PV}{val:Value}(hrun:(execOp a.eval o).run P w=.ok (.value val) w) (hv:Dl w (Co s.hp β Y) β v val) (hr:∀id∈Bq v,s.hp id≠none):Et P a w o Y β s v [] []:=
 ⟨by simp,val,w,hrun,fun _=>⟨β,Abj (s:=⟨s.tm,Ah s.hp []⟩) hv hr⟩⟩
theorem Cr {v:Value}(hrun:(execOp a.eval o).run P w=.ok (.value v) w):Et P a w o Y β s (.sc v) [] []:=Cb hrun (A4.sc v) (by intro id hid;cases hid)
structure Gq (w w':World) (c:Array Value) (e:TypeId):Prop where
 os:w'.os=w.os
 tape:w'.tape=w.tape
 output:w'.output=w.output
 old:∀b,b<w.heap.size->w'.heap[b]?=w.heap[b]?
 size:w'.heap.size=w.heap.size+1
 new:∃fz:Nat × Nat,w'.heap[w.heap.size]?=some (.cells c e fz)∧(fz.1=fz.2∨c.size<=fz.1)
theorem Gq.alloc (w:World)(c:Array Value)(e:TypeId):Gq w (w.alloc (.cells c e)) c e:=
 ⟨rfl,rfl,rfl,fun b hb=>Below.heap_alloc w _ b hb,by show (w.heap.push _).size=_;simp,(0,0),by show (w.heap.push _)[w.heap.size]?=_;simp,.inl rfl⟩
theorem Gq.drew {c:Array Value}{e:TypeId}(h:Gq w w' c e):Gq w w'.drew c e:=⟨h.os,h.tape,h.output,h.old,h.size,h.new⟩
section
variable {c:Array Value} {e:TypeId}
theorem Gq.step (h:Gq w w' c e):B5 (fun _=>False) w w':=
 ⟨by rw [h.size];omega,fun b hb _=>h.old b hb,fun b hb=>by unfold bsz;rw [h.old b hb];exact Nat.le_refl _⟩
theorem Gq.cell (h:Gq w w' c e)(j:Nat):w'.cell? ⟨w.heap.size,j,none⟩=c[j]?:=by
 obtain ⟨fz,hn,_⟩:=h.new;simp [World.cell?,hn]
theorem Gq.frozen (h:Gq w w' c e){j:Nat}(hj:j<c.size):w'.frozen? ⟨w.heap.size,j,none⟩=false:=by
 obtain ⟨fz,hn,hf⟩:=h.new;simp only [World.frozen?,hn];rcases hf with hf|hf<;>simp<;>omega
theorem Gq.bsz (h:Gq w w' c e):bsz w' w.heap.size=c.size:=by
 obtain ⟨fz,hn,_⟩:=h.new;simp [Pv.bsz,hn]
end
theorem Rq {c:Array Value}{e:TypeId}{d:Nat}{bx:Bl}{v:PV}{val:Value}(hg:Gq w w' c e)(hd:s.hp d=none)(hl:Ca (some bx))
  (hbx:Rt w' (Co (Cn s.hp d (some bx)) (Cn β d (some (w.heap.size,0))) Y) (Cn β d (some (w.heap.size,0))) d bx)
  (hcw:∀cells,bx=.st cells->∀x∈cells,∀id'∈Ar x,s.hp id'≠none)
  (hv:Dl w' (Co (Cn s.hp d (some bx)) (Cn β d (some (w.heap.size,0))) Y) (Cn β d (some (w.heap.size,0))) v val)
  (hvr:∀id∈Bq v,s.hp id≠none∨id=d):PO Y β s w v [(d,bx)] val w' (Cn β d (some (w.heap.size,0))) where
 os:=hg.os
 tape:=hg.tape
 output:=hg.output
 ext:=hg.step
 old:=fun id hn=>Al _ _ (by rintro rfl;exact hn hd)
 nlive:=by intro id b hm;simp at hm;obtain ⟨rfl,rfl⟩:=hm;exact hl
 nbox:=by intro id b hm;simp at hm;obtain ⟨rfl,rfl⟩:=hm;exact hbx
 nblk:=by
  intro id b x y hm hb;simp at hm;obtain ⟨rfl,rfl⟩:=hm;rw [As] at hb;simp at hb;have:=hg.size;omega
 ninj:=by intro id b id' b' x y z hm hm' _ _;simp at hm hm';rw [hm.1,hm'.1]
 nwf:=by intro id cells hm x hx id' hid;simp at hm;exact .inl (hcw cells hm.2.symm x hx id' hid)
 val:=hv
 vwf:=by
  intro id hid;rcases hvr id hid with h|rfl
  ·exact .inl h
  ·exact .inr ⟨bx,by simp⟩
theorem Ac2 {c:Array Value}{e:TypeId}(hg:Gq w w' c e){A A':Nat->Prop}(hA:∀b,b<w.heap.size->A' b->A b){cells:List PV}
  (h:∀(j:Nat) p,cells[j]?=some p->∃v,c[j]?=some v∧v.oneCell'=true∧A4 w A p v):OW w' A' ⟨w.heap.size,0,none⟩ cells:=by
 intro j p hj;obtain ⟨v,hv,h1,ht⟩:=h j p hj;exact ⟨v,by rw [Du,Nat.zero_add,hg.cell];exact hv,h1,ht.step (hg.step.weaken (fun _ _ x=>x.elim)) hA⟩
theorem Acx {d:Nat}{bx:Bl}(hwf:s.hp d=none):∀b,b<w.heap.size->Co (Cn s.hp d (some bx)) (Cn β d (some (w.heap.size,0))) Y b->Co s.hp β Y b:=by
 intro b hb hA;rcases hA with ⟨id,o,hl,hβ⟩|hY
 ·by_cases e:id=d
  ·subst e;rw [As] at hβ;simp at hβ;omega
  ·rw [Al _ _ e] at hl hβ;exact .inl ⟨id,o,hl,hβ⟩
 ·exact .inr hY
theorem R2 {c:Array Value}{e:TypeId}{d:Nat}{cells:List PV}{fz:List Nat}{v:PV}{val:Value}
  (hfz:∀id∈fz,∃f c,s.hp id=some (.ar f c))
  (hrun:(execOp a.eval o).run P w=.ok (.value val) w') (hg:Gq w w' c e)
  (hc:∀(j:Nat) p,cells[j]?=some p->∃u,c[j]?=some u∧u.oneCell'=true∧A4 w (Co (Ah s.hp fz) β Y) p u)
  (hv:(v=.ptr d 0∧val=.pointer (some ⟨w.heap.size,0,none⟩))∨∃es n cap,v=.view d es 0 n∧val=.slice (some ⟨w.heap.size,0,none⟩) n cap∧n<=cap∧cap*es<=c.size):
  Et P a w o Y β s v fz [(d,.ar false cells)]:=by
 refine ⟨hfz,val,w',hrun,fun hab=>⟨Cn β d (some (w.heap.size,0)),?_⟩⟩
 have hd:s.hp d=none:=(Bo hab).1 d (.ar false cells) (by simp)
 have hd':Ah s.hp fz d=none:=D1.2 hd;refine Rq (s:=⟨s.tm,Ah s.hp fz⟩) hg hd' trivial ?_ (fun cells hx=>by cases hx) ?_ ?_
 ·refine .inr ⟨w.heap.size,0,As _ _ _,?_,fun _ j _ hj=>?_,(fun x=>by cases x)⟩
  ·exact Ac2 hg (Acx (s:=⟨s.tm,Ah s.hp fz⟩) hd') hc
  ·rw [hg.bsz] at hj;exact hg.frozen hj
 ·rcases hv with ⟨rfl,rfl⟩|⟨es,n,cap,rfl,rfl,hn,hcap⟩
  ·exact ⟨w.heap.size,0,As _ _ _,rfl⟩
  ·exact .inr ⟨w.heap.size,0,0,cap,As _ _ _,rfl,.inl rfl,hn,by rw [hg.bsz];omega,by rw [hg.size];omega⟩
 ·intro id hid;rcases hv with ⟨rfl,_⟩|⟨es,n,cap,rfl,_⟩<;>(simp [Bq,B8,Ar] at hid;exact .inr hid)
theorem QS {c:Array Value}{e:TypeId}{d:Nat}{cells:List PV}
  (hrun:(execOp a.eval o).run P w=.ok (.value (.pointer (some ⟨w.heap.size,0,none⟩))) w') (hg:Gq w w' c e)
  (hc:∀(j:Nat) p,cells[j]?=some p->∃u,c[j]?=some u∧B6 w (Co s.hp β Y) β p u) (hr:∀x∈cells,∀id∈Ar x,s.hp id≠none):
  Et P a w o Y β s (.ptr d 0) [] [(d,.st cells)]:=by
 refine ⟨by simp,_,w',hrun,fun hab=>⟨Cn β d (some (w.heap.size,0)),?_⟩⟩
 have hd:s.hp d=none:=(Bo hab).1 d (.st cells) (by simp)
 refine Rq (s:=⟨s.tm,Ah s.hp []⟩) hg hd trivial ?_ (fun cs hx x hxm id hid=>?_) ?_ ?_
 ·refine ⟨w.heap.size,0,As _ _ _,fun j p hj=>?_,fun j hj=>?_⟩
  ·obtain ⟨u,hu,hp⟩:=hc j p hj;refine ⟨u,by rw [Nat.zero_add,hg.cell];exact hu,hp.step (hg.step.weaken (fun _ _ x=>x.elim)) (Acx (s:=⟨s.tm,Ah s.hp []⟩) hd) fun id hid=>Al _ _ ?_⟩
   rintro rfl
   exact hr p (List.mem_of_getElem? hj) id hid hd
  ·rw [Nat.zero_add];obtain ⟨u,hu,_⟩:=hc j _ (List.getElem?_eq_getElem hj)
   exact hg.frozen (by
    rcases Nat.lt_or_ge j c.size with h|h
    ·exact h
    ·rw [Array.getElem?_eq_none h] at hu;cases hu)
 ·injection hx with hx;subst hx;exact hr x hxm id hid
 ·exact ⟨w.heap.size,0,As _ _ _,rfl⟩
 ·intro id hid;simp [Bq,B8,Ar] at hid;exact .inr hid
end
open Go.RowKit
section
variable {R:Type} {r:R} {P:Program} {N:Nat} {w0:World} {X0:Ew} {Y:Nat->Prop} {β β':Bt} {s:St} {a:Act} {w w':World} {o:Oper}
theorem Kp {t:TypeId}{n:Nat}(h:(P.info? t).map (·.size)=some n) (w:World):(sizeOf t).run P w=.ok n w:=by
 cases hi:P.info? t with
 |none=>rw [hi] at h;cases h
 |some i=>rw [hi] at h;simp at h;simp [sizeOf,typeInfo,hi,h]
theorem Ahn {t:TypeId}{n:Nat}(h:Bg P t=n)(hn:0<n):(P.info? t).map (·.size)=some n:=by
 unfold Bg at h;cases hi:(P.info? t).map (·.size) with
 |none=>rw [hi] at h;simp at h;omega
 |some i=>rw [hi] at h;simp at h;rw [h]
theorem Sc {t:TypeId}{d:TypeDesc}(h:P.underlying t=some d)(w:World):(isAgg t).run P w=.ok (Cj P t) w:=by
 unfold isAgg Cj;rw [h];simp only [Sem.run_bind,run_underlying h,Result.andThen_ok];cases d<;>rfl
theorem Alo {t:TypeId}{v:Value}{K:PV->Option R}(h:cvK P t v K=some r):∃p,K p=some r∧Bq p=[]∧∀(w:World)(A:Nat->Prop)(β:Bt),Dl w A β p v:=by
 have sc:∀v:Value,K (.sc v)=some r->∃p,K p=some r∧Bq p=[]∧∀(w:World) (A:Nat->Prop) (β:Bt),Dl w A β p v:=fun v h=>⟨_,h,rfl,fun w A β=>A4.sc v⟩
 unfold cvK at h;split at h
 ·rename_i cs;obtain ⟨hl,h⟩:=Aq h;obtain ⟨xs,h,hxl,hx⟩:=Uy h;have hl:=Nat.eq_of_beq_eq_true hl;refine ⟨_,h,?_,fun w A β=>⟨cs.toList,by simp,?_⟩⟩
  ·show xs.flatMap Ar=[];rw [List.flatMap_eq_nil_iff];intro c hc;obtain ⟨j,hj⟩:=List.mem_iff_getElem?.1 hc;exact I7 (hx j c hj).1
  ·refine Bj.of_at (by rw [hxl,hl]) fun i c u hc hu=>?_
   obtain ⟨hT,p,hp,_,hpv⟩:=hx i c hc;refine (O9 hT).2 (hpv w A β u ?_).1;rw [Nat.zero_add,List.getElem?_map,hu] at hp;simp at hp;subst hp;exact A4.sc u
 ·split at h
  ·exact ⟨_,h,rfl,fun w A β=>A4.lnil true _⟩
  ·cases h
 ·exact sc _ h
theorem BX (h:Bu N w0 X0 Y β s a w){x:Operand}(hrun:(execOp a.eval o).run P w=.ok (.value (a.eval x)) w) {K:PV->Option R}(hk:DM P o.type s.tm x K=some r):
  ∃v,K v=some r∧Et P a w o Y β s v [] []:=by
 have dflt:K (Cf s.tm x)=some r->∃v,K v=some r∧Et P a w o Y β s v [] []:=fun hk=>⟨_,hk,Cb hrun (C4 h x) (Fh h x)⟩
 cases x with
 |const v=>
  obtain ⟨p,hk,hr,hv⟩:=Alo hk;exact ⟨p,hk,Cb hrun (hv _ _ _) (by rw [hr];simp)⟩
 |tmp t=>exact dflt hk
 |func f=>exact dflt hk
 |global g=>exact dflt hk
theorem Aet {x:Operand}(ho:o.op=.move x):(execOp a.eval o).run P w=.ok (.value (a.eval x)) w:=by unfold execOp;rw [ho];rfl
theorem VP {x:Operand}(ho:o.op=.assign x):(execOp a.eval o).run P w=.ok (.value (a.eval x)) w:=by unfold execOp;rw [ho];rfl
theorem YX (h:Bu N w0 X0 Y β s a w){c x y:Operand}(ho:o.op=.pick c x y){K:PV->Option R}(hk:(Bm (Cf s.tm c) fun t=>Bb t (K (Cf s.tm x)) (K (Cf s.tm y)))=some r):
  ∃v,K v=some r∧Et P a w o Y β s v [] []:=by
 obtain ⟨b,hb,hk⟩:=Gk hk;have hc:=Cl h hb;rcases Nm hk with ⟨rfl,hk⟩|⟨rfl,hk⟩
 ·exact ⟨_,hk,Cb (by unfold execOp;rw [ho];simp [asBool,hc]) (C4 h x) (Fh h x)⟩
 ·exact ⟨_,hk,Cb (by unfold execOp;rw [ho];simp [asBool,hc]) (C4 h y) (Fh h y)⟩
theorem P4 {t:TypeId}{K:List PV->Option R}(h:G5 P t K=some r):∃(v:Value)(cs:List PV),K cs=some r∧Y3 P t=some v∧cs.length=(H5 P t).length∧cs.length=v.cells.toList.length∧cs.length=Bg P t ∧
  ∀(j:Nat) c,cs[j]?=some c->Zi c∧∃u,v.cells.toList[j]?=some u∧u.oneCell'=true∧∀(w:World) (A:Nat->Prop),A4 w A c u:=by
 unfold G5 at h;obtain ⟨v,hz,h⟩:=Cz h;obtain ⟨hl,h⟩:=Aq h;obtain ⟨cs,h,hcl,hc⟩:=Uy h;simp only [Bool.and_eq_true] at hl;have hl1:=Nat.eq_of_beq_eq_true hl.1
 have hl2:(H5 P t).length=Bg P t:=by
  have:=hl.2;simp only [I3,Bool.and_eq_true] at this;exact Nat.eq_of_beq_eq_true this.2
 refine ⟨v,cs,h,hz,hcl,by rw [hcl,hl1],by rw [hcl,hl2],fun j c hj=>?_⟩
 obtain ⟨hT,p,hp,_,hpv⟩:=hc j c hj;rw [Nat.zero_add,List.getElem?_map] at hp;cases hu:v.cells.toList[j]? with
 |none=>rw [hu] at hp;cases hp
 |some u=>
  rw [hu] at hp;simp at hp;subst hp;exact ⟨hT,u,rfl,(hpv default (fun _=>False) (fun _=>none) u (A4.sc u)).2,fun w A=>(hpv w A (fun _=>none) u (A4.sc u)).1⟩
theorem Xm {t:TypeId}{v:Value}(h:Y3 P t=some v)(w:World):(zeroValue t).run P w=.ok v w:=by
 unfold Y3 at h;cases hi:P.info? t with
 |none=>rw [hi] at h;cases h
 |some i=>rw [hi] at h;simp at h;simp [zeroValue,typeInfo,hi,h]
theorem XT {t:TypeId}(ho:o.op=.alloc t){d:Nat}{K:PV->List Nat->List (Nat × Bl)->Option R}
  (hk:(G5 P t fun cs=>K (.ptr d 0) [] [(d,Ajo P t cs)])=some r):∃v fz nw,K v fz nw=some r∧Et P a w o Y β s v fz nw:=by
 obtain ⟨z,cs,hk,hz,_,hl,_,hc⟩:=P4 hk
 have hrun:(execOp a.eval o).run P w=.ok (.value (.pointer (some ⟨w.heap.size,0,none⟩))) (w.alloc (.cells z.cells t)):=by
  unfold execOp;rw [ho];simp [Instr.alloc,Xm hz,newVar,newRow]
 have hg:=Gq.alloc w z.cells t;refine ⟨_,_,_,hk,?_⟩;unfold Ajo;cases Ur P t
 ·refine QS hrun hg (fun j p hj=>?_) fun x hx id hid=>?_
  ·obtain ⟨hT,u,hu,_,hv⟩:=hc j p hj;exact ⟨u,by simpa using hu,(O9 hT).2 (hv _ _)⟩
  ·obtain ⟨j,hj⟩:=List.mem_iff_getElem?.1 hx;rw [I7 (hc j x hj).1] at hid;cases hid
 ·refine R2 (by simp) hrun hg (fun j p hj=>?_) (.inl ⟨rfl,rfl⟩)
  obtain ⟨hT,u,hu,h1,hv⟩:=hc j p hj;exact ⟨u,by simpa using hu,h1,hv _ _⟩
end
open Go.RowKit
section
variable {R:Type} {r:R} {P:Program} {N:Nat} {w0:World} {X0:Ew} {Y:Nat->Prop} {β β':Bt} {s:St} {a:Act} {w w':World} {o:Oper} {A:Nat->Prop}
theorem Rx {t:TypeId}(h:I3 P t=true):(∃d,P.underlying t=some d)∧(H5 P t).length=Bg P t∧(P.info? t).map (·.size)=some (Bg P t):=by
 simp only [I3,Bool.and_eq_true] at h;refine ⟨Option.isSome_iff_exists.1 h.1,Nat.eq_of_beq_eq_true h.2,?_⟩;unfold Bg;cases hi:P.info? t with
 |none=>unfold Program.underlying at h;rw [hi] at h;cases h.1
 |some i=>simp
theorem Oa {v:Value}(h:v.oneCell'=true):v.cells = #[v]:=by cases v<;>first|rfl|cases h
theorem Aca {p:PV}{v:Value}{ts:List CT}{K:List PV->Option R}(hv:Dl w A β p v)(hl:(cellsOf p).length=ts.length) (h:Qt ts (cellsOf p) 0 K=some r):
  ∃cs,K cs=some r∧cs.length=ts.length∧Bj (B6 w A β) cs v.cells.toList∧(∀u∈v.cells.toList,u.oneCell'=true)∧(∀c∈cs,∀id∈Ar c,id∈Bq p)∧∀c∈cs,(∀x,c ≠ .agg x)∧(∀x,c ≠ .tup x):=by
 obtain ⟨cs,h,hcl,hna,hc⟩:=V3 h;refine ⟨cs,h,hcl,?_⟩
 have single:(∀x,p ≠ .agg x)->cellsOf p=[p]:=by
  intro hp;cases p<;>first|rfl|exact absurd rfl (hp _)
 by_cases hagg:∃x,p=.agg x
 ·obtain ⟨x,rfl⟩:=hagg;obtain ⟨vs,rfl,h2⟩:=hv;have hlen:cs.length=vs.length:=by rw [hcl,←hl];exact h2.len
  have key:∀(i:Nat) c u,cs[i]?=some c->vs[i]?=some u->B6 w A β c u∧u.oneCell'=true:=by
   intro i c u hc' hu;obtain ⟨q,hq,_,_,hqv⟩:=hc i c hc';rw [Nat.zero_add] at hq;exact hqv w A β u (h2.at_ hq hu)
  refine ⟨Bj.of_at hlen fun i c u hc' hu=>(key i c u hc' hu).1,?_,?_,hna⟩
  ·intro u hu;obtain ⟨i,hi⟩:=List.mem_iff_getElem?.1 (show u∈vs from hu)
   have hlt:i<vs.length:=by
    rcases Nat.lt_or_ge i vs.length with h|h
    ·exact h
    ·rw [List.getElem?_eq_none h] at hi;cases hi
   exact (key i _ u (List.getElem?_eq_getElem (by omega)) hi).2
  ·intro c hcm id hid;obtain ⟨i,hi⟩:=List.mem_iff_getElem?.1 hcm;obtain ⟨q,hq,_,hr,_⟩:=hc i c hi;rw [Nat.zero_add] at hq;show id∈x.flatMap Ar;exact List.mem_flatMap.2 ⟨q,List.mem_of_getElem? hq,hr id hid⟩
 ·have hp:∀x,p ≠ .agg x:=fun x e=>hagg ⟨x,e⟩
  rw [single hp] at hl hc;have hl1:cs.length=1:=by rw [hcl,←hl];rfl
  match cs,hl1 with
  |[c],_=>
   obtain ⟨q,hq,hf,hr,hqv⟩:=hc 0 c rfl;simp at hq;subst hq;have htup:∀x,p ≠ .tup x:=by rintro x rfl;exact hf
   have hv':B6 w A β p v:=(Te hp).1 ((Ns htup).1 hv);obtain ⟨h5,h6⟩:=hqv w A β v hv';rw [Oa h6];refine ⟨⟨h5,trivial⟩,?_,?_,hna⟩
   ·intro u hu;simp at hu;subst hu;exact h6
   ·intro c' hc' id hid;simp at hc';subst hc';have:=hr id hid;cases p<;>first|exact this|exact absurd rfl (hp _)|exact absurd rfl (htup _)
end
open Go.RowKit
section
variable {R:Type} {r:R} {P:Program} {N:Nat} {w0:World} {X0:Ew} {Y:Nat->Prop} {β β':Bt} {s:St} {a:Act} {w w':World} {o:Oper} {A:Nat->Prop}
theorem Bj.get {α β':Type}{R':α->β'->Prop}{zs:List α}{bs:List β'}(h:Bj R' zs bs){i:Nat}{x:α}(hx:zs[i]?=some x):∃y,bs[i]?=some y∧R' x y:=by
 have hlt:i<zs.length:=by
  rcases Nat.lt_or_ge i zs.length with h|h
  ·exact h
  ·rw [List.getElem?_eq_none h] at hx;cases hx
 have hb:bs[i]?=some (bs[i]'(by rw [←h.len];exact hlt)):=List.getElem?_eq_getElem _
 exact ⟨_,hb,h.at_ hx hb⟩
theorem Akn {p:PV}{v:Value}{ts:List CT}{K:List PV->Option R}(hv:Dl w A β p v)(hl:(cellsOf p).length=ts.length) (h:Vs ts (cellsOf p) 0 K=some r):
  ∃cs,K cs=some r∧cs.length=ts.length∧Bj (A4 w A) cs v.cells.toList∧∀u∈v.cells.toList,u.oneCell'=true:=by
 obtain ⟨cs,h,hcl,hc⟩:=Uy h;refine ⟨cs,h,hcl,?_⟩;by_cases hagg:∃x,p=.agg x
 ·obtain ⟨x,rfl⟩:=hagg;obtain ⟨vs,rfl,h2⟩:=hv;have hlen:cs.length=vs.length:=by rw [hcl,←hl];exact h2.len
  have key:∀(i:Nat) c u,cs[i]?=some c->vs[i]?=some u->A4 w A c u∧u.oneCell'=true:=by
   intro i c u hc' hu;obtain ⟨_,q,hq,_,hqv⟩:=hc i c hc';rw [Nat.zero_add] at hq;exact hqv w A β u (h2.at_ hq hu)
  refine ⟨Bj.of_at hlen fun i c u hc' hu=>(key i c u hc' hu).1,?_⟩
  intro u hu;obtain ⟨i,hi⟩:=List.mem_iff_getElem?.1 (show u∈vs from hu)
  have hlt:i<vs.length:=by
   rcases Nat.lt_or_ge i vs.length with h|h
   ·exact h
   ·rw [List.getElem?_eq_none h] at hi;cases hi
  exact (key i _ u (List.getElem?_eq_getElem (by omega)) hi).2
 ·have hp:∀x,p ≠ .agg x:=fun x e=>hagg ⟨x,e⟩
  have single:cellsOf p=[p]:=by cases p<;>first|rfl|exact absurd rfl (hp _)
  rw [single] at hl hc;have hl1:cs.length=1:=by rw [hcl,←hl];rfl
  match cs,hl1 with
  |[c],_=>
   obtain ⟨_,q,hq,hf,hqv⟩:=hc 0 c rfl;simp at hq;subst hq;have htup:∀x,p ≠ .tup x:=by rintro x rfl;exact hf
   have hv':B6 w A β p v:=(Te hp).1 ((Ns htup).1 hv);obtain ⟨h5,h6⟩:=hqv w A β v hv';rw [Oa h6];exact ⟨⟨h5,trivial⟩,fun u hu=>by simp at hu;subst hu;exact h6⟩
theorem Aez (h:Bu N w0 X0 Y β s a w){t:TypeId}{x:Operand}(ho:o.op=.box t x){d:Nat}{K:PV->List Nat->List (Nat × Bl)->Option R}
    (hk:(Ap (I3 P t&&Nat.beq (cellsOf (Cf s.tm x)).length (H5 P t).length)
      (bif Ur P t then Vs (H5 P t) (cellsOf (Cf s.tm x)) 0 fun cs=>K (.ptr d 0) [] [(d,.ar false cs)]
       else Qt (H5 P t) (cellsOf (Cf s.tm x)) 0 fun cs=>K (.ptr d 0) [] [(d,.st cs)]))=some r):∃v fz nw,K v fz nw=some r∧Et P a w o Y β s v fz nw:=by
  obtain ⟨hl,hk⟩:=Aq hk
  simp only [Bool.and_eq_true] at hl
  have hl:=Nat.eq_of_beq_eq_true hl.2
  have hrun:(execOp a.eval o).run P w=.ok (.value (.pointer (some ⟨w.heap.size,0,none⟩))) (w.alloc (.cells (a.eval x).cells t)):=by
    unfold execOp
    rw [ho]
    simp [Instr.box,newVar,newRow]
  have hg:=Gq.alloc w (a.eval x).cells t
  cases ha:Ur P t
  · rw [ha] at hk
    obtain ⟨cs,hk,_,h2,_,hr,_⟩:=Aca (C4 h x) hl hk
    refine ⟨_,_,_,hk,QS hrun hg (fun j p hj=>?_) fun c hc id hid=>Fh h x id (hr c hc id hid)⟩
    obtain ⟨u,hu,hp⟩:=h2.get hj
    exact ⟨u,by simpa using hu,hp⟩
  · rw [ha] at hk
    obtain ⟨cs,hk,_,h2,h1⟩:=Akn (C4 h x) hl hk
    refine ⟨_,_,_,hk,R2 (by simp) hrun hg (fun j p hj=>?_) (.inl ⟨rfl,rfl⟩)⟩
    obtain ⟨u,hu,hp⟩:=h2.get hj
    exact ⟨u,by simpa using hu,h1 u (List.mem_of_getElem? hu),hp⟩
theorem Abd {c:PV}(h1:∀x,c ≠ .agg x)(h2:∀x,c ≠ .tup x):Bq c=Ar c:=by
 cases c<;>first|rfl|exact absurd rfl (h1 _)|exact absurd rfl (h2 _)
theorem AL {t:TypeId}{ad:Addr}{cs:List PV}{p:PV}(hok:I3 P t=true)(hlen:cs.length=(H5 P t).length)
  (hna:∀c∈cs,(∀x,c ≠ .agg x)∧(∀x,c ≠ .tup x))
  (hc:∀(j:Nat) c,cs[j]?=some c->∃v,w.cell? (ad.add j)=some v∧B6 w A β c v)
  (hp:(Cj P t=true∧p=.agg cs)∨(Cj P t=false∧cs=[p])):∃val,(loadVar t ad).run P w=.ok val w∧Dl w A β p val:=by
 obtain ⟨⟨d,hd⟩,hl,hi⟩:=Rx hok;rcases hp with ⟨hagg,rfl⟩|⟨hagg,rfl⟩
 ·have hf:∀j,j<Bg P t->w.cell? (ad.add j)=some ((w.cell? (ad.add j)).getD undef):=by
   intro j hj;obtain ⟨v,hv,_⟩:=hc j _ (List.getElem?_eq_getElem (by omega))
   rw [hv];rfl
  refine ⟨_,?_,(List.range (Bg P t)).map (fun j=>(w.cell? (ad.add j)).getD undef),rfl,?_⟩
  ·simp only [loadVar,Sem.run_bind,Sc hd,hagg,Result.andThen_ok,if_true,Kp hi,run_loadCells w ad (Bg P t) _ hf];simp
  ·refine Bj.of_at (by simp;omega) fun i c u hc' hu=>?_
   obtain ⟨v,hv,hcv⟩:=hc i c hc'
   have hlt:i<Bg P t:=by
    rcases Nat.lt_or_ge i cs.length with h|h
    ·omega
    ·rw [List.getElem?_eq_none h] at hc';cases hc'
   rw [List.getElem?_map,List.getElem?_range hlt] at hu;simp [hv] at hu;subst hu;exact hcv
 ·obtain ⟨v,hv,hcv⟩:=hc 0 p rfl;have hn:=hna p (by simp)
  have h0:ad.add 0=ad:=by simp [Addr.add]
  rw [h0] at hv;refine ⟨v,?_,(Ns hn.2).2 ((Te hn.1).2 hcv)⟩;simp only [loadVar,Sem.run_bind,Sc hd,hagg,Result.andThen_ok];simp [hv]
theorem Aik {hp:Nat->Option Bl}{id:Nat}{c:List PV}(h:rd hp id=some c):hp id=some (.st c)∨∃f,hp id=some (.ar f c):=by
 unfold rd at h;split at h
 ·rename_i e;simp at h;subst h;exact .inl e
 ·rename_i f _ e;simp at h;subst h;exact .inr ⟨_,e⟩
 ·cases h
theorem SA {hp:Nat->Option Bl}{id:Nat}{c:List PV}(h:J6 hp id=some c):∃f,hp id=some (.ar f c):=by
 unfold J6 at h;split at h
 ·rename_i e;simp at h;subst h;exact ⟨_,e⟩
 ·cases h
theorem MJ (h:Bu N w0 X0 Y β s a w){id:Nat}{c:List PV}(hr:rd s.hp id=some c){b ob:Nat}(hβ:β id=some (b,ob)) {j:Nat}{p:PV}(hj:c[j]?=some p):
  ∃v,w.cell? ⟨b,ob+j,none⟩=some v∧B6 w (Co s.hp β Y) β p v:=by
 rcases Aik hr with hb|⟨f,hb⟩
 ·obtain ⟨b',o',h1,h2,_⟩:=h.box id _ hb;rw [hβ] at h1;simp at h1;obtain ⟨rfl,rfl⟩:=h1;exact h2 j p hj
 ·rcases h.box id _ hb with ⟨h1,_⟩|⟨b',o',h1,h2,_⟩
  ·rw [hβ] at h1;cases h1
  ·rw [hβ] at h1;simp at h1;obtain ⟨rfl,rfl⟩:=h1
   obtain ⟨v,hv,_,ht⟩:=h2 j p hj;rw [Du] at hv;refine ⟨v,hv,?_⟩;cases ht with
   |sc=>exact A4.sc _
   |top=>exact A4.top _
   |ub=>exact A4.ub _
   |lnil=>exact A4.lnil _ _
   |lemp=>exact A4.lemp _ _ _
   |lst es n cells a cap f hs hb hA hn hc h1 hr=>exact A4.lst es n cells a cap f hs hb hA hn hc h1 hr
theorem Kq:∀{ts:List CT}{cells:List PV}{off:Nat}{K:List PV->Option R},Vs ts cells off K=some r->Qt ts cells off K=some r
 |[],_,_,_,h=>h
 |.int k::ts,cells,off,K,h=>by
  obtain ⟨n,hp,h⟩:=Hi (show Ad k (cells.getD off .top) _=some r from h)
  show Ad k _ _=_;rw [hp];simp only [Ad,if_true];exact Kq h
 |.bool::ts,cells,off,K,h=>by
  obtain ⟨n,hp,h⟩:=Gk (show Bm (cells.getD off .top) _=some r from h)
  show Bm _ _=_;rw [hp];exact Kq h
 |.str::ts,cells,off,K,h=>by
  obtain ⟨n,hp,h⟩:=Fv (show Cw (cells.getD off .top) _=some r from h)
  show Cw _ _=_;rw [hp];exact Kq h
 |.sl es::ts,cells,off,K,h=>by
  obtain ⟨z,n,c,h,hp⟩:=F9 (show Ha es (cells.getD off .top) _=some r from h)
  change fcK (.sl es) (cells.getD off .top) (fun c=>Qt ts cells (off+1) fun r=>K (c::r))=some r
  unfold fcK;dsimp only;unfold fsK;rcases hp with hp|⟨hp,rfl,rfl,rfl⟩
  ·rw [hp];simp only [Ha,Nat.beq_refl,cond_true];exact Kq h
  ·rw [hp];exact Kq h
 |.any::ts,cells,off,K,h=>by
  obtain ⟨f,a,b,hp,h⟩:=RM (show fnK (cells.getD off .top) (fun v=>Vs ts cells (off+1) fun r=>K (.sc v::r))=some r from h)
  show fnK (cells.getD off .top) (fun v=>Qt ts cells (off+1) fun r=>K (.sc v::r))=some r
  rw [hp];exact Kq h
theorem A4.unz {w:World}{A:Nat->Prop}{z:Bool}{es n:Nat}{c:List PV}{u:Value}(h:A4 w A (.lst z es n c) u):A4 w A (.lst false es n c) u:=by
 cases h with
 |lnil z es=>exact .lnil false es
 |lemp es a cap=>exact .lemp es a cap
 |lst es n c a cap f h1 h2 h3 h4 h5 h6 h7=>exact .lst es n c a cap f h1 h2 h3 h4 h5 h6 h7
theorem Aex {w:World}{A:Nat->Prop}{β:Bt}{p:PV}{u:Value}(h:B6 w A β p u):B6 w A β (Afd p) u:=by
 cases p with
 |lst z es n c=>exact A4.unz h
 |_=>exact h
theorem Aat (p:PV):Ar (Afd p)=Ar p:=by cases p<;>rfl
theorem QX {w:World}{A:Nat->Prop}{β:Bt}:∀{cs:List PV}{vs:List Value},Bj (B6 w A β) cs vs->Bj (B6 w A β) (cs.map Afd) vs
 |[],[],_=>trivial
 |_::_,_::_,h=>⟨Aex h.1,QX h.2⟩
 |[],_::_,h=>h.elim
 |_::_,[],h=>h.elim
theorem Aeh {w:World}{A:Nat->Prop}{β:Bt}{p:PV}{u:Value}(h:Dl w A β p u):Dl w A β (Afj p) u:=by
 cases p with
 |agg cs=>
  obtain ⟨vs,h1,h2⟩:=(show Gg w A β (.agg cs) u from h)
  exact ⟨vs,h1,QX h2⟩
 |lst z es n c=>exact A4.unz (show A4 w A (.lst z es n c) u from h)
 |_=>exact h
theorem Aec (p:PV):Bq (Afj p)=Bq p:=by
 cases p with
 |agg cs=>
  show (cs.map Afd).flatMap Ar=cs.flatMap Ar
  induction cs with
  |nil=>rfl
  |cons a l ih=>rw [List.map_cons,List.flatMap_cons,List.flatMap_cons,ih,Aat]
 |_=>rfl
theorem Alq {hp:Nat->Option Bl}{t:TypeId}{x:PV}{K:PV->Option R}(h:BM P (rd hp) (J6 hp) t x K=some r):
  KE P (rd hp) t x K=some r∨KE P (rd hp) t x (fun v=>K (Afj v))=some r:=by
 unfold BM at h;unfold KE;split at h
 ·rename_i id off;obtain ⟨hb,h⟩:=Aq h;rw [hb];show Ek _ _=_∨Ek _ _=_;split at h
  ·rename_i c hc;obtain ⟨f,hbx⟩:=SA hc;have:rd hp id=some c:=by unfold rd;rw [hbx]
   rw [this];exact .inr (Kq h)
  ·exact .inl h
 ·exact .inr h
 ·cases h
theorem QP (h:Bu N w0 X0 Y β s a w){t:TypeId}{x:PV}{u:Value}(hx:Dl w (Co s.hp β Y) β x u) {K:PV->Option R}(hk:KE P (rd s.hp) t x K=some r):
  ∃v ad val,K v=some r∧u=.pointer (some ad)∧(loadVar t ad).run P w=.ok val w∧Dl w (Co s.hp β Y) β v val∧∀i∈Bq v,s.hp i≠none:=by
 unfold KE at hk;split at hk
 ·rename_i id off;obtain ⟨hok,hk⟩:=Aq hk;obtain ⟨c,hr,hk⟩:=Cz hk;obtain ⟨cs,hk,hl,hna,hc⟩:=V3 hk;obtain ⟨b,ob,hβ,hax⟩:=hx
  have hcell:∀(j:Nat) q,cs[j]?=some q->∃v,w.cell? ((⟨b,ob+off,none⟩:Addr).add j)=some v∧B6 w (Co s.hp β Y) β q v:=by
   intro j q hq;obtain ⟨p,hp,_,_,hpv⟩:=hc j q hq;obtain ⟨v,hv,hcv⟩:=MJ h hr hβ hp;exact ⟨v,by rw [Du,Nat.add_assoc];exact hv,(hpv _ _ _ _ hcv).1⟩
  have hrefs:∀q∈cs,∀i∈Ar q,s.hp i≠none:=by
   intro q hq i hi;obtain ⟨j,hj⟩:=List.mem_iff_getElem?.1 hq;obtain ⟨p,hp,_,hpr,_⟩:=hc j q hj;rcases Aik hr with hb|⟨f,hb⟩
   ·exact h.wfB id c hb p (List.mem_of_getElem? hp) i (hpr i hi)
   ·obtain ⟨v,hv,hcv⟩:=MJ h hr hβ hp;exfalso;have hp':=hpr i hi;rcases h.box id _ hb with ⟨_,rfl⟩|⟨b',o',h1,h2,_⟩
    ·simp at hp
    ·obtain ⟨v',_,_,ht⟩:=h2 _ p hp;cases ht<;>cases hp'
  rcases SU hk with ⟨hagg,hk2⟩|⟨hagg,q,rfl,hk2⟩
  ·obtain ⟨val,hlv,hv⟩:=AL hok hl hna hcell (.inl ⟨hagg,rfl⟩);refine ⟨_,_,val,hk2,hax,hlv,hv,fun i hi=>?_⟩
   obtain ⟨q,hq,hi⟩:=List.mem_flatMap.1 (show i∈cs.flatMap Ar from hi)
   exact hrefs q hq i hi
  ·obtain ⟨val,hlv,hv⟩:=AL hok hl hna hcell (.inr ⟨hagg,rfl⟩);refine ⟨_,_,val,hk2,hax,hlv,hv,fun i hi=>hrefs q (by simp) i ?_⟩
   have hn:=hna q (by simp)
   rw [Abd hn.1 hn.2] at hi;exact hi
 ·rename_i c off;obtain ⟨hok,hk⟩:=Aq hk;obtain ⟨cs,hk,hl,hc⟩:=Uy hk;obtain ⟨ad,hax,hs,hb,hA,hrd⟩:=hx
  have hna:∀q∈cs,(∀x,q ≠ .agg x)∧(∀x,q ≠ .tup x):=by
   intro q hq;obtain ⟨j,hj⟩:=List.mem_iff_getElem?.1 hq;exact ⟨HP (hc j q hj).1,Ack (hc j q hj).1⟩
  have hcell:∀(j:Nat) q,cs[j]?=some q->∃v,w.cell? ((ad.add off).add j)=some v∧B6 w (Co s.hp β Y) β q v:=by
   intro j q hq;obtain ⟨hT,p,hp,hpT,hpv⟩:=hc j q hq;obtain ⟨v,hv,_,ht⟩:=hrd (off+j) p hp;exact ⟨v,by rw [add_add];exact hv,(O9 hT).2 (hpv w (Co s.hp β Y) β v ((O9 hpT).2 ht)).1⟩
  have hrefs:∀q∈cs,Ar q=[]:=by
   intro q hq;obtain ⟨j,hj⟩:=List.mem_iff_getElem?.1 hq;exact I7 (hc j q hj).1
  rcases SU hk with ⟨hagg,hk2⟩|⟨hagg,q,rfl,hk2⟩
  ·obtain ⟨val,hlv,hv⟩:=AL hok hl hna hcell (.inl ⟨hagg,rfl⟩);refine ⟨_,_,val,hk2,hax,hlv,hv,fun i hi=>?_⟩
   obtain ⟨q,hq,hi⟩:=List.mem_flatMap.1 (show i∈cs.flatMap Ar from hi)
   rw [hrefs q hq] at hi;cases hi
  ·obtain ⟨val,hlv,hv⟩:=AL hok hl hna hcell (.inr ⟨hagg,rfl⟩);refine ⟨_,_,val,hk2,hax,hlv,hv,fun i hi=>?_⟩
   have hn:=hna q (by simp)
   rw [Abd hn.1 hn.2,hrefs q (by simp)] at hi
   cases hi
 ·cases hk
theorem XO (h:Bu N w0 X0 Y β s a w){t:TypeId}{x:PV}{u:Value}(hx:Dl w (Co s.hp β Y) β x u) {K:PV->Option R}(hk:BM P (rd s.hp) (J6 s.hp) t x K=some r):
  ∃v ad val,K v=some r∧u=.pointer (some ad)∧(loadVar t ad).run P w=.ok val w∧Dl w (Co s.hp β Y) β v val∧∀i∈Bq v,s.hp i≠none:=by
 rcases Alq hk with hk|hk
 ·exact QP h hx hk
 ·obtain ⟨v,ad,val,h1,h2,h3,h4,h5⟩:=QP h hx hk;exact ⟨Afj v,ad,val,h1,h2,h3,Aeh h4,by rw [Aec];exact h5⟩
theorem ZA (h:Bu N w0 X0 Y β s a w){t:TypeId}{x:Operand}(ho:o.op=.load t x){K:PV->Option R}(hk:BM P (rd s.hp) (J6 s.hp) t (Cf s.tm x) K=some r):
  ∃v,K v=some r∧Et P a w o Y β s v [] []:=by
 obtain ⟨v,ad,val,hk1,hax,hl,hv,hr⟩:=XO h (C4 h x) hk;refine ⟨v,hk1,Cb ?_ hv hr⟩;unfold execOp;rw [ho];simp [Instr.loadAt,Instr.sureAddr,hax,hl]
theorem Adx {x:PV}{d:Nat}{K:PV->Option R}(h:V2 x d K=some r):(∃id off,x=.ptr id off∧K (.ptr id (off+d))=some r)∨∃c off,x=.iptr c off∧K (.iptr c (off+d))=some r:=by
 unfold V2 at h;split at h
 ·exact .inl ⟨_,_,rfl,h⟩
 ·exact .inr ⟨_,_,rfl,h⟩
 ·cases h
theorem Ym (h:Bu N w0 X0 Y β s a w){x:Operand}{d:Nat}{K:PV->Option R}(hk:V2 (Cf s.tm x) d K=some r)
  (hrun:∀ad:Addr,a.eval x=.pointer (some ad)->(execOp a.eval o).run P w=.ok (.value (.pointer (some (ad.add d)))) w):∃v,K v=some r∧Et P a w o Y β s v [] []:=by
 have hx:=C4 h x;have hxr:=Fh h x;rcases Adx hk with ⟨id,off,e,hk⟩|⟨c,off,e,hk⟩
 ·rw [e] at hx hxr;obtain ⟨b,ob,hβ,hax⟩:=hx;refine ⟨_,hk,Cb (hrun _ hax) ⟨b,ob,hβ,by rw [Du,Nat.add_assoc]⟩ hxr⟩
 ·rw [e] at hx;obtain ⟨ad,hax,h1,h2,h3,h4⟩:=hx;exact ⟨_,hk,Cb (hrun _ hax) ⟨ad,by rw [add_add],h1,h2,h3,h4⟩ (by intro i hi;cases hi)⟩
theorem KX (h:Bu N w0 X0 Y β s a w){x:Operand}(ho:o.op=.nilCheck x){K:PV->Option R}(hk:V2 (Cf s.tm x) 0 K=some r):∃v,K v=some r∧Et P a w o Y β s v [] []:=by
 refine Ym h hk fun ad hax=>?_
 unfold execOp;rw [ho];simp [hax,Addr.add]
theorem BQ {t:TypeId}{f:Nat}{q:Nat × TypeId}(h:Ry P t f=some q):∃fs g,P.underlying t=some (.struct fs)∧fs[f]?=some g∧q=(g.offset,g.type):=by
 unfold Ry at h;split at h
 ·rename_i fs e;cases hg:fs[f]? with
  |none=>rw [hg] at h;cases h
  |some g=>rw [hg] at h;simp at h;exact ⟨fs,g,e,hg,h.symm⟩
 ·cases h
theorem HB (h:Bu N w0 X0 Y β s a w){t:TypeId}{x:Operand}{f:Nat}(ho:o.op=.fieldAddr t x f){K:PV->Option R}
  (hk:(Ek (Ry P t f) fun q=>Ap (Nat.ble 1 (Bg P q.2)) (V2 (Cf s.tm x) q.1 K))=some r):∃v,K v=some r∧Et P a w o Y β s v [] []:=by
 obtain ⟨q,hq,hk⟩:=Cz hk;obtain ⟨hs,hk⟩:=Aq hk;obtain ⟨fs,g,hu,hg,rfl⟩:=BQ hq;have hs:1<=Bg P g.type:=Nat.le_of_ble_eq_true hs;have hsz:=Ahn (P:=P) (t:=g.type) rfl (by omega)
 refine Ym h hk fun ad hax=>?_
 unfold execOp;rw [ho];have hne:¬Bg P g.type=0:=by omega
 simp [Instr.fieldAt,run_underlying hu,hg,Instr.sureAddr,hax,fieldPlace,Kp hsz,hne]
end
open Go.RowKit
section
variable {R:Type} {r:R} {P:Program} {N:Nat} {w0:World} {X0:Ew} {Y:Nat->Prop} {β β':Bt} {s:St} {a:Act} {w w':World} {o:Oper} {A:Nat->Prop}
theorem KU (h:Bu N w0 X0 Y β s a w){t:TypeId}{cs:List PV}{vs:List Value}{off:Nat}{K:PV->Option R}{x:Operand}(hx:Cf s.tm x=.agg cs)(hv:Bj (B6 w (Co s.hp β Y) β) cs vs)
  (hk:Ap (I3 P t) (Qt (H5 P t) cs off fun c=>mkV (Cj P t) c K)=some r)
  (hrun:∀val,(part t ⟨vs⟩ off).run P w=.ok val w->(execOp a.eval o).run P w=.ok (.value val) w):∃v,K v=some r∧Et P a w o Y β s v [] []:=by
 obtain ⟨hok,hk⟩:=Aq hk;obtain ⟨⟨d,hd⟩,hl,hi⟩:=Rx hok;obtain ⟨qs,hk,hql,hna,hq⟩:=V3 hk;have hxr:=Fh h x;rw [hx] at hxr
 have hcell:∀(j:Nat) q,qs[j]?=some q->∃v,vs[off+j]?=some v∧B6 w (Co s.hp β Y) β q v:=by
  intro j q hj;obtain ⟨p,hp,_,_,hpv⟩:=hq j q hj;obtain ⟨v,hv',hc⟩:=hv.get hp;exact ⟨v,hv',(hpv _ _ _ _ hc).1⟩
 have hrefs:∀q∈qs,∀i∈Ar q,s.hp i≠none:=by
  intro q hqm i hi;obtain ⟨j,hj⟩:=List.mem_iff_getElem?.1 hqm;obtain ⟨p,hp,_,hpr,_⟩:=hq j q hj;exact hxr i (List.mem_flatMap.2 ⟨p,List.mem_of_getElem? hp,hpr i hi⟩)
 rcases SU hk with ⟨hagg,hk2⟩|⟨hagg,q,rfl,hk2⟩
 ·have hle:Bg P t=0∨off+Bg P t<=vs.length:=by
   rcases Nat.eq_zero_or_pos (Bg P t) with h0|h0
   ·exact .inl h0
   ·obtain ⟨v,hv',_⟩:=hcell (Bg P t-1) _ (List.getElem?_eq_getElem (by omega))
    have:off+(Bg P t-1)<vs.length:=by
     rcases Nat.lt_or_ge (off+(Bg P t-1)) vs.length with h|h
     ·exact h
     ·rw [List.getElem?_eq_none h] at hv';cases hv'
    exact .inr (by omega)
  refine ⟨_,hk2,Cb (hrun (.agg ⟨(vs.drop off).take (Bg P t)⟩) ?_) ⟨(vs.drop off).take (Bg P t),rfl,?_⟩ fun i hi=>?_⟩
  ·simp only [part,Sem.run_bind,Sc hd,hagg,Result.andThen_ok,if_true,Kp hi];simp [List.extract_eq_take_drop]
  ·refine Bj.of_at ?_ fun i c u hc hu=>?_
   ·simp only [List.length_take,List.length_drop];omega
   ·obtain ⟨v,hv',hcv⟩:=hcell i c hc
    have hlt:i<Bg P t:=by
     rcases Nat.lt_or_ge i qs.length with h|h
     ·omega
     ·rw [List.getElem?_eq_none h] at hc;cases hc
    rw [List.getElem?_take_of_lt hlt,List.getElem?_drop,hv'] at hu;cases hu;exact hcv
  ·obtain ⟨q,hqm,hi⟩:=List.mem_flatMap.1 (show i∈qs.flatMap Ar from hi)
   exact hrefs q hqm i hi
 ·obtain ⟨v,hv',hcv⟩:=hcell 0 q rfl;have hn:=hna q (by simp)
  refine ⟨_,hk2,Cb (hrun v ?_) ((Ns hn.2).2 ((Te hn.1).2 hcv)) fun i hi=>?_⟩
  ·simp only [part,Sem.run_bind,Sc hd,hagg,Result.andThen_ok];rw [Nat.add_zero] at hv';simp [hv']
  ·rw [Abd hn.1 hn.2] at hi;exact hrefs q (by simp) i hi
theorem YF (h:Bu N w0 X0 Y β s a w){t:TypeId}{x:Operand}{f:Nat}(ho:o.op=.field t x f){K:PV->Option R}
  (hk:(Ek (Ry P t f) fun q=>Ap (I3 P q.2)<|Dh (Cf s.tm x) fun cs=>Qt (H5 P q.2) cs q.1 fun c=>mkV (Cj P q.2) c K)=some r):∃v,K v=some r∧Et P a w o Y β s v [] []:=by
 obtain ⟨q,hq,hk⟩:=Cz hk;obtain ⟨hok,hk⟩:=Aq hk;obtain ⟨cs,hx,hk⟩:=Hr hk;obtain ⟨fs,g,hu,hg,rfl⟩:=BQ hq;have hxv:=C4 h x;rw [hx] at hxv;obtain ⟨vs,hax,hv⟩:=hxv;refine KU (t:=g.type) (off:=g.offset) h hx hv (by rw [show I3 P g.type=true from hok];exact hk) fun val hp=>?_
 unfold execOp;rw [ho];simp [Instr.field,run_underlying hu,hg,asAgg,hax,hp]
theorem MZ (h:Bu N w0 X0 Y β s a w){x:Operand}{i:Nat}(ho:o.op=.extract x i){K:PV->Option R}
  (hk:(match Cf s.tm x with | .tup vs=>Ek vs[i]? K|_=>none)=some r):∃v,K v=some r∧Et P a w o Y β s v [] []:=by
 have hx:=C4 h x;have hxr:=Fh h x;split at hk
 ·rename_i ps e;rw [e] at hx hxr;obtain ⟨p,hp,hk⟩:=Cz hk;obtain ⟨vs,hax,hv⟩:=hx;obtain ⟨v,hv',hpv⟩:=hv.get hp
  have hntup:∀y,p ≠ .tup y:=by
   rintro y rfl
   have hpv':A4 _ _ (.tup y) v:=hpv;cases hpv'
  refine ⟨p,hk,Cb (val:=v) ?_ ((Ns hntup).2 hpv) fun id hid=>hxr id ?_⟩
  ·unfold execOp;rw [ho];simp [Instr.extract,hax,hv']
  ·refine List.mem_flatMap.2 ⟨p,List.mem_of_getElem? hp,?_⟩;cases p<;>first|exact hid|exact absurd rfl (hntup _)
 ·cases hk
theorem Hn {es:Nat}{p:PV}{z:Bool}{n:Nat}{c:List PV}{v:Value}(hp:p=.lst z es n c∨(p=.sc (.slice none 0 0)∧z=true∧n=0∧c=[])) (hv:Dl w A β p v):
  (v=.slice none 0 0∧n=0∧c=[])∨(∃ad cap,v=.slice (some ad) n cap∧z=false∧n<=cap∧ad.spot=none∧ad.block<w.heap.size∧¬A ad.block∧OW w A ad c)∨∃ad cap,v=.slice (some ad) 0 cap∧z=false∧n=0∧c=[]:=by
 have hv':B6 w A β p v:=by rcases hp with rfl|⟨rfl,_⟩<;>exact hv
 have ht:=X7 hp hv';cases ht with
 |lnil=>exact .inl ⟨rfl,rfl,rfl⟩
 |lst _ _ _ ad cap f hs hb hA hn hc h1 hr=>exact .inr (.inl ⟨ad,cap,rfl,rfl,hn,hs,hb,hA,fun j q hj=>⟨f j,hc j q hj,h1 j q hj,hr j q hj⟩⟩)
 |lemp _ ad cap=>exact .inr (.inr ⟨ad,cap,rfl,rfl,rfl,rfl⟩)
theorem HA (h:Bu N w0 X0 Y β s a w){t:TypeId}{x i:Operand}(ho:o.op=.indexAddr t x i){K:PV->Option R}
  (hk:(Dm (Cf s.tm i) fun _ n=>Ko P t (Cf s.tm x) n K)=some r):∃v,K v=some r∧Et P a w o Y β s v [] []:=by
 obtain ⟨ik,n,hi,hk⟩:=Dc hk;have hai:=Cl h hi;have hx:=C4 h x;have hxr:=Fh h x;unfold Ko at hk;split at hk
 ·rename_i len e hu;obtain ⟨hz,hk⟩:=Aq hk;obtain ⟨hb,hk⟩:=Aq hk;simp only [Bool.and_eq_true,decide_eq_true_eq] at hb;obtain ⟨inf,hinf⟩:=Option.isSome_iff_exists.1 hz;refine Ym h hk fun ad hax=>?_
  unfold execOp;rw [ho];simp [Instr.indexAt,asIntOf,hai,hax,run_underlying hu,Instr.sureAddr,hb.1,hb.2,sizeOf,typeInfo,hinf,Bg]
 ·rename_i e hu;obtain ⟨hz,hk⟩:=Aq hk;obtain ⟨inf,hinf⟩:=Option.isSome_iff_exists.1 hz;have hsz:Bg P e=inf.size:=by simp [Bg,hinf]
  split at hk
  ·rename_i id es off n' e';rw [e'] at hx hxr;obtain ⟨hes,hk⟩:=Aq hk;have hes:=Nat.eq_of_beq_eq_true hes;subst hes;obtain ⟨hb,hk⟩:=Aq hk;simp only [Bool.and_eq_true,decide_eq_true_eq] at hb;rcases hx with ⟨_,_,rfl,_⟩|⟨b,ob,y,cap,hβ,hax,hy,_⟩
   ·omega
   ·have hy:y=ob+off:=by rcases hy with hy|⟨rfl,_⟩<;>omega
    subst hy;refine ⟨_,hk,Cb (val:=.pointer (some ⟨b,ob+(off+n.toNat*Bg P e),none⟩)) ?_ ⟨b,ob,hβ,rfl⟩ hxr⟩;unfold execOp;rw [ho];simp [Instr.indexAt,asIntOf,hai,hax,run_underlying hu,hb.1,hb.2,sizeOf,typeInfo,hinf,hsz,Du,Nat.add_assoc]
  ·obtain ⟨z,n',c,hk,hp⟩:=F9 hk;obtain ⟨hb,hk⟩:=Aq hk;simp only [Bool.and_eq_true,decide_eq_true_eq] at hb;rcases Hn hp hx with ⟨_,rfl,_⟩|⟨ad,cap,hax,_,_,h1,h2,h3,h4⟩|⟨_,_,_,_,rfl,_⟩
   ·omega
   rotate_left
   ·omega
   ·refine ⟨_,hk,Cb (val:=.pointer (some (ad.add (n.toNat*Bg P e)))) ?_ ⟨ad,rfl,h1,h2,h3,h4⟩ (by intro i hi;cases hi)⟩
    unfold execOp;rw [ho];simp [Instr.indexAt,asIntOf,hai,hax,run_underlying hu,hb.1,hb.2,sizeOf,typeInfo,hinf,hsz]
 ·cases hk
theorem UV (h:Bu N w0 X0 Y β s a w){t:TypeId}{x i:Operand}(ho:o.op=.index t x i){K:PV->Option R}
  (hk:(Dm (Cf s.tm i) fun _ n=>
   match P.underlying t with
   |some .string=>Cw (Cf s.tm x) fun s=>Ap (decide (0<=n)) (Ek (s.data.toList[n.toNat]?) fun b=>K (.sc (.int .u8 b.toNat)))
   |some (.array len e)=>Dh (Cf s.tm x) fun cs=>Ap (decide (0<=n)&&decide (n<len)&&I3 P e) (Qt (H5 P e) cs (n.toNat*Bg P e) fun c=>mkV (Cj P e) c K)
   |_=>none)=some r):∃v,K v=some r∧Et P a w o Y β s v [] []:=by
 obtain ⟨ik,n,hi,hk⟩:=Dc hk;have hai:=Cl h hi;split at hk
 ·rename_i hu;obtain ⟨sb,hx,hk⟩:=Fv hk;have hax:=Cl h hx;obtain ⟨h0,hk⟩:=Aq hk;obtain ⟨b,hb,hk⟩:=Cz hk;have h0:=of_decide_eq_true h0;refine ⟨_,hk,Cr ?_⟩
  have hlt:n.toNat<sb.size:=by
   rcases Nat.lt_or_ge n.toNat sb.data.toList.length with h|h
   ·simpa using h
   ·rw [List.getElem?_eq_none h] at hb;cases hb
  have hb':sb[n.toNat]=b:=by
   have:sb.data.toList[n.toNat]?=some sb[n.toNat]:=by
    rw [List.getElem?_eq_getElem (by simpa using hlt)]
    rfl
   rw [hb] at this;injection this with this;exact this.symm
  unfold execOp;rw [ho];simp [Instr.index,asIntOf,hai,hax,run_underlying hu,h0,hlt,hb']
 ·rename_i len e hu;obtain ⟨cs,hx,hk⟩:=Hr hk;obtain ⟨hb,hk⟩:=Aq hk;simp only [Bool.and_eq_true,decide_eq_true_eq] at hb;have hxv:=C4 h x;rw [hx] at hxv;obtain ⟨vs,hax,hv⟩:=hxv;obtain ⟨_,_,hsz⟩:=Rx hb.2;refine KU (t:=e) (off:=n.toNat*Bg P e) h hx hv (by rw [hb.2];exact hk) fun val hp=>?_
  unfold execOp;rw [ho];simp [Instr.index,asIntOf,hai,hax,run_underlying hu,hb.1.1,hb.1.2,Kp hsz,hp]
 ·cases hk
end
open Go.RowKit
section
variable {R:Type} {r:R} {P:Program} {N:Nat} {w0:World} {X0:Ew} {Y:Nat->Prop} {β β':Bt} {s:St} {a:Act} {w w':World} {o:Oper} {A:Nat->Prop}
theorem Ho (h:Bu N w0 X0 Y β s a w){x:Option Operand}{dflt:Nat}{K:Nat->Option R}(hk:Mw (x.map (Cf s.tm)) dflt K=some r):
  ∃l,K l=some r∧((x=none∧l=dflt)∨∃y k,x=some y∧a.eval y=.int k (l:Int)):=by
 cases x with
 |none=>exact ⟨dflt,hk,.inl ⟨rfl,rfl⟩⟩
 |some y=>
  obtain ⟨k,i,hi,hk⟩:=Dc (show Dm (Cf s.tm y) _=some r from hk)
  obtain ⟨h0,hk⟩:=Aq hk;have h0:=of_decide_eq_true h0;exact ⟨i.toNat,hk,.inr ⟨y,k,rfl,by rw [Cl h hi,Int.toNat_of_nonneg h0]⟩⟩
theorem Iv {lo hi:Option Operand}{isS:Bool}{len cap l u:Nat}(hl:(lo=none∧l=0)∨∃y k,lo=some y∧a.eval y=.int k (l:Int))
  (hu:(hi=none∧u=len)∨∃y k,hi=some y∧a.eval y=.int k (u:Int)) (h1:l<=u)(h2:u<=cap):
  (Instr.sliceBounds isS len cap (lo.map a.eval) (hi.map a.eval) none).run P w=.ok (l,u,cap) w:=by
 rcases hl with ⟨rfl,rfl⟩|⟨y,k,rfl,hy⟩<;>rcases hu with ⟨rfl,rfl⟩|⟨y',k',rfl,hy'⟩
 ·simp [Instr.sliceBounds]
 ·simp [Instr.sliceBounds,Instr.sliceBound,asIntOf,hy',h2]
 ·simp [Instr.sliceBounds,Instr.sliceBound,asIntOf,hy,h1]
 ·simp [Instr.sliceBounds,Instr.sliceBound,asIntOf,hy,hy',h1,h2]
theorem D2 {e:TypeId}(h:(P.info? e).isSome=true) (w:World):(sizeOf e).run P w=.ok (Bg P e) w:=by
 obtain ⟨i,hi⟩:=Option.isSome_iff_exists.1 h;exact Kp (by simp [Bg,hi]) w
theorem MK {b j:Nat}{v:Value}(h:w.cell? ⟨b,j,none⟩=some v):j<bsz w b:=by
 unfold World.cell? at h;unfold bsz;split at h
 ·rename_i c e fz hb;simp only at hb;rw [hb];simp only [Option.isSome_none,Bool.false_eq_true,if_false] at h;rcases Nat.lt_or_ge j c.size with hlt|hge
  ·exact hlt
  ·rw [Array.getElem?_eq_none hge] at h;cases h
 ·cases h
theorem VW (h:Bu N w0 X0 Y β s a w){t:TypeId}{x:Operand}{lo hi:Option Operand}(ho:o.op=.slice t x lo hi none){K:PV->Option R}
  (hk:DZ P (rd s.hp) t (Cf s.tm x) (lo.map (Cf s.tm)) (hi.map (Cf s.tm)) K=some r):∃v,K v=some r∧Et P a w o Y β s v [] []:=by
 have hx:=C4 h x;have hxr:=Fh h x;unfold DZ at hk;split at hk
 ·rename_i hu;obtain ⟨sb,hxs,hk⟩:=Fv hk;have hax:=Cl h hxs;obtain ⟨l,hk,hl⟩:=Ho h hk;obtain ⟨u,hk,hu'⟩:=Ho h hk;obtain ⟨hb,hk⟩:=Aq hk;simp only [Bool.and_eq_true,decide_eq_true_eq] at hb;refine ⟨_,hk,Cr ?_⟩;unfold execOp;rw [ho];simp [Instr.sliceAt,Instr.slice,run_underlying hu,hax,Iv hl hu' hb.1 hb.2]
 ·rename_i e hu;obtain ⟨hinf,hk⟩:=Aq hk;split at hk
  ·rename_i id es off n e';rw [e'] at hx hxr;obtain ⟨hes,hk⟩:=Aq hk;have hes:=Nat.eq_of_beq_eq_true hes;subst hes;obtain ⟨l,hk,hl⟩:=Ho h hk;obtain ⟨u,hk,hu'⟩:=Ho h hk;obtain ⟨hb,hk⟩:=Aq hk;simp only [Bool.and_eq_true,decide_eq_true_eq] at hb;rcases hx with ⟨hβ,rfl,rfl,hax⟩|⟨b,ob,y,cap,hβ,hax,hy,hn,hcap,hlt⟩
   ·have hu0:u=0:=by omega
    have hl0:l=0:=by omega
    subst hu0 hl0;refine ⟨_,hk,Cb (val:=.slice none 0 0) ?_ (.inl ⟨hβ,by simp,rfl,rfl⟩) hxr⟩
    unfold execOp;rw [ho];simp [Instr.sliceAt,Instr.slice,run_underlying hu,hax,Iv hl hu' (Nat.le_refl 0) (Nat.le_refl 0),D2 hinf]
   ·have hrun:(execOp a.eval o).run P w=.ok (.value (.slice (some (if cap=l then ⟨b,y,none⟩ else ⟨b,y+l*Bg P e,none⟩)) (u-l) (cap-l))) w:=by
     unfold execOp;rw [ho];have hbr:=Iv (P:=P) (w:=w) (isS:=true) hl hu' hb.1 (Nat.le_trans hb.2 hn);simp [Instr.sliceAt,Instr.slice,run_underlying hu,hax,hbr,D2 hinf,Du];split<;>rfl
    refine ⟨_,hk,Cb hrun (.inr ?_) hxr⟩;by_cases hc:cap=l
    ·rw [if_pos hc];refine ⟨b,ob,y,cap-l,hβ,rfl,?_,by omega,by rw [hc,Nat.sub_self];omega,hlt⟩
     by_cases h0:l*Bg P e=0
     ·rw [h0,Nat.add_zero];rcases hy with hy|⟨hn0,hoff⟩
      ·exact .inl hy
      ·exact .inr ⟨by omega,hoff⟩
     ·exact .inr ⟨by omega,by omega⟩
    ·rw [if_neg hc];refine ⟨b,ob,y+l*Bg P e,cap-l,hβ,rfl,?_,by omega,?_,hlt⟩
     ·rcases hy with hy|⟨hn0,hoff⟩
      ·exact .inl (by omega)
      ·exact .inr ⟨by omega,by omega⟩
     ·have:l*Bg P e+(cap-l)*Bg P e=cap*Bg P e:=by
       rw [←Nat.add_mul]
       congr 1
       omega
      omega
  ·obtain ⟨z,n,c,hk,hp⟩:=F9 hk;obtain ⟨l,hk,hl⟩:=Ho h hk;obtain ⟨u,hk,hu'⟩:=Ho h hk;obtain ⟨hb,hk⟩:=Aq hk;simp only [Bool.and_eq_true,decide_eq_true_eq] at hb;rcases Hn hp hx with ⟨hax,rfl,rfl⟩|⟨ad,cap,hax,rfl,hn,h1,h2,h3,h4⟩|⟨ad,cap,hax,rfl,rfl,rfl⟩
   rotate_right
   ·have hu0:u=0:=by omega
    have hl0:l=0:=by omega
    subst hu0 hl0;refine ⟨_,hk,Cb (val:=.slice (some (if cap=0 then ad else ad.add (0*Bg P e))) (0-0) (cap-0)) ?_ ?_ (by intro i hi;cases hi)⟩
    ·unfold execOp;rw [ho];have hbr:=Iv (P:=P) (w:=w) (isS:=true) hl hu' (Nat.le_refl 0) (Nat.zero_le cap);simp [Instr.sliceAt,Instr.slice,run_underlying hu,hax,hbr,D2 hinf];split<;>rfl
    ·have:((([]:List PV).drop (0*Bg P e)).take ((0-0)*Bg P e))=[]:=by simp
     rw [this];exact A4.lemp _ _ _
   ·have hu0:u=0:=by omega
    have hl0:l=0:=by omega
    subst hu0 hl0;refine ⟨_,hk,Cb (val:=.slice none 0 0) ?_ ?_ (by intro i hi;cases hi)⟩
    ·unfold execOp;rw [ho];simp [Instr.sliceAt,Instr.slice,run_underlying hu,hax,Iv hl hu' (Nat.le_refl 0) (Nat.le_refl 0),D2 hinf]
    ·have:((([]:List PV).drop (0*Bg P e)).take ((0-0)*Bg P e))=[]:=by simp
     rw [this];exact A4.lnil z _
   ·have hrun:(execOp a.eval o).run P w=.ok (.value (.slice (some (if cap=l then ad else ad.add (l*Bg P e))) (u-l) (cap-l))) w:=by
     unfold execOp;rw [ho];have hbr:=Iv (P:=P) (w:=w) (isS:=true) hl hu' hb.1 (Nat.le_trans hb.2 hn);simp [Instr.sliceAt,Instr.slice,run_underlying hu,hax,hbr,D2 hinf];split<;>rfl
    refine ⟨_,hk,Cb hrun ?_ (by intro i hi;cases hi)⟩
    by_cases hc:cap=l
    ·rw [if_pos hc];have:u-l=0:=by omega
     rw [this];simp only [Nat.zero_mul,List.take_zero];exact A4.lst _ _ [] ad _ (fun _=>undef) h1 h2 h3 (by omega) (by simp) (by simp) (by simp)
    ·rw [if_neg hc]
     have hcell:∀(j:Nat) q,((c.drop (l*Bg P e)).take ((u-l)*Bg P e))[j]?=some q->c[l*Bg P e+j]?=some q:=by
      intro j q hq;rw [List.getElem?_take] at hq;split at hq
      ·rw [List.getElem?_drop] at hq;exact hq
      ·cases hq
     refine A4.lst _ _ _ (ad.add (l*Bg P e)) _ (fun j=>(w.cell? (ad.add (l*Bg P e+j))).getD undef) (Agf h1 _) (by rw [Fn];exact h2) (by rw [Fn];exact h3) (by omega) (fun j q hq=>?_) (fun j q hq=>?_) (fun j q hq=>?_)
     ·obtain ⟨v,hv,_⟩:=h4 _ q (hcell j q hq);rw [add_add,hv];rfl
     ·obtain ⟨v,hv,h5,_⟩:=h4 _ q (hcell j q hq);rw [hv];exact h5
     ·obtain ⟨v,hv,_,ht⟩:=h4 _ q (hcell j q hq);rw [hv];exact ht
 ·rename_i n e hu;obtain ⟨hinf,hk⟩:=Aq hk;split at hk
  ·rename_i id off e';rw [e'] at hx hxr;obtain ⟨c,hrc,hk⟩:=Cz hk;obtain ⟨hlen,hk⟩:=Aq hk;simp only [Bool.and_eq_true,decide_eq_true_eq] at hlen;obtain ⟨l,hk,hl⟩:=Ho h hk;obtain ⟨u,hk,hu'⟩:=Ho h hk;obtain ⟨hb,hk⟩:=Aq hk;simp only [Bool.and_eq_true,decide_eq_true_eq] at hb;obtain ⟨b,ob,hβ,hax⟩:=hx
   have hbs:ob+off+n*Bg P e<=bsz w b:=by
    obtain ⟨v,hv,_⟩:=MJ h hrc hβ (j:=off+n*Bg P e-1) (List.getElem?_eq_getElem (by omega))
    have:=MK hv;omega
   have hlt:b<w.heap.size:=h.blt id b ob (hxr id (by simp [Bq,B8,Ar])) hβ
   have hrun:(execOp a.eval o).run P w=.ok (.value (.slice (some (if n=l then ⟨b,ob+off,none⟩ else ⟨b,ob+off+l*Bg P e,none⟩)) (u-l) (n-l))) w:=by
    unfold execOp;rw [ho];have hbr:=Iv (P:=P) (w:=w) (isS:=false) hl hu' hb.1 hb.2;simp [Instr.sliceAt,Instr.sureAddr,run_underlying hu,hax,hbr,D2 hinf,Du]
   refine ⟨_,hk,Cb hrun (.inr ?_) hxr⟩;by_cases hc:n=l
   ·rw [if_pos hc];refine ⟨b,ob,ob+off,n-l,hβ,rfl,?_,by omega,by rw [hc,Nat.sub_self];omega,hlt⟩
    by_cases h0:l*Bg P e=0
    ·rw [h0,Nat.add_zero];exact .inl rfl
    ·exact .inr ⟨by omega,by omega⟩
   ·rw [if_neg hc];refine ⟨b,ob,ob+off+l*Bg P e,n-l,hβ,rfl,.inl (by omega),by omega,?_,hlt⟩
    have:l*Bg P e+(n-l)*Bg P e=n*Bg P e:=by
     rw [←Nat.add_mul]
     congr 1
     omega
    omega
  ·cases hk
 ·cases hk
end
open Go.RowKit
section
variable {R:Type} {r:R} {P:Program} {N:Nat} {w0:World} {X0:Ew} {Y:Nat->Prop} {β β':Bt} {s:St} {a:Act} {w w':World} {o:Oper} {A:Nat->Prop}
theorem Adq (h:Bu N w0 X0 Y β s a w){c:Call}(ho:o.op=.call c)(hc:c.callee=.builtin .len){K:PV->Option R}
  (hk:(Ab c.args.toList fun x _=>Ab c.argTypes.toList fun t _=>Aft P t (Cf s.tm x) fun n=>K (.sc (.int .i64 n)))=some r):∃v,K v=some r∧Et P a w o Y β s v [] []:=by
 obtain ⟨x,xs,hxs,hk⟩:=Bd hk;obtain ⟨t,ts,hts,hk⟩:=Bd hk;have hx:=C4 h x;have hargs:c.args=(x::xs).toArray:=by rw [←hxs]
 have htys:c.argTypes=(t::ts).toArray:=by rw [←hts]
 have hrun:∀n:Nat,(Builtin.len_ c.argTypes o.type (c.args.map a.eval)).run P w=.ok (.int .i64 n) w->(execOp a.eval o).run P w=.ok (.value (.int .i64 n)) w:=by
  intro n hl;unfold execOp;rw [ho];simp only [resolve,hc,invoke,builtin,Sem.run_bind,Sem.run_pure,Result.andThen_ok,hl]
 unfold Aft at hk;split at hk
 ·rename_i hu;obtain ⟨sb,hxs',hk⟩:=Fv hk;have hax:=Cl h hxs';refine ⟨_,hk,Cr (hrun _ ?_)⟩;simp [Builtin.len_,hargs,htys,run_underlying hu,hax,goInt]
 ·rename_i n e hu;refine ⟨_,hk,Cr (hrun _ ?_)⟩;simp [Builtin.len_,hargs,htys,run_underlying hu,goInt]
 ·rename_i e hu;split at hk
  ·rename_i id es off n e';rw [e'] at hx;obtain ⟨_,hk⟩:=Aq hk;refine ⟨_,hk,Cr (hrun _ ?_)⟩;rcases hx with ⟨_,_,rfl,hax⟩|⟨b,ob,y,cap,_,hax,_⟩<;>simp [Builtin.len_,hargs,htys,run_underlying hu,hax,goInt]
  ·obtain ⟨z,n,cc,hk,hp⟩:=F9 hk;refine ⟨_,hk,Cr (hrun _ ?_)⟩;rcases Hn hp hx with ⟨hax,rfl,_⟩|⟨ad,cap,hax,_⟩|⟨ad,cap,hax,_,rfl,_⟩<;>simp [Builtin.len_,hargs,htys,run_underlying hu,hax,goInt]
 ·cases hk
theorem Adh (h:Bu N w0 X0 Y β s a w){c:Call}(ho:o.op=.call c)(hc:c.callee=.builtin .cap){K:PV->Option R}
  (hk:(Ab c.args.toList fun x _=>Ab c.argTypes.toList fun t _=>Adj P t (Cf s.tm x) fun n=>K (.sc (.int .i64 n)))=some r):∃v,K v=some r∧Et P a w o Y β s v [] []:=by
 obtain ⟨x,xs,hxs,hk⟩:=Bd hk;obtain ⟨t,ts,hts,hk⟩:=Bd hk;have hx:=C4 h x;have hargs:c.args=(x::xs).toArray:=by rw [←hxs]
 have htys:c.argTypes=(t::ts).toArray:=by rw [←hts]
 have hrun:∀n:Nat,(Builtin.cap_ c.argTypes o.type (c.args.map a.eval)).run P w=.ok (.int .i64 n) w->(execOp a.eval o).run P w=.ok (.value (.int .i64 n)) w:=by
  intro n hl;unfold execOp;rw [ho];simp only [resolve,hc,invoke,builtin,Sem.run_bind,Sem.run_pure,Result.andThen_ok,hl]
 unfold Adj at hk;split at hk
 ·rename_i e hu;obtain ⟨z,n,cc,hk,hp⟩:=F9 hk;obtain ⟨hz,hk⟩:=Aq hk;refine ⟨_,hk,Cr (hrun _ ?_)⟩;rcases Hn hp hx with ⟨hax,rfl,_⟩|⟨ad,cap,hax,hzf,_⟩|⟨ad,cap,hax,hzf,_,_⟩
  ·simp [Builtin.cap_,hargs,htys,run_underlying hu,hax,goInt]
  ·rw [hz] at hzf;cases hzf
  ·rw [hz] at hzf;cases hzf
 ·cases hk
theorem Aed (h:Bu N w0 X0 Y β s a w){c:Call}(ho:o.op=.call c)(hc:c.callee=.builtin .min){K:PV->Option R}
  (hk:(Ab c.args.toList fun x r=>Ab r fun y r'=>Ac r' (Aj4 (Cf s.tm x) (Cf s.tm y) K))=some r):∃v,K v=some r∧Et P a w o Y β s v [] []:=by
 obtain ⟨x,xs,hxs,hk⟩:=Bd hk;obtain ⟨y,ys,rfl,hk⟩:=Bd hk;obtain ⟨rfl,hk⟩:=Dk hk;obtain ⟨k,n,hx,hk⟩:=Dc hk;obtain ⟨m,hy,hk⟩:=Hi hk
 have hargs:c.args = #[x,y]:=by
  have:c.args=([x,y]:List Operand).toArray:=by rw [←hxs]
  exact this
 refine ⟨_,hk,Cr ?_⟩;unfold execOp;rw [ho];simp [resolve,hc,invoke,builtin,hargs,Builtin.min_,Builtin.min2,Cl h hx,Cl h hy]
theorem Afp (h:Bu N w0 X0 Y β s a w){c:Call}(ho:o.op=.call c)(hc:c.callee=.builtin .max){K:PV->Option R}
  (hk:(Ab c.args.toList fun x r=>Ab r fun y r'=>Ac r' (Akf (Cf s.tm x) (Cf s.tm y) K))=some r):∃v,K v=some r∧Et P a w o Y β s v [] []:=by
 obtain ⟨x,xs,hxs,hk⟩:=Bd hk;obtain ⟨y,ys,rfl,hk⟩:=Bd hk;obtain ⟨rfl,hk⟩:=Dk hk;obtain ⟨k,n,hx,hk⟩:=Dc hk;obtain ⟨m,hy,hk⟩:=Hi hk
 have hargs:c.args = #[x,y]:=by
  have:c.args=([x,y]:List Operand).toArray:=by rw [←hxs]
  exact this
 refine ⟨_,hk,Cr ?_⟩;unfold execOp;rw [ho];simp [resolve,hc,invoke,builtin,hargs,Builtin.max_,Builtin.max2,Cl h hx,Cl h hy]
theorem ZC (h:Bu N w0 X0 Y β s a w){op:UnOp}{t:TypeId}{x:Operand}(ho:o.op=.unOp op t x){K:PV->Option R}(hk:unK op (Cf s.tm x) K=some r):
  ∃v,K v=some r∧Et P a w o Y β s v [] []:=by
 unfold unK at hk;split at hk
 ·obtain ⟨b,hb,hk⟩:=Gk hk;refine ⟨_,hk,Cr ?_⟩;unfold execOp;rw [ho];simp [Op.unary,Cl h hb]
 ·obtain ⟨k,n,hb,hk⟩:=Dc hk;refine ⟨_,hk,Cr ?_⟩;unfold execOp;rw [ho];simp [Op.unary,Op.intArith,Cl h hb]
 ·obtain ⟨k,n,hb,hk⟩:=Dc hk;refine ⟨_,hk,Cr ?_⟩;unfold execOp;rw [ho];simp [Op.unary,Op.intBits,Cl h hb,Ara]
 ·cases hk
theorem Afw {op:BinOp}{k:IntKind}{m n:Int}{t:TypeId}{x y:Operand}{K:PV->Option R}(hs1:op ≠ .shl)(hs2:op ≠ .shr)(hk:LQ op k m n K=some r):
  ∃v,K (.sc v)=some r∧(do eqGuard op t x y (.int k m) (.int k n);binOp op t (.int k m) (.int k n)).run P w=.ok v w:=by
 cases op<;>first
  |exact absurd rfl hs1
  |exact absurd rfl hs2
  |(obtain ⟨hb,hk⟩:=Aq hk;have hb:=of_decide_eq_true hb;exact ⟨_,hk,by simp [eqGuard,binOp,Op.intDiv,hb]⟩)
  |exact ⟨_,hk,by simp [eqGuard,binOp,-BitVec.toNat_and,-BitVec.toNat_or,-BitVec.toNat_xor,-gt_iff_lt,-ge_iff_le]<;>rfl⟩
theorem Afb {op:BinOp}{m n:ByteArray}{t:TypeId}{x y:Operand}{K:PV->Option R}(hk:II op m n K=some r):
  ∃v,K (.sc v)=some r∧(do eqGuard op t x y (.string m) (.string n);binOp op t (.string m) (.string n)).run P w=.ok v w:=by
 cases op<;>first
  |cases hk
  |(obtain ⟨hb,hk⟩:=Aq hk;have hb:=of_decide_eq_true hb;exact ⟨_,hk,by
    have hb':¬(((m.size+n.size:Nat):Int)>IntKind.i64.max):=by
     have:IntKind.i64.max=9223372036854775807:=rfl;rw [this];omega
    simp only [eqGuard,binOp,Op.stringOp,if_neg hb'];rfl⟩)
  |exact ⟨_,hk,by simp only [eqGuard,binOp,Op.stringOp,ByteArray.toList_eq];rfl⟩
end
open Go.RowKit
section
variable {R:Type} {r:R} {P:Program} {N:Nat} {w0:World} {X0:Ew} {Y:Nat->Prop} {β β':Bt} {s:St} {a:Act} {w w':World} {o:Oper} {A:Nat->Prop}
theorem JJ {t:TypeId}(hu:P.underlying t=some .bool)(x y:Bool):(Op.equal t (.bool x) (.bool y)).run P w=.ok (x==y) w:=by
 have h:∀d,(Op.equalIn (d+1) t (.bool x) (.bool y)).run P w=.ok (x==y) w:=fun d=>by simp [Op.equalIn,run_underlying hu]
 exact h 9999
theorem Wl {t e:TypeId}(hu:P.underlying t=some (.slice e)) (x:Option Addr)(n c:Nat):(Op.equal t (.slice x n c) (.slice none 0 0)).run P w=.ok x.isNone w:=by
 have h:∀d,(Op.equalIn (d+1) t (.slice x n c) (.slice none 0 0)).run P w=.ok x.isNone w:=fun d=>by
  cases x<;>simp [Op.equalIn,run_underlying hu]
 exact h 9999
theorem Vq {t:TypeId}(d:Nat){v u:Value}(hv:(∃k m n,P.underlying t=some (.int k)∧v=.int k m∧u=.int k n)∨(∃m n,P.underlying t=some .bool∧v=.bool m∧u=.bool n)∨∃m n,P.underlying t=some .string∧v=.string m∧u=.string n) {b:Bool}
  (hb:∀k m n,v=.int k m->u=.int k n->b=(m==n)) (hb':∀m n,v=.bool m->u=.bool n->b=(m==n)) (hb'':∀m n,v=.string m->u=.string n->b=(m==n)):(Op.equalIn (d+1) t v u).run P w=.ok b w:=by
 rcases hv with ⟨k,m,n,hu,rfl,rfl⟩|⟨m,n,hu,rfl,rfl⟩|⟨m,n,hu,rfl,rfl⟩
 ·rw [hb k m n rfl rfl];simp [Op.equalIn,run_underlying hu]
 ·rw [hb' m n rfl rfl];simp [Op.equalIn,run_underlying hu]
 ·rw [hb'' m n rfl rfl];simp [Op.equalIn,run_underlying hu]
theorem JG {t:TypeId}{dsc:TypeDesc}(hu:P.underlying t=some dsc)(hd:Cj P t=false){xs:Array Value}{i:Nat}{v:Value}(hv:xs[i]?=some v):(part t xs i).run P w=.ok v w:=by
 simp only [part,Sem.run_bind,Sc hu,hd,Result.andThen_ok];simp [hv]
theorem Acw (d : Nat) : ∀ (fs : List Field) (i : Nat) (xs ys : Array Value) (ps qs : List PV) (K : Bool -> Option R), JI P fs i = true -> IW (fs.map (fty P)) ps qs K = some r ->
    (∀ (j : Nat) p, ps[j]? = some p -> ∃ v, xs[i + j]? = some v ∧ B6 w A β p v) -> (∀ (j : Nat) p, qs[j]? = some p -> ∃ v, ys[i + j]? = some v ∧ B6 w A β p v) ->
    ∃ b, K b = some r ∧ (forIn fs ((none, ()) : Option Bool × Unit) fun (f : Field) (_ : Option Bool × Unit) =>
            if f.name = "_" then pure (ForInStep.yield ((none, ()) : Option Bool × Unit))
            else do
              let x ← part f.type xs f.offset
              let y ← part f.type ys f.offset
              let e ← Op.equalIn (d + 1) f.type x y
              if e = false then pure (ForInStep.done ((some false, ()) : Option Bool × Unit)) else pure (ForInStep.yield ((none, ()) : Option Bool × Unit)) : Sem (Option Bool × Unit)).run P w = .ok (if b then (none, ()) else (some false, ())) w
  | [], i, xs, ys, ps, qs, K, _, hk, _, _ => by
    cases ps with
    | nil => cases qs with
      | nil => exact ⟨true, hk, by simp⟩
      | cons q qs => cases hk
    | cons p ps => cases hk
  | f :: fs, i, xs, ys, ps, qs, K, hfl, hk, hp, hq => by
    simp only [JI, Bool.and_eq_true] at hfl
    obtain ⟨⟨⟨hoff, hname⟩, hty⟩, hrest⟩ := hfl
    have hoff := Nat.eq_of_beq_eq_true hoff
    have hname' : f.name ≠ "_" := by simpa using hname
    cases ps with
    | nil =>
      simp only [List.map_cons] at hk
      cases hfty : fty P f <;> rw [hfty] at hk <;> cases hk
    | cons p ps =>
      cases qs with
      | nil =>
        simp only [List.map_cons] at hk
        cases hfty : fty P f <;> rw [hfty] at hk <;> cases hk
      | cons q qs =>
        obtain ⟨v, hv, hpv⟩ := hp 0 p rfl
        obtain ⟨u, hu, hqu⟩ := hq 0 q rfl
        rw [Nat.add_zero] at hv hu
        have main : ∃ b0 dsc, P.underlying f.type = some dsc ∧ Cj P f.type = false ∧ (Op.equalIn (d + 1) f.type v u).run P w = .ok b0 w ∧ IW (fs.map (fty P)) ps qs (fun r => K (b0 && r)) = some r := by
          simp only [List.map_cons] at hk
          unfold fty at hk
          split at hk
          · rename_i k hun
            obtain ⟨m, hpm, hk1⟩ := Hi (show Ad k p _ = some r from hk)
            obtain ⟨n, hqn, hk2⟩ := Hi hk1
            subst hpm hqn
            have hv' : v = .int k m := A4.val (w := w) (A := A) hpv
            have hu' : u = .int k n := A4.val (w := w) (A := A) hqu
            subst hv' hu'
            refine ⟨m == n, _, hun, by simp [Cj, hun], Vq d (.inl ⟨k, m, n, hun, rfl, rfl⟩) ?_ ?_ ?_, hk2⟩
            · intro k' m' n' h1 h2; injection h1 with _ h1; injection h2 with _ h2; rw [h1, h2]
            · intro m' n' h1; cases h1
            · intro m' n' h1; cases h1
          · rename_i hun
            obtain ⟨m, hpm, hk1⟩ := Gk (show Bm p _ = some r from hk)
            obtain ⟨n, hqn, hk2⟩ := Gk hk1
            subst hpm hqn
            have hv' : v = .bool m := A4.val (w := w) (A := A) hpv
            have hu' : u = .bool n := A4.val (w := w) (A := A) hqu
            subst hv' hu'
            refine ⟨m == n, _, hun, by simp [Cj, hun], Vq d (.inr (.inl ⟨m, n, hun, rfl, rfl⟩)) ?_ ?_ ?_, hk2⟩
            · intro k' m' n' h1; cases h1
            · intro m' n' h1 h2; injection h1 with h1; injection h2 with h2; rw [h1, h2]
            · intro m' n' h1; cases h1
          · rename_i hun
            obtain ⟨m, hpm, hk1⟩ := Fv (show Cw p _ = some r from hk)
            obtain ⟨n, hqn, hk2⟩ := Fv hk1
            subst hpm hqn
            have hv' : v = .string m := A4.val (w := w) (A := A) hpv
            have hu' : u = .string n := A4.val (w := w) (A := A) hqu
            subst hv' hu'
            refine ⟨m == n, _, hun, by simp [Cj, hun], Vq d (.inr (.inr ⟨m, n, hun, rfl, rfl⟩)) ?_ ?_ ?_, hk2⟩
            · intro k' m' n' h1; cases h1
            · intro m' n' h1; cases h1
            · intro m' n' h1 h2; injection h1 with h1; injection h2 with h2; rw [h1, h2]
          · cases hk
        obtain ⟨b0, dsc, hun, hagg, he, hk⟩ := main
        obtain ⟨b, hkb, hrun⟩ := Acw d fs (i + 1) xs ys ps qs _ hrest hk (fun j p' hj => by have := hp (j + 1) p' hj; rwa [Nat.add_assoc, Nat.add_comm 1 j]) (fun j p' hj => by have := hq (j + 1) p' hj; rwa [Nat.add_assoc, Nat.add_comm 1 j])
        refine ⟨b0 && b, hkb, ?_⟩
        have hpx : (part f.type xs f.offset).run P w = .ok v w := JG hun hagg (by rw [hoff]; exact hv)
        have hpy : (part f.type ys f.offset).run P w = .ok u w := JG hun hagg (by rw [hoff]; exact hu)
        cases b0
        · simp [List.forIn_cons, hname', hpx, hpy, he]
        · simp only [Bool.true_and]
          rw [← hrun]
          simp [List.forIn_cons, hname', hpx, hpy, he]
theorem KO (d:Nat){t:TypeId}{fs:Array Field}(hu:P.underlying t=some (.struct fs)) (hst:P.stoodInHeld t=false)(hfl:JI P fs.toList 0=true){xs ys:List PV}{vx vy:List Value}
  (hvx:Bj (B6 w A β) xs vx) (hvy:Bj (B6 w A β) ys vy) {K:Bool->Option R}(hk:IW (fs.toList.map (fty P)) xs ys K=some r):
  ∃b,K b=some r∧(Op.equalIn (d+2) t (.agg ⟨vx⟩) (.agg ⟨vy⟩)).run P w=.ok b w:=by
 obtain ⟨b,hkb,hrun⟩:=Acw (P:=P) (w:=w) (A:=A) (β:=β) d fs.toList 0 ⟨vx⟩ ⟨vy⟩ xs ys K hfl hk (fun j p hj=>by
   obtain ⟨v,hv,hc⟩:=hvx.get hj;exact ⟨v,by simpa using hv,hc⟩) (fun j p hj=>by
   obtain ⟨v,hv,hc⟩:=hvy.get hj;exact ⟨v,by simpa using hv,hc⟩)
 refine ⟨b,hkb,?_⟩;rw [Array.forIn_toList] at hrun;rw [Op.equalIn];simp [run_underlying hu,hst];rw [hrun];cases b<;>simp
theorem ON (h:Bu N w0 X0 Y β s a w){t:TypeId}{fs:Array Field}{x y:Operand}{op:BinOp}(hop:op=.eql∨op=.neq)(hu:P.underlying t=some (.struct fs)) (hfl:TX P t fs=true){xs ys:List PV}
  (hx:Cf s.tm x=.agg xs)(hy:Cf s.tm y=.agg ys){K:Bool->Option R}(hk:IW (fs.toList.map (fty P)) xs ys K=some r):
  ∃b,K b=some r∧(do eqGuard op t x y (a.eval x) (a.eval y);binOp op t (a.eval x) (a.eval y)).run P w=.ok (.bool (if op=.eql then b else !b)) w:=by
 have hxv:=C4 h x;have hyv:=C4 h y;rw [hx] at hxv;rw [hy] at hyv;obtain ⟨vx,hax,hvx⟩:=hxv;obtain ⟨vy,hay,hvy⟩:=hyv;simp only [TX,Bool.and_eq_true,Bool.not_eq_true'] at hfl;obtain ⟨⟨hfl,hst⟩,heg⟩:=hfl;obtain ⟨b,hkb,heq⟩:=KO 9998 hu hst hfl hvx hvy hk;have heq:(Op.equal t (.agg ⟨vx⟩) (.agg ⟨vy⟩)).run P w=.ok b w:=heq;refine ⟨b,hkb,?_⟩;rw [hax,hay];rcases hop with rfl|rfl
 ·simp [eqGuard,binOp,heq,heg]
 ·simp [eqGuard,binOp,heq,heg]
theorem WB (h:Bu N w0 X0 Y β s a w){op:BinOp}{t ty:TypeId}{x y:Operand}(ho:o.op=.binOp op t x y ty){K:PV->Option R}
  (hk:Wm P op t (Cf s.tm x) (Cf s.tm y) K=some r):∃v,K v=some r∧Et P a w o Y β s v [] []:=by
 have hrun:∀v,(do eqGuard op t x y (a.eval x) (a.eval y);binOp op t (a.eval x) (a.eval y)).run P w=.ok v w->(execOp a.eval o).run P w=.ok (.value v) w:=by
  intro v hv;unfold execOp;rw [ho];simp only [Sem.run_bind] at hv ⊢;rw [hv];rfl
 unfold Wm at hk;split at hk
 ·rename_i fs hu;split at hk
  ·obtain ⟨hfl,hk⟩:=Aq hk;obtain ⟨xs,hx,hk⟩:=Hr hk;obtain ⟨ys,hy,hk⟩:=Hr hk;obtain ⟨b,hk,hr⟩:=ON h (.inl rfl) hu hfl hx hy hk;exact ⟨_,hk,Cr (hrun _ (by rw [hr];rfl))⟩
  ·obtain ⟨hfl,hk⟩:=Aq hk;obtain ⟨xs,hx,hk⟩:=Hr hk;obtain ⟨ys,hy,hk⟩:=Hr hk;obtain ⟨b,hk,hr⟩:=ON h (.inr rfl) hu hfl hx hy hk;exact ⟨_,hk,Cr (hrun _ (by rw [hr];rfl))⟩
  ·cases hk
 ·unfold Af5 at hk;split at hk
  ·rename_i k hu;split at hk
   ·obtain ⟨m,hx,hk⟩:=Hi hk;obtain ⟨k2,n,hy,hk⟩:=Dc hk;obtain ⟨hb,hk⟩:=Aq hk;have hb:=of_decide_eq_true hb;refine ⟨_,hk,Cr (hrun _ ?_)⟩;have:¬n<0:=by omega
    simp [eqGuard,binOp,Op.shift,Cl h hx,Cl h hy,this]
   ·obtain ⟨m,hx,hk⟩:=Hi hk;obtain ⟨k2,n,hy,hk⟩:=Dc hk;obtain ⟨hb,hk⟩:=Aq hk;have hb:=of_decide_eq_true hb;refine ⟨_,hk,Cr (hrun _ ?_)⟩;have:¬n<0:=by omega
    simp [eqGuard,binOp,Op.shift,Cl h hx,Cl h hy,this]
   ·rename_i hs1 hs2;obtain ⟨m,hx,hk⟩:=Hi hk;obtain ⟨n,hy,hk⟩:=Hi hk;obtain ⟨v,hk,hr⟩:=Afw (P:=P) (w:=w) (t:=t) (x:=x) (y:=y) hs1 hs2 hk;exact ⟨_,hk,Cr (hrun _ (by rw [Cl h hx,Cl h hy];exact hr))⟩
  ·rename_i hu;obtain ⟨m,hx,hk⟩:=Fv hk;obtain ⟨n,hy,hk⟩:=Fv hk;obtain ⟨v,hk,hr⟩:=Afb (P:=P) (w:=w) (t:=t) (x:=x) (y:=y) hk;exact ⟨_,hk,Cr (hrun _ (by rw [Cl h hx,Cl h hy];exact hr))⟩
  ·rename_i hu;split at hk
   ·obtain ⟨m,hx,hk⟩:=Gk hk;obtain ⟨n,hy,hk⟩:=Gk hk;refine ⟨_,hk,Cr (hrun _ ?_)⟩;simp [eqGuard,binOp,Cl h hx,Cl h hy,JJ hu]
   ·obtain ⟨m,hx,hk⟩:=Gk hk;obtain ⟨n,hy,hk⟩:=Gk hk;refine ⟨_,hk,Cr (hrun _ ?_)⟩;simp [eqGuard,binOp,Cl h hx,Cl h hy,JJ hu]
   ·cases hk
  ·rename_i e hu;have hx:=C4 h x
   have nilQ:∀{e:Bool} {K':PV->Option R},KG e (Cf s.tm x) K'=some r->∃q ad n c,K' q=some r∧a.eval x=.slice ad n c∧(q=.sc (.bool (if ad.isNone then e else !e))∨q=.ub):=by
    intro e K' hq;unfold KG at hq;split at hq
    ·rename_i e';exact ⟨_,none,0,0,hq,Cl h e',.inl rfl⟩
    ·rename_i z es n c e';rcases Hn (.inl e') hx with ⟨hax,rfl,_⟩|⟨ad,cap,hax,rfl,_⟩|⟨ad,cap,hax,rfl,rfl,_⟩
     ·rcases Nm hq with ⟨_,hq⟩|⟨_,hq⟩
      ·exact ⟨_,none,0,0,hq,hax,.inl rfl⟩
      ·rcases Nm hq with ⟨hb,_⟩|⟨_,hq⟩
       ·exact absurd (of_decide_eq_true hb) (by omega)
       ·exact ⟨_,none,0,0,hq,hax,.inr rfl⟩
     ·rcases Nm hq with ⟨hz,_⟩|⟨_,hq⟩
      ·cases hz
      ·rcases Nm hq with ⟨_,hq⟩|⟨_,hq⟩
       ·exact ⟨_,some ad,n,cap,hq,hax,.inl rfl⟩
       ·exact ⟨_,some ad,n,cap,hq,hax,.inr rfl⟩
     ·rcases Nm hq with ⟨hz,_⟩|⟨_,hq⟩
      ·cases hz
      ·rcases Nm hq with ⟨hb,_⟩|⟨_,hq⟩
       ·exact absurd (of_decide_eq_true hb) (by omega)
       ·exact ⟨_,some ad,0,cap,hq,hax,.inr rfl⟩
    ·rename_i id es off n e';rw [e'] at hx;rcases hx with ⟨_,_,rfl,hax⟩|⟨b,ob,y',cap,_,hax,_⟩
     ·rcases Nm hq with ⟨hb,_⟩|⟨_,hq⟩
      ·exact absurd (of_decide_eq_true hb) (by omega)
      ·exact ⟨_,none,0,0,hq,hax,.inr rfl⟩
     ·rcases Nm hq with ⟨_,hq⟩|⟨_,hq⟩
      ·exact ⟨_,_,n,cap,hq,hax,.inl rfl⟩
      ·exact ⟨_,_,n,cap,hq,hax,.inr rfl⟩
    ·cases hq
   split at hk
   ·rename_i hy;obtain ⟨q,ad,n,c,hk,hax,hb⟩:=nilQ hk;rcases hb with rfl|rfl
    ·refine ⟨_,hk,Cr (hrun _ ?_)⟩;cases ad<;>simp [eqGuard,binOp,hax,Cl h hy,Wl hu]
    ·refine ⟨_,hk,Cb (val:=.bool ad.isNone) (hrun _ ?_) (A4.ub _) (by intro i hi;cases hi)⟩
     simp [eqGuard,binOp,hax,Cl h hy,Wl hu]
   ·rename_i hy;obtain ⟨q,ad,n,c,hk,hax,hb⟩:=nilQ hk;rcases hb with rfl|rfl
    ·refine ⟨_,hk,Cr (hrun _ ?_)⟩;cases ad<;>simp [eqGuard,binOp,hax,Cl h hy,Wl hu]
    ·refine ⟨_,hk,Cb (val:=.bool !ad.isNone) (hrun _ ?_) (A4.ub _) (by intro i hi;cases hi)⟩
     simp [eqGuard,binOp,hax,Cl h hy,Wl hu]
   ·cases hk
  ·cases hk
end
open Go.RowKit
section
variable {R:Type} {r:R} {P:Program} {N:Nat} {w0:World} {X0:Ew} {Y:Nat->Prop} {β β':Bt} {s:St} {a:Act} {w w':World} {o:Oper} {A:Nat->Prop}
theorem Ul:∀{c:List PV}{l:List UInt8},bytesOf c=some l->∃ns:List Int,c=ns.map (fun n=>.sc (.int .u8 n))∧l=ns.map fun n=>n.toNat.toUInt8
 |[],l,h=>⟨[],rfl,by simp [bytesOf] at h;subst h;rfl⟩
 |p::c,l,h=>by
  unfold bytesOf at h;split at h
  ·rename_i e;cases e
  ·rename_i n r e;cases e;cases hr:bytesOf c with
   |none=>rw [hr] at h;cases h
   |some l'=>
    rw [hr] at h;simp at h;obtain ⟨ns,rfl,rfl⟩:=Ul hr;exact ⟨n::ns,rfl,h.symm⟩
  ·cases h
theorem Tn:∀(ns:List Int)(b:ByteArray),ns.foldl (fun r n=>r.push (UInt8.ofNat n.toNat)) b=⟨b.data++(ns.map fun n=>n.toNat.toUInt8).toArray⟩
 |[],b=>by simp
 |n::ns,b=>by
  simp only [List.foldl_cons];rw [Tn ns];simp [ByteArray.push]
theorem VN (h:Bu N w0 X0 Y β s a w){es:Nat}{x:Operand}{K:Nat->List PV->Option R}(hk:Aax (J6 s.hp) es (Cf s.tm x) K=some r):
  ∃n c,K n c=some r∧((a.eval x=.slice none 0 0∧n=0∧c=[])∨∃ad cap,a.eval x=.slice (some ad) n cap∧n<=cap∧(c=[]∨ad.block<w.heap.size)∧OW w (Co s.hp β Y) ad c):=by
 have hx:=C4 h x;have hxr:=Fh h x;unfold Aax at hk;split at hk
 ·rename_i id es' off n e;rw [e] at hx hxr;cases hb:Nat.beq es' es
  ·rw [hb] at hk;cases hk
  ·rw [hb] at hk;obtain ⟨c,hc,hk⟩:=Cz (show Ek _ _=some r from hk)
   obtain ⟨hl,hk⟩:=Aq hk;have hl:=of_decide_eq_true hl;obtain ⟨f,hbox⟩:=SA hc;refine ⟨_,_,hk,?_⟩;rcases hx with ⟨_,rfl,rfl,hax⟩|⟨b,ob,y,cap,hβ,hax,hy,hn,_,hlt⟩
   ·exact .inl ⟨hax,rfl,by simp⟩
   ·refine .inr ⟨_,cap,hax,hn,.inr hlt,fun j p hj=>?_⟩
    have hpos:0<n*es:=by
     rcases Nat.eq_zero_or_pos (n*es) with h0|h0
     ·rw [h0] at hj;simp at hj
     ·exact h0
    have hn0:n≠0:=by rintro rfl;simp at hpos
    have hy:y=ob+off:=by rcases hy with hy|⟨h0,_⟩<;>omega
    subst hy;rw [List.getElem?_take] at hj;split at hj
    ·rw [List.getElem?_drop] at hj;rcases h.box id _ hbox with ⟨h1,_⟩|⟨b',o',h1,h2,_⟩
     ·rw [hβ] at h1;cases h1
     ·rw [hβ] at h1;simp at h1;obtain ⟨rfl,rfl⟩:=h1
      obtain ⟨v,hv,h3,ht⟩:=h2 (off+j) p hj;rw [Du] at hv;exact ⟨v,by rw [Du,Nat.add_assoc];exact hv,h3,ht⟩
    ·cases hj
 ·obtain ⟨z,n,c,hk,hp⟩:=F9 hk;refine ⟨n,c,hk,?_⟩;rcases Hn hp hx with h1|⟨ad,cap,hax,_,hn,h1,h2,_,h4⟩|⟨ad,cap,hax,_,rfl,rfl⟩
  ·exact .inl h1
  ·exact .inr ⟨ad,cap,hax,hn,.inr h2,h4⟩
  ·exact .inr ⟨ad,cap,hax,Nat.zero_le _,.inl rfl,fun j c hj=>by simp at hj⟩
theorem Ady (b:ByteArray)(j:Nat)(p:PV)(h:(Di b)[j]?=some p):∃x,b.data[j]?=some x∧p=.sc (.int .u8 x.toNat):=by
 unfold Di at h;rw [List.getElem?_map] at h;cases hx:b.data.toList[j]? with
 |none=>rw [hx] at h;cases h
 |some x=>
  rw [hx] at h;simp at h;exact ⟨x,by simpa using hx,h.symm⟩
theorem ZZ (h:Bu N w0 X0 Y β s a w){src dst:TypeId}{x:Operand}(ho:o.op=.convert src dst x){d:Nat}{K:PV->List (Nat × Bl)->Option R}
  (hk:JU P (J6 s.hp) d src dst (Cf s.tm x) K=some r):∃v nw,K v nw=some r∧Et P a w o Y β s v [] nw:=by
 have hrun:∀v w',(convert src dst (a.eval x)).run P w=.ok v w'->(execOp a.eval o).run P w=.ok (.value v) w':=by
  intro v w' hv;unfold execOp;rw [ho];simp [hv]
 unfold JU at hk;split at hk
 ·rename_i k hu;obtain ⟨hs,hk⟩:=Aq hk;obtain ⟨k',n,hx,hk⟩:=Dc hk;exact ⟨_,_,hk,Cr (hrun _ _ (by rw [Cl h hx];obtain ⟨ds,hds⟩:=Option.isSome_iff_exists.1 hs;cases ds<;>simp [convert,run_underlying hds,run_underlying hu,Conv.intToInt]))⟩
 ·rename_i hu;split at hk
  ·rename_i hs;obtain ⟨b,hx,hk⟩:=Fv hk;exact ⟨_,_,hk,Cr (hrun _ _ (by rw [Cl h hx];simp [convert,run_underlying hs,run_underlying hu]))⟩
  ·rename_i e hs;split at hk
   ·rename_i he;obtain ⟨n,c,hk,hc⟩:=VN h hk;obtain ⟨hl,hk⟩:=Aq hk;have hl:=of_decide_eq_true hl;obtain ⟨l,hb,hk⟩:=Cz hk;obtain ⟨ns,rfl,rfl⟩:=Ul hb;refine ⟨_,_,hk,Cr (hrun _ _ ?_)⟩;rcases hc with ⟨hax,rfl,hn⟩|⟨ad,cap,hax,_,_,hrd⟩
    ·have:ns=[]:=by simpa using hn
     subst this;rw [hax,run_convert_bytes_string w src dst e none 0 0 hs he hu];rfl
    ·rw [hax,run_convert_bytes_string w src dst e _ _ _ hs he hu]
     have hld:(loadCells ad n).run P w=.ok (ns.map (Value.int .u8)).toArray w:=by
      have:=run_loadCells_list (P:=P) w ad (ns.map (Value.int .u8)) (fun j v hj=>by
       rw [List.getElem?_map] at hj;cases hn:ns[j]? with
       |none=>rw [hn] at hj;cases hj
       |some m=>
        rw [hn] at hj;simp at hj;subst hj;obtain ⟨v,hv,_,ht⟩:=hrd j (.sc (.int .u8 m)) (by rw [List.getElem?_map,hn];rfl)
        rw [ht.val] at hv;exact hv)
      simp only [List.length_map] at this hl;rw [hl] at this;exact this
     rw [run_bytesToString w ad n cap ns hld,Tn];simp
   ·cases hk
  ·cases hk
 ·rename_i e hu;split at hk
  ·rename_i he hs;obtain ⟨b,hx,hk⟩:=Fv hk;obtain ⟨hsz,hk⟩:=Aq hk;have hr:=run_bytes_of_string (P:=P) w src dst e b hs hu he;rw [←Cl h hx] at hr
   have hcap:b.size<=grownCap w b.size 0 e:=by
    unfold grownCap;simp [Question.cut]
   have hsize:(bytesRow b (grownCap w b.size 0 e)).size=grownCap w b.size 0 e:=by
    simp only [bytesRow,Array.size_append,Array.size_map,Array.size_replicate];have:b.data.size=b.size:=rfl;omega
   refine ⟨_,_,hk,R2 (c:=bytesRow b (grownCap w b.size 0 e)) (e:=e) (by simp) (hrun _ _ hr) ?_ (fun j p hj=>?_) (.inr ⟨1,b.size,grownCap w b.size 0 e,rfl,rfl,hcap,by rw [hsize];omega⟩)⟩
   ·exact ⟨rfl,rfl,rfl,fun i hi=>Below.heap_alloc w.drew _ i hi,by show (w.heap.push _).size=_;simp,_,by show (w.heap.push _)[w.heap.size]?=_;simp;rfl,.inr (Nat.le_refl _)⟩
   ·obtain ⟨y,hy,rfl⟩:=Ady b j p hj;refine ⟨.int .u8 y.toNat,?_,rfl,A4.sc _⟩
    have hlt:j<b.data.size:=by
     rcases Nat.lt_or_ge j b.data.size with h|h
     ·exact h
     ·rw [Array.getElem?_eq_none h] at hy;cases hy
    simp only [bytesRow];rw [Array.getElem?_append_left (by simpa using hlt),Array.getElem?_map,hy]
    rfl
  ·cases hk
 ·cases hk
end
open Go.RowKit
section
variable {R:Type} {r:R} {P:Program} {N:Nat} {w0:World} {X0:Ew} {Y:Nat->Prop} {β β':Bt} {s:St} {a:Act} {w w':World} {o:Oper} {A:Nat->Prop}
theorem BT:∀{n:Nat}{l:List PV}{j:Nat}{c:PV},(Rn n l)[j]?=some c->j<n*l.length∧l[j % l.length]?=some c
 |0,l,j,c,h=>by simp [Rn] at h
 |n+1,l,j,c,h=>by
  have e:Rn (n+1) l=l++Rn n l:=by simp [Rn,List.replicate_succ]
  rw [e] at h;by_cases hj:j<l.length
  ·rw [List.getElem?_append_left hj] at h;refine ⟨by rw [Nat.add_mul];omega,?_⟩
   rw [Nat.mod_eq_of_lt hj];exact h
  ·rw [List.getElem?_append_right (by omega)] at h
   obtain ⟨h1,h2⟩:=BT h;refine ⟨by rw [Nat.add_mul];omega,?_⟩
   rw [Nat.mod_eq_sub_mod (by omega)];exact h2
theorem WM (n:Nat)(l:List PV):(Rn n l).length=n*l.length:=by
 induction n with
 |zero=>simp [Rn]
 |succ n ih=>
  have e:Rn (n+1) l=l++Rn n l:=by simp [Rn,List.replicate_succ]
  rw [e,List.length_append,ih,Nat.add_mul];omega
theorem XN {z:Array Value}{n j:Nat}(hj:j<n){v:Value}(hv:z[j % z.size]?=some v):(madeCells z n)[j]?=some v:=by
 unfold madeCells;rw [Array.getElem?_map,Array.getElem?_range,if_pos hj];simp only [Option.map_some];rw [getElem!_def,hv]
theorem Abe (h:Bu N w0 X0 Y β s a w){t:TypeId}{x y:Operand}(ho:o.op=.makeSlice t x y){d:Nat}{K:PV->List Nat->List (Nat × Bl)->Option R}
  (hk:(match P.underlying t with
   |some (.slice e)=>Dm (Cf s.tm x) fun _ n=>Dm (Cf s.tm y) fun _ m=>
     Ap (decide (0<=n)&&decide (n<=m)&&decide (m*((P.info? e).map (·.bytes)).getD 0<=1099511627776)&&decide (m<=1099511627776))
      (G5 P e fun z=>K (.view d (Bg P e) 0 n.toNat) [] [(d,.ar false (Rn n.toNat z))])
   |_=>none)=some r):∃v fz nw,K v fz nw=some r∧Et P a w o Y β s v fz nw:=by
 split at hk
 ·rename_i e hu;obtain ⟨k1,n,hx,hk⟩:=Dc hk;obtain ⟨k2,m,hy,hk⟩:=Dc hk;obtain ⟨hb,hk⟩:=Aq hk;simp only [Bool.and_eq_true,decide_eq_true_eq] at hb;obtain ⟨⟨⟨h0,hnm⟩,hbytes⟩,hm⟩:=hb;obtain ⟨z,cs,hk,hz,hct,hl,hsz,hc⟩:=P4 hk
  have hzc:∃i,P.info? e=some i∧i.zero=some z:=by
   unfold Y3 at hz;cases hi:P.info? e with
   |none=>rw [hi] at hz;cases hz
   |some i=>rw [hi] at hz;exact ⟨i,rfl,hz⟩
  obtain ⟨i,hi,hzi⟩:=hzc;have hisz:Bg P e=i.size:=by simp [Bg,hi]
  simp only [hi,Option.map_some,Option.getD_some] at hbytes;have hr:=run_make (P:=P) w t e i z hu hi hzi k1 k2 n m h0 hnm (by rw [Int.mul_comm];omega) (by omega)
  have hrun:(execOp a.eval o).run P w=.ok (.value (.slice (some ⟨w.heap.size,0,none⟩) n.toNat m.toNat)) (w.alloc (.cells (madeCells z.cells (m.toNat*i.size)) e)):=by
   unfold execOp;rw [ho];simp [Cl h hx,Cl h hy,hr]
  have hzl:z.cells.size=Bg P e:=by
   have:z.cells.toList.length=z.cells.size:=by simp
   omega
  refine ⟨_,_,_,hk,R2 (c:=madeCells z.cells (m.toNat*i.size)) (e:=e) (by simp) hrun (Gq.alloc w _ e) (fun j p hj=>?_) (.inr ⟨Bg P e,n.toNat,m.toNat,rfl,rfl,by omega,by rw [size_madeCells,hisz];exact Nat.le_refl _⟩)⟩
  obtain ⟨h1,h2⟩:=BT hj;obtain ⟨hT,u,hu',h1',hv⟩:=hc _ p h2;refine ⟨u,XN ?_ ?_,h1',hv _ _⟩
  ·have:n.toNat*cs.length<=m.toNat*i.size:=by
    rw [hsz,hisz];exact Nat.mul_le_mul_right _ (by omega)
   omega
  ·rw [hzl,←hsz]
   simpa using hu'
 ·cases hk
theorem Aen {p:PV}{v:Value}(hp:okP p=true)(hv:Dl w A β p v):Bj (B6 w A β) (cellsOf p) v.cells.toList:=by
 have one:v.oneCell'=true->B6 w A β p v->(∀x,p ≠ .agg x)->Bj (B6 w A β) (cellsOf p) v.cells.toList:=by
  intro h1 h2 h3;have:cellsOf p=[p]:=by cases p<;>first|rfl|exact absurd rfl (h3 _)
  rw [this,Oa h1];exact ⟨h2,trivial⟩
 unfold okP at hp;split at hp
 ·obtain ⟨vs,rfl,h2⟩:=hv;exact h2
 ·refine one ?_ hv (by simp)
  have hv':A4 w A _ v:=hv;cases hv'<;>rfl
 ·refine one ?_ hv (by simp)
  rcases hv with ⟨_,_,_,rfl⟩|⟨_,_,_,_,_,rfl,_⟩<;>rfl
 ·have:=Oc hv;subst this;exact one rfl hv (by simp)
 ·have:=Oc hv;subst this;exact one rfl hv (by simp)
 ·have:=Oc hv;subst this;exact one rfl hv (by simp)
 ·have:=Oc hv;subst this;exact one rfl hv (by simp)
 ·cases hp
theorem Ada:∀(vs:List Value)(k off:Nat)(cells:Array Value),off+k+vs.length<=cells.size ->
  ((vs.zipIdx k).foldl (fun cs (q:Value × Nat)=>cs.setIfInBounds (off+q.2) q.1) cells).toList=cells.toList.take (off+k)++vs++cells.toList.drop (off+k+vs.length)
 |[],k,off,cells,_=>by simp
 |v::vs,k,off,cells,h=>by
  simp only [List.zipIdx_cons,List.foldl_cons,List.length_cons] at h ⊢;rw [Ada vs (k+1) off _ (by simp;omega)]
  have hlt:off+k<cells.toList.length:=by simp;omega
  simp only [Array.toList_setIfInBounds];rw [show off+(k+1)=off+k+1 from by omega,List.take_succ_eq_append_getElem (by simpa using hlt)]
  rw [List.getElem_set_self,List.take_set_of_le (Nat.le_refl _),List.drop_set_of_lt (by omega)]
  simp only [List.append_assoc,List.cons_append,List.nil_append];rw [show off+k+1+vs.length=off+k+(vs.length+1) from by omega]
theorem IQ (h:Bu N w0 X0 Y β s a w){G4:Nat->Option (Nat × Nat)}:∀{parts:List (Nat × Operand)} {pc:List PV}{vc:Array Value}{K:List PV->Option R},
  V0 G4 (parts.map fun q=>(q.1,Cf s.tm q.2)) pc K=some r->Bj (B6 w (Co s.hp β Y) β) pc vc.toList->(∀c∈pc,∀id∈Ar c,s.hp id≠none) ->
  ∃pc' vc',K pc'=some r∧Instr.fill G4 vc (parts.map fun q=>(q.1,a.eval q.2))=some vc'∧Bj (B6 w (Co s.hp β Y) β) pc' vc'.toList∧pc'.length=pc.length∧∀c∈pc',∀id∈Ar c,s.hp id≠none
 |[],pc,vc,K,hk,hv,hr=>⟨pc,vc,hk,rfl,hv,rfl,hr⟩
 |(i,x)::parts,pc,vc,K,hk,hv,hr=>by
  simp only [List.map_cons] at hk;unfold V0 at hk;obtain ⟨⟨off,size⟩,hpl,hk⟩:=Cz hk;obtain ⟨hb,hk⟩:=Aq hk;simp only [Bool.and_eq_true] at hb;obtain ⟨⟨hok,hsz⟩,hle⟩:=hb;have hsz:(cellsOf (Cf s.tm x)).length=size:=Nat.eq_of_beq_eq_true hsz;have hle:off+size<=pc.length:=Nat.le_of_ble_eq_true hle;have hxc:=Aen hok (C4 h x);have hxl:=hxc.len;have hvl:=hv.len;have hvs:vc.toList.length=vc.size:=by simp
  have hcs:(a.eval x).cells.toList.length=(a.eval x).cells.size:=by simp
  have hset:=Ada (a.eval x).cells.toList 0 off vc (by omega)
  simp only [Nat.add_zero] at hset
  have hset':((a.eval x).cells.zipIdx.foldl (fun cs (q:Value × Nat)=>cs.setIfInBounds (off+q.2) q.1) vc).toList=vc.toList.take off++(a.eval x).cells.toList++vc.toList.drop (off+(a.eval x).cells.toList.length):=by
   rw [←hset,←Array.foldl_toList];simp
  obtain ⟨pc',vc',hk,hf,h2,hl,hr'⟩:=IQ h (pc:=Bf pc (cellsOf (Cf s.tm x)) off) (vc:=(a.eval x).cells.zipIdx.foldl (fun cs (q:Value × Nat)=>cs.setIfInBounds (off+q.2) q.1) vc) hk (by
    rw [hset',←hxl];exact (((hv.take off).app hxc).app (hv.drop _))) (by
    intro c hc id hid;unfold Bf at hc;rcases List.mem_append.1 hc with hc|hc
    ·rcases List.mem_append.1 hc with hc|hc
     ·exact hr c (List.mem_of_mem_take hc) id hid
     ·refine Fh h x id ?_;cases hp:Cf s.tm x with
      |agg cs=>rw [hp] at hc;exact List.mem_flatMap.2 ⟨c,hc,hid⟩
      |tup cs=>rw [hp] at hc;simp [cellsOf] at hc;subst hc;cases hid
      |_=>rw [hp] at hc;simp [cellsOf] at hc;subst hc;exact hid
    ·exact hr c (List.mem_of_mem_drop hc) id hid)
  refine ⟨pc',vc',hk,?_,h2,?_,hr'⟩
  ·simp only [List.map_cons,Instr.fill,hpl];rw [if_neg (by simp;omega)]
   exact hf
  ·rw [hl];simp [Bf];omega
theorem UX {t:TypeId}{z:Value}{cs:List PV}(hl:cs.length=z.cells.toList.length)(hc:∀(j:Nat) c,cs[j]?=some c->Zi c∧∃u,z.cells.toList[j]?=some u∧u.oneCell'=true∧∀(w:World)(A:Nat->Prop),A4 w A c u) (_ht:Y3 P t=some z):
  Bj (B6 w A β) cs z.cells.toList∧∀c∈cs,Ar c=[]:=by
 refine ⟨Bj.of_at hl fun i c u hci hu=>?_,fun c hcm=>?_⟩
 ·obtain ⟨hT,u',hu',_,hv⟩:=hc i c hci;rw [hu] at hu';cases hu';exact (O9 hT).2 (hv _ _)
 ·obtain ⟨j,hj⟩:=List.mem_iff_getElem?.1 hcm;exact I7 (hc j c hj).1
theorem JW:∀{fs:List Field},(fs.all fun f=>KT P f.type)=true->fs.mapM (fun f=>(P.info? f.type).map fun i=>(f.offset,i.size))=some (fs.map fun f=>(f.offset,Bg P f.type))
 |[],_=>rfl
 |f::fs,h=>by
  simp only [List.all_cons,Bool.and_eq_true] at h;obtain ⟨i,hi⟩:=Option.isSome_iff_exists.1 h.1;simp [List.mapM_cons,hi,JW h.2,Bg]
theorem Yp {p q:Nat->Option (Nat × Nat)} (h:∀i,p i=q i)(cells:Array Value)(parts:List (Nat × Value)):Instr.fill p cells parts=Instr.fill q cells parts:=by
 have:p=q:=funext h;rw [this]
theorem UM (h:Bu N w0 X0 Y β s a w){t:TypeId}{ps:Array (Nat × Operand)} (ho:o.op=.build t ps){K:PV->Option R}
  (hk:(Ap (Se P t&&Cj P t)<|G5 P t fun z=>V0 (Su P t) (ps.toList.map fun q=>(q.1,Cf s.tm q.2)) z fun cs=>Qt (H5 P t) cs 0 fun cs'=>K (.agg cs'))=some r):∃v,K v=some r∧Et P a w o Y β s v [] []:=by
 obtain ⟨hpl,hk⟩:=Aq hk;simp only [Bool.and_eq_true] at hpl;obtain ⟨hpl,hagg⟩:=hpl;obtain ⟨z,cs,hk,hz,hct,hl,hsz,hc⟩:=P4 hk;obtain ⟨hzr,hzf⟩:=UX (w:=w) (A:=Co s.hp β Y) (β:=β) hl hc hz;obtain ⟨pc',vc',hk,hf,h2,hl',hr'⟩:=IQ h hk hzr (fun c hcm id hid=>by rw [hzf c hcm] at hid;cases hid)
 obtain ⟨qs,hk,hql,hna,hq⟩:=V3 hk
 have hbuilt:P.built t (ps.toList.map fun q=>(q.1,a.eval q.2))=some vc':=by
  have hzi:∃i,P.info? t=some i∧i.zero=some z:=by
   unfold Y3 at hz;cases hi:P.info? t with
   |none=>rw [hi] at hz;cases hz
   |some i=>rw [hi] at hz;exact ⟨i,rfl,hz⟩
  obtain ⟨i,hi,hzi⟩:=hzi;unfold Se at hpl;unfold Program.built;split at hpl
  ·rename_i fs hu
   have hf':Instr.fill (((fs.toList.map fun f=>(f.offset,Bg P f.type)).toArray)[·]?) z.cells (ps.toList.map fun q=>(q.1,a.eval q.2))=some vc':=by
    rw [←hf];refine Yp (fun j=>?_) _ _
    simp [Su,hu]
   simp only [hi,hu,hzi,JW hpl];exact hf'
  ·rename_i n e hu;obtain ⟨ie,hie⟩:=Option.isSome_iff_exists.1 hpl
   have hf':Instr.fill (fun j=>some (j*ie.size,ie.size)) z.cells (ps.toList.map fun q=>(q.1,a.eval q.2))=some vc':=by
    rw [←hf];refine Yp (fun j=>?_) _ _
    simp [Su,hu,Bg,hie]
   simp only [hi,hu,hzi,hie];exact hf'
  ·rename_i e hu;simp [Cj,hu] at hagg
  ·cases hpl
 refine ⟨_,hk,Cb (val:=.agg vc') ?_ ⟨vc'.toList,rfl,?_⟩ ?_⟩
 ·unfold execOp;rw [ho];have:=run_build (P:=P) w t (ps.map fun q=>(q.1,a.eval q.2)) vc' (by simpa using hbuilt)
  simp [this]
 ·refine Bj.of_at (by have:=h2.len;omega) fun j c u hcj hu=>?_
  obtain ⟨p,hp,_,_,hpv⟩:=hq j c hcj;rw [Nat.zero_add] at hp;exact (hpv _ _ _ _ (h2.at_ hp hu)).1
 ·intro id hid;obtain ⟨c,hcm,hid⟩:=List.mem_flatMap.1 (show id∈qs.flatMap Ar from hid)
  obtain ⟨j,hj⟩:=List.mem_iff_getElem?.1 hcm;obtain ⟨p,hp,_,hpr,_⟩:=hq j c hj;rw [Nat.zero_add] at hp;exact hr' p (List.mem_of_getElem? hp) id (hpr id hid)
end
open Go.RowKit
section
variable {R:Type} {r:R} {P:Program} {N:Nat} {w0:World} {X0:Ew} {Y:Nat->Prop} {β β':Bt} {s:St} {a:Act} {w w':World} {o:Oper} {A:Nat->Prop}
theorem ZH (h:Bu N w0 X0 Y β s a w){fz:List Nat}(hfz:∀id∈fz,∃f c,s.hp id=some (.ar f c)) {id:Nat}(hm:id∈fz){f:Bool}{c:List PV}(hb:s.hp id=some (.ar f c)) {b ob:Nat}(hβ:β id=some (b,ob)):
  ¬Co (Ah s.hp fz) β Y b∧OW w (Co (Ah s.hp fz) β Y) ⟨b,ob,none⟩ c∧b<w.heap.size:=by
 have hf:=h.freeze hfz;have he:Ah s.hp fz id=some (.ar true c):=by rw [Bz,if_pos hm,hb];rfl
 rcases hf.box id _ he with ⟨h1,_⟩|⟨b',o',h1,h2,_,h4⟩
 ·rw [hβ] at h1;cases h1
 ·rw [hβ] at h1;simp at h1;obtain ⟨rfl,rfl⟩:=h1;exact ⟨h4 rfl,h2,h.blt id b ob (by rw [hb];simp) hβ⟩
theorem Aep (h:Bu N w0 X0 Y β s a w){fz:List Nat}(hfz:∀id∈fz,∃f c,s.hp id=some (.ar f c)) {id es off n:Nat}(hm:id∈fz){f:Bool}{c:List PV}(hb:s.hp id=some (.ar f c)) {v:Value}
  (hv:B6 w (Co s.hp β Y) β (.view id es off n) v):A4 w (Co (Ah s.hp fz) β Y) (.lst false es n ((c.drop off).take (n*es))) v:=by
 rcases hv with ⟨_,rfl,rfl,rfl⟩|⟨b,ob,y,cap,hβ,rfl,hy,hn,_,hlt⟩
 ·simp only [Nat.zero_mul,List.take_zero];exact A4.lnil false es
 ·obtain ⟨h1,h2,_⟩:=ZH h hfz hm hb hβ;by_cases hn0:n*es=0
  ·rw [hn0,List.take_zero];exact A4.lst es n [] ⟨b,y,none⟩ cap (fun _=>undef) rfl hlt h1 hn (by simp) (by simp) (by simp)
  ·have hy:y=ob+off:=by
    rcases hy with hy|⟨h0,_⟩
    ·exact hy
    ·rw [h0] at hn0;simp at hn0
   subst hy
   have hcell:∀(j:Nat) q,((c.drop off).take (n*es))[j]?=some q->c[off+j]?=some q:=by
    intro j q hq;rw [List.getElem?_take] at hq;split at hq
    ·rw [List.getElem?_drop] at hq;exact hq
    ·cases hq
   refine A4.lst es n _ ⟨b,ob+off,none⟩ cap (fun j=>(w.cell? ⟨b,ob+off+j,none⟩).getD undef) rfl hlt h1 hn (fun j q hq=>?_) (fun j q hq=>?_) (fun j q hq=>?_)
   ·obtain ⟨v,hv,_⟩:=h2 _ q (hcell j q hq);rw [Du,←Nat.add_assoc] at hv;rw [Du,hv];rfl
   ·obtain ⟨v,hv,h3,_⟩:=h2 _ q (hcell j q hq);rw [Du,←Nat.add_assoc] at hv;rw [hv];exact h3
   ·obtain ⟨v,hv,_,ht⟩:=h2 _ q (hcell j q hq);rw [Du,←Nat.add_assoc] at hv;rw [hv];exact ht
theorem A4.zf {A:Nat->Prop}{z:Bool}{es n:Nat}{c:List PV}{v:Value}(h:A4 w A (.lst z es n c) v):A4 w A (.lst false es n c) v:=by
 cases h with
 |lnil=>exact .lnil _ _
 |lemp=>exact .lemp _ _ _
 |lst _ _ _ a cap f hs hb hA hn hc h1 hr=>exact .lst _ _ _ a cap f hs hb hA hn hc h1 hr
theorem KF (h:Bu N w0 X0 Y β s a w){t:CT}{p:PV}{K:PV->List Nat->Option R}(hk:Po (J6 s.hp) t p K=some r):
  ∃c m,K c m=some r∧Zi c∧NH p∧(∀id∈m,∃f cc,s.hp id=some (.ar f cc))∧∀fz:List Nat,(∀id∈m,id∈fz)->(∀id∈fz,∃f cc,s.hp id=some (.ar f cc))->∀v,B6 w (Co s.hp β Y) β p v->A4 w (Co (Ah s.hp fz) β Y) c v∧v.oneCell'=true:=by
 have tree:∀t',(DV t' p fun c=>K c [])=some r->∃c m,K c m=some r∧Zi c∧NH p∧(∀id∈m,∃f cc,s.hp id=some (.ar f cc))∧∀fz:List Nat,(∀id∈m,id∈fz)->(∀id∈fz,∃f cc,s.hp id=some (.ar f cc))->∀v,B6 w (Co s.hp β Y) β p v->A4 w (Co (Ah s.hp fz) β Y) c v∧v.oneCell'=true:=by
  intro t' hk;obtain ⟨c,hk,hT,hpT,hv⟩:=Nn hk;refine ⟨c,[],hk,hT,Wc hpT,by simp,fun fz _ hfz v hpv=>?_⟩
  obtain ⟨h1,h2⟩:=hv _ _ _ _ hpv;exact ⟨h1.step (B5.refl _ _) (fun b _ hb=>hb.imp Ro id),h2⟩
 cases t with
 |sl es=>
  unfold Po at hk;dsimp only at hk;split at hk
  ·rename_i id es' off n;cases hb:Nat.beq es' es
   ·rw [hb] at hk;cases hk
   ·rw [hb] at hk;have:=Nat.eq_of_beq_eq_true hb;subst this;obtain ⟨c,hc,hk⟩:=Cz (show Ek _ _=some r from hk)
    obtain ⟨_,hk⟩:=Aq hk;obtain ⟨f,hbx⟩:=SA hc;refine ⟨_,[id],hk,trivial,trivial,?_,fun fz hm hfz v hv=>⟨Aep h hfz (hm id (by simp)) hbx hv,?_⟩⟩
    ·intro i hi;simp at hi;subst hi;exact ⟨f,c,hbx⟩
    ·rcases hv with ⟨_,_,_,rfl⟩|⟨_,_,_,_,_,rfl,_⟩<;>rfl
  ·obtain ⟨z,n,c,hk,hp⟩:=F9 hk;refine ⟨_,[],hk,trivial,?_,by simp,fun fz _ hfz v hpv=>?_⟩
   ·rcases hp with rfl|⟨rfl,_⟩<;>trivial
   ·have ht:=X7 hp hpv;refine ⟨A4.zf (ht.step (B5.refl _ _) (fun b _ hb=>hb.imp Ro id)),?_⟩
    cases ht<;>rfl
 |int k=>exact tree (.int k) hk
 |bool=>exact tree .bool hk
 |str=>exact tree .str hk
 |any=>exact tree .any hk
theorem R9 (h:Bu N w0 X0 Y β s a w):∀{ts:List CT}{ps:List PV}{K:List PV->List Nat->Option R},Pb (J6 s.hp) ts ps K=some r ->
  ∃cs m,K cs m=some r∧cs.length=ts.length∧ps.length=ts.length∧(∀c∈cs,Zi c)∧(∀p∈ps,NH p)∧(∀id∈m,∃f cc,s.hp id=some (.ar f cc)) ∧
   ∀fz:List Nat,(∀id∈m,id∈fz)->(∀id∈fz,∃f cc,s.hp id=some (.ar f cc))->∀vs,Bj (B6 w (Co s.hp β Y) β) ps vs->Bj (A4 w (Co (Ah s.hp fz) β Y)) cs vs∧∀v∈vs,v.oneCell'=true
 |[],[],K,hk=>⟨[],[],hk,rfl,rfl,by simp,by simp,by simp,fun fz _ _ vs hv=>by
   cases vs with
   |nil=>exact ⟨trivial,by simp⟩
   |cons v vs=>exact hv.elim⟩
 |[],_::_,K,hk=>by cases hk
 |_::_,[],K,hk=>by cases hk
 |t::ts,p::ps,K,hk=>by
  unfold Pb at hk;obtain ⟨c,m,hk,hT,hF,hm,hv⟩:=KF h hk;obtain ⟨cs,ms,hk,hl,hl',hTs,hFs,hms,hvs⟩:=R9 h hk;refine ⟨c::cs,m++ms,hk,by simp [hl],by simp [hl'],?_,?_,?_,fun fz hfm hfz vs h2=>?_⟩
  ·intro x hx;rcases List.mem_cons.1 hx with rfl|hx
   ·exact hT
   ·exact hTs x hx
  ·intro x hx;rcases List.mem_cons.1 hx with rfl|hx
   ·exact hF
   ·exact hFs x hx
  ·intro x hx;rcases List.mem_append.1 hx with hx|hx
   ·exact hm x hx
   ·exact hms x hx
  ·cases vs with
   |nil=>exact h2.elim
   |cons v vs=>
    obtain ⟨h3,h4⟩:=hv fz (fun i hi=>hfm i (by simp [hi])) hfz v h2.1
    obtain ⟨h5,h6⟩:=hvs fz (fun i hi=>hfm i (by simp [hi])) hfz vs h2.2
    refine ⟨⟨h3,h5⟩,?_⟩;intro x hx;rcases List.mem_cons.1 hx with rfl|hx
    ·exact h4
    ·exact h6 x hx
theorem Ae2 {R':PV->Value->Prop}{cs:List PV}{z:Array Value}(h:Bj R' cs z.toList)(n:Nat):Bj R' (Rn n cs) (madeCells z (n*cs.length)).toList:=by
 have hzl:z.size=cs.length:=by have:=h.len;simp at this;exact this.symm
 refine Bj.of_at ?_ fun j c v hc hv=>?_
 ·rw [WM];simp [size_madeCells]
 ·obtain ⟨h1,h2⟩:=BT hc
  have hlt:j % cs.length<cs.length:=by
   rcases Nat.lt_or_ge (j % cs.length) cs.length with h|h
   ·exact h
   ·rw [List.getElem?_eq_none h] at h2;cases h2
  obtain ⟨u,hu,hcu⟩:=h.get h2;have:(madeCells z (n*cs.length))[j]?=some u:=XN h1 (by rw [hzl];simpa using hu)
  have hv':(madeCells z (n*cs.length))[j]?=some v:=by simpa using hv
  rw [this] at hv';cases hv';exact hcu
theorem DC (h:Bu N w0 X0 Y β s a w){t:TypeId}{n:Nat}{ps:Array (Nat × Operand)} (ho:o.op=.buildSlice t n ps){d:Nat}{K:PV->List Nat->List (Nat × Bl)->Option R}
  (hk:(match P.underlying t with
   |some (.slice e)=>Ap (Se P t&&Nat.ble (n*Bg P e) 16777216) (G5 P e fun z=>V0 (Su P t) (ps.toList.map fun q=>(q.1,Cf s.tm q.2)) (Rn n z) fun cs=>
     Pb (J6 s.hp) (List.replicate n (H5 P e)).flatten cs fun cs' m=>K (.view d (Bg P e) 0 n) m [(d,.ar false cs')])
   |_=>none)=some r):∃v fz nw,K v fz nw=some r∧Et P a w o Y β s v fz nw:=by
 split at hk
 ·rename_i e hu;obtain ⟨hb,hk⟩:=Aq hk;simp only [Bool.and_eq_true] at hb;have hle:n*Bg P e<=16777216:=Nat.le_of_ble_eq_true hb.2;have hinf:(P.info? e).isSome=true:=by have:=hb.1;unfold Se at this;rw [hu] at this;exact this
  obtain ⟨z,cs,hk,hz,hct,hl,hsz,hc⟩:=P4 hk;obtain ⟨hzr,hzf⟩:=UX (w:=w) (A:=Co s.hp β Y) (β:=β) hl hc hz;have hrep:=Ae2 hzr n
  obtain ⟨pc',vc',hk,hf,h2,hl',hr'⟩:=IQ h hk hrep (fun c hcm id hid=>by
   obtain ⟨j,hj⟩:=List.mem_iff_getElem?.1 hcm;obtain ⟨_,hg⟩:=BT hj;rw [hzf c (List.mem_of_getElem? hg)] at hid;cases hid)
  obtain ⟨qs,m,hk,hql,hpl,hqT,_,hm,hqv⟩:=R9 h hk;obtain ⟨h3,h3'⟩:=hqv m (fun _ hi=>hi) hm _ h2
  have hf':Instr.fill (fun i=>some (i*Bg P e,Bg P e)) (madeCells z.cells (n*cs.length)) (ps.toList.map fun q=>(q.1,a.eval q.2))=some vc':=by
   rw [←hf];refine Yp (fun i=>?_) _ _
   simp [Su,hu]
  have hvl:vc'.size=n*Bg P e:=by
   have h4:=h2.len;rw [hl',WM] at h4;simp at h4;rw [←h4,hsz]
  have hrun:(execOp a.eval o).run P w=.ok (.value (.slice (some ⟨w.heap.size,0,none⟩) n n)) (w.alloc (.cells vc' e)):=by
   unfold execOp;rw [ho];have hle':¬(n*Bg P e>2 ^ 24):=by omega
   rw [hsz] at hf';by_cases hn0:n*Bg P e=0
   ·simp only [Instr.buildSlice,Sem.run_bind,run_underlying hu,Result.andThen_ok,D2 hinf,if_neg hle',hn0];rw [hn0] at hf';have e0:madeCells z.cells 0=(Array.range 0).map (fun _=>default):=by simp [madeCells]
    rw [e0] at hf';simp [hf',newRow]
   ·simp only [Instr.buildSlice,Sem.run_bind,run_underlying hu,Result.andThen_ok,D2 hinf,if_neg hle',if_neg hn0,Xm hz];unfold madeCells at hf';simp [hf',newRow]
  refine ⟨_,_,_,hk,R2 (c:=vc') (e:=e) hm hrun (Gq.alloc w vc' e) (fun j p hj=>?_) (.inr ⟨Bg P e,n,n,rfl,rfl,Nat.le_refl _,by rw [hvl];exact Nat.le_refl _⟩)⟩
  obtain ⟨u,hu',hp⟩:=h3.get hj;exact ⟨u,by simpa using hu',h3' u (List.mem_of_getElem? hu'),hp⟩
 ·cases hk
end
end
end Go.Proofs.YtdjihiphpgkfmaaGreatDoor.Pv
