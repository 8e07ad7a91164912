/-
  A pure interpreter of the model's code and its soundness, part 1 (texts PvA PvB PvC PvD PvL PvN).
-/
import Derived.Orders
import Derived.LoopN
import Derived.Below
import Derived.IntWalk
set_option linter.unusedSimpArgs false
set_option linter.unusedVariables false
namespace Go.Proofs.Ytaphhfehcbkfkaa.Pv

/-- Pure values. 'lst z es n cells': a slice whose cells nobody changes (es cells an element, n elements, z: surely nil). 'own': the same, handed over with its memory. 'view', 'ptr': into a box of the frame. 'iptr': a pointer into a list. 'pbox': a pointer to a variable, handed over. 'ub': a bool that is not known. -/
inductive PV where
  | sc (v : Value)
  | lst (z : Bool) (es n : Nat) (cells : List PV)
  | own (es n : Nat) (cells : List PV)
  | view (id es off n : Nat)
  | ptr (id off : Nat)
  | iptr (cells : List PV) (off : Nat)
  | pbox (cells : List PV)
  | agg (cells : List PV)
  | tup (vs : List PV)
  | top
  | ub

inductive Box where
  | st (cells : List PV)
  | ar (fz : Bool) (cells : List PV)
  | mv

structure St where
  tm : Nat → PV
  hp : Nat → Option Box

structure Res where
  vals : List PV
  outs : List (List PV)

/-- What is said of single functions: 'shr f': its slices are handed back shared; 'mvd f i': the slices of parameter i are handed over with their memory; 'lnd f i': parameter i is a slice that is lent: it comes back changed; 'kz f': it is told that an argument is the constant nil; 'ext f': what is known of it otherwise. -/
structure Cfg where
  shr : FuncId → Bool
  mvd : FuncId → Nat → Bool
  lnd : FuncId → Nat → Bool
  kz : FuncId → Bool
  ext : FuncId → Option (List PV → Option Res)

def upd {α : Type} (f : Nat → α) (i : Nat) (v : α) : Nat → α := fun j => bif Nat.beq j i then v else f j

def rd (hp : Nat → Option Box) (id : Nat) : Option (List PV) :=
  match hp id with
  | some (.st c) => some c
  | some (.ar _ c) => some c
  | _ => none

/-- The cells of a row: trees. -/
def rda (hp : Nat → Option Box) (id : Nat) : Option (List PV) :=
  match hp id with
  | some (.ar _ c) => some c
  | _ => none

/-- The kinds of a cell. -/
inductive CT where
  | int (k : IntKind)
  | bool
  | str
  | sl (es : Nat)
  | any

def szOf (P : Program) (t : TypeId) : Nat := ((P.info? t).map (·.size)).getD 0

def isAggB (P : Program) (t : TypeId) : Bool :=
  match P.underlying t with
  | some (.struct _) => true
  | some (.array _ _) => true
  | _ => false

def ctys (P : Program) : Nat → TypeId → List CT
  | 0, _ => []
  | d + 1, t =>
    match P.underlying t with
    | some (.int k) => [.int k]
    | some .bool => [.bool]
    | some .string => [.str]
    | some (.slice e) => [.sl (szOf P e)]
    | some (.struct fs) => fs.toList.flatMap fun f => ctys P d f.type
    | some (.array n e) => (List.replicate n (ctys P d e)).flatten
    | _ => [.any]

abbrev cty (P : Program) (t : TypeId) : List CT := ctys P 9 t

/-- The kinds of a type's cells are as many as its cells. -/
def ctyOk (P : Program) (t : TypeId) : Bool := (P.underlying t).isSome && Nat.beq (cty P t).length (szOf P t)

abbrev iand (k : IntKind) (a b : Int) : Int := k.wrap (BitVec.ofInt k.bits a &&& BitVec.ofInt k.bits b).toNat
abbrev ior (k : IntKind) (a b : Int) : Int := k.wrap (BitVec.ofInt k.bits a ||| BitVec.ofInt k.bits b).toNat
abbrev ixor (k : IntKind) (a b : Int) : Int := k.wrap (BitVec.ofInt k.bits a ^^^ BitVec.ofInt k.bits b).toNat
abbrev iandNot (k : IntKind) (a b : Int) : Int := k.wrap (BitVec.ofInt k.bits a &&& ~~~BitVec.ofInt k.bits b).toNat
abbrev ishl (k : IntKind) (a b : Int) : Int := k.wrap (a * 2 ^ (min b.toNat k.bits))
abbrev ishr (k : IntKind) (a b : Int) : Int := a.fdiv (2 ^ (min b.toNat k.bits))
abbrev inot (k : IntKind) (n : Int) : Int := k.wrap (BitVec.ofInt k.bits (if k.signed then -1 else k.max) ^^^ BitVec.ofInt k.bits n).toNat

section
variable {R : Type}

def intK (k : IntKind) (p : PV) (K : Int → Option R) : Option R :=
  match p with
  | .sc (.int k' n) => if k' = k then K n else none
  | _ => none

def boolK (p : PV) (K : Bool → Option R) : Option R :=
  match p with
  | .sc (.bool b) => K b
  | _ => none

def strK (p : PV) (K : ByteArray → Option R) : Option R :=
  match p with
  | .sc (.string s) => K s
  | _ => none

/-- A slice cell of a tree. -/
def lsK (es : Nat) (p : PV) (K : Bool → Nat → List PV → Option R) : Option R :=
  match p with
  | .lst z es' n c => bif Nat.beq es' es then K z n c else none
  | .sc (.slice none 0 0) => K true 0 []
  | _ => none

/-- A slice cell of a frame: a view stays. -/
def fsK (es : Nat) (p : PV) (K : PV → Option R) : Option R :=
  match p with
  | .view id es' off n => bif Nat.beq es' es then K (.view id es off n) else none
  | p => lsK es p fun z n c => K (.lst z es n c)

def owK (es : Nat) (p : PV) (K : Nat → List PV → Option R) : Option R :=
  match p with
  | .own es' n c => bif Nat.beq es' es then K n c else none
  | _ => none

def chk (b : Bool) (K : Option R) : Option R := bif b then K else none

/-- A value under a name. -/
abbrev shareK {α : Type} (x : α) (K : α → Option R) : Option R := K x

/-- What the text alone decides. -/
def selK (b : Bool) (x y : Option R) : Option R := bif b then x else y

/-- What the text alone gives. -/
def statK (x : List (List Nat)) (K : List (List Nat) → Option R) : Option R := K x

/-- A test of the program's own. -/
def brK (b : Bool) (x y : Option R) : Option R := bif b then x else y

def optK {α : Type} (o : Option α) (K : α → Option R) : Option R :=
  match o with
  | some a => K a
  | none => none

def consK {α : Type} (l : List α) (K : α → List α → Option R) : Option R :=
  match l with
  | a :: r => K a r
  | [] => none

def nilK {α : Type} (l : List α) (K : Option R) : Option R :=
  match l with
  | [] => K
  | _ :: _ => none

def aggK (p : PV) (K : List PV → Option R) : Option R :=
  match p with
  | .agg c => K c
  | _ => none

def pboxK (p : PV) (K : List PV → Option R) : Option R :=
  match p with
  | .pbox c => K c
  | _ => none

def callK (r : Option Res) (K : List PV → List (List PV) → Option R) : Option R :=
  match r with
  | some ⟨v, o⟩ => K v o
  | none => none

/-- A function. -/
def fnK (p : PV) (K : Value → Option R) : Option R :=
  match p with
  | .sc (.func f a b) => K (.func f a b)
  | _ => none

/-- A function that is called. -/
def fvK (p : PV) (K : FuncId → Option R) : Option R :=
  match p with
  | .sc (.func (.func f) a b) => bif a.isEmpty && b.isEmpty then K f else none
  | _ => none

/-- One cell read out of a tree, at its kind. -/
def tcK (t : CT) (p : PV) (K : PV → Option R) : Option R :=
  match t with
  | .int k => intK k p fun n => K (.sc (.int k n))
  | .bool => boolK p fun b => K (.sc (.bool b))
  | .str => strK p fun s => K (.sc (.string s))
  | .sl es => lsK es p fun z n c => K (.lst z es n c)
  | .any => fnK p fun v => K (.sc v)

/-- One cell read out of a frame's box, at its kind. -/
def fcK (t : CT) (p : PV) (K : PV → Option R) : Option R :=
  match t with
  | .sl es => fsK es p K
  | t => tcK t p K

def tcsK : List CT → List PV → Nat → (List PV → Option R) → Option R
  | [], _, _, K => K []
  | t :: ts, cells, off, K => tcK t (cells.getD off .top) fun c => tcsK ts cells (off + 1) fun r => K (c :: r)

def fcsK : List CT → List PV → Nat → (List PV → Option R) → Option R
  | [], _, _, K => K []
  | t :: ts, cells, off, K => fcK t (cells.getD off .top) fun c => fcsK ts cells (off + 1) fun r => K (c :: r)

def mkV (agg : Bool) (cells : List PV) (K : PV → Option R) : Option R :=
  bif agg then K (.agg cells) else consK cells fun c r => nilK r (K c)

def cellsOf : PV → List PV
  | .agg c => c
  | p => [p]

/-- A constant, or a zero value, at its type. -/
def cvK (P : Program) (t : TypeId) (v : Value) (K : PV → Option R) : Option R :=
  match v with
  | .agg cs => chk (Nat.beq cs.toList.length (cty P t).length) (tcsK (cty P t) (cs.toList.map .sc) 0 fun c => K (.agg c))
  | .slice none 0 0 =>
    match P.underlying t with
    | some (.slice e) => K (.lst true (szOf P e) 0 [])
    | _ => none
  | v => K (.sc v)

end
end Go.Proofs.Ytaphhfehcbkfkaa.Pv

namespace Go.Proofs.Ytaphhfehcbkfkaa.Pv

/-- What an operation of class R gives: its value, the boxes that are now shared, new boxes. -/
structure Eff where
  v : PV
  fz : List Nat
  nw : List (Nat × Box)

def opv (tm : Nat → PV) : Operand → PV
  | .tmp t => tm t
  | .const (.agg cs) => .agg (cs.toList.map .sc)
  | .const v => .sc v
  | .func f => .sc (.func (.func f) #[] #[])
  | .global g => .sc (.pointer (some ⟨g, 0, none⟩))

section
variable {R : Type}

def anyIntK (p : PV) (K : IntKind → Int → Option R) : Option R :=
  match p with
  | .sc (.int k n) => K k n
  | _ => none

/-- A list of cells out of a slice value of a frame. -/
def slcK (rdf : Nat → Option (List PV)) (es : Nat) (p : PV) (K : Nat → List PV → Option R) : Option R :=
  match p with
  | .view id es' off n => bif Nat.beq es' es then optK (rdf id) fun c => chk (decide (off + n * es ≤ c.length)) (K n ((c.drop off).take (n * es))) else none
  | p => lsK es p fun _ n c => K n c

/-- A cell made a tree: a view is shared from now on. -/
def frcK (rdf : Nat → Option (List PV)) (t : CT) (p : PV) (K : PV → List Nat → Option R) : Option R :=
  match t with
  | .sl es =>
    match p with
    | .view id es' off n => bif Nat.beq es' es then optK (rdf id) fun c => chk (decide (off + n * es ≤ c.length)) (K (.lst false es n ((c.drop off).take (n * es))) [id]) else none
    | p => lsK es p fun _ n c => K (.lst false es n c) []
  | t => tcK t p fun c => K c []

def frcsK (rdf : Nat → Option (List PV)) : List CT → List PV → (List PV → List Nat → Option R) → Option R
  | [], [], K => K [] []
  | t :: ts, p :: ps, K => frcK rdf t p fun c m => frcsK rdf ts ps fun cs ms => K (c :: cs) (m ++ ms)
  | _, _, _ => none

/-- A value made a tree, at its type. -/
def frvK (P : Program) (rdf : Nat → Option (List PV)) (t : TypeId) (p : PV) (K : PV → List Nat → Option R) : Option R :=
  bif isAggB P t then aggK p fun ps => frcsK rdf (cty P t) ps fun cs m => K (.agg cs) m
  else frcsK rdf (cty P t) [p] fun cs m => consK cs fun c r => nilK r (K c m)

def frvsK (P : Program) (rdf : Nat → Option (List PV)) : List TypeId → List PV → (List PV → List Nat → Option R) → Option R
  | [], [], K => K [] []
  | t :: ts, p :: ps, K => frvK P rdf t p fun v m => frvsK P rdf ts ps fun vs ms => K (v :: vs) (m ++ ms)
  | _, _, _ => none

/-- What a call hands back, one cell: memory that comes along lies in a new box. -/
def uncK (shr : Bool) (id : Nat) (t : CT) (p : PV) (K : PV → List (Nat × Box) → Option R) : Option R :=
  match t with
  | .sl es => bif shr then lsK es p fun z n c => K (.lst z es n c) [] else owK es p fun n c => K (.view id es 0 n) [(id, .ar false c)]
  | t => tcK t p fun c => K c []

def uncsK (shr : Bool) (N : Nat) : Nat → List CT → List PV → (List PV → List (Nat × Box) → Option R) → Option R
  | _, [], ps, K => nilK ps (K [] [])
  | id, t :: ts, ps, K => consK ps fun p ps => uncK shr id t p fun c b => uncsK shr N (id + N) ts ps fun cs bs => K (c :: cs) (b ++ bs)

def ptrTo (P : Program) (t : TypeId) : Option TypeId :=
  match P.underlying t with
  | some (.pointer e) => some e
  | _ => none

/-- How many places a result has: its cells; a variable's own place and its cells. -/
def plcs (P : Program) (t : TypeId) : Nat :=
  match ptrTo P t with
  | some e => 1 + (cty P e).length
  | none => (cty P t).length

def unvK (P : Program) (shr : Bool) (N : Nat) (id : Nat) (t : TypeId) (p : PV) (K : PV → List (Nat × Box) → Option R) : Option R :=
  match ptrTo P t with
  | some e => pboxK p fun ps => uncsK shr N (id + N) (cty P e) ps fun cs bs => K (.ptr id 0) ((id, .st cs) :: bs)
  | none =>
  bif isAggB P t then aggK p fun ps => uncsK shr N id (cty P t) ps fun cs bs => K (.agg cs) bs
  else uncsK shr N id (cty P t) [p] fun cs bs => consK cs fun c r => nilK r (K c bs)

def unvsK (P : Program) (shr : Bool) (N : Nat) : Nat → List TypeId → List PV → (List PV → List (Nat × Box) → Option R) → Option R
  | _, [], ps, K => nilK ps (K [] [])
  | id, t :: ts, ps, K => consK ps fun p ps => unvK P shr N id t p fun v bs => unvsK P shr N (id + N * plcs P t) ts ps fun vs bs' => K (v :: vs) (bs ++ bs')

/-- The types of what a call gives: the parts of a tuple, or one. -/
def resTys (P : Program) (t : TypeId) : List TypeId :=
  match P.underlying t with
  | some (.tuple ts) => ts.toList
  | _ => [t]

def packVals (vs : List PV) (t : Bool) : PV := bif t then .tup vs else vs.headD .top

def isTup (P : Program) (t : TypeId) : Bool :=
  match P.underlying t with
  | some (.tuple _) => true
  | _ => false

def cmpK (op : BinOp) (a b : Int) (K : Bool → Option R) : Option R :=
  match op with
  | .eql => K (a == b)
  | .neq => K (a != b)
  | .lss => K (decide (a < b))
  | .leq => K (decide (a ≤ b))
  | .gtr => K (decide (a > b))
  | .geq => K (decide (a ≥ b))
  | _ => none

def bitsOf (op : BinOp) (k : IntKind) (x y : Int) : Option Int :=
  match op with
  | .and => some (k.wrap (BitVec.ofInt k.bits x &&& BitVec.ofInt k.bits y).toNat)
  | .or => some (k.wrap (BitVec.ofInt k.bits x ||| BitVec.ofInt k.bits y).toNat)
  | .xor => some (k.wrap (BitVec.ofInt k.bits x ^^^ BitVec.ofInt k.bits y).toNat)
  | .andNot => some (k.wrap (BitVec.ofInt k.bits x &&& ~~~BitVec.ofInt k.bits y).toNat)
  | _ => none

def intOpK (op : BinOp) (k : IntKind) (a b : Int) (K : PV → Option R) : Option R :=
  match op with
  | .add => shareK ((k.wrap (a + b))) fun n => K (.sc (.int k n))
  | .sub => shareK ((k.wrap (a - b))) fun n => K (.sc (.int k n))
  | .mul => shareK ((k.wrap (a * b))) fun n => K (.sc (.int k n))
  | .quo => chk (decide (b ≠ 0)) (shareK ((k.wrap (a.tdiv b))) fun n => K (.sc (.int k n)))
  | .rem => chk (decide (b ≠ 0)) (shareK ((a.tmod b)) fun n => K (.sc (.int k n)))
  | .and => shareK (iand k a b) fun n => K (.sc (.int k n))
  | .or => shareK (ior k a b) fun n => K (.sc (.int k n))
  | .xor => shareK (ixor k a b) fun n => K (.sc (.int k n))
  | .andNot => shareK (iandNot k a b) fun n => K (.sc (.int k n))
  | op => cmpK op a b fun r => K (.sc (.bool r))

def strOpK (op : BinOp) (x y : ByteArray) (K : PV → Option R) : Option R :=
  match op with
  | .add => chk (decide (x.size + y.size ≤ 9223372036854775807)) (shareK (x ++ y) fun s => K (.sc (.string s)))
  | .eql => K (.sc (.bool (x.data.toList == y.data.toList)))
  | .neq => K (.sc (.bool !(x.data.toList == y.data.toList)))
  | .lss => K (.sc (.bool (Op.bytesLess x.data.toList y.data.toList)))
  | .leq => K (.sc (.bool (Op.bytesLess x.data.toList y.data.toList || x.data.toList == y.data.toList)))
  | .gtr => K (.sc (.bool !(Op.bytesLess x.data.toList y.data.toList || x.data.toList == y.data.toList)))
  | .geq => K (.sc (.bool !(Op.bytesLess x.data.toList y.data.toList)))
  | _ => none

/-- Is a slice nil? -/
def nilQK (e : Bool) (p : PV) (K : PV → Option R) : Option R :=
  match p with
  | .sc (.slice none 0 0) => K (.sc (.bool e))
  | .lst z _ n _ => brK z (K (.sc (.bool e))) (brK (decide (0 < n)) (K (.sc (.bool !e))) (K .ub))
  | .view _ _ _ n => brK (decide (0 < n)) (K (.sc (.bool !e))) (K .ub)
  | _ => none

/-- A struct whose fields are plain cells, one behind the other. -/
def flatGo (P : Program) : List Field → Nat → Bool
  | [], _ => true
  | f :: r, i => Nat.beq f.offset i && (f.name != "_") && (match P.underlying f.type with | some (.int _) => true | some .bool => true | some .string => true | _ => false) && flatGo P r (i + 1)

def flatOk (P : Program) (t : TypeId) (fs : Array Field) : Bool := flatGo P fs.toList 0 && !P.stoodInHeld t && !P.eqGuardType P.depth t

/-- The kind of a plain field. -/
def fty (P : Program) (f : Field) : CT :=
  match P.underlying f.type with
  | some (.int k) => .int k
  | some .bool => .bool
  | some .string => .str
  | _ => .any

/-- Two rows of plain cells are equal. -/
def eqsK : List CT → List PV → List PV → (Bool → Option R) → Option R
  | [], [], [], K => K true
  | .int k :: ts, p :: ps, q :: qs, K => intK k p fun a => intK k q fun b => eqsK ts ps qs fun r => K ((a == b) && r)
  | .bool :: ts, p :: ps, q :: qs, K => boolK p fun a => boolK q fun b => eqsK ts ps qs fun r => K ((a == b) && r)
  | .str :: ts, p :: ps, q :: qs, K => strK p fun a => strK q fun b => eqsK ts ps qs fun r => K ((a == b) && r)
  | _, _, _, _ => none

def binK (P : Program) (op : BinOp) (t : TypeId) (x y : PV) (K : PV → Option R) : Option R :=
  match P.underlying t with
  | some (.int k) =>
    match op with
    | .shl => intK k x fun a => anyIntK y fun _ b => chk (decide (0 ≤ b)) (shareK (ishl k a b) fun n => K (.sc (.int k n)))
    | .shr => intK k x fun a => anyIntK y fun _ b => chk (decide (0 ≤ b)) (shareK (ishr k a b) fun n => K (.sc (.int k n)))
    | op => intK k x fun a => intK k y fun b => intOpK op k a b K
  | some .string => strK x fun a => strK y fun b => strOpK op a b K
  | some .bool =>
    match op with
    | .eql => boolK x fun a => boolK y fun b => K (.sc (.bool (a == b)))
    | .neq => boolK x fun a => boolK y fun b => K (.sc (.bool !(a == b)))
    | _ => none
  | some (.slice _) =>
    match op, y with
    | .eql, .sc (.slice none 0 0) => nilQK true x K
    | .neq, .sc (.slice none 0 0) => nilQK false x K
    | _, _ => none
  | _ => none

def binAnyK (P : Program) (op : BinOp) (t : TypeId) (x y : PV) (K : PV → Option R) : Option R :=
  match P.underlying t with
  | some (.struct fs) =>
    match op with
    | .eql => chk (flatOk P t fs) (aggK x fun xs => aggK y fun ys => eqsK (fs.toList.map (fty P)) xs ys fun b => K (.sc (.bool b)))
    | .neq => chk (flatOk P t fs) (aggK x fun xs => aggK y fun ys => eqsK (fs.toList.map (fty P)) xs ys fun b => K (.sc (.bool !b)))
    | _ => none
  | _ => binK P op t x y K

def unK (op : UnOp) (x : PV) (K : PV → Option R) : Option R :=
  match op with
  | .not => boolK x fun b => K (.sc (.bool !b))
  | .neg => anyIntK x fun k n => shareK (k.wrap (0 - n)) fun n => K (.sc (.int k n))
  | .xor => anyIntK x fun k n => shareK (inot k n) fun n => K (.sc (.int k n))
  | _ => none

/-- The cells of a []byte as a string. -/
def bytesOf : List PV → Option (List UInt8)
  | [] => some []
  | .sc (.int .u8 n) :: r => (bytesOf r).map (n.toNat.toUInt8 :: ·)
  | _ :: _ => none

def strCells (s : ByteArray) : List PV := s.data.toList.map fun b => .sc (.int .u8 b.toNat)

def convK (P : Program) (rdf : Nat → Option (List PV)) (d : Nat) (src dst : TypeId) (x : PV) (K : PV → List (Nat × Box) → Option R) : Option R :=
  match P.underlying dst with
  | some (.int k) => chk (P.underlying src).isSome (anyIntK x fun _ n => shareK (k.wrap n) fun n => K (.sc (.int k n)) [])
  | some .string =>
    match P.underlying src with
    | some .string => strK x fun s => K (.sc (.string s)) []
    | some (.slice e) =>
      match P.underlying e with
      | some (.int .u8) => slcK rdf 1 x fun n c => chk (decide (c.length = n)) (optK (bytesOf c) fun b => K (.sc (.string ⟨b.toArray⟩)) [])
      | _ => none
    | _ => none
  | some (.slice e) =>
    match P.underlying e, P.underlying src with
    | some (.int .u8), some .string => strK x fun s => chk (decide (s.size ≤ 1099511627776)) (K (.view d 1 0 s.size) [(d, .ar false (strCells s))])
    | _, _ => none
  | _ => none

/-- Bounds of a slice expression inside the length. -/
def boundK (p : Option PV) (dflt : Nat) (K : Nat → Option R) : Option R :=
  match p with
  | none => K dflt
  | some p => anyIntK p fun _ i => chk (decide (0 ≤ i)) (K i.toNat)

def sliceK (P : Program) (rdf : Nat → Option (List PV)) (t : TypeId) (x : PV) (lo hi : Option PV) (K : PV → Option R) : Option R :=
  match P.underlying t with
  | some .string => strK x fun s => boundK lo 0 fun l => boundK hi s.size fun h => chk (decide (l ≤ h) && decide (h ≤ s.size)) (shareK (s.extract l h) fun s => K (.sc (.string s)))
  | some (.slice e) => chk (P.info? e).isSome (
    match x with
    | .view id es off n => chk (Nat.beq es (szOf P e)) (boundK lo 0 fun l => boundK hi n fun h => chk (decide (l ≤ h) && decide (h ≤ n)) (shareK (off + l * es) fun o => shareK (h - l) fun n => K (.view id es o n)))
    | x => lsK (szOf P e) x fun z n c => boundK lo 0 fun l => boundK hi n fun h => chk (decide (l ≤ h) && decide (h ≤ n)) (shareK (h - l) fun n => shareK ((c.drop (l * szOf P e)).take (n * szOf P e)) fun c => K (.lst z (szOf P e) n c)))
  | some (.array n e) => chk (P.info? e).isSome (
    match x with
    | .ptr id off => optK (rdf id) fun c => chk (decide (1 ≤ n * szOf P e) && decide (off + n * szOf P e ≤ c.length)) <| boundK lo 0 fun l => boundK hi n fun h => chk (decide (l ≤ h) && decide (h ≤ n)) (shareK (off + l * szOf P e) fun o => shareK (h - l) fun n => K (.view id (szOf P e) o n))
    | _ => none)
  | _ => none

def addrK (x : PV) (d : Nat) (K : PV → Option R) : Option R :=
  match x with
  | .ptr id off => K (.ptr id (off + d))
  | .iptr c off => K (.iptr c (off + d))
  | _ => none

def infOk (P : Program) (e : TypeId) : Bool := (P.info? e).isSome

def fieldOff (P : Program) (t : TypeId) (f : Nat) : Option (Nat × TypeId) :=
  match P.underlying t with
  | some (.struct fs) => (fs[f]?).map fun g => (g.offset, g.type)
  | _ => none

def indexAddrK (P : Program) (t : TypeId) (x : PV) (i : Int) (K : PV → Option R) : Option R :=
  match P.underlying t with
  | some (.array n e) => chk (infOk P e) (chk (decide (0 ≤ i) && decide (i < n)) (addrK x (i.toNat * szOf P e) K))
  | some (.slice e) => chk (infOk P e) (
    match x with
    | .view id es off n => chk (Nat.beq es (szOf P e)) (chk (decide (0 ≤ i) && decide (i < n)) (K (.ptr id (off + i.toNat * es))))
    | x => lsK (szOf P e) x fun _ n c => chk (decide (0 ≤ i) && decide (i < n)) (K (.iptr c (i.toNat * szOf P e))))
  | _ => none

def loadK0 (P : Program) (rdf : Nat → Option (List PV)) (t : TypeId) (x : PV) (K : PV → Option R) : Option R :=
  match x with
  | .ptr id off => chk (ctyOk P t) (optK (rdf id) fun c => fcsK (cty P t) c off fun cs => mkV (isAggB P t) cs K)
  | .iptr c off => chk (ctyOk P t) (tcsK (cty P t) c off fun cs => mkV (isAggB P t) cs K)
  | _ => none

def loadK (P : Program) (rdf rdaf : Nat → Option (List PV)) (t : TypeId) (x : PV) (K : PV → Option R) : Option R :=
  match x with
  | .ptr id off => chk (ctyOk P t) (
    match rdaf id with
    | some c => tcsK (cty P t) c off fun cs => mkV (isAggB P t) cs K
    | none => optK (rdf id) fun c => fcsK (cty P t) c off fun cs => mkV (isAggB P t) cs K)
  | .iptr c off => chk (ctyOk P t) (tcsK (cty P t) c off fun cs => mkV (isAggB P t) cs K)
  | _ => none

/-- Parts laid into a row of cells. -/
def splice (cells new : List PV) (off : Nat) : List PV := cells.take off ++ new ++ cells.drop (off + new.length)

/-- A part of which it is known how many cells it has. -/
def okP : PV → Bool
  | .agg _ => true
  | .lst _ _ _ _ => true
  | .view _ _ _ _ => true
  | .sc (.int _ _) => true
  | .sc (.bool _) => true
  | .sc (.string _) => true
  | .sc (.slice none 0 0) => true
  | _ => false

def fillK (place : Nat → Option (Nat × Nat)) : List (Nat × PV) → List PV → (List PV → Option R) → Option R
  | [], cells, K => K cells
  | (i, p) :: r, cells, K => optK (place i) fun q => chk (okP p && Nat.beq (cellsOf p).length q.2 && Nat.ble (q.1 + q.2) cells.length) (shareK (splice cells (cellsOf p) q.1) fun cells => fillK place r cells K)

def placeOf (P : Program) (t : TypeId) (i : Nat) : Option (Nat × Nat) :=
  match P.underlying t with
  | some (.struct fs) => (fs[i]?).map fun f => (f.offset, szOf P f.type)
  | some (.array _ e) => some (i * szOf P e, szOf P e)
  | some (.slice e) => some (i * szOf P e, szOf P e)
  | _ => none

/-- All sizes that a composite literal asks are known. -/
def placesOk (P : Program) (t : TypeId) : Bool :=
  match P.underlying t with
  | some (.struct fs) => fs.toList.all fun f => infOk P f.type
  | some (.array _ e) => infOk P e
  | some (.slice e) => infOk P e
  | _ => false

def zeroOf (P : Program) (t : TypeId) : Option Value := (P.info? t).bind (·.zero)

/-- The zero cells of a type, as pure cells. -/
def zcellsK (P : Program) (t : TypeId) (K : List PV → Option R) : Option R :=
  optK (zeroOf P t) fun v => chk (Nat.beq v.cells.toList.length (cty P t).length && ctyOk P t) (tcsK (cty P t) (v.cells.toList.map .sc) 0 K)

def isArrB (P : Program) (t : TypeId) : Bool :=
  match P.underlying t with
  | some (.array _ _) => true
  | _ => false

def mkBox (P : Program) (t : TypeId) (cells : List PV) : Box := bif isArrB P t then .ar false cells else .st cells

def repl (n : Nat) (l : List PV) : List PV := (List.replicate n l).flatten

def minK (a b : PV) (K : PV → Option R) : Option R := anyIntK a fun k x => intK k b fun y => shareK (if y < x then y else x) fun n => K (.sc (.int k n))
def maxK (a b : PV) (K : PV → Option R) : Option R := anyIntK a fun k x => intK k b fun y => shareK (if x < y then y else x) fun n => K (.sc (.int k n))

def lenK (P : Program) (t : TypeId) (x : PV) (K : Nat → Option R) : Option R :=
  match P.underlying t with
  | some .string => strK x fun s => K s.size
  | some (.array n _) => K n
  | some (.slice e) =>
    match x with
    | .view _ es _ n => chk (Nat.beq es (szOf P e)) (K n)
    | x => lsK (szOf P e) x fun _ n _ => K n
  | _ => none
end

end Go.Proofs.Ytaphhfehcbkfkaa.Pv

namespace Go.Proofs.Ytaphhfehcbkfkaa.Pv

abbrev Call' := FuncId → List PV → Option Res

section
variable {R : Type}

def hasSl (P : Program) (ts : List TypeId) : Bool := ts.any fun t => (ptrTo P t).isSome || (cty P t).any fun c => match c with | .sl _ => true | _ => false

def constK (P : Program) (t : TypeId) (tm : Nat → PV) (x : Operand) (K : PV → Option R) : Option R :=
  match x with
  | .const v => cvK P t v K
  | x => K (opv tm x)

/-- An element type whose zero value is known. -/
def zinfOk (P : Program) (e : TypeId) : Bool :=
  match P.info? e with
  | some i => (match i.zero with | some z => Nat.beq z.cells.size i.size | none => false)
  | none => false

/-- What is appended: cells, and how many elements. -/
def srcR (P : Program) (rdaf : Nat → Option (List PV)) (es : Nat) (t : TypeId) (x : PV) (K : Nat → List PV → Option R) : Option R :=
  match P.underlying t with
  | some .string => chk (Nat.beq es 1) (strK x fun b => K b.size (strCells b))
  | some (.slice _) => slcK rdaf es x K
  | _ => none

abbrev srcK (P : Program) (s : St) (es : Nat) (t : TypeId) (x : PV) (K : Nat → List PV → Option R) : Option R := srcR P (rda s.hp) es t x K

/-- Is it an append to nil? -/
def nilBase (c : Call) : Bool :=
  match c.args.toList with
  | .const (.slice none 0 0) :: _ => true
  | _ => false

/-- An append to nil: a new row. -/
def appNilK (P : Program) (rdaf : Nat → Option (List PV)) (d : Nat) (t tx : TypeId) (x : PV) (K : PV → List (Nat × Box) → Option R) : Option R :=
  match P.underlying t with
  | some (.slice e) => chk (zinfOk P e) <|
    srcR P rdaf (szOf P e) tx x fun m new =>
      chk (decide (new.length = m * szOf P e) && decide (m * ((P.info? e).map (·.bytes)).getD 0 ≤ 1099511627776) && decide (m ≤ 1099511627776)) (K (.view d (szOf P e) 0 m) [(d, .ar false new)])
  | _ => none

/-- Arguments that are the constant nil, told. -/
def markNil (k : Bool) : List Operand → List PV → List PV
  | x :: xs, p :: ps =>
    (match x, p with
     | .const (.slice none 0 0), .lst z es 0 [] => .lst (k || z) es 0 []
     | _, p => p) :: markNil k xs ps
  | _, ps => ps

/-- The capacity of nil. -/
def capK (P : Program) (t : TypeId) (x : PV) (K : Nat → Option R) : Option R :=
  match P.underlying t with
  | some (.slice e) => lsK (szOf P e) x fun z _ _ => chk z (K 0)
  | _ => none

/-- The types of a function's parameters. -/
def parTys (P : Program) (f : FuncId) (c : Call) : List TypeId :=
  match P.funcs[f]? with
  | some fn => fn.params.toList
  | none => c.argTypes.toList

/-- A call whose arguments are trees. -/
def rcallK (C : Cfg) (P : Program) (N : Nat) (call : Call') (tm : Nat → PV) (rdaf : Nat → Option (List PV)) (o : Oper) (c : Call) (f : FuncId) (K : PV → List Nat → List (Nat × Box) → Option R) : Option R :=
  frvsK P rdaf (parTys P f c) (c.args.toList.map (opv tm)) fun vs m =>
    callK (call f (markNil (C.kz f) c.args.toList vs)) fun rv ro => nilK ro (chk (Nat.blt 0 N) <| unvsK P (C.shr f) N (o.dst.getD 0) (resTys P o.type) rv fun ws bs =>
      chk (bif isTup P o.type then !Nat.beq ws.length 1 else Nat.beq ws.length 1) <| K (packVals ws (isTup P o.type)) (bif hasSl P (resTys P o.type) then m else []) bs)

/-- The operations of class R. -/
def effK (C : Cfg) (P : Program) (N : Nat) (call : Call') (tm : Nat → PV) (rdf rdaf : Nat → Option (List PV)) (o : Oper) (K : PV → List Nat → List (Nat × Box) → Option R) : Option R :=
  match o.op with
  | .move x => constK P o.type tm x fun p => K p [] []
  | .assign x => constK P o.type tm x fun p => K p [] []
  | .pick c a b => boolK (opv tm c) fun t => brK t (K (opv tm a) [] []) (K (opv tm b) [] [])
  | .alloc t => optK o.dst fun d => zcellsK P t fun cs => K (.ptr d 0) [] [(d, mkBox P t cs)]
  | .box t x => optK o.dst fun d => chk (ctyOk P t && Nat.beq (cellsOf (opv tm x)).length (cty P t).length)
      (bif isArrB P t then tcsK (cty P t) (cellsOf (opv tm x)) 0 fun cs => K (.ptr d 0) [] [(d, .ar false cs)]
       else fcsK (cty P t) (cellsOf (opv tm x)) 0 fun cs => K (.ptr d 0) [] [(d, .st cs)])
  | .build t ps => chk (placesOk P t && isAggB P t) <| zcellsK P t fun z => fillK (placeOf P t) (ps.toList.map fun q => (q.1, opv tm q.2)) z fun cs => fcsK (cty P t) cs 0 fun cs' => K (.agg cs') [] []
  | .buildSlice t n ps => optK o.dst fun d =>
      match P.underlying t with
      | some (.slice e) => chk (placesOk P t && Nat.ble (n * szOf P e) 16777216) (zcellsK P e fun z => fillK (placeOf P t) (ps.toList.map fun q => (q.1, opv tm q.2)) (repl n z) fun cs =>
          frcsK rdaf (List.replicate n (cty P e)).flatten cs fun cs' m => K (.view d (szOf P e) 0 n) m [(d, .ar false cs')])
      | _ => none
  | .load t a => loadK P rdf rdaf t (opv tm a) fun v => K v [] []
  | .nilCheck x => addrK (opv tm x) 0 fun p => K p [] []
  | .binOp op t x y _ =>
      binAnyK P op t (opv tm x) (opv tm y) fun v => K v [] []
  | .unOp op _ x => unK op (opv tm x) fun v => K v [] []
  | .convert src dst x => convK P rdaf (o.dst.getD 0) src dst (opv tm x) fun v b => optK o.dst fun _ => K v [] b
  | .makeSlice t l c => optK o.dst fun d =>
      match P.underlying t with
      | some (.slice e) => anyIntK (opv tm l) fun _ n => anyIntK (opv tm c) fun _ m =>
          chk (decide (0 ≤ n) && decide (n ≤ m) && decide (m * ((P.info? e).map (·.bytes)).getD 0 ≤ 1099511627776) && decide (m ≤ 1099511627776))
            (zcellsK P e fun z => K (.view d (szOf P e) 0 n.toNat) [] [(d, .ar false (repl n.toNat z))])
      | _ => none
  | .slice t x lo hi mx =>
      match mx with
      | none => sliceK P rdf t (opv tm x) (lo.map (opv tm)) (hi.map (opv tm)) fun v => K v [] []
      | some _ => none
  | .fieldAddr t x f => optK (fieldOff P t f) fun q => chk (Nat.ble 1 (szOf P q.2)) (addrK (opv tm x) q.1 fun p => K p [] [])
  | .field t x f => optK (fieldOff P t f) fun q => chk (ctyOk P q.2) <| aggK (opv tm x) fun cs => fcsK (cty P q.2) cs q.1 fun c => mkV (isAggB P q.2) c fun v => K v [] []
  | .indexAddr t x i => anyIntK (opv tm i) fun _ n => indexAddrK P t (opv tm x) n fun p => K p [] []
  | .index t x i => anyIntK (opv tm i) fun _ n =>
      match P.underlying t with
      | some .string => strK (opv tm x) fun s => chk (decide (0 ≤ n)) (optK (s.data.toList[n.toNat]?) fun b => K (.sc (.int .u8 b.toNat)) [] [])
      | some (.array len e) => aggK (opv tm x) fun cs => chk (decide (0 ≤ n) && decide (n < len) && ctyOk P e) (fcsK (cty P e) cs (n.toNat * szOf P e) fun c => mkV (isAggB P e) c fun v => K v [] [])
      | _ => none
  | .extract x i =>
      match opv tm x with
      | .tup vs => optK vs[i]? fun p => K p [] []
      | _ => none
  | .call c =>
      match c.callee with
      | .builtin .len => consK c.args.toList fun x _ => consK c.argTypes.toList fun t _ => lenK P t (opv tm x) fun n => K (.sc (.int .i64 n)) [] []
      | .builtin .cap => consK c.args.toList fun x _ => consK c.argTypes.toList fun t _ => capK P t (opv tm x) fun n => K (.sc (.int .i64 n)) [] []
      | .builtin .min => consK c.args.toList fun x r => consK r fun y r' => nilK r' (minK (opv tm x) (opv tm y) fun v => K v [] [])
      | .builtin .max => consK c.args.toList fun x r => consK r fun y r' => nilK r' (maxK (opv tm x) (opv tm y) fun v => K v [] [])
      | .builtin .append => chk (nilBase c) (optK o.dst fun d => consK c.args.toList fun _ r => consK r fun x r' => nilK r' (consK c.argTypes.toList fun t u => consK u fun tx _ => appNilK P rdaf d t tx (opv tm x) fun v nw => K v [] nw))
      | .value (.func f) => rcallK C P N call tm rdaf o c f K
      | .value (.tmp t) => fvK (tm t) fun f => rcallK C P N call tm rdaf o c f K
      | _ => none
  | _ => none

/-- Is an operation of class M: does it change a box? -/
def isM (C : Cfg) (P : Program) (o : Op) : Bool :=
  match o with
  | .store .. => true
  | .call c =>
    match c.callee with
    | .builtin .append => !nilBase c
    | .builtin .copy => true
    | .builtin _ => false
    | .value (.func f) => ((parTys P f c).any fun t => (ptrTo P t).isSome) || ((parTys P f c).zipIdx.any fun q => C.mvd f q.2 || C.lnd f q.2)
    | _ => false
  | _ => false

def markF (b : Box) : Box :=
  match b with
  | .ar _ c => .ar true c
  | b => b

def freezeIds (hp : Nat → Option Box) (ids : List Nat) : Nat → Option Box := fun i => bif ids.any (Nat.beq i) then (hp i).map markF else hp i

def addBoxes (hp : Nat → Option Box) : List (Nat × Box) → Nat → Option Box
  | [] => hp
  | (i, b) :: r => addBoxes (upd hp i (some b)) r

def absent (hp : Nat → Option Box) : List (Nat × Box) → Bool
  | [] => true
  | (i, _) :: r => (hp i).isNone && !(r.any fun q => Nat.beq q.1 i) && absent hp r

def putTm (tm : Nat → PV) (d : Option Tmp) (v : PV) : Nat → PV :=
  match d with
  | some i => upd tm i v
  | none => tm

def dstOk (N : Nat) (d : Option Tmp) : Bool :=
  match d with
  | some i => Nat.blt i N
  | none => true

/-- What class R leaves. -/
def applyK (N : Nat) (s : St) (d : Option Tmp) (v : PV) (fz : List Nat) (nw : List (Nat × Box)) (K : St → Option R) : Option R :=
  chk (dstOk N d && absent s.hp nw) (K ⟨putTm s.tm d v, addBoxes (freezeIds s.hp fz) nw⟩)

def storeK (P : Program) (s : St) (t : TypeId) (a x : PV) (K : St → Option R) : Option R :=
  match a with
  | .ptr id off =>
    match s.hp id with
    | some (.st c) => chk (ctyOk P t && Nat.beq (cellsOf x).length (cty P t).length && decide (off + (cty P t).length ≤ c.length)) (fcsK (cty P t) (cellsOf x) 0 fun cs => shareK (splice c cs off) fun c => K ⟨s.tm, upd s.hp id (some (.st c))⟩)
    | some (.ar false c) => chk (ctyOk P t && decide (off + (cty P t).length ≤ c.length)) (frcsK (rda s.hp) (cty P t) (cellsOf x) fun cs m => chk (!m.any (Nat.beq id)) (shareK (splice c cs off) fun c => K ⟨s.tm, upd (freezeIds s.hp m) id (some (.ar false c))⟩))
    | _ => none
  | _ => none

def isIntTy (P : Program) (t : TypeId) : Bool :=
  match P.underlying t with
  | some (.int _) => true
  | _ => false

/-- 'append(s, make([]E, n)...)', s surely nil: what lies in the new row is not told. -/
def appZeroK (P : Program) (N : Nat) (s : St) (d : Nat) (e : TypeId) (b x : PV) (K : St → Option R) : Option R :=
  anyIntK x fun _ n => lsK (szOf P e) b fun z _ _ =>
    chk (z && Nat.blt d N && (s.hp d).isNone && decide (0 ≤ n) && decide (n.toNat * ((P.info? e).map (·.bytes)).getD 0 ≤ 1099511627776) && decide (n ≤ 1099511627776))
      (K ⟨upd s.tm d (.view d (szOf P e) 0 n.toNat), upd s.hp d (some (.ar false []))⟩)

def appendK (P : Program) (N : Nat) (s : St) (d : Nat) (t tx : TypeId) (b x : PV) (K : St → Option R) : Option R :=
  match P.underlying t with
  | some (.slice e) => chk (zinfOk P e) <|
    bif isIntTy P tx then appZeroK P N s d e b x K else
    srcK P s (szOf P e) tx x fun m new =>
    match b with
    | .view id es off n =>
      match s.hp id with
      | some (.ar false c) =>
        chk (Nat.beq es (szOf P e) && Nat.beq off 0 && Nat.blt d N && (s.hp d).isNone && decide (n * es ≤ c.length) && decide (new.length = m * es)
          && decide ((n + m) * ((P.info? e).map (·.bytes)).getD 0 ≤ 1099511627776) && decide (n + m ≤ 1099511627776))
          (shareK (n + m) fun n' => shareK (c.take (n * es) ++ new) fun c => K ⟨upd s.tm d (.view d es 0 n'), upd (upd s.hp id (some .mv)) d (some (.ar false c))⟩)
      | _ => none
    | b => lsK (szOf P e) b fun z _ _ =>
        chk (z && Nat.blt d N && (s.hp d).isNone && decide (new.length = m * szOf P e) && decide (m * ((P.info? e).map (·.bytes)).getD 0 ≤ 1099511627776) && decide (m ≤ 1099511627776))
          (K ⟨upd s.tm d (.view d (szOf P e) 0 m), upd s.hp d (some (.ar false new))⟩)
  | _ => none

/-- 'copy(b, x)' into a row. -/
def copyK (P : Program) (N : Nat) (s : St) (d : Option Tmp) (t tx : TypeId) (b x : PV) (K : St → Option R) : Option R :=
  match P.underlying t with
  | some (.slice e) => chk (infOk P e && dstOk N d) <|
    srcK P s (szOf P e) tx x fun m new =>
    match b with
    | .view id es off n =>
      match s.hp id with
      | some (.ar false c) => chk (Nat.beq es (szOf P e) && decide (off + n * es ≤ c.length) && decide (new.length = m * es))
          (shareK (min m n) fun k => shareK (splice c (new.take (k * es)) off) fun c => K ⟨putTm s.tm d (.sc (.int .i64 k)), upd s.hp id (some (.ar false c))⟩)
      | _ => none
    | _ => none
  | _ => none

/-- One cell that is handed over: its value, the boxes that are shared from now on, the box that goes along. -/
def mvcK (mv : Bool) (hp : Nat → Option Box) (t : CT) (p : PV) (K : PV → List Nat → List Nat → Option R) : Option R :=
  match t with
  | .sl es =>
    bif mv then
      match p with
      | .view id es' off n =>
        match hp id with
        | some (.ar false c) =>
          bif Nat.beq es' es && Nat.beq off 0 then chk (decide (n * es ≤ c.length)) (K (.own es n (c.take (n * es))) [] [id])
          else frcK (rda hp) (.sl es) (.view id es' off n) fun c m => K c m []
        | _ => frcK (rda hp) (.sl es) (.view id es' off n) fun c m => K c m []
      | p => lsK es p fun z n c => bif z then K (.own es 0 []) [] [] else K (.lst false es n c) [] []
    else frcK (rda hp) (.sl es) p fun c m => K c m []
  | t => tcK t p fun c => K c [] []

def mvcsK (mv : Bool) (hp : Nat → Option Box) : List CT → List PV → (List PV → List Nat → List Nat → Option R) → Option R
  | [], [], K => K [] [] []
  | t :: ts, p :: ps, K => mvcK mv hp t p fun c m x => mvcsK mv hp ts ps fun cs ms xs => K (c :: cs) (m ++ ms) (x ++ xs)
  | _, _, _ => none

/-- What is lent: cells of a variable (its box, where, their kinds, what went in), a row, or nothing (a nil slice). -/
inductive Lnt where
  | var (id off : Nat) (cts : List CT) (ws : List PV)
  | row (id : Nat)
  | none

def Lnt.ids : Lnt → List Nat
  | .var id _ _ _ => [id]
  | .row id => [id]
  | .none => []

def slOf (P : Program) (t : TypeId) : Option TypeId :=
  match P.underlying t with
  | some (.slice e) => some e
  | _ => none

/-- A slice that is lent. -/
def lrowK (hp : Nat → Option Box) (es : Nat) (p : PV) (K : PV → List Lnt → Option R) : Option R :=
  match p with
  | .view id es' off n =>
    match hp id with
    | some (.ar false c) => chk (Nat.beq es' es && Nat.beq off 0) (K (.tup [.own es n c]) [.row id])
    | _ => none
  | p => lsK es p fun z _ _ => chk z (K (.tup [.own es 0 []]) [.none])

/-- One argument that is lent or handed over. -/
def lend1K (C : Cfg) (P : Program) (f : FuncId) (hp : Nat → Option Box) (i : Nat) (t : TypeId) (p : PV) (K : PV → List Nat → List Nat → List Lnt → Option R) : Option R :=
  match ptrTo P t with
  | some e =>
    match p with
    | .ptr id off =>
      match hp id with
      | some (.st c) => chk (ctyOk P e && decide (off + (cty P e).length ≤ c.length)) (mvcsK (C.mvd f i) hp (cty P e) ((c.drop off).take (cty P e).length) fun cs m x => K (.pbox cs) m x [.var id off (cty P e) cs])
      | _ => none
    | _ => none
  | none =>
    bif C.lnd f i then optK (slOf P t) fun e => lrowK hp (szOf P e) p fun v l => K v [] [] l
    else bif isAggB P t then aggK p fun ps => mvcsK (C.mvd f i) hp (cty P t) ps fun cs m x => K (.agg cs) m x []
    else mvcsK (C.mvd f i) hp (cty P t) [p] fun cs m x => consK cs fun c r => nilK r (K c m x [])

def lendK (C : Cfg) (P : Program) (f : FuncId) (hp : Nat → Option Box) : Nat → List TypeId → List PV → (List PV → List Nat → List Nat → List Lnt → Option R) → Option R
  | _, [], [], K => K [] [] [] []
  | i, t :: ts, p :: ps, K => lend1K C P f hp i t p fun v m x l => lendK C P f hp (i + 1) ts ps fun vs ms xs ls => K (v :: vs) (m ++ ms) (x ++ xs) (l ++ ls)
  | _, _, _, _ => none

/-- Boxes that went away. -/
def mvIds (hp : Nat → Option Box) (ids : List Nat) : Nat → Option Box := fun i => bif ids.any (Nat.beq i) then (hp i).map (fun _ => Box.mv) else hp i

def nid (N t : Nat) : Nat := N * (1000 + t)

/-- The first name that is free for what comes back. -/
def freeT (N : Nat) (hp : Nat → Option Box) : Nat → Nat → Nat
  | 0, t => t
  | k + 1, t => bif (hp (nid N t)).isNone then t else freeT N hp k (t + 1)

/-- One cell that comes back. -/
def bkcK (N t : Nat) (ct : CT) (was p : PV) (K : Nat → PV → List (Nat × Box) → Option R) : Option R :=
  match ct with
  | .sl es =>
    match was with
    | .own _ _ _ => owK es p fun n c => K (t + 1) (.view (nid N t) es 0 n) [(nid N t, .ar false c)]
    | _ => lsK es p fun z n c => K t (.lst z es n c) []
  | ct => tcK ct p fun c => K t c []

def bkcsK (N : Nat) : Nat → List CT → List PV → List PV → (Nat → List PV → List (Nat × Box) → Option R) → Option R
  | t, [], [], ps, K => nilK ps (K t [] [])
  | t, ct :: cts, w :: ws, ps, K => consK ps fun p ps => bkcK N t ct w p fun t' c b => bkcsK N t' cts ws ps fun t'' cs bs => K t'' (c :: cs) (b ++ bs)
  | _, _, _, _, _ => none

/-- What comes back, laid into the boxes. -/
def bksK (N : Nat) : Nat → List Lnt → List (List PV) → (Nat → Option Box) → ((Nat → Option Box) → List (Nat × Box) → Option R) → Option R
  | _, [], ro, hp, K => nilK ro (K hp [])
  | t, .var id off cts ws :: l, ro, hp, K => consK ro fun cs ro => bkcsK N t cts ws cs fun t' cs' bs =>
      match hp id with
      | some (.st c) => shareK (splice c cs' off) fun c => bksK N t' l ro (upd hp id (some (.st c))) fun hp' bs' => K hp' (bs ++ bs')
      | _ => none
  | t, .row id :: l, ro, hp, K => consK ro fun cs ro => bksK N t l ro (upd hp id (some (.ar false cs))) K
  | t, .none :: l, ro, hp, K => consK ro fun _ ro => bksK N t l ro hp K

def nodupB : List Nat → Bool
  | [] => true
  | a :: r => !(r.any (Nat.beq a)) && nodupB r

/-- A call to which something is lent or handed over. -/
def callMK (C : Cfg) (P : Program) (N : Nat) (call : Call') (s : St) (o : Oper) (f : FuncId) (c : Call) (K : St → Option R) : Option R :=
  lendK C P f s.hp 0 (parTys P f c) (c.args.toList.map (opv s.tm)) fun vs m x l =>
    chk (nodupB (l.flatMap Lnt.ids ++ x) && m.all (fun i => !((l.flatMap Lnt.ids ++ x).any (Nat.beq i))) && Nat.blt 0 N && dstOk N o.dst) <|
    callK (call f (markNil (C.kz f) c.args.toList vs)) fun rv ro =>
      unvsK P (C.shr f) N (o.dst.getD N) (resTys P o.type) rv fun ws bs =>
        chk (bif isTup P o.type then !Nat.beq ws.length 1 else Nat.beq ws.length 1) <|
        bksK N (freeT N s.hp 100 0) l ro (mvIds (freezeIds s.hp m) x) fun hp' bs' =>
          chk (absent hp' (bs ++ bs')) (K ⟨putTm s.tm o.dst (packVals ws (isTup P o.type)), addBoxes hp' (bs ++ bs')⟩)

/-- The operations of class M. -/
def mutK (C : Cfg) (P : Program) (N : Nat) (call : Call') (s : St) (o : Oper) (K : St → Option R) : Option R :=
  match o.op with
  | .store t a x => chk (o.dst.isNone) (storeK P s t (opv s.tm a) (opv s.tm x) K)
  | .call c =>
    match c.callee with
    | .builtin .append => optK o.dst fun d => consK c.args.toList fun b r => consK r fun x r' => nilK r' (consK c.argTypes.toList fun t u => consK u fun tx _ => appendK P N s d t tx (opv s.tm b) (opv s.tm x) K)
    | .builtin .copy => consK c.args.toList fun b r => consK r fun x r' => nilK r' (consK c.argTypes.toList fun t u => consK u fun tx _ => copyK P N s o.dst t tx (opv s.tm b) (opv s.tm x) K)
    | .value (.func f) => callMK C P N call s o f c K
    | _ => none
  | _ => none

def popK (C : Cfg) (P : Program) (N : Nat) (call : Call') (o : Oper) (s : St) (K : St → Option R) : Option R :=
  bif isM C P o.op then mutK C P N call s o K
  else effK C P N call s.tm (rd s.hp) (rda s.hp) o fun v fz nw => applyK N s o.dst v fz nw K

/-- An operation under its guard. -/
def gopK (C : Cfg) (P : Program) (N : Nat) (call : Call') (ops : Array Oper) (o : Oper) (s : St) (K : St → Option R) : Option R :=
  match o.guard with
  | none => popK C P N call o s K
  | some (j, want) =>
    match (ops[j]?).bind (·.dst) with
    | none => none
    | some d =>
      match s.tm d with
      | .sc (.bool b) =>
        brK b (bif want then popK C P N call o ⟨upd s.tm d (.sc (.bool true)), s.hp⟩ K else chk (dstOk N o.dst) (K ⟨putTm (upd s.tm d (.sc (.bool true))) o.dst (.sc undef), s.hp⟩))
          (bif want then chk (dstOk N o.dst) (K ⟨putTm (upd s.tm d (.sc (.bool false))) o.dst (.sc undef), s.hp⟩) else popK C P N call o ⟨upd s.tm d (.sc (.bool false)), s.hp⟩ K)
      | .sc (.tuple _) => chk (dstOk N o.dst) (K ⟨putTm s.tm o.dst (.sc undef), s.hp⟩)
      | _ => none

def gopsK (C : Cfg) (P : Program) (N : Nat) (call : Call') (ops : Array Oper) : List Oper → St → (St → Option R) → Option R
  | [], s, K => K s
  | o :: r, s, K => gopK C P N call ops o s fun s' => gopsK C P N call ops r s' K
end

end Go.Proofs.Ytaphhfehcbkfkaa.Pv

namespace Go.Proofs.Ytaphhfehcbkfkaa.Pv

/- A region that draws its order: any two operations that touch one thing are ordered by the region's edges. -/
def opTmps (o : Oper) : List Nat := o.op.operands.toList.filterMap fun x => match x with | .tmp t => some t | _ => none

def looks (ops : Array Oper) (o : Oper) : List Nat :=
  opTmps o ++ (match o.guard with | some (g, _) => ((ops[g]?).bind (·.dst)).toList | none => [])

/-- Does an operation read or make memory? -/
def memo (P : Program) (o : Op) : Bool :=
  match o with
  | .slice t .. => match P.underlying t with | some (.array _ _) => true | _ => false
  | .buildSlice t _ _ => match P.underlying t with | some (.slice e) => hasSl P [e] | _ => true
  | .convert _ dst _ => match P.underlying dst with | some .string => true | _ => false
  | .alloc _ | .box .. | .makeSlice .. => false
  | .move _ | .assign _ | .pick .. | .build .. | .binOp .. | .unOp .. | .fieldAddr .. | .field .. | .index .. | .extract .. | .nilCheck _ => false
  | .call c => match c.callee with | .builtin .len => false | .builtin .min => false | .builtin .max => false | _ => true
  | _ => true

def clash (C : Cfg) (P : Program) (ops : Array Oper) (x y : Oper) : Bool :=
  (match x.dst with | some d => (looks ops y).any (Nat.beq d) || (match y.dst with | some e => Nat.beq d e | none => false) | none => false) ||
  (match y.dst with | some e => (looks ops x).any (Nat.beq e) | none => false) ||
  (isM C P x.op && memo P y.op) || (isM C P y.op && memo P x.op)

/-- All that must come ahead of an operation, by its edges. -/
def ancs (ops : Array Oper) : Nat → Nat → List Nat
  | 0, _ => []
  | n + 1, i => match ops[i]? with
    | none => []
    | some o => o.after.toList.flatMap fun e => bif Region.binds .any e && Nat.blt e.on i then e.on :: ancs ops n e.on else []

def anc (ops : Array Oper) (i : Nat) : Nat → List Nat
  | 0 => []
  | n + 1 => (match ops[i]? with | none => [] | some o => o.after.toList.filterMap fun e => bif Region.binds .any e then some e.on else none) ++ anc ops i n

/-- The set of those ahead, as a number's bits, place by place. -/
def befores (ops : List Oper) : List Nat → List Nat
  | acc => match ops with
    | [] => acc
    | o :: r => befores r (acc ++ [o.after.toList.foldl (fun s e => bif Region.binds .any e then s ||| 2 ^ e.on ||| acc.getD e.on 0 else s) 0])

def regOkGo (C : Cfg) (P : Program) (ops : Array Oper) (bs : List Nat) : List Oper → Nat → Bool
  | [], _ => true
  | o :: r, i => (ops.toList.zipIdx.all fun q => !Nat.blt q.2 i || !clash C P ops q.1 o || (bs.getD i 0).testBit q.2) && regOkGo C P ops bs r (i + 1)

def regOk (C : Cfg) (P : Program) (ops : Array Oper) : Bool :=
  ops.toList.zipIdx.all (fun q => q.1.after.toList.all fun e => !Region.binds .any e || Nat.blt e.on q.2) && regOkGo C P ops (befores ops.toList []) ops.toList 0

def refsC : PV → List Nat
  | .view id _ _ _ => [id]
  | .ptr id _ => [id]
  | _ => []

def refs1 : PV → List Nat
  | .agg cs => cs.flatMap refsC
  | p => refsC p

def refs : PV → List Nat
  | .tup ps => ps.flatMap refs1
  | p => refs1 p

/-- A load. -/
def isLd (o : Op) : Bool :=
  match o with
  | .load .. => true
  | _ => false

/-- An append that is not one to nil. -/
def isAp (o : Op) : Bool :=
  match o with
  | .call c => (match c.callee with | .builtin .append => !nilBase c | _ => false)
  | _ => false

/- A region in which a load and a change of memory, or two appends, are not ordered: that they do not touch one another is asked when they run. -/
def clashT (ops : Array Oper) (x y : Oper) : Bool :=
  (match x.dst with | some d => (looks ops y).any (Nat.beq d) || (match y.dst with | some e => Nat.beq d e | none => false) | none => false) ||
  (match y.dst with | some e => (looks ops x).any (Nat.beq e) | none => false)

def clashM (C : Cfg) (P : Program) (x y : Oper) : Bool := (isM C P x.op && memo P y.op) || (isM C P y.op && memo P x.op)

def softP (C : Cfg) (P : Program) (x y : Oper) : Bool := (isM C P x.op && isLd y.op) || (isM C P y.op && isLd x.op) || (isAp x.op && isAp y.op)

def hard (C : Cfg) (P : Program) (ops : Array Oper) (x y : Oper) : Bool := clashT ops x y || (clashM C P x y && !softP C P x y)

def regOkGoS (C : Cfg) (P : Program) (ops : Array Oper) (bs : List Nat) : List Oper → Nat → Bool
  | [], _ => true
  | o :: r, i => (ops.toList.zipIdx.all fun q => !Nat.blt q.2 i || !hard C P ops q.1 o || (bs.getD i 0).testBit q.2) && regOkGoS C P ops bs r (i + 1)

def regOkS (C : Cfg) (P : Program) (ops : Array Oper) : Bool :=
  ops.toList.zipIdx.all (fun q => q.1.after.toList.all fun e => !Region.binds .any e || Nat.blt e.on q.2) && regOkGoS C P ops (befores ops.toList []) ops.toList 0

/-- The boxes that an operation's operands lead to; for one that changes memory those in variables too. -/
def reach (C : Cfg) (P : Program) (s : St) (o : Oper) : List Nat :=
  let l := o.op.operands.toList.flatMap fun y => refs (opv s.tm y)
  bif isM C P o.op && !isAp o.op then l ++ l.flatMap (fun i => match s.hp i with | some (.st c) => c.flatMap refsC | _ => [])
  else bif isLd o.op || isAp o.op then l else []

def disj (a b : List Nat) : Bool := a.all fun i => !b.any (Nat.beq i)

/-- With which of the others an operation is neither ordered nor surely apart. -/
def softWith (C : Cfg) (P : Program) (ops : Array Oper) (bs : List Nat) (i : Nat) (o : Oper) : List Nat :=
  (ops.toList.zipIdx.filter fun q => softP C P q.1 o && !(Nat.blt q.2 i && (bs.getD i 0).testBit q.2) && !(Nat.blt i q.2 && (bs.getD q.2 0).testBit i)).map (·.2)

def softs (C : Cfg) (P : Program) (ops : Array Oper) (bs : List Nat) : List (List Nat) := ops.toList.zipIdx.map fun q => softWith C P ops bs q.2 q.1

def rch (C : Cfg) (P : Program) (sm : List (List Nat)) (s : St) (i : Nat) (o : Oper) : List Nat :=
  match sm.getD i [] with
  | [] => []
  | _ :: _ => reach C P s o

def okDn (C : Cfg) (P : Program) (sm : List (List Nat)) (s : St) (i : Nat) (o : Oper) (q : Nat × Oper × List Nat) : Bool :=
  !((sm.getD i []).any (Nat.beq q.1)) || disj q.2.2 (rch C P sm s i o)

def gopsDK {R : Type} (C : Cfg) (P : Program) (N : Nat) (call : Call') (ops : Array Oper) (sm : List (List Nat)) : List (Nat × Oper × List Nat) → List Nat → St → (St → Option R) → Option R
  | _, [], s, K => K s
  | dn, i :: l, s, K => optK ops[i]? fun o => chk (dn.all (okDn C P sm s i o) && (rch C P sm s i o).all (fun k => (s.hp k).isSome)) (gopK C P N call ops o s fun s' => gopsDK C P N call ops sm ((i, o, rch C P sm s i o) :: dn) l s' K)

/- Liveness, by bits. It only makes states small: nothing rests on it. -/
def setB (m i : Nat) : Nat := m ||| 2 ^ i
def clrB (m i : Nat) : Nat := bif m.testBit i then m ^^^ 2 ^ i else m

def liveOps (ops : Array Oper) : List Oper → Nat → Nat
  | [], m => m
  | o :: r, m =>
    let m1 := liveOps ops r m
    let m2 := match o.dst with | some d => clrB m1 d | none => m1
    (looks ops o).foldl setB m2

def live : Code → Nat → (Nat → Nat) → Nat → Nat
  | .skip, ln, _, _ => ln
  | .region _ ops _, ln, _, _ => liveOps ops ops.toList ln
  | .seq a b, ln, lx, lr => live a (live b ln lx lr) lx lr
  | .cond c a b, ln, lx, lr => let m := live a ln lx lr ||| live b ln lx lr; match c with | .tmp d => setB m d | _ => m
  | .block id c, ln, lx, lr => live c ln (fun j => bif Nat.beq j id then ln else lx j) lr
  | .loop c, _, lx, lr => live c (live c 0 lx lr) lx lr
  | .exit id, _, lx, _ => lx id
  | .ret, _, _, lr => lr
  | _, _, _, _ => 0

def bitsOn (m : Nat) : Nat → List Nat
  | 0 => []
  | n + 1 => bitsOn m n ++ (bif m.testBit n then [n] else [])

def lk (l : List (Nat × PV)) (i : Nat) : PV :=
  match l with
  | [] => .top
  | (j, p) :: r => bif Nat.beq i j then p else lk r i

def lkh (l : List (Nat × Box)) (i : Nat) : Option Box :=
  match l with
  | [] => none
  | (j, b) :: r => bif Nat.beq i j then some b else lkh r i

def lkn (l : List (Nat × Nat)) (i : Nat) : Option Nat :=
  match l with
  | [] => none
  | (j, b) :: r => bif Nat.beq i j then some b else lkn r i

/-- A nil slice in a slot becomes an empty row of the call's own. -/
def nilSlot (s : St) (i : Nat) : St :=
  match s.tm i with
  | .lst true es 0 [] => bif (s.hp i).isNone then ⟨upd s.tm i (.view i es 0 0), upd s.hp i (some (.ar false []))⟩ else s
  | _ => s

def nilCell (N : Nat) (id : Nat) (s : St) (j : Nat) : St :=
  match s.hp id with
  | some (.st c) =>
    match c[j]? with
    | some (.lst true es 0 []) => bif (s.hp (id + N * (j + 1))).isNone then ⟨s.tm, upd (upd s.hp id (some (.st (c.set j (.view (id + N * (j + 1)) es 0 0))))) (id + N * (j + 1)) (some (.ar false []))⟩ else s
    | _ => s
  | _ => s

def nilBox (N : Nat) (s : St) (i : Nat) : St :=
  match s.tm i with
  | .ptr id _ =>
    match s.hp id with
    | some (.st c) => (List.range c.length).foldl (nilCell N id) s
    | _ => s
  | _ => s

/-- New names for the boxes that live slots reach. -/
def addId (m : List (Nat × Nat)) (old new : Nat) : List (Nat × Nat) :=
  match lkn m old with
  | some _ => m
  | none => m ++ [(old, new)]

def cellIds (N new : Nat) : List PV → Nat → List (Nat × Nat) → List (Nat × Nat)
  | [], _, m => m
  | .view id _ _ _ :: r, j, m => cellIds N new r (j + 1) (addId m id (new + N * (j + 1)))
  | _ :: r, j, m => cellIds N new r (j + 1) m

def namesOf (N : Nat) (s : St) (m : List (Nat × Nat)) (i : Nat) : List (Nat × Nat) :=
  match s.tm i with
  | .view id _ _ _ => addId m id i
  | .ptr id _ =>
    match lkn m id with
    | some _ => m
    | none =>
      match s.hp id with
      | some (.st c) => cellIds N i c 0 (addId m id i)
      | _ => addId m id i
  | .agg c => cellIds N i c 0 m
  | _ => m

def renC (m : List (Nat × Nat)) : PV → PV
  | .view id es off n => match lkn m id with | some j => .view j es off n | none => .top
  | .ptr id off => match lkn m id with | some j => .ptr j off | none => .top
  | .sc v => .sc v
  | .lst z es n c => .lst z es n c
  | .iptr c off => .iptr c off
  | _ => .top

def renV (m : List (Nat × Nat)) : PV → PV
  | .agg c => .agg (c.map (renC m))
  | p => renC m p

def renB (m : List (Nat × Nat)) : Box → Box
  | .st c => .st (c.map (renC m))
  | b => b

/-- The box of what was lent as parameter i. -/
def pinId (N i : Nat) : Nat := i + N * 2000

/-- What was lent keeps its name. -/
def pins0 (N : Nat) (hp : Nat → Option Box) : Nat → List (Nat × Nat)
  | 0 => []
  | i + 1 => bif (hp (pinId N i)).isSome then pins0 N hp i ++ [(pinId N i, pinId N i)] else pins0 N hp i

def pinCells (N : Nat) (hp : Nat → Option Box) : Nat → List (Nat × Nat) → List (Nat × Nat)
  | 0, m => m
  | i + 1, m =>
    match hp (pinId N i) with
    | some (.st c) => cellIds N (pinId N i) c 0 (pinCells N hp i m)
    | _ => pinCells N hp i m

def pins (N : Nat) (hp : Nat → Option Box) (k : Nat) : List (Nat × Nat) := pinCells N hp k (pins0 N hp k)

def newHp (m : List (Nat × Nat)) (hp : Nat → Option Box) : List (Nat × Nat) → List (Nat × Box)
  | [] => []
  | (old, new) :: r => match hp old with
    | some b => (new, renB m b) :: newHp m hp r
    | none => newHp m hp r

section
variable {R : Type}

def normL (N : Nat) (ls : List Nat) (s : St) (K : St → Option R) : Option R :=
  let s1 := ls.foldl nilSlot s
  let s2 := ls.foldl (nilBox N) s1
  let m := ls.foldl (namesOf N s2) (pins N s2.hp 8)
  chk (nodupB (m.map (·.1)) && nodupB (m.map (·.2))) (K ⟨lk (ls.map fun i => (i, renV m (s2.tm i))), lkh (newHp m s2.hp m)⟩)

def normK (N L : Nat) (s : St) (K : St → Option R) : Option R := normL N (bitsOn L N) s K

/-- A loop: at most n rounds. -/
def iter (F : (St → Option R) → St → Option R) (nm : St → (St → Option R) → Option R) : Nat → St → Option R
  | 0, _ => none
  | n + 1, s => F (fun s' => nm s' (iter F nm n)) s

/-- Both ways come to the same. -/
noncomputable def bothK (x y : Option R) : Option R := open Classical in if x = y then x else none

noncomputable def condK (s : St) (c : Operand) (kt kf : St → Option R) : Option R :=
  match c with
  | .tmp d =>
    match s.tm d with
    | .sc (.bool b) => brK b (kt ⟨upd s.tm d (.sc (.bool true)), s.hp⟩) (kf ⟨upd s.tm d (.sc (.bool false)), s.hp⟩)
    | .ub => bothK (kt s) (kf s)
    | _ => none
  | .const (.bool true) => kt s
  | .const (.bool false) => kf s
  | _ => none

noncomputable def pevK (C : Cfg) (P : Program) (fu N : Nat) (call : Call') : Code → Nat → (Nat → Nat) → Nat → (St → Option R) → (Nat → St → Option R) → (St → Option R) → St → Option R
  | .skip, _, _, _, kn, _, _, s => kn s
  | .region _ ops draw, _, _, _, kn, _, _, s => selK (draw && !regOk C P ops) (chk (regOkS C P ops) (statK (softs C P ops (befores ops.toList [])) fun sm => gopsDK C P N call ops sm [] (List.range ops.size) s kn)) (gopsK C P N call ops ops.toList s kn)
  | .seq a b, ln, lx, lr, kn, kx, kr, s => pevK C P fu N call a (live b ln lx lr) lx lr (fun s' => pevK C P fu N call b ln lx lr kn kx kr s') kx kr s
  | .cond c a b, ln, lx, lr, kn, kx, kr, s => condK s c (pevK C P fu N call a ln lx lr kn kx kr) (pevK C P fu N call b ln lx lr kn kx kr)
  | .block id c, ln, lx, lr, kn, kx, kr, s => pevK C P fu N call c ln (fun j => bif Nat.beq j id then ln else lx j) lr kn (fun j s' => bif Nat.beq j id then kn s' else kx j s') kr s
  | .loop c, ln, lx, lr, _, kx, kr, s =>
    normK N (live (.loop c) ln lx lr) s (iter (fun k s' => pevK C P fu N call c (live (.loop c) ln lx lr) lx lr k kx kr s') (normK N (live (.loop c) ln lx lr)) fu)
  | .exit id, _, _, _, _, kx, _, s => kx id s
  | .ret, _, _, _, _, _, kr, s => kr s
  | _, _, _, _, _, _, _, _ => none

/-- A cell handed over: what is owned lies in a box of its own. -/
def incK (id : Nat) (t : CT) (p : PV) (K : PV → List (Nat × Box) → Option R) : Option R :=
  match t with
  | .sl es =>
    match p with
    | .own es' n c => bif Nat.beq es' es then K (.view id es 0 n) [(id, .ar false c)] else none
    | p => lsK es p fun z n c => K (.lst z es n c) []
  | t => tcK t p fun c => K c []

def incsK (N : Nat) : Nat → List CT → List PV → (List PV → List (Nat × Box) → Option R) → Option R
  | _, [], ps, K => nilK ps (K [] [])
  | id, t :: ts, ps, K => consK ps fun p ps => incK id t p fun c b => incsK N (id + N) ts ps fun cs bs => K (c :: cs) (b ++ bs)

/-- One argument, laid into its slot. -/
def inK (P : Program) (N i : Nat) (t : TypeId) (p : PV) (K : PV → List (Nat × Box) → Option R) : Option R :=
  match ptrTo P t with
  | some e => pboxK p fun ps => chk (Nat.blt i 8) (incsK N (pinId N i + N) (cty P e) ps fun cs bs => K (.ptr (pinId N i) 0) ((pinId N i, .st cs) :: bs))
  | none =>
    match p with
    | .tup ps => optK (slOf P t) fun e => chk (Nat.blt i 8) (consK ps fun q r => nilK r (owK (szOf P e) q fun n c => K (.view (pinId N i) (szOf P e) 0 n) [(pinId N i, .ar false c)]))
    | p =>
      bif isAggB P t then aggK p fun ps => incsK N (i + N) (cty P t) ps fun cs bs => K (.agg cs) bs
      else incsK N (i + N) (cty P t) [p] fun cs bs => consK cs fun c r => nilK r (K c bs)

def insK (P : Program) (N : Nat) : Nat → List TypeId → List PV → (List (Nat × PV) → List (Nat × Box) → Option R) → Option R
  | _, [], ps, K => nilK ps (K [] [])
  | i, t :: ts, ps, K => consK ps fun p ps => inK P N i t p fun v bs => insK P N (i + 1) ts ps fun vs bs' => K ((i, v) :: vs) (bs ++ bs')

/-- A cell handed back with its memory: the boxes that go along; those that are shared from now on. -/
def outcK (hp : Nat → Option Box) (t : CT) (p : PV) (K : PV → List Nat → List Nat → Option R) : Option R :=
  match t with
  | .sl es =>
    match p with
    | .view id es' off n => bif Nat.beq es' es && Nat.beq off 0 then
        (match hp id with
         | some (.ar false c) => chk (decide (n * es ≤ c.length)) (K (.own es n (c.take (n * es))) [id] [])
         | _ => none) else none
    | p => lsK es p fun z _ _ => chk z (K (.own es 0 []) [] [])
  | t => tcK t p fun c => K c [] []

/-- A cell handed back, shared or with its memory. -/
def outxK (shr : Bool) (hp : Nat → Option Box) (t : CT) (p : PV) (K : PV → List Nat → List Nat → Option R) : Option R :=
  bif shr then frcK (rda hp) t p fun c m => K c [] m else outcK hp t p K

def outcsK (shr : Bool) (hp : Nat → Option Box) : List CT → List PV → (List PV → List Nat → List Nat → Option R) → Option R
  | [], [], K => K [] [] []
  | t :: ts, p :: ps, K => outxK shr hp t p fun c m z => outcsK shr hp ts ps fun cs ms zs => K (c :: cs) (m ++ ms) (z ++ zs)
  | _, _, _ => none

def outvK (P : Program) (shr : Bool) (hp : Nat → Option Box) (t : TypeId) (p : PV) (K : PV → List Nat → List Nat → Option R) : Option R :=
  match ptrTo P t with
  | some e =>
    match p with
    | .ptr id off =>
      match hp id with
      | some (.st c) => chk (Nat.beq off 0) (outcsK shr hp (cty P e) c fun cs m z => K (.pbox cs) (id :: m) z)
      | _ => none
    | _ => none
  | none =>
    bif isAggB P t then aggK p fun ps => outcsK shr hp (cty P t) ps fun cs m z => K (.agg cs) m z
    else outcsK shr hp (cty P t) [p] fun cs m z => consK cs fun c r => nilK r (K c m z)

/-- The value of a result variable. -/
def resvK (P : Program) (s : St) (r : ResultVar) (K : PV → Option R) : Option R :=
  match r with
  | .tmp t => K (s.tm t)
  | .cell a t => loadK P (rd s.hp) (rda s.hp) t (s.tm a) K

def outvsK (P : Program) (shr : Bool) (s : St) : List ResultVar → List TypeId → (List PV → List Nat → List Nat → Option R) → Option R
  | [], [], K => K [] [] []
  | r :: rs, t :: ts, K => resvK P s r fun p => outvK P shr s.hp t p fun v m z => outvsK P shr s rs ts fun vs ms zs => K (v :: vs) (m ++ ms) (z ++ zs)
  | _, _, _ => none

/-- The cells of a variable that was lent, given back: what came shared goes shared. -/
def backcsK (hp : Nat → Option Box) : List CT → List PV → List PV → (List PV → List Nat → List Nat → Option R) → Option R
  | [], [], [], K => K [] [] []
  | t :: ts, w :: ws, p :: ps, K => outxK (match w with | .own _ _ _ => false | _ => true) hp t p fun c m z => backcsK hp ts ws ps fun cs ms zs => K (c :: cs) (m ++ ms) (z ++ zs)
  | _, _, _, _ => none

/-- What was lent, given back: its cells, the boxes that go along, those that are shared, its own boxes. -/
def backsK (P : Program) (N : Nat) (hp : Nat → Option Box) : Nat → List TypeId → List PV → (List (List PV) → List Nat → List Nat → List Nat → Option R) → Option R
  | _, [], ps, K => nilK ps (K [] [] [] [])
  | i, t :: ts, ps, K => consK ps fun p ps =>
    match p with
    | .pbox ws => optK (ptrTo P t) fun e =>
        match hp (pinId N i) with
        | some (.st c) => backcsK hp (cty P e) ws c fun cs m z => backsK P N hp (i + 1) ts ps fun r m' z' q => K (cs :: r) (m ++ m') (z ++ z') (pinId N i :: q)
        | _ => none
    | .tup _ =>
        match hp (pinId N i) with
        | some (.ar false c) => backsK P N hp (i + 1) ts ps fun r m' z' q => K (c :: r) m' z' (pinId N i :: q)
        | _ => none
    | _ => backsK P N hp (i + 1) ts ps K

def bitsOf' (rs : List ResultVar) : Nat := rs.foldl (fun m r => match r with | .tmp t => setB m t | .cell a _ => setB m a) 0
end

def ptrSlots (P : Program) : Nat → List TypeId → Nat → Nat
  | _, [], m => m
  | i, t :: ts, m => ptrSlots P (i + 1) ts (match P.underlying t with | some (.pointer _) => setB m i | _ => m)

def retK (C : Cfg) (P : Program) (f : FuncId) (fn : Func) (args : List PV) (s : St) : Option Res :=
  outvsK P (C.shr f) s fn.results.toList fn.resultTypes.toList fun vs m z => backsK P fn.ntmps s.hp 0 fn.params.toList args fun os m' z' q =>
    chk (nodupB ((m ++ m') ++ q) && (z ++ z').all (fun i => !(((m ++ m') ++ q).any (Nat.beq i)))) (some ⟨vs, os⟩)

noncomputable def pfun (C : Cfg) (P : Program) (fu : Nat) (call : Call') (f : FuncId) (fn : Func) (c : Code) (args : List PV) : Option Res :=
  insK P fn.ntmps 0 fn.params.toList args fun tms bs => chk (Nat.ble args.length fn.ntmps && absent (fun _ => none) bs)
    (let lr := ptrSlots P 0 fn.params.toList (bitsOf' fn.results.toList)
     pevK C P fu fn.ntmps call c lr (fun _ => 0) lr (retK C P f fn args) (fun _ _ => none) (retK C P f fn args) ⟨lk tms, lkh bs⟩)

noncomputable def pcall (C : Cfg) (P : Program) (fu : Nat) : Nat → FuncId → List PV → Option Res
  | 0, _, _ => none
  | d + 1, f, args =>
    match C.ext f with
    | some g => g args
    | none =>
      match P.funcs[f]? with
      | none => none
      | some fn => match fn.body with
        | none => none
        | some c => pfun C P fu (pcall C P fu d) f fn c args

end Go.Proofs.Ytaphhfehcbkfkaa.Pv

namespace Go.Proofs.Ytaphhfehcbkfkaa.Pv

/-- A way down: left, right, into a loop's body (with the rounds that are left). -/
inductive Dir where
  | l
  | r
  | i (m : Nat)

section
variable {R : Type}

noncomputable def loopAt (C : Cfg) (P : Program) (fu N : Nat) (call : Call') : List Dir → Code → Nat → (Nat → Nat) → Nat → (St → Option R) → (Nat → St → Option R) → (St → Option R) → Nat → St → Option R
  | [], .loop c, ln, lx, lr, _, kx, kr, n, s => iter (fun k s' => pevK C P fu N call c (live (.loop c) ln lx lr) lx lr k kx kr s') (normK N (live (.loop c) ln lx lr)) n s
  | .l :: p, .seq a b, ln, lx, lr, kn, kx, kr, n, s => loopAt C P fu N call p a (live b ln lx lr) lx lr (fun s' => pevK C P fu N call b ln lx lr kn kx kr s') kx kr n s
  | .r :: p, .seq _ b, ln, lx, lr, kn, kx, kr, n, s => loopAt C P fu N call p b ln lx lr kn kx kr n s
  | .l :: p, .cond _ a _, ln, lx, lr, kn, kx, kr, n, s => loopAt C P fu N call p a ln lx lr kn kx kr n s
  | .r :: p, .cond _ _ b, ln, lx, lr, kn, kx, kr, n, s => loopAt C P fu N call p b ln lx lr kn kx kr n s
  | .l :: p, .block id c, ln, lx, lr, kn, kx, kr, n, s => loopAt C P fu N call p c ln (fun j => bif Nat.beq j id then ln else lx j) lr kn (fun j s' => bif Nat.beq j id then kn s' else kx j s') kr n s
  | .i m :: p, .loop c, ln, lx, lr, _, kx, kr, n, s =>
    loopAt C P fu N call p c (live (.loop c) ln lx lr) lx lr
      (fun s' => normK N (live (.loop c) ln lx lr) s' (iter (fun k s' => pevK C P fu N call c (live (.loop c) ln lx lr) lx lr k kx kr s') (normK N (live (.loop c) ln lx lr)) m)) kx kr n s
  | _, _, _, _, _, _, _, _, _, _ => none
end

noncomputable def floop (C : Cfg) (P : Program) (fu : Nat) (call : Call') (f : FuncId) (fn : Func) (c : Code) (args : List PV) (p : List Dir) (n : Nat) (s : St) : Option Res :=
  let lr := ptrSlots P 0 fn.params.toList (bitsOf' fn.results.toList)
  loopAt C P fu fn.ntmps call p c lr (fun _ => 0) lr (retK C P f fn args) (fun _ _ => none) (retK C P f fn args) n s

/-- No function hands its slices back shared, none takes memory over. -/
def growIds : List Nat := [
  1000000]
/-- These hand their slices back shared. -/
def shrIds : List Nat := [
  1000000]
/-- To these the first argument, a slice, is lent. -/
def lndIds : List Nat := [
  13,
  16,
  18,
  19,
  20,
  21,
  1000000]
/-- To these the slices of the first argument are handed over. -/
def mvdIds : List Nat := [
  1000000]
/-- What is known of functions otherwise. -/
def extOf (f : FuncId) : Option (List PV → Option Res) :=
  (fun (_ : FuncId) => none) f
def C0 : Cfg := ⟨fun f => shrIds.any (Nat.beq f), fun f i => Nat.beq i 0 && mvdIds.any (Nat.beq f), fun f i => Nat.beq i 0 && lndIds.any (Nat.beq f), fun f => growIds.any (Nat.beq f), fun f => extOf f⟩

def bodyOf (f : Func) : Code := match f.body with | some c => c | none => .skip

end Go.Proofs.Ytaphhfehcbkfkaa.Pv

namespace Go.Proofs.Ytaphhfehcbkfkaa.Pv

section
variable {R : Type} {r : Option R}

theorem go_int {k : IntKind} {p : PV} {K : Int → Option R} {n : Int} (h : p = .sc (.int k n)) (hk : K n = r) : intK k p K = r := by
  subst h; unfold intK; simp [hk]
theorem go_any {p : PV} {K : IntKind → Int → Option R} {k : IntKind} {n : Int} (h : p = .sc (.int k n)) (hk : K k n = r) : anyIntK p K = r := by
  subst h; exact hk
theorem go_bool {p : PV} {K : Bool → Option R} {b : Bool} (h : p = .sc (.bool b)) (hk : K b = r) : boolK p K = r := by
  subst h; exact hk
theorem go_str {p : PV} {K : ByteArray → Option R} {s : ByteArray} (h : p = .sc (.string s)) (hk : K s = r) : strK p K = r := by
  subst h; exact hk
theorem go_ls {es : Nat} {p : PV} {K : Bool → Nat → List PV → Option R} {z : Bool} {n : Nat} {c : List PV} (h : p = .lst z es n c) (hk : K z n c = r) : lsK es p K = r := by
  subst h; unfold lsK; simp [Nat.beq_refl, hk]
theorem go_ls0 {es : Nat} {p : PV} {K : Bool → Nat → List PV → Option R} (h : p = .sc (.slice none 0 0)) (hk : K true 0 [] = r) : lsK es p K = r := by
  subst h; exact hk
theorem go_ow {es : Nat} {p : PV} {K : Nat → List PV → Option R} {n : Nat} {c : List PV} (h : p = .own es n c) (hk : K n c = r) : owK es p K = r := by
  subst h; unfold owK; simp [Nat.beq_refl, hk]
theorem go_chk {b : Bool} {K : Option R} (h : b = true) (hk : K = r) : chk b K = r := by
  subst h; exact hk
theorem go_br {b : Bool} {x y : Option R} (hx : b = true → x = r) (hy : b = false → y = r) : brK b x y = r := by
  cases b
  · exact hy rfl
  · exact hx rfl
theorem go_brT {b : Bool} {x y : Option R} (h : b = true) (hx : x = r) : brK b x y = r := by
  subst h; exact hx
theorem go_brF {b : Bool} {x y : Option R} (h : b = false) (hx : y = r) : brK b x y = r := by
  subst h; exact hx
theorem go_opt {α : Type} {o : Option α} {K : α → Option R} {a : α} (h : o = some a) (hk : K a = r) : optK o K = r := by
  subst h; exact hk
theorem go_cons {α : Type} {l : List α} {K : α → List α → Option R} {a : α} {t : List α} (h : l = a :: t) (hk : K a t = r) : consK l K = r := by
  subst h; exact hk
theorem go_nil {α : Type} {l : List α} {K : Option R} (h : l = []) (hk : K = r) : nilK l K = r := by
  subst h; exact hk
theorem go_agg {p : PV} {K : List PV → Option R} {c : List PV} (h : p = .agg c) (hk : K c = r) : aggK p K = r := by
  subst h; exact hk
theorem go_pbox {p : PV} {K : List PV → Option R} {c : List PV} (h : p = .pbox c) (hk : K c = r) : pboxK p K = r := by
  subst h; exact hk
theorem go_call {o : Option Res} {K : List PV → List (List PV) → Option R} {v : List PV} {q : List (List PV)} (h : o = some ⟨v, q⟩) (hk : K v q = r) : callK o K = r := by
  subst h; exact hk

theorem go_share {α : Type} {a : α} {K : α → Option R} (hk : K a = r) : shareK a K = r := hk
theorem go_shareE {α : Type} {a b : α} {K : α → Option R} (h : a = b) (hk : K b = r) : shareK a K = r := by subst h; exact hk
theorem go_both {x y : Option R} (hx : x = r) (hy : y = r) : bothK x y = r := by subst hx; subst hy; unfold bothK; simp
end

theorem ne_of_eq_decide (a b : Int) : (a != b) = decide (a ≠ b) := by by_cases h : a = b <;> simp [h, bne]
theorem eq_decide (a b : Int) : (a == b) = decide (a = b) := by by_cases h : a = b <;> simp [h]

section
variable {R : Type}
theorem nd_call (v : List PV) (o : List (List PV)) (K : List PV → List (List PV) → Option R) : callK (some ⟨v, o⟩) K = K v o := by exact id rfl
theorem nd_nil {α : Type} (K : Option R) : nilK ([] : List α) K = K := by exact id rfl
theorem nd_cons {α : Type} (a : α) (r : List α) (K : α → List α → Option R) : consK (a :: r) K = K a r := by exact id rfl
theorem nd_bool (b : Bool) (K : Bool → Option R) : boolK (.sc (.bool b)) K = K b := by exact id rfl
theorem nd_str (s : ByteArray) (K : ByteArray → Option R) : strK (.sc (.string s)) K = K s := by exact id rfl
theorem nd_int (k : IntKind) (n : Int) (K : Int → Option R) : intK k (.sc (.int k n)) K = K n := by unfold intK; simp
theorem nd_any (k : IntKind) (n : Int) (K : IntKind → Int → Option R) : anyIntK (.sc (.int k n)) K = K k n := by exact id rfl
theorem nd_ls (z : Bool) (es n : Nat) (c : List PV) (K : Bool → Nat → List PV → Option R) : lsK es (.lst z es n c) K = K z n c := by unfold lsK; simp
theorem nd_ow (es n : Nat) (c : List PV) (K : Nat → List PV → Option R) : owK es (.own es n c) K = K n c := by unfold owK; simp
theorem nd_agg (c : List PV) (K : List PV → Option R) : aggK (.agg c) K = K c := by exact id rfl
theorem nd_pbox (c : List PV) (K : List PV → Option R) : pboxK (.pbox c) K = K c := by exact id rfl
theorem nd_opt {α : Type} (a : α) (K : α → Option R) : optK (some a) K = K a := by exact id rfl
theorem nd_share {α : Type} (a : α) (K : α → Option R) : shareK a K = K a := by exact id rfl
theorem nd_chk (K : Option R) : chk true K = K := by exact id rfl
theorem nd_chkd (p : Prop) [Decidable p] (K : Option R) (h : p) : chk (decide p) K = K := by simp [chk, h]
theorem nd_chka (b c : Bool) (K : Option R) : chk (b && c) K = chk b (chk c K) := by cases b <;> rfl
theorem nd_brT (x y : Option R) : brK true x y = x := by exact id rfl
theorem nd_brF (x y : Option R) : brK false x y = y := by exact id rfl
theorem nd_brt (p : Prop) [Decidable p] (x y : Option R) (h : p) : brK (decide p) x y = x := by simp [brK, h]
theorem nd_brf (p : Prop) [Decidable p] (x y : Option R) (h : ¬ p) : brK (decide p) x y = y := by simp [brK, h]
theorem nd_brd (p : Prop) [Decidable p] (x y : Option R) : brK (decide p) x y = if p then x else y := by by_cases h : p <;> simp [brK, h]
theorem nd_brif (b : Bool) (x y : Option R) : brK b x y = if b = true then x else y := by cases b <;> rfl
theorem nd_brn (b : Bool) (x y : Option R) : brK (!b) x y = brK b y x := by cases b <;> rfl
theorem nd_breq (a b : Int) (x y : Option R) : brK (a == b) x y = if a = b then x else y := by
  rw [eq_decide, nd_brd]
theorem nd_brne (a b : Int) (x y : Option R) : brK (a != b) x y = if a = b then y else x := by
  rw [ne_of_eq_decide, nd_brd]
  by_cases h : a = b <;> simp [h]
theorem nd_both (x : Option R) : bothK x x = x := by unfold bothK; simp
end


theorem wrap_i64 {x : Int} (h1 : -9223372036854775808 ≤ x) (h2 : x ≤ 9223372036854775807) : IntKind.wrap .i64 x = x := by
  have := IntWalk.i64_in x (by omega)
  exact this
theorem wrap_u64 {x : Int} (h1 : 0 ≤ x) (h2 : x ≤ 18446744073709551615) : IntKind.wrap .u64 x = x := by
  simp only [IntKind.wrap, IntKind.signed, IntKind.bits]
  simp
  omega
theorem wrap_u8 {x : Int} (h1 : 0 ≤ x) (h2 : x ≤ 255) : IntKind.wrap .u8 x = x := by
  simp only [IntKind.wrap, IntKind.signed, IntKind.bits]
  simp
  omega

theorem wrap_u64_range (x : Int) : 0 ≤ IntKind.wrap .u64 x ∧ IntKind.wrap .u64 x ≤ 18446744073709551615 := by
  simp only [IntKind.wrap, IntKind.signed, IntKind.bits]
  simp
  omega
theorem if_res {c : Prop} [Decidable c] (k : IntKind) (a b : Int) (o : List (List PV)) : (if c then some (Res.mk [.sc (.int k a)] o) else some (Res.mk [.sc (.int k b)] o)) = some (Res.mk [.sc (.int k (if c then a else b))] o) := by split <;> rfl
theorem nd_retand (a b : Bool) (o : List (List PV)) : brK a (some (Res.mk [.sc (.bool b)] o)) (some (Res.mk [.sc (.bool false)] o)) = some (Res.mk [.sc (.bool (a && b))] o) := by cases a <;> rfl
theorem nd_retor (a b : Bool) (o : List (List PV)) : brK a (some (Res.mk [.sc (.bool true)] o)) (some (Res.mk [.sc (.bool b)] o)) = some (Res.mk [.sc (.bool (a || b))] o) := by cases a <;> rfl

/-- One step on in a list. -/
theorem drop_cons {α : Type} {l r : List α} {x : α} {i : Nat} (h : l.drop i = x :: r) : i < l.length ∧ l[i]? = some x ∧ l.drop (i + 1) = r := by
  have h1 : i < l.length := by
    rcases Nat.lt_or_ge i l.length with h1 | h1
    · exact h1
    · rw [List.drop_of_length_le h1] at h; cases h
  rw [List.drop_eq_getElem_cons h1] at h
  injection h with h2 h3
  exact ⟨h1, by rw [List.getElem?_eq_getElem h1, h2], h3⟩
theorem drop_nil {α : Type} {l : List α} {i : Nat} (h : l.drop i = []) : l.length ≤ i := by
  have := congrArg List.length h
  simp at this
  omega

/- Rows of cells of one length. -/
section
variable {α : Type} {f : α → List PV} {k : Nat}
theorem fm_len (hf : ∀ x, (f x).length = k) : ∀ (l : List α), (l.flatMap f).length = l.length * k
  | [] => by simp
  | x :: l => by simp [hf x, fm_len hf l, Nat.succ_mul]; omega
theorem fm_drop (hf : ∀ x, (f x).length = k) : ∀ (l : List α) (i : Nat), (l.flatMap f).drop (i * k) = (l.drop i).flatMap f
  | l, 0 => by simp
  | [], i + 1 => by simp
  | x :: l, i + 1 => by
    rw [List.flatMap_cons, Nat.succ_mul, Nat.add_comm, ← List.drop_drop, List.drop_append_of_le_length (by rw [hf x]; omega)]
    rw [show (f x).drop k = [] from List.drop_of_length_le (by rw [hf x]; omega), List.nil_append]
    exact fm_drop hf l i
theorem fm_take (hf : ∀ x, (f x).length = k) : ∀ (l : List α) (i : Nat), (l.flatMap f).take (i * k) = (l.take i).flatMap f
  | l, 0 => by simp
  | [], i + 1 => by simp
  | x :: l, i + 1 => by
    rw [List.flatMap_cons, Nat.succ_mul, Nat.add_comm, List.take_succ_cons, List.flatMap_cons, ← fm_take hf l i]
    rw [show k + i * k = (f x).length + i * k by rw [hf x], List.take_length_add_append]
theorem fm_at (hf : ∀ x, (f x).length = k) {l : List α} {i : Nat} {x : α} (h : l[i]? = some x) {j : Nat} (hj : j < k) : (l.flatMap f).getD (i * k + j) .top = (f x).getD j .top := by
  have h1 : ((l.flatMap f).drop (i * k))[j]? = (l.flatMap f)[i * k + j]? := List.getElem?_drop
  rw [fm_drop hf] at h1
  have h2 : i < l.length := by
    rcases Nat.lt_or_ge i l.length with h1 | h1
    · exact h1
    · rw [List.getElem?_eq_none h1] at h; cases h
  rw [List.drop_eq_getElem_cons h2, List.flatMap_cons] at h1
  have h3 : l[i] = x := by rw [List.getElem?_eq_getElem h2] at h; injection h
  rw [h3, List.getElem?_append_left (by rw [hf x]; exact hj)] at h1
  simp only [List.getD_eq_getElem?_getD, ← h1]
theorem fm_set (hf : ∀ x, (f x).length = k) {p : PV} {j : Nat} (hj : j < k) : ∀ {l : List α} {i : Nat} {x y : α}, l[i]? = some x → f y = (f x).set j p → (l.flatMap f).set (i * k + j) p = (l.set i y).flatMap f
  | [], i, x, y, h, _ => by simp at h
  | a :: l, 0, x, y, h, hy => by
    simp at h
    subst h
    rw [Nat.zero_mul, Nat.zero_add, List.flatMap_cons, List.set_cons_zero, List.flatMap_cons, hy, List.set_append_left _ _ (by rw [hf]; exact hj)]
  | a :: l, i + 1, x, y, h, hy => by
    simp at h
    rw [List.flatMap_cons, List.set_cons_succ, List.flatMap_cons, List.set_append_right _ _ (by rw [hf, Nat.succ_mul]; omega), hf]
    congr 1
    rw [show (i + 1) * k + j - k = i * k + j by rw [Nat.succ_mul]; omega]
    exact fm_set hf hj h hy
theorem splice_one {c : List PV} {p : PV} {i : Nat} (h : i < c.length) : splice c [p] i = c.set i p := by
  unfold splice
  rw [List.set_eq_take_append_cons_drop, if_pos h]
  simp
end

theorem get_lt {α : Type} {l : List α} {i : Nat} {x : α} (h : l[i]? = some x) : i < l.length := by
  rcases Nat.lt_or_ge i l.length with h1 | h1
  · exact h1
  · rw [List.getElem?_eq_none h1] at h; cases h

abbrev intC (k : IntKind) (n : Int) : List PV := [.sc (.int k n)]
abbrev encI (k : IntKind) (l : List Int) : List PV := l.flatMap (intC k)
theorem intC_len (k : IntKind) (n : Int) : (intC k n).length = 1 := rfl
theorem ati {k : IntKind} {l : List Int} {i : Nat} {n : Int} (h : l[i]? = some n) : (encI k l).getD i .top = .sc (.int k n) := by
  have := fm_at (intC_len k) h (j := 0) (by omega)
  simpa using this
theorem encI_len (k : IntKind) (l : List Int) : (encI k l).length = l.length := by rw [fm_len (intC_len k)]; omega
theorem encI_app (k : IntKind) (l : List Int) (n : Int) : encI k l ++ [.sc (.int k n)] = encI k (l ++ [n]) := by simp
theorem tki (k : IntKind) (l : List Int) : List.take l.length (encI k l) = encI k l := List.take_of_length_le (by rw [encI_len]; omega)

theorem iand_bounds {a m : Int} (h0 : 0 ≤ m) (h1 : m < 9223372036854775808) : 0 ≤ iand .i64 a m ∧ iand .i64 a m ≤ m := by
  have hle : (BitVec.ofInt 64 a &&& BitVec.ofInt 64 m).toNat ≤ m.toNat := by
    rw [BitVec.toNat_and]
    refine Nat.le_trans Nat.and_le_right ?_
    rw [BitVec.toNat_ofInt]
    omega
  have : iand .i64 a m = ((BitVec.ofInt 64 a &&& BitVec.ofInt 64 m).toNat : Int) := by
    unfold iand
    exact wrap_i64 (by omega) (by show ((BitVec.ofInt 64 a &&& BitVec.ofInt 64 m).toNat : Int) ≤ _; omega)
  rw [this]
  omega

end Go.Proofs.Ytaphhfehcbkfkaa.Pv
