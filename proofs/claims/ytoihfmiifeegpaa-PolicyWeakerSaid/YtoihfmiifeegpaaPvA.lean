/-
  A pure interpreter over the model's own code: values are trees, memory of the call's own is a small table of boxes. Definitions only.
-/
import Derived.Orders
import Derived.LoopN
import Derived.Below
namespace Go.Proofs.Ytoihfmiifeegpaa.Pv

/-- Pure values. 'lst z es n cells': a slice whose cells nobody changes (es cells an element, n elements, z: surely nil). 'own': the same, handed over with its memory. 'view', 'ptr': into a box of the frame. 'iptr': a pointer into a list. 'pbox': a pointer to a variable, handed over. 'ub': a bool that is not known. -/
inductive PV where
  | sc (v : Value)
  | lst (z : Bool) (es n : Nat) (cells : List PV)
  | own (es n : Nat) (cells : List PV)
  | view (id es off n : Nat)
  | ptr (id off : Nat)
  | iptr (cells : List PV) (off : Nat)
  | pbox (cells : List PV)
  | agg (cells : List PV)
  | tup (vs : List PV)
  | top
  | ub

inductive Box where
  | st (cells : List PV)
  | ar (fz : Bool) (cells : List PV)
  | mv

structure St where
  tm : Nat → PV
  hp : Nat → Option Box

structure Res where
  vals : List PV
  outs : List (List PV)

/-- What is said of single functions: 'shr f': its slices are handed back shared; 'mvd f i': the slices of parameter i are handed over with their memory; 'lnd f i': parameter i is a slice that is lent: it comes back changed; 'kz f': it is told that an argument is the constant nil. -/
structure Cfg where
  shr : FuncId → Bool
  mvd : FuncId → Nat → Bool
  lnd : FuncId → Nat → Bool
  kz : FuncId → Bool

def upd {α : Type} (f : Nat → α) (i : Nat) (v : α) : Nat → α := fun j => bif Nat.beq j i then v else f j

def rd (hp : Nat → Option Box) (id : Nat) : Option (List PV) :=
  match hp id with
  | some (.st c) => some c
  | some (.ar _ c) => some c
  | _ => none

/-- The cells of a row: trees. -/
def rda (hp : Nat → Option Box) (id : Nat) : Option (List PV) :=
  match hp id with
  | some (.ar _ c) => some c
  | _ => none

/-- The kinds of a cell. -/
inductive CT where
  | int (k : IntKind)
  | bool
  | str
  | sl (es : Nat)
  | any

def szOf (P : Program) (t : TypeId) : Nat := ((P.info? t).map (·.size)).getD 0

def isAggB (P : Program) (t : TypeId) : Bool :=
  match P.underlying t with
  | some (.struct _) => true
  | some (.array _ _) => true
  | _ => false

def ctys (P : Program) : Nat → TypeId → List CT
  | 0, _ => []
  | d + 1, t =>
    match P.underlying t with
    | some (.int k) => [.int k]
    | some .bool => [.bool]
    | some .string => [.str]
    | some (.slice e) => [.sl (szOf P e)]
    | some (.struct fs) => fs.toList.flatMap fun f => ctys P d f.type
    | some (.array n e) => (List.replicate n (ctys P d e)).flatten
    | _ => [.any]

abbrev cty (P : Program) (t : TypeId) : List CT := ctys P 9 t

/-- The kinds of a type's cells are as many as its cells. -/
def ctyOk (P : Program) (t : TypeId) : Bool := (P.underlying t).isSome && Nat.beq (cty P t).length (szOf P t)

abbrev iand (k : IntKind) (a b : Int) : Int := k.wrap (BitVec.ofInt k.bits a &&& BitVec.ofInt k.bits b).toNat
abbrev ior (k : IntKind) (a b : Int) : Int := k.wrap (BitVec.ofInt k.bits a ||| BitVec.ofInt k.bits b).toNat
abbrev ixor (k : IntKind) (a b : Int) : Int := k.wrap (BitVec.ofInt k.bits a ^^^ BitVec.ofInt k.bits b).toNat
abbrev iandNot (k : IntKind) (a b : Int) : Int := k.wrap (BitVec.ofInt k.bits a &&& ~~~BitVec.ofInt k.bits b).toNat
abbrev ishl (k : IntKind) (a b : Int) : Int := k.wrap (a * 2 ^ (min b.toNat k.bits))
abbrev ishr (k : IntKind) (a b : Int) : Int := a.fdiv (2 ^ (min b.toNat k.bits))
abbrev inot (k : IntKind) (n : Int) : Int := k.wrap (BitVec.ofInt k.bits (if k.signed then -1 else k.max) ^^^ BitVec.ofInt k.bits n).toNat

section
variable {R : Type}

def intK (k : IntKind) (p : PV) (K : Int → Option R) : Option R :=
  match p with
  | .sc (.int k' n) => if k' = k then K n else none
  | _ => none

def boolK (p : PV) (K : Bool → Option R) : Option R :=
  match p with
  | .sc (.bool b) => K b
  | _ => none

def strK (p : PV) (K : ByteArray → Option R) : Option R :=
  match p with
  | .sc (.string s) => K s
  | _ => none

/-- A slice cell of a tree. -/
def lsK (es : Nat) (p : PV) (K : Bool → Nat → List PV → Option R) : Option R :=
  match p with
  | .lst z es' n c => bif Nat.beq es' es then K z n c else none
  | .sc (.slice none 0 0) => K true 0 []
  | _ => none

/-- A slice cell of a frame: a view stays. -/
def fsK (es : Nat) (p : PV) (K : PV → Option R) : Option R :=
  match p with
  | .view id es' off n => bif Nat.beq es' es then K (.view id es off n) else none
  | p => lsK es p fun z n c => K (.lst z es n c)

def owK (es : Nat) (p : PV) (K : Nat → List PV → Option R) : Option R :=
  match p with
  | .own es' n c => bif Nat.beq es' es then K n c else none
  | _ => none

def chk (b : Bool) (K : Option R) : Option R := bif b then K else none

/-- A value under a name. -/
abbrev shareK {α : Type} (x : α) (K : α → Option R) : Option R := K x

/-- A test of the program's own. -/
def brK (b : Bool) (x y : Option R) : Option R := bif b then x else y

def optK {α : Type} (o : Option α) (K : α → Option R) : Option R :=
  match o with
  | some a => K a
  | none => none

def consK {α : Type} (l : List α) (K : α → List α → Option R) : Option R :=
  match l with
  | a :: r => K a r
  | [] => none

def nilK {α : Type} (l : List α) (K : Option R) : Option R :=
  match l with
  | [] => K
  | _ :: _ => none

def aggK (p : PV) (K : List PV → Option R) : Option R :=
  match p with
  | .agg c => K c
  | _ => none

def pboxK (p : PV) (K : List PV → Option R) : Option R :=
  match p with
  | .pbox c => K c
  | _ => none

def callK (r : Option Res) (K : List PV → List (List PV) → Option R) : Option R :=
  match r with
  | some ⟨v, o⟩ => K v o
  | none => none

/-- One cell read out of a tree, at its kind. -/
def tcK (t : CT) (p : PV) (K : PV → Option R) : Option R :=
  match t with
  | .int k => intK k p fun n => K (.sc (.int k n))
  | .bool => boolK p fun b => K (.sc (.bool b))
  | .str => strK p fun s => K (.sc (.string s))
  | .sl es => lsK es p fun z n c => K (.lst z es n c)
  | .any => none

/-- One cell read out of a frame's box, at its kind. -/
def fcK (t : CT) (p : PV) (K : PV → Option R) : Option R :=
  match t with
  | .sl es => fsK es p K
  | t => tcK t p K

def tcsK : List CT → List PV → Nat → (List PV → Option R) → Option R
  | [], _, _, K => K []
  | t :: ts, cells, off, K => tcK t (cells.getD off .top) fun c => tcsK ts cells (off + 1) fun r => K (c :: r)

def fcsK : List CT → List PV → Nat → (List PV → Option R) → Option R
  | [], _, _, K => K []
  | t :: ts, cells, off, K => fcK t (cells.getD off .top) fun c => fcsK ts cells (off + 1) fun r => K (c :: r)

def mkV (agg : Bool) (cells : List PV) (K : PV → Option R) : Option R :=
  bif agg then K (.agg cells) else consK cells fun c r => nilK r (K c)

def cellsOf : PV → List PV
  | .agg c => c
  | p => [p]

/-- A constant, or a zero value, at its type. -/
def cvK (P : Program) (t : TypeId) (v : Value) (K : PV → Option R) : Option R :=
  match v with
  | .agg cs => chk (Nat.beq cs.toList.length (cty P t).length) (tcsK (cty P t) (cs.toList.map .sc) 0 fun c => K (.agg c))
  | .slice none 0 0 =>
    match P.underlying t with
    | some (.slice e) => K (.lst true (szOf P e) 0 [])
    | _ => none
  | v => K (.sc v)

end
end Go.Proofs.Ytoihfmiifeegpaa.Pv
