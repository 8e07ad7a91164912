/-
  The operations that change nothing that is there (class R), in continuation form.
-/
import Derived.Test.YtoihfmiifeegpaaPvA
namespace Go.Proofs.Ytoihfmiifeegpaa.Pv

/-- What an operation of class R gives: its value, the boxes that are now shared, new boxes. -/
structure Eff where
  v : PV
  fz : List Nat
  nw : List (Nat × Box)

def opv (tm : Nat → PV) : Operand → PV
  | .tmp t => tm t
  | .const (.agg cs) => .agg (cs.toList.map .sc)
  | .const v => .sc v
  | .func f => .sc (.func (.func f) #[] #[])
  | .global g => .sc (.pointer (some ⟨g, 0, none⟩))

section
variable {R : Type}

def anyIntK (p : PV) (K : IntKind → Int → Option R) : Option R :=
  match p with
  | .sc (.int k n) => K k n
  | _ => none

/-- A list of cells out of a slice value of a frame. -/
def slcK (rdf : Nat → Option (List PV)) (es : Nat) (p : PV) (K : Nat → List PV → Option R) : Option R :=
  match p with
  | .view id es' off n => bif Nat.beq es' es then optK (rdf id) fun c => chk (decide (off + n * es ≤ c.length)) (K n ((c.drop off).take (n * es))) else none
  | p => lsK es p fun _ n c => K n c

/-- A cell made a tree: a view is shared from now on. -/
def frcK (rdf : Nat → Option (List PV)) (t : CT) (p : PV) (K : PV → List Nat → Option R) : Option R :=
  match t with
  | .sl es =>
    match p with
    | .view id es' off n => bif Nat.beq es' es then optK (rdf id) fun c => chk (decide (off + n * es ≤ c.length)) (K (.lst false es n ((c.drop off).take (n * es))) [id]) else none
    | p => lsK es p fun _ n c => K (.lst false es n c) []
  | t => tcK t p fun c => K c []

def frcsK (rdf : Nat → Option (List PV)) : List CT → List PV → (List PV → List Nat → Option R) → Option R
  | [], [], K => K [] []
  | t :: ts, p :: ps, K => frcK rdf t p fun c m => frcsK rdf ts ps fun cs ms => K (c :: cs) (m ++ ms)
  | _, _, _ => none

/-- A value made a tree, at its type. -/
def frvK (P : Program) (rdf : Nat → Option (List PV)) (t : TypeId) (p : PV) (K : PV → List Nat → Option R) : Option R :=
  bif isAggB P t then aggK p fun ps => frcsK rdf (cty P t) ps fun cs m => K (.agg cs) m
  else frcsK rdf (cty P t) [p] fun cs m => consK cs fun c r => nilK r (K c m)

def frvsK (P : Program) (rdf : Nat → Option (List PV)) : List TypeId → List PV → (List PV → List Nat → Option R) → Option R
  | [], [], K => K [] []
  | t :: ts, p :: ps, K => frvK P rdf t p fun v m => frvsK P rdf ts ps fun vs ms => K (v :: vs) (m ++ ms)
  | _, _, _ => none

/-- What a call hands back, one cell: memory that comes along lies in a new box. -/
def uncK (shr : Bool) (id : Nat) (t : CT) (p : PV) (K : PV → List (Nat × Box) → Option R) : Option R :=
  match t with
  | .sl es => bif shr then lsK es p fun z n c => K (.lst z es n c) [] else owK es p fun n c => K (.view id es 0 n) [(id, .ar false c)]
  | t => tcK t p fun c => K c []

def uncsK (shr : Bool) (N : Nat) : Nat → List CT → List PV → (List PV → List (Nat × Box) → Option R) → Option R
  | _, [], ps, K => nilK ps (K [] [])
  | id, t :: ts, ps, K => consK ps fun p ps => uncK shr id t p fun c b => uncsK shr N (id + N) ts ps fun cs bs => K (c :: cs) (b ++ bs)

def ptrTo (P : Program) (t : TypeId) : Option TypeId :=
  match P.underlying t with
  | some (.pointer e) => some e
  | _ => none

/-- How many places a result has: its cells; a variable's own place and its cells. -/
def plcs (P : Program) (t : TypeId) : Nat :=
  match ptrTo P t with
  | some e => 1 + (cty P e).length
  | none => (cty P t).length

def unvK (P : Program) (shr : Bool) (N : Nat) (id : Nat) (t : TypeId) (p : PV) (K : PV → List (Nat × Box) → Option R) : Option R :=
  match ptrTo P t with
  | some e => pboxK p fun ps => uncsK shr N (id + N) (cty P e) ps fun cs bs => K (.ptr id 0) ((id, .st cs) :: bs)
  | none =>
  bif isAggB P t then aggK p fun ps => uncsK shr N id (cty P t) ps fun cs bs => K (.agg cs) bs
  else uncsK shr N id (cty P t) [p] fun cs bs => consK cs fun c r => nilK r (K c bs)

def unvsK (P : Program) (shr : Bool) (N : Nat) : Nat → List TypeId → List PV → (List PV → List (Nat × Box) → Option R) → Option R
  | _, [], ps, K => nilK ps (K [] [])
  | id, t :: ts, ps, K => consK ps fun p ps => unvK P shr N id t p fun v bs => unvsK P shr N (id + N * plcs P t) ts ps fun vs bs' => K (v :: vs) (bs ++ bs')

/-- The types of what a call gives: the parts of a tuple, or one. -/
def resTys (P : Program) (t : TypeId) : List TypeId :=
  match P.underlying t with
  | some (.tuple ts) => ts.toList
  | _ => [t]

def packVals (vs : List PV) (t : Bool) : PV := bif t then .tup vs else vs.headD .top

def isTup (P : Program) (t : TypeId) : Bool :=
  match P.underlying t with
  | some (.tuple _) => true
  | _ => false

def cmpK (op : BinOp) (a b : Int) (K : Bool → Option R) : Option R :=
  match op with
  | .eql => K (a == b)
  | .neq => K (a != b)
  | .lss => K (decide (a < b))
  | .leq => K (decide (a ≤ b))
  | .gtr => K (decide (a > b))
  | .geq => K (decide (a ≥ b))
  | _ => none

def bitsOf (op : BinOp) (k : IntKind) (x y : Int) : Option Int :=
  match op with
  | .and => some (k.wrap (BitVec.ofInt k.bits x &&& BitVec.ofInt k.bits y).toNat)
  | .or => some (k.wrap (BitVec.ofInt k.bits x ||| BitVec.ofInt k.bits y).toNat)
  | .xor => some (k.wrap (BitVec.ofInt k.bits x ^^^ BitVec.ofInt k.bits y).toNat)
  | .andNot => some (k.wrap (BitVec.ofInt k.bits x &&& ~~~BitVec.ofInt k.bits y).toNat)
  | _ => none

def intOpK (op : BinOp) (k : IntKind) (a b : Int) (K : PV → Option R) : Option R :=
  match op with
  | .add => shareK ((k.wrap (a + b))) fun n => K (.sc (.int k n))
  | .sub => shareK ((k.wrap (a - b))) fun n => K (.sc (.int k n))
  | .mul => shareK ((k.wrap (a * b))) fun n => K (.sc (.int k n))
  | .quo => chk (decide (b ≠ 0)) (shareK ((k.wrap (a.tdiv b))) fun n => K (.sc (.int k n)))
  | .rem => chk (decide (b ≠ 0)) (shareK ((a.tmod b)) fun n => K (.sc (.int k n)))
  | .and => shareK (iand k a b) fun n => K (.sc (.int k n))
  | .or => shareK (ior k a b) fun n => K (.sc (.int k n))
  | .xor => shareK (ixor k a b) fun n => K (.sc (.int k n))
  | .andNot => shareK (iandNot k a b) fun n => K (.sc (.int k n))
  | op => cmpK op a b fun r => K (.sc (.bool r))

def strOpK (op : BinOp) (x y : ByteArray) (K : PV → Option R) : Option R :=
  match op with
  | .add => chk (decide (x.size + y.size ≤ 9223372036854775807)) (shareK (x ++ y) fun s => K (.sc (.string s)))
  | .eql => K (.sc (.bool (x.data.toList == y.data.toList)))
  | .neq => K (.sc (.bool !(x.data.toList == y.data.toList)))
  | .lss => K (.sc (.bool (Op.bytesLess x.data.toList y.data.toList)))
  | .leq => K (.sc (.bool (Op.bytesLess x.data.toList y.data.toList || x.data.toList == y.data.toList)))
  | .gtr => K (.sc (.bool !(Op.bytesLess x.data.toList y.data.toList || x.data.toList == y.data.toList)))
  | .geq => K (.sc (.bool !(Op.bytesLess x.data.toList y.data.toList)))
  | _ => none

/-- Is a slice nil? -/
def nilQK (e : Bool) (p : PV) (K : PV → Option R) : Option R :=
  match p with
  | .sc (.slice none 0 0) => K (.sc (.bool e))
  | .lst z _ n _ => brK z (K (.sc (.bool e))) (brK (decide (0 < n)) (K (.sc (.bool !e))) (K .ub))
  | .view _ _ _ n => brK (decide (0 < n)) (K (.sc (.bool !e))) (K .ub)
  | _ => none

/-- A struct whose fields are plain cells, one behind the other. -/
def flatGo (P : Program) : List Field → Nat → Bool
  | [], _ => true
  | f :: r, i => Nat.beq f.offset i && (f.name != "_") && (match P.underlying f.type with | some (.int _) => true | some .bool => true | some .string => true | _ => false) && flatGo P r (i + 1)

def flatOk (P : Program) (t : TypeId) (fs : Array Field) : Bool := flatGo P fs.toList 0 && !P.stoodInHeld t && !P.eqGuardType P.depth t

/-- The kind of a plain field. -/
def fty (P : Program) (f : Field) : CT :=
  match P.underlying f.type with
  | some (.int k) => .int k
  | some .bool => .bool
  | some .string => .str
  | _ => .any

/-- Two rows of plain cells are equal. -/
def eqsK : List CT → List PV → List PV → (Bool → Option R) → Option R
  | [], [], [], K => K true
  | .int k :: ts, p :: ps, q :: qs, K => intK k p fun a => intK k q fun b => eqsK ts ps qs fun r => K ((a == b) && r)
  | .bool :: ts, p :: ps, q :: qs, K => boolK p fun a => boolK q fun b => eqsK ts ps qs fun r => K ((a == b) && r)
  | .str :: ts, p :: ps, q :: qs, K => strK p fun a => strK q fun b => eqsK ts ps qs fun r => K ((a == b) && r)
  | _, _, _, _ => none

def binK (P : Program) (op : BinOp) (t : TypeId) (x y : PV) (K : PV → Option R) : Option R :=
  match P.underlying t with
  | some (.int k) =>
    match op with
    | .shl => intK k x fun a => anyIntK y fun _ b => chk (decide (0 ≤ b)) (shareK (ishl k a b) fun n => K (.sc (.int k n)))
    | .shr => intK k x fun a => anyIntK y fun _ b => chk (decide (0 ≤ b)) (shareK (ishr k a b) fun n => K (.sc (.int k n)))
    | op => intK k x fun a => intK k y fun b => intOpK op k a b K
  | some .string => strK x fun a => strK y fun b => strOpK op a b K
  | some .bool =>
    match op with
    | .eql => boolK x fun a => boolK y fun b => K (.sc (.bool (a == b)))
    | .neq => boolK x fun a => boolK y fun b => K (.sc (.bool !(a == b)))
    | _ => none
  | some (.slice _) =>
    match op, y with
    | .eql, .sc (.slice none 0 0) => nilQK true x K
    | .neq, .sc (.slice none 0 0) => nilQK false x K
    | _, _ => none
  | _ => none

def binAnyK (P : Program) (op : BinOp) (t : TypeId) (x y : PV) (K : PV → Option R) : Option R :=
  match P.underlying t with
  | some (.struct fs) =>
    match op with
    | .eql => chk (flatOk P t fs) (aggK x fun xs => aggK y fun ys => eqsK (fs.toList.map (fty P)) xs ys fun b => K (.sc (.bool b)))
    | .neq => chk (flatOk P t fs) (aggK x fun xs => aggK y fun ys => eqsK (fs.toList.map (fty P)) xs ys fun b => K (.sc (.bool !b)))
    | _ => none
  | _ => binK P op t x y K

def unK (op : UnOp) (x : PV) (K : PV → Option R) : Option R :=
  match op with
  | .not => boolK x fun b => K (.sc (.bool !b))
  | .neg => anyIntK x fun k n => shareK (k.wrap (0 - n)) fun n => K (.sc (.int k n))
  | .xor => anyIntK x fun k n => shareK (inot k n) fun n => K (.sc (.int k n))
  | _ => none

/-- The cells of a []byte as a string. -/
def bytesOf : List PV → Option (List UInt8)
  | [] => some []
  | .sc (.int .u8 n) :: r => (bytesOf r).map (n.toNat.toUInt8 :: ·)
  | _ :: _ => none

def strCells (s : ByteArray) : List PV := s.data.toList.map fun b => .sc (.int .u8 b.toNat)

def convK (P : Program) (rdf : Nat → Option (List PV)) (d : Nat) (src dst : TypeId) (x : PV) (K : PV → List (Nat × Box) → Option R) : Option R :=
  match P.underlying dst with
  | some (.int k) => chk (P.underlying src).isSome (anyIntK x fun _ n => shareK (k.wrap n) fun n => K (.sc (.int k n)) [])
  | some .string =>
    match P.underlying src with
    | some .string => strK x fun s => K (.sc (.string s)) []
    | some (.slice e) =>
      match P.underlying e with
      | some (.int .u8) => slcK rdf 1 x fun n c => chk (decide (c.length = n)) (optK (bytesOf c) fun b => K (.sc (.string ⟨b.toArray⟩)) [])
      | _ => none
    | _ => none
  | some (.slice e) =>
    match P.underlying e, P.underlying src with
    | some (.int .u8), some .string => strK x fun s => chk (decide (s.size ≤ 1099511627776)) (K (.view d 1 0 s.size) [(d, .ar false (strCells s))])
    | _, _ => none
  | _ => none

/-- Bounds of a slice expression inside the length. -/
def boundK (p : Option PV) (dflt : Nat) (K : Nat → Option R) : Option R :=
  match p with
  | none => K dflt
  | some p => anyIntK p fun _ i => chk (decide (0 ≤ i)) (K i.toNat)

def sliceK (P : Program) (rdf : Nat → Option (List PV)) (t : TypeId) (x : PV) (lo hi : Option PV) (K : PV → Option R) : Option R :=
  match P.underlying t with
  | some .string => strK x fun s => boundK lo 0 fun l => boundK hi s.size fun h => chk (decide (l ≤ h) && decide (h ≤ s.size)) (shareK (s.extract l h) fun s => K (.sc (.string s)))
  | some (.slice e) => chk (P.info? e).isSome (
    match x with
    | .view id es off n => chk (Nat.beq es (szOf P e)) (boundK lo 0 fun l => boundK hi n fun h => chk (decide (l ≤ h) && decide (h ≤ n)) (shareK (off + l * es) fun o => shareK (h - l) fun n => K (.view id es o n)))
    | x => lsK (szOf P e) x fun z n c => boundK lo 0 fun l => boundK hi n fun h => chk (decide (l ≤ h) && decide (h ≤ n)) (shareK (h - l) fun n => shareK ((c.drop (l * szOf P e)).take (n * szOf P e)) fun c => K (.lst z (szOf P e) n c)))
  | some (.array n e) => chk (P.info? e).isSome (
    match x with
    | .ptr id off => optK (rdf id) fun c => chk (decide (1 ≤ n * szOf P e) && decide (off + n * szOf P e ≤ c.length)) <| boundK lo 0 fun l => boundK hi n fun h => chk (decide (l ≤ h) && decide (h ≤ n)) (shareK (off + l * szOf P e) fun o => shareK (h - l) fun n => K (.view id (szOf P e) o n))
    | _ => none)
  | _ => none

def addrK (x : PV) (d : Nat) (K : PV → Option R) : Option R :=
  match x with
  | .ptr id off => K (.ptr id (off + d))
  | .iptr c off => K (.iptr c (off + d))
  | _ => none

def infOk (P : Program) (e : TypeId) : Bool := (P.info? e).isSome

def fieldOff (P : Program) (t : TypeId) (f : Nat) : Option (Nat × TypeId) :=
  match P.underlying t with
  | some (.struct fs) => (fs[f]?).map fun g => (g.offset, g.type)
  | _ => none

def indexAddrK (P : Program) (t : TypeId) (x : PV) (i : Int) (K : PV → Option R) : Option R :=
  match P.underlying t with
  | some (.array n e) => chk (infOk P e) (chk (decide (0 ≤ i) && decide (i < n)) (addrK x (i.toNat * szOf P e) K))
  | some (.slice e) => chk (infOk P e) (
    match x with
    | .view id es off n => chk (Nat.beq es (szOf P e)) (chk (decide (0 ≤ i) && decide (i < n)) (K (.ptr id (off + i.toNat * es))))
    | x => lsK (szOf P e) x fun _ n c => chk (decide (0 ≤ i) && decide (i < n)) (K (.iptr c (i.toNat * szOf P e))))
  | _ => none

def loadK0 (P : Program) (rdf : Nat → Option (List PV)) (t : TypeId) (x : PV) (K : PV → Option R) : Option R :=
  match x with
  | .ptr id off => chk (ctyOk P t) (optK (rdf id) fun c => fcsK (cty P t) c off fun cs => mkV (isAggB P t) cs K)
  | .iptr c off => chk (ctyOk P t) (tcsK (cty P t) c off fun cs => mkV (isAggB P t) cs K)
  | _ => none

def loadK (P : Program) (rdf rdaf : Nat → Option (List PV)) (t : TypeId) (x : PV) (K : PV → Option R) : Option R :=
  match x with
  | .ptr id off => chk (ctyOk P t) (
    match rdaf id with
    | some c => tcsK (cty P t) c off fun cs => mkV (isAggB P t) cs K
    | none => optK (rdf id) fun c => fcsK (cty P t) c off fun cs => mkV (isAggB P t) cs K)
  | .iptr c off => chk (ctyOk P t) (tcsK (cty P t) c off fun cs => mkV (isAggB P t) cs K)
  | _ => none

/-- Parts laid into a row of cells. -/
def splice (cells new : List PV) (off : Nat) : List PV := cells.take off ++ new ++ cells.drop (off + new.length)

/-- A part of which it is known how many cells it has. -/
def okP : PV → Bool
  | .agg _ => true
  | .lst _ _ _ _ => true
  | .view _ _ _ _ => true
  | .sc (.int _ _) => true
  | .sc (.bool _) => true
  | .sc (.string _) => true
  | .sc (.slice none 0 0) => true
  | _ => false

def fillK (place : Nat → Option (Nat × Nat)) : List (Nat × PV) → List PV → (List PV → Option R) → Option R
  | [], cells, K => K cells
  | (i, p) :: r, cells, K => optK (place i) fun q => chk (okP p && Nat.beq (cellsOf p).length q.2 && Nat.ble (q.1 + q.2) cells.length) (shareK (splice cells (cellsOf p) q.1) fun cells => fillK place r cells K)

def placeOf (P : Program) (t : TypeId) (i : Nat) : Option (Nat × Nat) :=
  match P.underlying t with
  | some (.struct fs) => (fs[i]?).map fun f => (f.offset, szOf P f.type)
  | some (.array _ e) => some (i * szOf P e, szOf P e)
  | some (.slice e) => some (i * szOf P e, szOf P e)
  | _ => none

/-- All sizes that a composite literal asks are known. -/
def placesOk (P : Program) (t : TypeId) : Bool :=
  match P.underlying t with
  | some (.struct fs) => fs.toList.all fun f => infOk P f.type
  | some (.array _ e) => infOk P e
  | some (.slice e) => infOk P e
  | _ => false

def zeroOf (P : Program) (t : TypeId) : Option Value := (P.info? t).bind (·.zero)

/-- The zero cells of a type, as pure cells. -/
def zcellsK (P : Program) (t : TypeId) (K : List PV → Option R) : Option R :=
  optK (zeroOf P t) fun v => chk (Nat.beq v.cells.toList.length (cty P t).length && ctyOk P t) (tcsK (cty P t) (v.cells.toList.map .sc) 0 K)

def isArrB (P : Program) (t : TypeId) : Bool :=
  match P.underlying t with
  | some (.array _ _) => true
  | _ => false

def mkBox (P : Program) (t : TypeId) (cells : List PV) : Box := bif isArrB P t then .ar false cells else .st cells

def repl (n : Nat) (l : List PV) : List PV := (List.replicate n l).flatten

def minK (a b : PV) (K : PV → Option R) : Option R := anyIntK a fun k x => intK k b fun y => shareK (if y < x then y else x) fun n => K (.sc (.int k n))
def maxK (a b : PV) (K : PV → Option R) : Option R := anyIntK a fun k x => intK k b fun y => shareK (if x < y then y else x) fun n => K (.sc (.int k n))

def lenK (P : Program) (t : TypeId) (x : PV) (K : Nat → Option R) : Option R :=
  match P.underlying t with
  | some .string => strK x fun s => K s.size
  | some (.array n _) => K n
  | some (.slice e) =>
    match x with
    | .view _ es _ n => chk (Nat.beq es (szOf P e)) (K n)
    | x => lsK (szOf P e) x fun _ n _ => K n
  | _ => none
end

end Go.Proofs.Ytoihfmiifeegpaa.Pv
