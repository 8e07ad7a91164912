/-
  The interpreter: orders, liveness, loops, code, calls.
-/
import Derived.Test.YtoihfmiifeegpaaPvC
namespace Go.Proofs.Ytoihfmiifeegpaa.Pv

/- A region that draws its order: any two operations that touch one thing are ordered by the region's edges. -/
def opTmps (o : Oper) : List Nat := o.op.operands.toList.filterMap fun x => match x with | .tmp t => some t | _ => none

def looks (ops : Array Oper) (o : Oper) : List Nat :=
  opTmps o ++ (match o.guard with | some (g, _) => ((ops[g]?).bind (·.dst)).toList | none => [])

/-- Does an operation read or make memory? -/
def memo (P : Program) (o : Op) : Bool :=
  match o with
  | .slice t .. => match P.underlying t with | some (.array _ _) => true | _ => false
  | .buildSlice t _ _ => match P.underlying t with | some (.slice e) => hasSl P [e] | _ => true
  | .convert _ dst _ => match P.underlying dst with | some .string => true | _ => false
  | .alloc _ | .box .. | .makeSlice .. => false
  | .move _ | .assign _ | .pick .. | .build .. | .binOp .. | .unOp .. | .fieldAddr .. | .field .. | .index .. | .extract .. | .nilCheck _ => false
  | .call c => match c.callee with | .builtin .len => false | .builtin .min => false | .builtin .max => false | _ => true
  | _ => true

def clash (C : Cfg) (P : Program) (ops : Array Oper) (x y : Oper) : Bool :=
  (match x.dst with | some d => (looks ops y).any (Nat.beq d) || (match y.dst with | some e => Nat.beq d e | none => false) | none => false) ||
  (match y.dst with | some e => (looks ops x).any (Nat.beq e) | none => false) ||
  (isM C P x.op && memo P y.op) || (isM C P y.op && memo P x.op)

/-- All that must come ahead of an operation, by its edges. -/
def ancs (ops : Array Oper) : Nat → Nat → List Nat
  | 0, _ => []
  | n + 1, i => match ops[i]? with
    | none => []
    | some o => o.after.toList.flatMap fun e => bif Region.binds .any e && Nat.blt e.on i then e.on :: ancs ops n e.on else []

def anc (ops : Array Oper) (i : Nat) : Nat → List Nat
  | 0 => []
  | n + 1 => (match ops[i]? with | none => [] | some o => o.after.toList.filterMap fun e => bif Region.binds .any e then some e.on else none) ++ anc ops i n

/-- The set of those ahead, as a number's bits, place by place. -/
def befores (ops : List Oper) : List Nat → List Nat
  | acc => match ops with
    | [] => acc
    | o :: r => befores r (acc ++ [o.after.toList.foldl (fun s e => bif Region.binds .any e then s ||| 2 ^ e.on ||| acc.getD e.on 0 else s) 0])

def regOkGo (C : Cfg) (P : Program) (ops : Array Oper) (bs : List Nat) : List Oper → Nat → Bool
  | [], _ => true
  | o :: r, i => (ops.toList.zipIdx.all fun q => !Nat.blt q.2 i || !clash C P ops q.1 o || (bs.getD i 0).testBit q.2) && regOkGo C P ops bs r (i + 1)

def regOk (C : Cfg) (P : Program) (ops : Array Oper) : Bool :=
  ops.toList.zipIdx.all (fun q => q.1.after.toList.all fun e => !Region.binds .any e || Nat.blt e.on q.2) && regOkGo C P ops (befores ops.toList []) ops.toList 0

/- Liveness, by bits. It only makes states small: nothing rests on it. -/
def setB (m i : Nat) : Nat := m ||| 2 ^ i
def clrB (m i : Nat) : Nat := bif m.testBit i then m ^^^ 2 ^ i else m

def liveOps (ops : Array Oper) : List Oper → Nat → Nat
  | [], m => m
  | o :: r, m =>
    let m1 := liveOps ops r m
    let m2 := match o.dst with | some d => clrB m1 d | none => m1
    (looks ops o).foldl setB m2

def live : Code → Nat → (Nat → Nat) → Nat → Nat
  | .skip, ln, _, _ => ln
  | .region _ ops _, ln, _, _ => liveOps ops ops.toList ln
  | .seq a b, ln, lx, lr => live a (live b ln lx lr) lx lr
  | .cond c a b, ln, lx, lr => let m := live a ln lx lr ||| live b ln lx lr; match c with | .tmp d => setB m d | _ => m
  | .block id c, ln, lx, lr => live c ln (fun j => bif Nat.beq j id then ln else lx j) lr
  | .loop c, _, lx, lr => live c (live c 0 lx lr) lx lr
  | .exit id, _, lx, _ => lx id
  | .ret, _, _, lr => lr
  | _, _, _, _ => 0

def bitsOn (m : Nat) : Nat → List Nat
  | 0 => []
  | n + 1 => bitsOn m n ++ (bif m.testBit n then [n] else [])

def lk (l : List (Nat × PV)) (i : Nat) : PV :=
  match l with
  | [] => .top
  | (j, p) :: r => bif Nat.beq i j then p else lk r i

def lkh (l : List (Nat × Box)) (i : Nat) : Option Box :=
  match l with
  | [] => none
  | (j, b) :: r => bif Nat.beq i j then some b else lkh r i

def lkn (l : List (Nat × Nat)) (i : Nat) : Option Nat :=
  match l with
  | [] => none
  | (j, b) :: r => bif Nat.beq i j then some b else lkn r i

/-- A nil slice in a slot becomes an empty row of the call's own. -/
def nilSlot (s : St) (i : Nat) : St :=
  match s.tm i with
  | .lst true es 0 [] => bif (s.hp i).isNone then ⟨upd s.tm i (.view i es 0 0), upd s.hp i (some (.ar false []))⟩ else s
  | _ => s

def nilCell (N : Nat) (id : Nat) (s : St) (j : Nat) : St :=
  match s.hp id with
  | some (.st c) =>
    match c[j]? with
    | some (.lst true es 0 []) => bif (s.hp (id + N * (j + 1))).isNone then ⟨s.tm, upd (upd s.hp id (some (.st (c.set j (.view (id + N * (j + 1)) es 0 0))))) (id + N * (j + 1)) (some (.ar false []))⟩ else s
    | _ => s
  | _ => s

def nilBox (N : Nat) (s : St) (i : Nat) : St :=
  match s.tm i with
  | .ptr id _ =>
    match s.hp id with
    | some (.st c) => (List.range c.length).foldl (nilCell N id) s
    | _ => s
  | _ => s

/-- New names for the boxes that live slots reach. -/
def addId (m : List (Nat × Nat)) (old new : Nat) : List (Nat × Nat) :=
  match lkn m old with
  | some _ => m
  | none => m ++ [(old, new)]

def cellIds (N new : Nat) : List PV → Nat → List (Nat × Nat) → List (Nat × Nat)
  | [], _, m => m
  | .view id _ _ _ :: r, j, m => cellIds N new r (j + 1) (addId m id (new + N * (j + 1)))
  | _ :: r, j, m => cellIds N new r (j + 1) m

def namesOf (N : Nat) (s : St) (m : List (Nat × Nat)) (i : Nat) : List (Nat × Nat) :=
  match s.tm i with
  | .view id _ _ _ => addId m id i
  | .ptr id _ =>
    match lkn m id with
    | some _ => m
    | none =>
      match s.hp id with
      | some (.st c) => cellIds N i c 0 (addId m id i)
      | _ => addId m id i
  | .agg c => cellIds N i c 0 m
  | _ => m

def renC (m : List (Nat × Nat)) : PV → PV
  | .view id es off n => match lkn m id with | some j => .view j es off n | none => .top
  | .ptr id off => match lkn m id with | some j => .ptr j off | none => .top
  | .sc v => .sc v
  | .lst z es n c => .lst z es n c
  | .iptr c off => .iptr c off
  | _ => .top

def renV (m : List (Nat × Nat)) : PV → PV
  | .agg c => .agg (c.map (renC m))
  | p => renC m p

def renB (m : List (Nat × Nat)) : Box → Box
  | .st c => .st (c.map (renC m))
  | b => b

/-- The box of what was lent as parameter i. -/
def pinId (N i : Nat) : Nat := i + N * 2000

/-- What was lent keeps its name. -/
def pins0 (N : Nat) (hp : Nat → Option Box) : Nat → List (Nat × Nat)
  | 0 => []
  | i + 1 => bif (hp (pinId N i)).isSome then pins0 N hp i ++ [(pinId N i, pinId N i)] else pins0 N hp i

def pinCells (N : Nat) (hp : Nat → Option Box) : Nat → List (Nat × Nat) → List (Nat × Nat)
  | 0, m => m
  | i + 1, m =>
    match hp (pinId N i) with
    | some (.st c) => cellIds N (pinId N i) c 0 (pinCells N hp i m)
    | _ => pinCells N hp i m

def pins (N : Nat) (hp : Nat → Option Box) (k : Nat) : List (Nat × Nat) := pinCells N hp k (pins0 N hp k)

def newHp (m : List (Nat × Nat)) (hp : Nat → Option Box) : List (Nat × Nat) → List (Nat × Box)
  | [] => []
  | (old, new) :: r => match hp old with
    | some b => (new, renB m b) :: newHp m hp r
    | none => newHp m hp r

section
variable {R : Type}

def normL (N : Nat) (ls : List Nat) (s : St) (K : St → Option R) : Option R :=
  let s1 := ls.foldl nilSlot s
  let s2 := ls.foldl (nilBox N) s1
  let m := ls.foldl (namesOf N s2) (pins N s2.hp 8)
  chk (nodupB (m.map (·.1)) && nodupB (m.map (·.2))) (K ⟨lk (ls.map fun i => (i, renV m (s2.tm i))), lkh (newHp m s2.hp m)⟩)

def normK (N L : Nat) (s : St) (K : St → Option R) : Option R := normL N (bitsOn L N) s K

/-- A loop: at most n rounds. -/
def iter (F : (St → Option R) → St → Option R) (nm : St → (St → Option R) → Option R) : Nat → St → Option R
  | 0, _ => none
  | n + 1, s => F (fun s' => nm s' (iter F nm n)) s

/-- Both ways come to the same. -/
noncomputable def bothK (x y : Option R) : Option R := open Classical in if x = y then x else none

noncomputable def condK (s : St) (c : Operand) (kt kf : St → Option R) : Option R :=
  match c with
  | .tmp d =>
    match s.tm d with
    | .sc (.bool b) => brK b (kt ⟨upd s.tm d (.sc (.bool true)), s.hp⟩) (kf ⟨upd s.tm d (.sc (.bool false)), s.hp⟩)
    | .ub => bothK (kt s) (kf s)
    | _ => none
  | .const (.bool true) => kt s
  | .const (.bool false) => kf s
  | _ => none

noncomputable def pevK (C : Cfg) (P : Program) (fu N : Nat) (call : Call') : Code → Nat → (Nat → Nat) → Nat → (St → Option R) → (Nat → St → Option R) → (St → Option R) → St → Option R
  | .skip, _, _, _, kn, _, _, s => kn s
  | .region _ ops draw, _, _, _, kn, _, _, s => chk (bif draw then regOk C P ops else true) (gopsK C P N call ops ops.toList s kn)
  | .seq a b, ln, lx, lr, kn, kx, kr, s => pevK C P fu N call a (live b ln lx lr) lx lr (fun s' => pevK C P fu N call b ln lx lr kn kx kr s') kx kr s
  | .cond c a b, ln, lx, lr, kn, kx, kr, s => condK s c (pevK C P fu N call a ln lx lr kn kx kr) (pevK C P fu N call b ln lx lr kn kx kr)
  | .block id c, ln, lx, lr, kn, kx, kr, s => pevK C P fu N call c ln (fun j => bif Nat.beq j id then ln else lx j) lr kn (fun j s' => bif Nat.beq j id then kn s' else kx j s') kr s
  | .loop c, ln, lx, lr, _, kx, kr, s =>
    normK N (live (.loop c) ln lx lr) s (iter (fun k s' => pevK C P fu N call c (live (.loop c) ln lx lr) lx lr k kx kr s') (normK N (live (.loop c) ln lx lr)) fu)
  | .exit id, _, _, _, _, kx, _, s => kx id s
  | .ret, _, _, _, _, _, kr, s => kr s
  | _, _, _, _, _, _, _, _ => none

/-- A cell handed over: what is owned lies in a box of its own. -/
def incK (id : Nat) (t : CT) (p : PV) (K : PV → List (Nat × Box) → Option R) : Option R :=
  match t with
  | .sl es =>
    match p with
    | .own es' n c => bif Nat.beq es' es then K (.view id es 0 n) [(id, .ar false c)] else none
    | p => lsK es p fun z n c => K (.lst z es n c) []
  | t => tcK t p fun c => K c []

def incsK (N : Nat) : Nat → List CT → List PV → (List PV → List (Nat × Box) → Option R) → Option R
  | _, [], ps, K => nilK ps (K [] [])
  | id, t :: ts, ps, K => consK ps fun p ps => incK id t p fun c b => incsK N (id + N) ts ps fun cs bs => K (c :: cs) (b ++ bs)

/-- One argument, laid into its slot. -/
def inK (P : Program) (N i : Nat) (t : TypeId) (p : PV) (K : PV → List (Nat × Box) → Option R) : Option R :=
  match ptrTo P t with
  | some e => pboxK p fun ps => chk (Nat.blt i 8) (incsK N (pinId N i + N) (cty P e) ps fun cs bs => K (.ptr (pinId N i) 0) ((pinId N i, .st cs) :: bs))
  | none =>
    match p with
    | .tup ps => optK (slOf P t) fun e => chk (Nat.blt i 8) (consK ps fun q r => nilK r (owK (szOf P e) q fun n c => K (.view (pinId N i) (szOf P e) 0 n) [(pinId N i, .ar false c)]))
    | p =>
      bif isAggB P t then aggK p fun ps => incsK N (i + N) (cty P t) ps fun cs bs => K (.agg cs) bs
      else incsK N (i + N) (cty P t) [p] fun cs bs => consK cs fun c r => nilK r (K c bs)

def insK (P : Program) (N : Nat) : Nat → List TypeId → List PV → (List (Nat × PV) → List (Nat × Box) → Option R) → Option R
  | _, [], ps, K => nilK ps (K [] [])
  | i, t :: ts, ps, K => consK ps fun p ps => inK P N i t p fun v bs => insK P N (i + 1) ts ps fun vs bs' => K ((i, v) :: vs) (bs ++ bs')

/-- A cell handed back with its memory: the boxes that go along; those that are shared from now on. -/
def outcK (hp : Nat → Option Box) (t : CT) (p : PV) (K : PV → List Nat → List Nat → Option R) : Option R :=
  match t with
  | .sl es =>
    match p with
    | .view id es' off n => bif Nat.beq es' es && Nat.beq off 0 then
        (match hp id with
         | some (.ar false c) => chk (decide (n * es ≤ c.length)) (K (.own es n (c.take (n * es))) [id] [])
         | _ => none) else none
    | p => lsK es p fun z _ _ => chk z (K (.own es 0 []) [] [])
  | t => tcK t p fun c => K c [] []

/-- A cell handed back, shared or with its memory. -/
def outxK (shr : Bool) (hp : Nat → Option Box) (t : CT) (p : PV) (K : PV → List Nat → List Nat → Option R) : Option R :=
  bif shr then frcK (rda hp) t p fun c m => K c [] m else outcK hp t p K

def outcsK (shr : Bool) (hp : Nat → Option Box) : List CT → List PV → (List PV → List Nat → List Nat → Option R) → Option R
  | [], [], K => K [] [] []
  | t :: ts, p :: ps, K => outxK shr hp t p fun c m z => outcsK shr hp ts ps fun cs ms zs => K (c :: cs) (m ++ ms) (z ++ zs)
  | _, _, _ => none

def outvK (P : Program) (shr : Bool) (hp : Nat → Option Box) (t : TypeId) (p : PV) (K : PV → List Nat → List Nat → Option R) : Option R :=
  match ptrTo P t with
  | some e =>
    match p with
    | .ptr id off =>
      match hp id with
      | some (.st c) => chk (Nat.beq off 0) (outcsK shr hp (cty P e) c fun cs m z => K (.pbox cs) (id :: m) z)
      | _ => none
    | _ => none
  | none =>
    bif isAggB P t then aggK p fun ps => outcsK shr hp (cty P t) ps fun cs m z => K (.agg cs) m z
    else outcsK shr hp (cty P t) [p] fun cs m z => consK cs fun c r => nilK r (K c m z)

/-- The value of a result variable. -/
def resvK (P : Program) (s : St) (r : ResultVar) (K : PV → Option R) : Option R :=
  match r with
  | .tmp t => K (s.tm t)
  | .cell a t => loadK P (rd s.hp) (rda s.hp) t (s.tm a) K

def outvsK (P : Program) (shr : Bool) (s : St) : List ResultVar → List TypeId → (List PV → List Nat → List Nat → Option R) → Option R
  | [], [], K => K [] [] []
  | r :: rs, t :: ts, K => resvK P s r fun p => outvK P shr s.hp t p fun v m z => outvsK P shr s rs ts fun vs ms zs => K (v :: vs) (m ++ ms) (z ++ zs)
  | _, _, _ => none

/-- The cells of a variable that was lent, given back: what came shared goes shared. -/
def backcsK (hp : Nat → Option Box) : List CT → List PV → List PV → (List PV → List Nat → List Nat → Option R) → Option R
  | [], [], [], K => K [] [] []
  | t :: ts, w :: ws, p :: ps, K => outxK (match w with | .own _ _ _ => false | _ => true) hp t p fun c m z => backcsK hp ts ws ps fun cs ms zs => K (c :: cs) (m ++ ms) (z ++ zs)
  | _, _, _, _ => none

/-- What was lent, given back: its cells, the boxes that go along, those that are shared, its own boxes. -/
def backsK (P : Program) (N : Nat) (hp : Nat → Option Box) : Nat → List TypeId → List PV → (List (List PV) → List Nat → List Nat → List Nat → Option R) → Option R
  | _, [], ps, K => nilK ps (K [] [] [] [])
  | i, t :: ts, ps, K => consK ps fun p ps =>
    match p with
    | .pbox ws => optK (ptrTo P t) fun e =>
        match hp (pinId N i) with
        | some (.st c) => backcsK hp (cty P e) ws c fun cs m z => backsK P N hp (i + 1) ts ps fun r m' z' q => K (cs :: r) (m ++ m') (z ++ z') (pinId N i :: q)
        | _ => none
    | .tup _ =>
        match hp (pinId N i) with
        | some (.ar false c) => backsK P N hp (i + 1) ts ps fun r m' z' q => K (c :: r) m' z' (pinId N i :: q)
        | _ => none
    | _ => backsK P N hp (i + 1) ts ps K

def bitsOf' (rs : List ResultVar) : Nat := rs.foldl (fun m r => match r with | .tmp t => setB m t | .cell a _ => setB m a) 0
end

def ptrSlots (P : Program) : Nat → List TypeId → Nat → Nat
  | _, [], m => m
  | i, t :: ts, m => ptrSlots P (i + 1) ts (match P.underlying t with | some (.pointer _) => setB m i | _ => m)

def retK (C : Cfg) (P : Program) (f : FuncId) (fn : Func) (args : List PV) (s : St) : Option Res :=
  outvsK P (C.shr f) s fn.results.toList fn.resultTypes.toList fun vs m z => backsK P fn.ntmps s.hp 0 fn.params.toList args fun os m' z' q =>
    chk (nodupB ((m ++ m') ++ q) && (z ++ z').all (fun i => !(((m ++ m') ++ q).any (Nat.beq i)))) (some ⟨vs, os⟩)

noncomputable def pfun (C : Cfg) (P : Program) (fu : Nat) (call : Call') (f : FuncId) (fn : Func) (c : Code) (args : List PV) : Option Res :=
  insK P fn.ntmps 0 fn.params.toList args fun tms bs => chk (Nat.ble args.length fn.ntmps && absent (fun _ => none) bs)
    (let lr := ptrSlots P 0 fn.params.toList (bitsOf' fn.results.toList)
     pevK C P fu fn.ntmps call c lr (fun _ => 0) lr (retK C P f fn args) (fun _ _ => none) (retK C P f fn args) ⟨lk tms, lkh bs⟩)

noncomputable def pcall (C : Cfg) (P : Program) (fu : Nat) : Nat → FuncId → List PV → Option Res
  | 0, _, _ => none
  | d + 1, f, args =>
    match P.funcs[f]? with
    | none => none
    | some fn => match fn.body with
      | none => none
      | some c => pfun C P fu (pcall C P fu d) f fn c args

end Go.Proofs.Ytoihfmiifeegpaa.Pv
