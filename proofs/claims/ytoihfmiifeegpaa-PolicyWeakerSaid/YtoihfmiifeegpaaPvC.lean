/-
  The interpreter: operations, regions, code, calls.
-/
import Derived.Test.YtoihfmiifeegpaaPvB
namespace Go.Proofs.Ytoihfmiifeegpaa.Pv

abbrev Call' := FuncId → List PV → Option Res

section
variable {R : Type}

def hasSl (P : Program) (ts : List TypeId) : Bool := ts.any fun t => (ptrTo P t).isSome || (cty P t).any fun c => match c with | .sl _ => true | _ => false

def constK (P : Program) (t : TypeId) (tm : Nat → PV) (x : Operand) (K : PV → Option R) : Option R :=
  match x with
  | .const v => cvK P t v K
  | x => K (opv tm x)

/-- An element type whose zero value is known. -/
def zinfOk (P : Program) (e : TypeId) : Bool :=
  match P.info? e with
  | some i => (match i.zero with | some z => Nat.beq z.cells.size i.size | none => false)
  | none => false

/-- What is appended: cells, and how many elements. -/
def srcR (P : Program) (rdaf : Nat → Option (List PV)) (es : Nat) (t : TypeId) (x : PV) (K : Nat → List PV → Option R) : Option R :=
  match P.underlying t with
  | some .string => chk (Nat.beq es 1) (strK x fun b => K b.size (strCells b))
  | some (.slice _) => slcK rdaf es x K
  | _ => none

abbrev srcK (P : Program) (s : St) (es : Nat) (t : TypeId) (x : PV) (K : Nat → List PV → Option R) : Option R := srcR P (rda s.hp) es t x K

/-- Is it an append to nil? -/
def nilBase (c : Call) : Bool :=
  match c.args.toList with
  | .const (.slice none 0 0) :: _ => true
  | _ => false

/-- An append to nil: a new row. -/
def appNilK (P : Program) (rdaf : Nat → Option (List PV)) (d : Nat) (t tx : TypeId) (x : PV) (K : PV → List (Nat × Box) → Option R) : Option R :=
  match P.underlying t with
  | some (.slice e) => chk (zinfOk P e) <|
    srcR P rdaf (szOf P e) tx x fun m new =>
      chk (decide (new.length = m * szOf P e) && decide (m * ((P.info? e).map (·.bytes)).getD 0 ≤ 1099511627776) && decide (m ≤ 1099511627776)) (K (.view d (szOf P e) 0 m) [(d, .ar false new)])
  | _ => none

/-- Arguments that are the constant nil, told. -/
def markNil (k : Bool) : List Operand → List PV → List PV
  | x :: xs, p :: ps =>
    (match x, p with
     | .const (.slice none 0 0), .lst z es 0 [] => .lst (k || z) es 0 []
     | _, p => p) :: markNil k xs ps
  | _, ps => ps

/-- The capacity of nil. -/
def capK (P : Program) (t : TypeId) (x : PV) (K : Nat → Option R) : Option R :=
  match P.underlying t with
  | some (.slice e) => lsK (szOf P e) x fun z _ _ => chk z (K 0)
  | _ => none

/-- The operations of class R. -/
def effK (C : Cfg) (P : Program) (N : Nat) (call : Call') (tm : Nat → PV) (rdf rdaf : Nat → Option (List PV)) (o : Oper) (K : PV → List Nat → List (Nat × Box) → Option R) : Option R :=
  match o.op with
  | .move x => constK P o.type tm x fun p => K p [] []
  | .assign x => constK P o.type tm x fun p => K p [] []
  | .pick c a b => boolK (opv tm c) fun t => brK t (K (opv tm a) [] []) (K (opv tm b) [] [])
  | .alloc t => optK o.dst fun d => zcellsK P t fun cs => K (.ptr d 0) [] [(d, mkBox P t cs)]
  | .box t x => optK o.dst fun d => chk (ctyOk P t && Nat.beq (cellsOf (opv tm x)).length (cty P t).length)
      (bif isArrB P t then tcsK (cty P t) (cellsOf (opv tm x)) 0 fun cs => K (.ptr d 0) [] [(d, .ar false cs)]
       else fcsK (cty P t) (cellsOf (opv tm x)) 0 fun cs => K (.ptr d 0) [] [(d, .st cs)])
  | .build t ps => chk (placesOk P t && isAggB P t) <| zcellsK P t fun z => fillK (placeOf P t) (ps.toList.map fun q => (q.1, opv tm q.2)) z fun cs => fcsK (cty P t) cs 0 fun cs' => K (.agg cs') [] []
  | .buildSlice t n ps => optK o.dst fun d =>
      match P.underlying t with
      | some (.slice e) => chk (placesOk P t && Nat.ble (n * szOf P e) 16777216) (zcellsK P e fun z => fillK (placeOf P t) (ps.toList.map fun q => (q.1, opv tm q.2)) (repl n z) fun cs =>
          frcsK rdaf (List.replicate n (cty P e)).flatten cs fun cs' m => K (.view d (szOf P e) 0 n) m [(d, .ar false cs')])
      | _ => none
  | .load t a => loadK P rdf rdaf t (opv tm a) fun v => K v [] []
  | .nilCheck x => addrK (opv tm x) 0 fun p => K p [] []
  | .binOp op t x y _ =>
      binAnyK P op t (opv tm x) (opv tm y) fun v => K v [] []
  | .unOp op _ x => unK op (opv tm x) fun v => K v [] []
  | .convert src dst x => convK P rdaf (o.dst.getD 0) src dst (opv tm x) fun v b => optK o.dst fun _ => K v [] b
  | .makeSlice t l c => optK o.dst fun d =>
      match P.underlying t with
      | some (.slice e) => anyIntK (opv tm l) fun _ n => anyIntK (opv tm c) fun _ m =>
          chk (decide (0 ≤ n) && decide (n ≤ m) && decide (m * ((P.info? e).map (·.bytes)).getD 0 ≤ 1099511627776) && decide (m ≤ 1099511627776))
            (zcellsK P e fun z => K (.view d (szOf P e) 0 n.toNat) [] [(d, .ar false (repl n.toNat z))])
      | _ => none
  | .slice t x lo hi mx =>
      match mx with
      | none => sliceK P rdf t (opv tm x) (lo.map (opv tm)) (hi.map (opv tm)) fun v => K v [] []
      | some _ => none
  | .fieldAddr t x f => optK (fieldOff P t f) fun q => chk (Nat.ble 1 (szOf P q.2)) (addrK (opv tm x) q.1 fun p => K p [] [])
  | .field t x f => optK (fieldOff P t f) fun q => chk (ctyOk P q.2) <| aggK (opv tm x) fun cs => fcsK (cty P q.2) cs q.1 fun c => mkV (isAggB P q.2) c fun v => K v [] []
  | .indexAddr t x i => anyIntK (opv tm i) fun _ n => indexAddrK P t (opv tm x) n fun p => K p [] []
  | .index t x i => anyIntK (opv tm i) fun _ n =>
      match P.underlying t with
      | some .string => strK (opv tm x) fun s => chk (decide (0 ≤ n)) (optK (s.data.toList[n.toNat]?) fun b => K (.sc (.int .u8 b.toNat)) [] [])
      | some (.array len e) => aggK (opv tm x) fun cs => chk (decide (0 ≤ n) && decide (n < len) && ctyOk P e) (fcsK (cty P e) cs (n.toNat * szOf P e) fun c => mkV (isAggB P e) c fun v => K v [] [])
      | _ => none
  | .extract x i =>
      match opv tm x with
      | .tup vs => optK vs[i]? fun p => K p [] []
      | _ => none
  | .call c =>
      match c.callee with
      | .builtin .len => consK c.args.toList fun x _ => consK c.argTypes.toList fun t _ => lenK P t (opv tm x) fun n => K (.sc (.int .i64 n)) [] []
      | .builtin .cap => consK c.args.toList fun x _ => consK c.argTypes.toList fun t _ => capK P t (opv tm x) fun n => K (.sc (.int .i64 n)) [] []
      | .builtin .min => consK c.args.toList fun x r => consK r fun y r' => nilK r' (minK (opv tm x) (opv tm y) fun v => K v [] [])
      | .builtin .max => consK c.args.toList fun x r => consK r fun y r' => nilK r' (maxK (opv tm x) (opv tm y) fun v => K v [] [])
      | .builtin .append => chk (nilBase c) (optK o.dst fun d => consK c.args.toList fun _ r => consK r fun x r' => nilK r' (consK c.argTypes.toList fun t u => consK u fun tx _ => appNilK P rdaf d t tx (opv tm x) fun v nw => K v [] nw))
      | .value (.func f) => frvsK P rdaf c.argTypes.toList (c.args.toList.map (opv tm)) fun vs m =>
          callK (call f (markNil (C.kz f) c.args.toList vs)) fun rv ro => nilK ro (chk (Nat.blt 0 N) <| unvsK P (C.shr f) N (o.dst.getD 0) (resTys P o.type) rv fun ws bs =>
            chk (bif isTup P o.type then !Nat.beq ws.length 1 else Nat.beq ws.length 1) <| K (packVals ws (isTup P o.type)) (bif hasSl P (resTys P o.type) then m else []) bs)
      | _ => none
  | _ => none

/-- Is an operation of class M: does it change a box? -/
def isM (C : Cfg) (P : Program) (o : Op) : Bool :=
  match o with
  | .store .. => true
  | .call c =>
    match c.callee with
    | .builtin .append => !nilBase c
    | .builtin .copy => true
    | .builtin _ => false
    | .value (.func f) => (c.argTypes.toList.any fun t => (ptrTo P t).isSome) || (c.argTypes.toList.zipIdx.any fun q => C.mvd f q.2 || C.lnd f q.2)
    | _ => false
  | _ => false

def markF (b : Box) : Box :=
  match b with
  | .ar _ c => .ar true c
  | b => b

def freezeIds (hp : Nat → Option Box) (ids : List Nat) : Nat → Option Box := fun i => bif ids.any (Nat.beq i) then (hp i).map markF else hp i

def addBoxes (hp : Nat → Option Box) : List (Nat × Box) → Nat → Option Box
  | [] => hp
  | (i, b) :: r => addBoxes (upd hp i (some b)) r

def absent (hp : Nat → Option Box) : List (Nat × Box) → Bool
  | [] => true
  | (i, _) :: r => (hp i).isNone && !(r.any fun q => Nat.beq q.1 i) && absent hp r

def putTm (tm : Nat → PV) (d : Option Tmp) (v : PV) : Nat → PV :=
  match d with
  | some i => upd tm i v
  | none => tm

def dstOk (N : Nat) (d : Option Tmp) : Bool :=
  match d with
  | some i => Nat.blt i N
  | none => true

/-- What class R leaves. -/
def applyK (N : Nat) (s : St) (d : Option Tmp) (v : PV) (fz : List Nat) (nw : List (Nat × Box)) (K : St → Option R) : Option R :=
  chk (dstOk N d && absent s.hp nw) (K ⟨putTm s.tm d v, addBoxes (freezeIds s.hp fz) nw⟩)

def storeK (P : Program) (s : St) (t : TypeId) (a x : PV) (K : St → Option R) : Option R :=
  match a with
  | .ptr id off =>
    match s.hp id with
    | some (.st c) => chk (ctyOk P t && Nat.beq (cellsOf x).length (cty P t).length && decide (off + (cty P t).length ≤ c.length)) (fcsK (cty P t) (cellsOf x) 0 fun cs => shareK (splice c cs off) fun c => K ⟨s.tm, upd s.hp id (some (.st c))⟩)
    | some (.ar false c) => chk (ctyOk P t && decide (off + (cty P t).length ≤ c.length)) (frcsK (rda s.hp) (cty P t) (cellsOf x) fun cs m => chk (!m.any (Nat.beq id)) (shareK (splice c cs off) fun c => K ⟨s.tm, upd (freezeIds s.hp m) id (some (.ar false c))⟩))
    | _ => none
  | _ => none

def isIntTy (P : Program) (t : TypeId) : Bool :=
  match P.underlying t with
  | some (.int _) => true
  | _ => false

/-- 'append(s, make([]E, n)...)', s surely nil: what lies in the new row is not told. -/
def appZeroK (P : Program) (N : Nat) (s : St) (d : Nat) (e : TypeId) (b x : PV) (K : St → Option R) : Option R :=
  anyIntK x fun _ n => lsK (szOf P e) b fun z _ _ =>
    chk (z && Nat.blt d N && (s.hp d).isNone && decide (0 ≤ n) && decide (n.toNat * ((P.info? e).map (·.bytes)).getD 0 ≤ 1099511627776) && decide (n ≤ 1099511627776))
      (K ⟨upd s.tm d (.view d (szOf P e) 0 n.toNat), upd s.hp d (some (.ar false []))⟩)

def appendK (P : Program) (N : Nat) (s : St) (d : Nat) (t tx : TypeId) (b x : PV) (K : St → Option R) : Option R :=
  match P.underlying t with
  | some (.slice e) => chk (zinfOk P e) <|
    bif isIntTy P tx then appZeroK P N s d e b x K else
    srcK P s (szOf P e) tx x fun m new =>
    match b with
    | .view id es off n =>
      match s.hp id with
      | some (.ar false c) =>
        chk (Nat.beq es (szOf P e) && Nat.beq off 0 && Nat.blt d N && (s.hp d).isNone && decide (n * es ≤ c.length) && decide (new.length = m * es)
          && decide ((n + m) * ((P.info? e).map (·.bytes)).getD 0 ≤ 1099511627776) && decide (n + m ≤ 1099511627776))
          (shareK (n + m) fun n' => shareK (c.take (n * es) ++ new) fun c => K ⟨upd s.tm d (.view d es 0 n'), upd (upd s.hp id (some .mv)) d (some (.ar false c))⟩)
      | _ => none
    | b => lsK (szOf P e) b fun z _ _ =>
        chk (z && Nat.blt d N && (s.hp d).isNone && decide (new.length = m * szOf P e) && decide (m * ((P.info? e).map (·.bytes)).getD 0 ≤ 1099511627776) && decide (m ≤ 1099511627776))
          (K ⟨upd s.tm d (.view d (szOf P e) 0 m), upd s.hp d (some (.ar false new))⟩)
  | _ => none

/-- One cell that is handed over: its value, the boxes that are shared from now on, the box that goes along. -/
def mvcK (mv : Bool) (hp : Nat → Option Box) (t : CT) (p : PV) (K : PV → List Nat → List Nat → Option R) : Option R :=
  match t with
  | .sl es =>
    bif mv then
      match p with
      | .view id es' off n =>
        match hp id with
        | some (.ar false c) =>
          bif Nat.beq es' es && Nat.beq off 0 then chk (decide (n * es ≤ c.length)) (K (.own es n (c.take (n * es))) [] [id])
          else frcK (rda hp) (.sl es) (.view id es' off n) fun c m => K c m []
        | _ => frcK (rda hp) (.sl es) (.view id es' off n) fun c m => K c m []
      | p => lsK es p fun z n c => bif z then K (.own es 0 []) [] [] else K (.lst false es n c) [] []
    else frcK (rda hp) (.sl es) p fun c m => K c m []
  | t => tcK t p fun c => K c [] []

def mvcsK (mv : Bool) (hp : Nat → Option Box) : List CT → List PV → (List PV → List Nat → List Nat → Option R) → Option R
  | [], [], K => K [] [] []
  | t :: ts, p :: ps, K => mvcK mv hp t p fun c m x => mvcsK mv hp ts ps fun cs ms xs => K (c :: cs) (m ++ ms) (x ++ xs)
  | _, _, _ => none

/-- What is lent: cells of a variable (its box, where, their kinds, what went in), a row, or nothing (a nil slice). -/
inductive Lnt where
  | var (id off : Nat) (cts : List CT) (ws : List PV)
  | row (id : Nat)
  | none

def Lnt.ids : Lnt → List Nat
  | .var id _ _ _ => [id]
  | .row id => [id]
  | .none => []

def slOf (P : Program) (t : TypeId) : Option TypeId :=
  match P.underlying t with
  | some (.slice e) => some e
  | _ => none

/-- A slice that is lent. -/
def lrowK (hp : Nat → Option Box) (es : Nat) (p : PV) (K : PV → List Lnt → Option R) : Option R :=
  match p with
  | .view id es' off n =>
    match hp id with
    | some (.ar false c) => chk (Nat.beq es' es && Nat.beq off 0) (K (.tup [.own es n c]) [.row id])
    | _ => none
  | p => lsK es p fun z _ _ => chk z (K (.tup [.own es 0 []]) [.none])

/-- One argument that is lent or handed over. -/
def lend1K (C : Cfg) (P : Program) (f : FuncId) (hp : Nat → Option Box) (i : Nat) (t : TypeId) (p : PV) (K : PV → List Nat → List Nat → List Lnt → Option R) : Option R :=
  match ptrTo P t with
  | some e =>
    match p with
    | .ptr id off =>
      match hp id with
      | some (.st c) => chk (ctyOk P e && decide (off + (cty P e).length ≤ c.length)) (mvcsK (C.mvd f i) hp (cty P e) ((c.drop off).take (cty P e).length) fun cs m x => K (.pbox cs) m x [.var id off (cty P e) cs])
      | _ => none
    | _ => none
  | none =>
    bif C.lnd f i then optK (slOf P t) fun e => lrowK hp (szOf P e) p fun v l => K v [] [] l
    else bif isAggB P t then aggK p fun ps => mvcsK (C.mvd f i) hp (cty P t) ps fun cs m x => K (.agg cs) m x []
    else mvcsK (C.mvd f i) hp (cty P t) [p] fun cs m x => consK cs fun c r => nilK r (K c m x [])

def lendK (C : Cfg) (P : Program) (f : FuncId) (hp : Nat → Option Box) : Nat → List TypeId → List PV → (List PV → List Nat → List Nat → List Lnt → Option R) → Option R
  | _, [], [], K => K [] [] [] []
  | i, t :: ts, p :: ps, K => lend1K C P f hp i t p fun v m x l => lendK C P f hp (i + 1) ts ps fun vs ms xs ls => K (v :: vs) (m ++ ms) (x ++ xs) (l ++ ls)
  | _, _, _, _ => none

/-- Boxes that went away. -/
def mvIds (hp : Nat → Option Box) (ids : List Nat) : Nat → Option Box := fun i => bif ids.any (Nat.beq i) then (hp i).map (fun _ => Box.mv) else hp i

def nid (N t : Nat) : Nat := N * (1000 + t)

/-- The first name that is free for what comes back. -/
def freeT (N : Nat) (hp : Nat → Option Box) : Nat → Nat → Nat
  | 0, t => t
  | k + 1, t => bif (hp (nid N t)).isNone then t else freeT N hp k (t + 1)

/-- One cell that comes back. -/
def bkcK (N t : Nat) (ct : CT) (was p : PV) (K : Nat → PV → List (Nat × Box) → Option R) : Option R :=
  match ct with
  | .sl es =>
    match was with
    | .own _ _ _ => owK es p fun n c => K (t + 1) (.view (nid N t) es 0 n) [(nid N t, .ar false c)]
    | _ => lsK es p fun z n c => K t (.lst z es n c) []
  | ct => tcK ct p fun c => K t c []

def bkcsK (N : Nat) : Nat → List CT → List PV → List PV → (Nat → List PV → List (Nat × Box) → Option R) → Option R
  | t, [], [], ps, K => nilK ps (K t [] [])
  | t, ct :: cts, w :: ws, ps, K => consK ps fun p ps => bkcK N t ct w p fun t' c b => bkcsK N t' cts ws ps fun t'' cs bs => K t'' (c :: cs) (b ++ bs)
  | _, _, _, _, _ => none

/-- What comes back, laid into the boxes. -/
def bksK (N : Nat) : Nat → List Lnt → List (List PV) → (Nat → Option Box) → ((Nat → Option Box) → List (Nat × Box) → Option R) → Option R
  | _, [], ro, hp, K => nilK ro (K hp [])
  | t, .var id off cts ws :: l, ro, hp, K => consK ro fun cs ro => bkcsK N t cts ws cs fun t' cs' bs =>
      match hp id with
      | some (.st c) => shareK (splice c cs' off) fun c => bksK N t' l ro (upd hp id (some (.st c))) fun hp' bs' => K hp' (bs ++ bs')
      | _ => none
  | t, .row id :: l, ro, hp, K => consK ro fun cs ro => bksK N t l ro (upd hp id (some (.ar false cs))) K
  | t, .none :: l, ro, hp, K => consK ro fun _ ro => bksK N t l ro hp K

def nodupB : List Nat → Bool
  | [] => true
  | a :: r => !(r.any (Nat.beq a)) && nodupB r

/-- A call to which something is lent or handed over. -/
def callMK (C : Cfg) (P : Program) (N : Nat) (call : Call') (s : St) (o : Oper) (f : FuncId) (c : Call) (K : St → Option R) : Option R :=
  lendK C P f s.hp 0 c.argTypes.toList (c.args.toList.map (opv s.tm)) fun vs m x l =>
    chk (nodupB (l.flatMap Lnt.ids ++ x) && m.all (fun i => !((l.flatMap Lnt.ids ++ x).any (Nat.beq i))) && Nat.blt 0 N && dstOk N o.dst) <|
    callK (call f (markNil (C.kz f) c.args.toList vs)) fun rv ro =>
      unvsK P (C.shr f) N (o.dst.getD N) (resTys P o.type) rv fun ws bs =>
        chk (bif isTup P o.type then !Nat.beq ws.length 1 else Nat.beq ws.length 1) <|
        bksK N (freeT N s.hp 100 0) l ro (mvIds (freezeIds s.hp m) x) fun hp' bs' =>
          chk (absent hp' (bs ++ bs')) (K ⟨putTm s.tm o.dst (packVals ws (isTup P o.type)), addBoxes hp' (bs ++ bs')⟩)

/-- The operations of class M. -/
def mutK (C : Cfg) (P : Program) (N : Nat) (call : Call') (s : St) (o : Oper) (K : St → Option R) : Option R :=
  match o.op with
  | .store t a x => chk (o.dst.isNone) (storeK P s t (opv s.tm a) (opv s.tm x) K)
  | .call c =>
    match c.callee with
    | .builtin .append => optK o.dst fun d => consK c.args.toList fun b r => consK r fun x r' => nilK r' (consK c.argTypes.toList fun t u => consK u fun tx _ => appendK P N s d t tx (opv s.tm b) (opv s.tm x) K)
    | .value (.func f) => callMK C P N call s o f c K
    | _ => none
  | _ => none

def popK (C : Cfg) (P : Program) (N : Nat) (call : Call') (o : Oper) (s : St) (K : St → Option R) : Option R :=
  bif isM C P o.op then mutK C P N call s o K
  else effK C P N call s.tm (rd s.hp) (rda s.hp) o fun v fz nw => applyK N s o.dst v fz nw K

/-- An operation under its guard. -/
def gopK (C : Cfg) (P : Program) (N : Nat) (call : Call') (ops : Array Oper) (o : Oper) (s : St) (K : St → Option R) : Option R :=
  match o.guard with
  | none => popK C P N call o s K
  | some (j, want) =>
    match (ops[j]?).bind (·.dst) with
    | none => none
    | some d =>
      match s.tm d with
      | .sc (.bool b) =>
        brK b (bif want then popK C P N call o ⟨upd s.tm d (.sc (.bool true)), s.hp⟩ K else chk (dstOk N o.dst) (K ⟨putTm (upd s.tm d (.sc (.bool true))) o.dst (.sc undef), s.hp⟩))
          (bif want then chk (dstOk N o.dst) (K ⟨putTm (upd s.tm d (.sc (.bool false))) o.dst (.sc undef), s.hp⟩) else popK C P N call o ⟨upd s.tm d (.sc (.bool false)), s.hp⟩ K)
      | .sc (.tuple _) => chk (dstOk N o.dst) (K ⟨putTm s.tm o.dst (.sc undef), s.hp⟩)
      | _ => none

def gopsK (C : Cfg) (P : Program) (N : Nat) (call : Call') (ops : Array Oper) : List Oper → St → (St → Option R) → Option R
  | [], s, K => K s
  | o :: r, s, K => gopK C P N call ops o s fun s' => gopsK C P N call ops r s' K
end

end Go.Proofs.Ytoihfmiifeegpaa.Pv
