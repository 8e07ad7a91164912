/-
  From a law's plain equation to its row: arguments read as pure trees, the call's contract, the row's post.
-/
import Derived.Test.YtoihfmiifeegpaaPvS31
import Derived.WalkKit
import Derived.ProofKit
import Derived.OpenShut
import Derived.ShutString
import Derived.ChangeOld
import Derived.Below
import Derived.Deep.Slices
import Derived.ChangeSame
import Derived.WideKeyArgs
import Derived.Carry
namespace Go.Proofs.Ytoihfmiifeegpaa.Pv
open Go.ChangeShapes Go.WideShapes Go.ChangeAt Go.RowKit Go.Deep

/- A type whose values are trees. -/
def offsOk (P : Program) : List Field → Nat → Nat → Bool
  | [], i, n => Nat.beq i n
  | f :: r, i, n => Nat.beq f.offset i && offsOk P r (i + P.cellsOf f.type) n

def plainTy (P : Program) : Nat → TypeId → Bool
  | 0, _ => false
  | d + 1, t =>
    match P.underlying t with
    | some .bool => true
    | some (.int _) => true
    | some .string => true
    | some (.slice e) => plainTy P d e && Nat.blt 0 (P.cellsOf e)
    | some (.struct fs) => offsOk P fs.toList 0 (P.cellsOf t) && fs.toList.all fun f => plainTy P d f.type
    | some (.array n e) => Nat.beq (P.cellsOf t) (n * P.cellsOf e) && plainTy P d e
    | _ => false

/-- A row of cells that is a tree of a type. -/
def WT (P : Program) : Nat → TypeId → List PV → Prop
  | 0, _, _ => False
  | d + 1, t, ps =>
    match P.underlying t with
    | some .bool => ∃ b, ps = [.sc (.bool b)]
    | some (.int k) => ∃ n, ps = [.sc (.int k n)] ∧ (Lit.int k n).wf = true
    | some .string => ∃ s : ByteArray, ps = [.sc (.string s)] ∧ s.size ≤ maxLen
    | some (.slice e) => ∃ rows : List (List PV), ps = [.lst false (P.cellsOf e) rows.length rows.flatten] ∧ rows.length ≤ maxLen ∧ ∀ r ∈ rows, r.length = P.cellsOf e ∧ WT P d e r
    | some (.struct fs) => ∃ rows : List (List PV), ps = rows.flatten ∧ All2 (fun f r => WT P d f.type r) fs.toList rows
    | some (.array n e) => ∃ rows : List (List PV), ps = rows.flatten ∧ rows.length = n ∧ ∀ r ∈ rows, r.length = P.cellsOf e ∧ WT P d e r
    | _ => False

def WTv (P : Program) (t : TypeId) (p : PV) : Prop :=
  match isAggB P t with
  | true => ∃ ps, p = .agg ps ∧ WT P 12 t ps
  | false => WT P 12 t [p]

section
variable {P : Program} {d : Nat} {t e : TypeId} {ps : List PV}
theorem WT_bool (hu : P.underlying t = some .bool) : WT P (d + 1) t ps ↔ ∃ b, ps = [.sc (.bool b)] := by
  show (match P.underlying t with | some .bool => _ | some (.int k) => _ | some .string => _ | some (.slice e) => _ | some (.struct fs) => _ | some (.array n e) => _ | _ => _) ↔ _
  rw [hu]
theorem WT_int {k : IntKind} (hu : P.underlying t = some (.int k)) : WT P (d + 1) t ps ↔ ∃ n, ps = [.sc (.int k n)] ∧ (Lit.int k n).wf = true := by
  show (match P.underlying t with | some .bool => _ | some (.int k) => _ | some .string => _ | some (.slice e) => _ | some (.struct fs) => _ | some (.array n e) => _ | _ => _) ↔ _
  rw [hu]
theorem WT_string (hu : P.underlying t = some .string) : WT P (d + 1) t ps ↔ ∃ s : ByteArray, ps = [.sc (.string s)] ∧ s.size ≤ maxLen := by
  show (match P.underlying t with | some .bool => _ | some (.int k) => _ | some .string => _ | some (.slice e) => _ | some (.struct fs) => _ | some (.array n e) => _ | _ => _) ↔ _
  rw [hu]
theorem WT_slice (hu : P.underlying t = some (.slice e)) : WT P (d + 1) t ps ↔ ∃ rows : List (List PV), ps = [.lst false (P.cellsOf e) rows.length rows.flatten] ∧ rows.length ≤ maxLen ∧ ∀ r ∈ rows, r.length = P.cellsOf e ∧ WT P d e r := by
  show (match P.underlying t with | some .bool => _ | some (.int k) => _ | some .string => _ | some (.slice e) => _ | some (.struct fs) => _ | some (.array n e) => _ | _ => _) ↔ _
  rw [hu]
theorem WT_struct {fs : Array Field} (hu : P.underlying t = some (.struct fs)) : WT P (d + 1) t ps ↔ ∃ rows : List (List PV), ps = rows.flatten ∧ All2 (fun f r => WT P d f.type r) fs.toList rows := by
  show (match P.underlying t with | some .bool => _ | some (.int k) => _ | some .string => _ | some (.slice e) => _ | some (.struct fs) => _ | some (.array n e) => _ | _ => _) ↔ _
  rw [hu]
theorem WT_array {n : Nat} (hu : P.underlying t = some (.array n e)) : WT P (d + 1) t ps ↔ ∃ rows : List (List PV), ps = rows.flatten ∧ rows.length = n ∧ ∀ r ∈ rows, r.length = P.cellsOf e ∧ WT P d e r := by
  show (match P.underlying t with | some .bool => _ | some (.int k) => _ | some .string => _ | some (.slice e) => _ | some (.struct fs) => _ | some (.array n e) => _ | _ => _) ↔ _
  rw [hu]
end

/- The same, by the kind of a type. -/
inductive Ki where
  | bool
  | int (k : IntKind)
  | str
  | sl (e : TypeId)
  | st (ts : List TypeId)
  | ar (n : Nat) (e : TypeId)
  | no

def kindOf (P : Program) (t : TypeId) : Ki :=
  match P.underlying t with
  | some .bool => .bool
  | some (.int k) => .int k
  | some .string => .str
  | some (.slice e) => .sl e
  | some (.struct fs) => .st (fs.toList.map (·.type))
  | some (.array n e) => .ar n e
  | _ => .no

section
variable {P : Program} {d : Nat} {t e : TypeId} {ps : List PV} {p : PV}
theorem All2.map_left {α β γ : Type} {g : α → γ} {R : γ → β → Prop} : ∀ {l : List α} {r : List β}, All2 (fun a b => R (g a) b) l r → All2 R (l.map g) r
  | [], [], _ => trivial
  | _ :: _, _ :: _, h => ⟨h.1, All2.map_left h.2⟩
  | [], _ :: _, h => h.elim
  | _ :: _, [], h => h.elim
theorem All2.cons_inv {α β : Type} {R : α → β → Prop} {a : α} {as : List α} : ∀ {rs : List β}, All2 R (a :: as) rs → ∃ r rs', rs = r :: rs' ∧ R a r ∧ All2 R as rs'
  | [], h => h.elim
  | r :: rs, h => ⟨r, rs, rfl, h.1, h.2⟩
theorem All2.nil_inv {α β : Type} {R : α → β → Prop} : ∀ {rs : List β}, All2 R ([] : List α) rs → rs = []
  | [], _ => rfl
  | _ :: _, h => h.elim
theorem ki_bool (hk : kindOf P t = .bool) (h : WT P d t ps) : ∃ b, ps = [.sc (.bool b)] := by
  cases d with
  | zero => exact h.elim
  | succ d =>
  unfold kindOf at hk
  split at hk <;> first | cases hk | skip
  rename_i hu
  exact (WT_bool hu).1 h
theorem ki_int {k : IntKind} (hk : kindOf P t = .int k) (h : WT P d t ps) : ∃ n, ps = [.sc (.int k n)] ∧ (Lit.int k n).wf = true := by
  cases d with
  | zero => exact h.elim
  | succ d =>
  unfold kindOf at hk
  split at hk <;> first | cases hk | skip
  rename_i hu
  exact (WT_int hu).1 h
theorem ki_str (hk : kindOf P t = .str) (h : WT P d t ps) : ∃ s : ByteArray, ps = [.sc (.string s)] ∧ s.size ≤ maxLen := by
  cases d with
  | zero => exact h.elim
  | succ d =>
  unfold kindOf at hk
  split at hk <;> first | cases hk | skip
  rename_i hu
  exact (WT_string hu).1 h
theorem ki_sl (hk : kindOf P t = .sl e) (h : WT P d t ps) : ∃ rows : List (List PV), ps = [.lst false (P.cellsOf e) rows.length rows.flatten] ∧ rows.length ≤ maxLen ∧ ∀ r ∈ rows, r.length = P.cellsOf e ∧ WT P (d - 1) e r := by
  cases d with
  | zero => exact h.elim
  | succ d =>
  rw [Nat.add_sub_cancel]
  unfold kindOf at hk
  split at hk <;> first | cases hk | skip
  rename_i hu
  exact (WT_slice hu).1 h
theorem ki_st {ts : List TypeId} (hk : kindOf P t = .st ts) (h : WT P d t ps) : ∃ rows : List (List PV), ps = rows.flatten ∧ All2 (WT P (d - 1)) ts rows := by
  cases d with
  | zero => exact h.elim
  | succ d =>
  rw [Nat.add_sub_cancel]
  unfold kindOf at hk
  split at hk <;> first | cases hk | skip
  rename_i fs hu
  obtain ⟨rows, h1, h2⟩ := (WT_struct hu).1 h
  exact ⟨rows, h1, All2.map_left h2⟩
theorem ki_ar {n : Nat} (hk : kindOf P t = .ar n e) (h : WT P d t ps) : ∃ rows : List (List PV), ps = rows.flatten ∧ rows.length = n ∧ ∀ r ∈ rows, r.length = P.cellsOf e ∧ WT P (d - 1) e r := by
  cases d with
  | zero => exact h.elim
  | succ d =>
  rw [Nat.add_sub_cancel]
  unfold kindOf at hk
  split at hk <;> first | cases hk | skip
  rename_i hu
  exact (WT_array hu).1 h

theorem wtv_agg (hk : isAggB P t = true) (h : WTv P t p) : ∃ ps, p = .agg ps ∧ WT P 12 t ps := by
  unfold WTv at h
  rw [hk] at h
  exact h
theorem wtv_one (hk : isAggB P t = false) (h : WTv P t p) : WT P 12 t [p] := by
  unfold WTv at h
  rw [hk] at h
  exact h
theorem wtv_bool (ha : isAggB P t = false) (hk : kindOf P t = .bool) (h : WTv P t p) : ∃ b, p = .sc (.bool b) := by
  obtain ⟨b, e⟩ := ki_bool hk (wtv_one ha h)
  exact ⟨b, by injection e⟩
theorem wtv_int {k : IntKind} (ha : isAggB P t = false) (hk : kindOf P t = .int k) (h : WTv P t p) : ∃ n, p = .sc (.int k n) ∧ (Lit.int k n).wf = true := by
  obtain ⟨b, e, h⟩ := ki_int hk (wtv_one ha h)
  exact ⟨b, by injection e, h⟩
theorem wtv_str (ha : isAggB P t = false) (hk : kindOf P t = .str) (h : WTv P t p) : ∃ s : ByteArray, p = .sc (.string s) ∧ s.size ≤ maxLen := by
  obtain ⟨b, e, h⟩ := ki_str hk (wtv_one ha h)
  exact ⟨b, by injection e, h⟩
theorem wtv_sl (ha : isAggB P t = false) (hk : kindOf P t = .sl e) (h : WTv P t p) : ∃ rows : List (List PV), p = .lst false (P.cellsOf e) rows.length rows.flatten ∧ rows.length ≤ maxLen ∧ ∀ r ∈ rows, r.length = P.cellsOf e ∧ WT P (12 - 1) e r := by
  obtain ⟨b, e, h⟩ := ki_sl hk (wtv_one ha h)
  exact ⟨b, by injection e, h⟩
theorem rows_native {α : Type} (f : α → List PV) (Q : α → Prop) : ∀ {rows : List (List PV)}, (∀ r ∈ rows, ∃ x, r = f x ∧ Q x) → ∃ xs : List α, rows.flatten = xs.flatMap f ∧ rows.length = xs.length ∧ ∀ x ∈ xs, Q x
  | [], _ => ⟨[], rfl, rfl, by simp⟩
  | r :: rows, h => by
    obtain ⟨x, h1, h2⟩ := h r (by simp)
    obtain ⟨xs, h3, h4, h5⟩ := rows_native (rows := rows) f Q fun r hr => h r (by simp [hr])
    refine ⟨x :: xs, by simp [h1, h3], by simp [h4], fun y hy => ?_⟩
    rcases List.mem_cons.1 hy with rfl | hy
    · exact h2
    · exact h5 y hy
end

abbrev No : Nat → Prop := fun _ => False

section
variable {H : Type} {enc : TypeId × Value → H} {P : Program} {w : World} {base : Nat} {held : Bool}

theorem All2.flat {α β : Type} {R : α → β → Prop} : ∀ {l : List Nat} {f : Nat → List α} {g : Nat → List β}, (∀ i ∈ l, All2 R (f i) (g i)) → All2 R (l.map f).flatten (l.map g).flatten
  | [], _, _, _ => trivial
  | i :: l, f, g, h => by
    simp only [List.map_cons, List.flatten_cons]
    exact (h i (by simp)).app (All2.flat fun j hj => h j (by simp [hj]))

theorem cell_some {a : Addr} {v : Value} (h : w.cell? a = some v) : a.spot = none ∧ a.block < w.heap.size := by
  unfold World.cell? at h
  split at h
  · rename_i c t f e
    refine ⟨?_, ?_⟩
    · cases hs : a.spot with
      | none => rfl
      | some x => rw [hs] at h; simp at h
    · rcases Nat.lt_or_ge a.block w.heap.size with h1 | h1
      · exact h1
      · rw [Array.getElem?_eq_none h1] at e; cases e
  · cases h

theorem flat_len {α : Type} {g : Nat → List α} {es : Nat} : ∀ {n : Nat}, (∀ i, i < n → (g i).length = es) → ((List.range n).map g).flatten.length = n * es
  | 0, _ => by simp
  | n + 1, h => by
    rw [List.range_succ, List.map_append, List.flatten_append, List.length_append, flat_len (fun i hi => h i (by omega))]
    simp [h n (by omega), Nat.succ_mul]

theorem cells_flat {a : Addr} {g : Nat → List Value} {es : Nat} : ∀ {n : Nat}, (∀ i, i < n → (g i).length = es) → (∀ i, i < n → ∀ k, k < es → w.cell? (a.add (i * es + k)) = (g i)[k]?) →
    ∀ j, j < n * es → w.cell? (a.add j) = (((List.range n).map g).flatten)[j]?
  | 0, _, _, j, hj => by omega
  | n + 1, hl, hc, j, hj => by
    have hfl := flat_len (fun i (hi : i < n) => hl i (by omega))
    rw [List.range_succ, List.map_append, List.flatten_append, List.getElem?_append, hfl]
    rw [Nat.succ_mul] at hj
    split
    · rename_i h1
      exact cells_flat (fun i hi => hl i (by omega)) (fun i hi => hc i (by omega)) j h1
    · rename_i h1
      have := hc n (by omega) (j - n * es) (by omega)
      rw [show n * es + (j - n * es) = j by omega] at this
      simpa using this

abbrev TR (w : World) (c : PV) (v : Value) : Prop := (isT c ∧ TRep w No c v) ∧ v.oneCell' = true

theorem fields_read {d : Nat} {cs : List Value} {n : Nat} (hn : cs.length = n) : ∀ (l : List Field) (i : Nat), offsOk P l i n = true →
    (∀ f ∈ l, ∃ ps, WT P d f.type ps ∧ All2 (TR w) ps ((cs.drop f.offset).take (P.cellsOf f.type))) → ∃ rows : List (List PV), All2 (fun f r => WT P d f.type r) l rows ∧ All2 (TR w) rows.flatten (cs.drop i)
  | [], i, ho, _ => by
    have := Nat.eq_of_beq_eq_true ho
    refine ⟨[], trivial, ?_⟩
    rw [List.drop_of_length_le (by omega)]
    trivial
  | f :: l, i, ho, h => by
    simp only [offsOk, Bool.and_eq_true] at ho
    have ho1 := Nat.eq_of_beq_eq_true ho.1
    obtain ⟨ps, h1, h2⟩ := h f (by simp)
    obtain ⟨rows, h3, h4⟩ := fields_read hn l _ ho.2 fun g hg => h g (by simp [hg])
    refine ⟨ps :: rows, ⟨h1, h3⟩, ?_⟩
    rw [ho1] at h2
    have : cs.drop i = (cs.drop i).take (P.cellsOf f.type) ++ cs.drop (i + P.cellsOf f.type) := by rw [← List.drop_drop]; exact (List.take_append_drop _ _).symm
    rw [this, List.flatten_cons]
    exact h2.app h4

theorem elems_read {d : Nat} {e : TypeId} {cs : List Value} {k : Nat} : ∀ (n : Nat), n * k ≤ cs.length →
    (∀ i, i < n → ∃ ps, (ps.length = k ∧ WT P d e ps) ∧ All2 (TR w) ps ((cs.drop (i * k)).take k)) → ∃ rows : List (List PV), rows.length = n ∧ (∀ r ∈ rows, r.length = k ∧ WT P d e r) ∧ All2 (TR w) rows.flatten (cs.take (n * k))
  | 0, _, _ => ⟨[], rfl, by simp, by simp [All2]⟩
  | n + 1, hl, h => by
    rw [Nat.succ_mul] at hl
    obtain ⟨rows, h1, h2, h3⟩ := elems_read n (by omega) fun i hi => h i (by omega)
    obtain ⟨ps, h4, h5⟩ := h n (by omega)
    refine ⟨rows ++ [ps], by simp [h1], ?_, ?_⟩
    · intro r hr
      rcases List.mem_append.1 hr with hr | hr
      · exact h2 r hr
      · rw [List.mem_singleton.1 hr]; exact h4
    · rw [List.flatten_append, Nat.succ_mul, List.take_add]
      refine h3.app ?_
      simpa using h5

/-- Cells that can be read as data of a plain type are a tree. -/
theorem read_tree : ∀ (d : Nat) (t : TypeId), plainTy P d t = true → ∀ (fuel : Nat) (cs : List Value) (x : DataW H × List MemPlace), DataW.trod enc P w base (fun _ => true) held fuel t cs = some x →
    ∃ ps, WT P d t ps ∧ All2 (TR w) ps cs
  | 0, _, h, _, _, _, _ => by cases h
  | d + 1, t, hp, fuel, cs, x, h => by
    unfold plainTy at hp
    split at hp
    · rename_i hu
      obtain ⟨b, rfl, _⟩ := DataW.trod_bool hu h
      simp only [WT_bool hu]
      exact ⟨[.sc (.bool b)], ⟨b, rfl⟩, ⟨⟨trivial, TRep.sc _⟩, rfl⟩, trivial⟩
    · rename_i k hu
      obtain ⟨n, rfl, _, hw⟩ := DataW.trod_int hu h
      simp only [WT_int hu]
      exact ⟨[.sc (.int k n)], ⟨n, rfl, hw⟩, ⟨⟨trivial, TRep.sc _⟩, rfl⟩, trivial⟩
    · rename_i hu
      obtain ⟨s, rfl, _, hw⟩ := DataW.trod_string hu h
      simp only [WT_string hu]
      exact ⟨[.sc (.string s)], ⟨s, rfl, hw⟩, ⟨⟨trivial, TRep.sc _⟩, rfl⟩, trivial⟩
    · rename_i e hu
      simp only [Bool.and_eq_true] at hp
      have hes : 0 < P.cellsOf e := Nat.lt_of_succ_le (Nat.le_of_ble_eq_true hp.2)
      simp only [WT_slice hu]
      rcases open_slice hu h with ⟨rfl, _⟩ | ⟨a, len, cap, m, n, D, Pl, rfl, _, hl, hm, hmm, _, hi⟩
      · exact ⟨[.lst false (P.cellsOf e) 0 []], ⟨[], by simp, by simp, by simp⟩, ⟨⟨trivial, TRep.lnil _ _⟩, rfl⟩, trivial⟩
      · simp only [if_true] at hmm
        subst hmm
        have hi' : ∀ i, i < len → ∃ q : List PV × List Value, (q.2.length = P.cellsOf e ∧ (∀ k, k < P.cellsOf e → w.cell? (a.add (i * P.cellsOf e + k)) = q.2[k]?)) ∧ WT P d e q.1 ∧ All2 (TR w) q.1 q.2 := by
          intro i hlt
          obtain ⟨cs', hc, ht⟩ := hi i (by omega)
          obtain ⟨_, hcl, hat⟩ := World.cells?_some hc
          obtain ⟨ps, h1, h2⟩ := read_tree d e hp.1 _ _ _ ht
          exact ⟨(ps, cs'), ⟨hcl, fun k hk => by rw [← Pv.add_add]; exact hat k hk⟩, h1, h2⟩
        obtain ⟨F, hF⟩ := choose_lt hi'
        refine ⟨[.lst false (P.cellsOf e) len ((List.range len).map fun i => (F i).1).flatten], ⟨(List.range len).map fun i => (F i).1, by simp, by simp; omega, ?_⟩, ⟨⟨trivial, ?_⟩, rfl⟩, trivial⟩
        · intro r hr
          obtain ⟨i, hi1, rfl⟩ := List.mem_map.1 hr
          have hi2 := List.mem_range.1 hi1
          exact ⟨by rw [(hF i hi2).2.2.len]; exact (hF i hi2).1.1, (hF i hi2).2.1⟩
        · rcases Nat.eq_zero_or_pos len with h0 | h0
          · subst h0
            exact TRep.lemp _ _ _
          · have hall : All2 (TR w) ((List.range len).map fun i => (F i).1).flatten ((List.range len).map fun i => (F i).2).flatten := All2.flat fun i hi => (hF i (List.mem_range.1 hi)).2.2
            have hcell := cells_flat (w := w) (a := a) (g := fun i => (F i).2) (fun i hi => (hF i hi).1.1) (fun i hi => (hF i hi).1.2)
            have hlen := flat_len (g := fun i => (F i).2) (fun i (hi : i < len) => (hF i hi).1.1)
            have h00 : w.cell? a ≠ none := by
              have := hcell 0 (Nat.mul_pos h0 hes)
              rw [show a.add 0 = a by unfold Addr.add; simp] at this
              rw [this, List.getElem?_eq_getElem (by rw [hlen]; exact Nat.mul_pos h0 hes)]
              simp
            obtain ⟨v0, hv0⟩ := Option.ne_none_iff_exists'.1 h00
            obtain ⟨hs, hb⟩ := cell_some hv0
            have key : ∀ j c, (((List.range len).map fun i => (F i).1).flatten)[j]? = some c → ∃ v, w.cell? (a.add j) = some v ∧ TR w c v := by
              intro j c hj
              have hlj : j < len * P.cellsOf e := by
                rw [← hlen, ← hall.len]
                rcases Nat.lt_or_ge j (((List.range len).map fun i => (F i).1).flatten).length with h1 | h1
                · exact h1
                · rw [List.getElem?_eq_none h1] at hj; cases hj
              have h1 := hcell j hlj
              rw [List.getElem?_eq_getElem (by rw [hlen]; exact hlj)] at h1
              exact ⟨_, h1, hall.at_ hj (List.getElem?_eq_getElem (by rw [hlen]; exact hlj))⟩
            refine TRep.lst _ _ _ a _ (fun j => (w.cell? (a.add j)).getD undef) hs hb (fun h => h) hl (fun j c hj => ?_) (fun j c hj => ?_) (fun j c hj => ?_)
            · obtain ⟨v, hv, _⟩ := key j c hj; rw [hv]; rfl
            · obtain ⟨v, hv, ht⟩ := key j c hj; rw [hv]; exact ht.2
            · obtain ⟨v, hv, ht⟩ := key j c hj; rw [hv]; exact ht.1.2
    · rename_i fs hu
      simp only [Bool.and_eq_true] at hp
      simp only [WT_struct hu]
      obtain ⟨xs, n, _, _, hlen, hxl, hf⟩ := DataW.trod_struct hu h
      obtain ⟨rows, h1, h2⟩ := fields_read (P := P) (w := w) (d := d) hlen fs.toList 0 hp.1 fun f hf' => by
        obtain ⟨i, hi⟩ := List.mem_iff_getElem?.1 hf'
        have hi' : fs[i]? = some f := by simpa using hi
        have hlt : i < fs.size := (Array.getElem?_eq_some_iff.1 hi').1
        have h3 := hf i f hi'
        rw [List.getElem?_eq_getElem (by omega)] at h3
        exact read_tree d f.type (List.all_eq_true.1 hp.2 f hf') _ _ _ h3
      exact ⟨_, ⟨rows, rfl, h1⟩, by simpa using h2⟩
    · rename_i n e hu
      simp only [Bool.and_eq_true] at hp
      simp only [WT_array hu]
      obtain ⟨xs, m, _, _, hlen, hxl, hf⟩ := DataW.trod_array hu h
      have hsz := Nat.eq_of_beq_eq_true hp.1
      obtain ⟨rows, h1, h2, h3⟩ := elems_read (P := P) (w := w) (d := d) (e := e) (cs := cs) (k := P.cellsOf e) n (by omega) fun i hi => by
        have h3 := hf i hi
        rw [List.getElem?_eq_getElem (by omega)] at h3
        obtain ⟨ps, h4, h5⟩ := read_tree d e hp.2 _ _ _ h3
        refine ⟨ps, ⟨?_, h4⟩, h5⟩
        rw [h5.len, List.length_take, List.length_drop, hlen, hsz]
        have : (i + 1) * P.cellsOf e ≤ n * P.cellsOf e := Nat.mul_le_mul_right _ hi
        rw [Nat.succ_mul] at this
        omega
      refine ⟨_, ⟨rows, rfl, h1, h2⟩, ?_⟩
      rw [List.take_of_length_le (by omega)] at h3
      exact h3
    · cases hp

theorem read_val {r : Reach} {b0 : Nat} {t : TypeId} {v : Value} {dd : DataW H} {p : List MemPlace} (hp : plainTy P 12 t = true) (hv : Value.okWide P w r b0 t v) (h : DataW.Trod enc P w base (fun _ => true) held t v dd p) :
    ∃ q, WTv P t q ∧ ARep w No q v := by
  obtain ⟨fuel, hf⟩ := h
  obtain ⟨ps, h1, h2⟩ := read_tree 12 t hp fuel _ _ hf
  unfold WTv isAggB
  have two : ∀ {cs : Array Value}, v = .agg cs → ∃ q, (∃ ps, q = .agg ps ∧ WT P 12 t ps) ∧ ARep w No q v := by
    intro cs e
    subst e
    exact ⟨.agg ps, ⟨ps, rfl, h1⟩, cs.toList, by simp, h2.mono fun c v h => h.1⟩
  have one : v.cells.toList = [v] → ∃ q, WT P 12 t [q] ∧ ARep w No q v := by
    intro e
    rw [e] at h2
    match ps, h2 with
    | [q], h2 =>
      refine ⟨q, h1, ?_⟩
      have h3 := h2.1.1
      cases q <;> first | exact h3 | exact h3.1.elim
    | [], h2 => exact h2.elim
    | _ :: _ :: _, h2 => exact h2.2.elim
  unfold plainTy at hp
  split at hp
  · rename_i hu
    simp only [hu]
    obtain ⟨b, rfl, _⟩ := open_bool hu hv ⟨fuel, hf⟩
    exact one rfl
  · rename_i k hu
    simp only [hu]
    obtain ⟨b, rfl, _⟩ := open_int hu hv ⟨fuel, hf⟩
    exact one rfl
  · rename_i hu
    simp only [hu]
    obtain ⟨b, rfl, _⟩ := ChangeMaps.open_string hu hv ⟨fuel, hf⟩
    exact one rfl
  · rename_i e hu
    simp only [hu]
    obtain ⟨a, len, cap, rfl⟩ := okWide_slice hu hv
    exact one rfl
  · rename_i fs hu
    simp only [hu]
    obtain ⟨cs, rfl, _⟩ := okWide_struct hu hv
    exact two rfl
  · rename_i n e hu
    simp only [hu]
    unfold Value.okWide at hv
    simp only [hu] at hv
    obtain ⟨cs, rfl, _⟩ := hv
    exact two rfl
  · cases hp

theorem read_args : ∀ {ts : List TypeId} {vs : List Value} {ds : List (DataW H)} {p : List MemPlace} {r : Reach} {b0 : Nat}, (ts.all fun t => plainTy P 12 t) = true → (∀ (j : Nat) t v, ts[j]? = some t → vs[j]? = some v → Value.okWide P w r b0 t v) →
    DataW.TrodAll enc P w base (fun _ => true) held ts vs ds p → ∃ qs, All2 (WTv P) ts qs ∧ All2 (ARep w No) qs vs
  | [], [], [], _, _, _, _, _, _ => ⟨[], trivial, trivial⟩
  | t :: ts, v :: vs, d :: ds, _, r, b0, hp, hv, ⟨p, q, h1, h2, _⟩ => by
    simp only [List.all_cons, Bool.and_eq_true] at hp
    obtain ⟨x, h3, h4⟩ := read_val hp.1 (hv 0 t v rfl rfl) h1
    obtain ⟨xs, h5, h6⟩ := read_args hp.2 (fun j t v ht hv' => hv (j + 1) t v ht hv') h2
    exact ⟨x :: xs, ⟨h3, h5⟩, h4, h6⟩
  | [], _ :: _, _, _, _, _, _, _, h => by cases h
  | [], [], _ :: _, _, _, _, _, _, h => by cases h
  | _ :: _, [], _, _, _, _, _, _, h => by cases h
  | _ :: _, _ :: _, [], _, _, _, _, _, h => by cases h

theorem trodAll_stays (hl : laidOutB P = true) {W W' : World} {sp : Nat → Bool} : ∀ {ts : List TypeId} {vs : List Value} {ds : List (DataW H)} {p : List MemPlace}, (ts.all fun t => P.readableRec t && Nat.blt t P.types.size) = true →
    DataW.TrodAll enc P W 0 (fun _ => true) true ts vs ds p → (∀ x ∈ p, W.sameAt W' x) → (∀ x ∈ p, sp x.block = true) → DataW.TrodAll enc P W' 0 sp true ts vs ds p
  | [], [], [], _, _, h, _, _ => h
  | t :: ts, v :: vs, d :: ds, _, hr, ⟨p, q, h1, h2, e⟩, hs, hsp => by
    simp only [List.all_cons, Bool.and_eq_true] at hr
    refine ⟨p, q, WideElems.Trod_stays hl hr.1.1 (Nat.lt_of_succ_le (Nat.le_of_ble_eq_true hr.1.2)) h1 (fun x hx => hs x ?_) (fun x hx => hsp x ?_), trodAll_stays hl hr.2 h2 (fun x hx => hs x ?_) (fun x hx => hsp x ?_), e⟩
    all_goals rw [e, List.mem_append]
    · exact .inl hx
    · exact .inl hx
    · exact .inr hx
    · exact .inr hx
  | [], _ :: _, _, _, _, h, _, _ => by cases h
  | [], [], _ :: _, _, _, h, _, _ => by cases h
  | _ :: _, [], _, _, _, h, _, _ => by cases h
  | _ :: _, _ :: _, [], _, _, h, _, _ => by cases h

theorem post_of_below {f : Func} {s : ChangeSpec} {apart fresh handsOn again : Bool} {W W' : World} {args : Array Value} {v : Value} {ds gs : List (DataW H)} {before pa pv : List MemPlace}
    (hW : DataW.Whole enc P f.params.toList s.vars apart W args.toList ds gs before)
    (hres : ∀ (b : Nat) (sp : Nat → Bool) (hd : Bool), DataW.TrodAll enc P W' b sp hd f.resultTypes.toList (v.resultList f.resultTypes.size) (s.fn H (ds ++ gs)).results [])
    (hargs : ∀ sp : Nat → Bool, (∀ p ∈ before, sp p.block = true) → DataW.TrodAll enc P W' 0 sp true f.params.toList args.toList (s.fn H (ds ++ gs)).args pa)
    (hvars : ∀ sp : Nat → Bool, (∀ p ∈ before, sp p.block = true) → DataW.TrodVars enc P W' sp s.vars (s.fn H (ds ++ gs)).vars pv)
    (hps : before = pa ++ pv) (hb : Below W.heap.size W W')
    (hok : ∀ (j : Nat) (t : TypeId) (r : Value), f.resultTypes[j]? = some t → (v.resultList f.resultTypes.size)[j]? = some r → Value.okWide P W' .any 0 t r) :
    s.post enc P f apart fresh handsOn again W args v W' := by
  have hlt : ∀ p ∈ before, p.block < W.heap.size := fun p hp => hW.lt p hp
  have hold : ∀ p ∈ before, (fun b => decide (b < W.heap.size)) p.block = true := fun p hp => by simpa using hlt p hp
  refine ⟨ds, gs, before, [], pa, pv, hW, hres _ _ _, hargs _ hold, hvars _ hold, World.keptBut_mono (fun p hp => ⟨hp, ?_⟩) (hb.frame (· ∈ before)), fun _ => ?_⟩
  · rw [hps, List.mem_append] at hp
    exact Or.inr hp
  · obtain ⟨_, _, _, _, _, hz, hn⟩ := hW
    refine ⟨hok, _, _, ([] ++ pa) ++ pv, ⟨[] ++ pa, pv, trodAll_append (hargs _ (fun _ _ => rfl)) (hres _ _ _), hvars _ (fun _ _ => rfl), rfl, ?_, ?_⟩, ?_⟩
    · intro b off hp
      have hin : MemPlace.cell b off ∈ before := by rw [hps]; simpa using hp
      rw [hb.frozen (hlt _ hin)]
      exact hz b off hin
    · intro ha
      have := hn ha
      rw [hps] at this
      simpa using this
    · intro p hp _
      rw [hps]
      simpa using hp

/-- What a law's plain equation gives: the contract of its row. -/
theorem law_contract (hNG : NoNG P) (hm : P.follows .mixedOrders = true) (hl : laidOutB P = true) {f : FuncId} {fn : Func} {s : ChangeSpec} {tb : TypeId} (hfn : P.funcs[f]? = some fn)
    (hvars : s.vars = []) (hspec : ∀ ds : List (DataW H), ds.length = fn.params.size → s.fn H ds = { results := [.lit (.bool true)], args := ds }) (hplain : (fn.params.toList.all fun t => plainTy P 12 t) = true)
    (hread : (fn.params.toList.all fun t => P.readableRec t && Nat.blt t P.types.size) = true) (hrt : fn.resultTypes = #[tb]) (hub : P.underlying tb = some .bool)
    {apart fresh handsOn again : Bool} (W : World) (base : Nat) (args : Array Value) (ds gs : List (DataW H)) (before : List MemPlace)
    (hval : ∀ (j : Nat) t v, fn.params[j]? = some t → args[j]? = some v → Value.okWide P W .any base t v)
    (hW : DataW.Whole enc P fn.params.toList s.vars apart W args.toList ds gs before)
    (hlaw : ∀ qs : List PV, All2 (WTv P) fn.params.toList qs → ∃ C fu d, pcall C P fu d f qs = some ⟨[.sc (.bool true)], []⟩) :
    Calls P f args W fun e W' => ∃ v, e = .returned v ∧ s.post enc P fn apart fresh handsOn again W args v W' := by
  have hW' := hW
  obtain ⟨p, q, hA, hV, rfl, hfz, hnd⟩ := hW
  rw [hvars] at hV
  obtain ⟨rfl, rfl⟩ := trodVars_none hV
  obtain ⟨qs, h1, h2⟩ := read_args hplain (fun j t v ht hv => hval j t v (by simpa using ht) (by simpa using hv)) hA
  obtain ⟨C, fu, d, hc⟩ := hlaw qs h1
  have hS := (pcall_sound hNG hm d f qs _ hc).2 W No noBt args.toList (Ins_tree (fun b h => h.elim) h2)
  rw [Array.toArray_toList] at hS
  refine hS.mono fun e W' ⟨vs, own, he, ho⟩ => ?_
  have hv := ho.vals
  have hvs : vs = [.bool true] := by
    match vs, hv with
    | [u], hv =>
      have : TRep W' _ (.sc (.bool true)) u := hv.1
      rw [this.val]
    | [], hv => exact hv.elim
    | _ :: _ :: _, hv => exact hv.2.elim
  subst hvs
  subst he
  have hb : Below W.heap.size W W' := ⟨ho.os, ho.tape, ho.output, ho.ext.size, fun k hk => ho.ext.keep k hk (noBtX k)⟩
  have hlt : ∀ x ∈ p, x.block < W.heap.size := fun x hx => hW'.lt x (by simpa using hx)
  have hlen : ds.length = fn.params.size := by
    have : ∀ {ts : List TypeId} {vs : List Value} {ds : List (DataW H)} {p : List MemPlace}, DataW.TrodAll enc P W 0 (fun _ => true) true ts vs ds p → ds.length = ts.length := by
      intro ts
      induction ts with
      | nil => intro vs ds p h; cases vs <;> cases ds <;> first | rfl | cases h
      | cons t ts ih =>
        intro vs ds p h
        cases vs with
        | nil => cases h
        | cons v vs =>
          cases ds with
          | nil => cases h
          | cons d ds => obtain ⟨_, _, _, h2, _⟩ := h; simp [ih h2]
    simpa using this hA
  have hsp := hspec (ds ++ []) (by simpa using hlen)
  refine ⟨_, rfl, post_of_below (pa := p) (pv := []) hW' ?_ ?_ ?_ rfl hb ?_⟩
  · intro b sp hd
    rw [hsp, hrt]
    exact trodAll_mk1 (shut_bool hub _)
  · intro sp hspb
    rw [hsp]
    simp only [List.append_nil]
    exact trodAll_stays hl hread hA (fun x hx => hb.same (hlt x hx)) (fun x hx => hspb x (by simpa using hx))
  · intro sp _
    rw [hsp, hvars]
    rfl
  · exact ok_one hrt rfl (okWide_bool_mk hub _)
end

end Go.Proofs.Ytoihfmiifeegpaa.Pv
