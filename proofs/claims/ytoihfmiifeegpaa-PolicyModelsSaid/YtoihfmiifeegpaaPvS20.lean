/-
  Appends, second part.
-/
import Derived.Test.YtoihfmiifeegpaaPvS19
import Derived.IntWalk
namespace Go.Proofs.Ytoihfmiifeegpaa.Pv
open Go.RowKit

section
variable {R : Type} {r : R} {P : Program} {N : Nat} {w0 : World} {X0 : Lend} {Y : Nat → Prop} {β β' : Bt} {s : St} {a : Act} {w w' : World} {o : Oper} {A : Nat → Prop}

/-- What is appended, in memory. -/
structure Src (P : Program) (w : World) (A : Nat → Prop) (size : Nat) (xv : Value) (m : Nat) (new : List PV) (news : List Value) : Prop where
  len : ∀ w' : World, (Builtin.lenOf xv).run P w' = .ok m w'
  cells : ∀ w' : World, (∀ b, b < w.heap.size → w'.heap[b]? = w.heap[b]?) → (Builtin.firstCells size m xv).run P w' = .ok news.toArray w'
  one : ∀ u ∈ news, u.oneCell' = true
  rep : All2 (TRep w A) new news

/-- The cells of a row of trees are single cells. -/
theorem srcK_inv (h : Sim N w0 X0 Y β s a w) {e tx : TypeId} {x : Operand} {K : Nat → List PV → Option R} (hk : srcK P s (szOf P e) tx (opv s.tm x) K = some r)
    (h1c : ∀ m new, K m new = some r → new.length = m * szOf P e) :
    (∃ d, P.underlying tx = some d ∧ (∀ k, d ≠ .int k)) ∧ ∃ m new news, K m new = some r ∧ Src P w (Aof s.hp β Y) (szOf P e) (a.eval x) m new news := by
  unfold srcK srcR at hk
  split at hk
  · rename_i hu
    obtain ⟨hes, hk⟩ := chk_inv hk
    have hes := Nat.eq_of_beq_eq_true hes
    obtain ⟨b, hx, hk⟩ := strK_inv hk
    have hax := opv_sc h hx
    refine ⟨⟨_, hu, by simp⟩, b.size, strCells b, b.data.toList.map (fun y => Value.int .u8 y.toNat), hk, ?_, ?_, ?_, ?_⟩
    · intro w'; rw [hax]; rfl
    · intro w' _
      rw [hax]
      have hx : b.data.extract 0 b.size = b.data := by
        have : b.size = b.data.size := rfl
        rw [this, Array.extract_size]
      have hd : (b.extract 0 b.size).data = b.data := by
        rw [ByteArray.extract_zero_size]
      simp only [Builtin.firstCells, hd]
      rw [← Array.toList_map, Array.toArray_toList]
      rfl
    · intro u hu; simp at hu; obtain ⟨y, _, rfl⟩ := hu; rfl
    · unfold strCells
      generalize b.data.toList = l
      induction l with
      | nil => trivial
      | cons y l ih => exact ⟨TRep.sc _, ih⟩
  · rename_i e' hu
    refine ⟨⟨_, hu, by simp⟩, ?_⟩
    obtain ⟨m, new, hk, hc⟩ := slcK_inv h hk
    have hlen := h1c m new hk
    rcases hc with ⟨hax, rfl, rfl⟩ | ⟨ad, cap, hax, hn, hlt, hrd⟩
    · exact ⟨0, [], [], hk, fun w' => by rw [hax]; rfl, fun w' _ => by rw [hax]; rfl, by simp, trivial⟩
    · refine ⟨m, new, new.mapIdx (fun j _ => (w.cell? (ad.add j)).getD undef), hk, fun w' => by rw [hax]; rfl, fun w' hw => ?_, ?_, ?_⟩
      · rw [hax]
        refine run_firstCells_some (P := P) w' (szOf P e) m ad m cap _ (by simp [hlen]) fun j v hj => ?_
        rw [List.getElem?_mapIdx] at hj
        cases hc : new[j]? with
        | none => rw [hc] at hj; cases hj
        | some c =>
          rw [hc] at hj
          simp at hj
          obtain ⟨u, hu, _⟩ := hrd j c hc
          rw [hu] at hj
          simp at hj
          subst hj
          have hlt : ad.block < w.heap.size := by rcases hlt with rfl | hlt; · simp at hc
                                                  · exact hlt
          rw [World.cell?_of_block (w := w) (by rw [add_block]; exact hw _ hlt)]
          exact hu
      · intro u hu
        obtain ⟨j, hj⟩ := List.mem_iff_getElem?.1 hu
        rw [List.getElem?_mapIdx] at hj
        cases hc : new[j]? with
        | none => rw [hc] at hj; cases hj
        | some c =>
          rw [hc] at hj
          simp at hj
          obtain ⟨v, hv, h2, ht⟩ := hrd j c hc
          rw [hv] at hj
          simp at hj
          subst hj
          exact h2
      · refine All2.of_at (by simp) fun j c v hc hj => ?_
        rw [List.getElem?_mapIdx, hc] at hj
        simp at hj
        obtain ⟨u, hu, _, ht⟩ := hrd j c hc
        rw [hu] at hj
        simp at hj
        subst hj
        exact ht
  · cases hk

theorem zinfOk_inv {e : TypeId} (h : zinfOk P e = true) : ∃ i z, P.info? e = some i ∧ i.zero = some z ∧ z.cells.size = i.size ∧ szOf P e = i.size := by
  unfold zinfOk at h
  split at h
  · rename_i i hi
    split at h
    · rename_i z hz
      exact ⟨i, z, hi, hz, Nat.eq_of_beq_eq_true h, by simp [szOf, hi]⟩
    · cases h
  · cases h

theorem run_first_slice {es n cap : Nat} {ad : Option Addr} {olds : List Value} (h : (ad = none ∧ olds = []) ∨ ∃ p, ad = some p ∧ olds.length = n * es ∧ ∀ (j : Nat) v, olds[j]? = some v → w.cell? (p.add j) = some v) :
    (Builtin.firstCells es n (.slice ad n cap)).run P w = .ok olds.toArray w := by
  rcases h with ⟨rfl, rfl⟩ | ⟨p, rfl, hl, hc⟩
  · rfl
  · exact run_firstCells_some (P := P) w es n p n cap olds hl hc

/-- An append that makes a new array. -/
theorem append_grow_run {t tx ty e : TypeId} {i : TypeInfo} {z : Value} {d : TypeDesc} {ts : List TypeId} (ht : P.underlying t = some (.slice e)) (htx : P.underlying tx = some d) (hd : ∀ k, d ≠ .int k) (hi : P.info? e = some i) (hz : i.zero = some z)
    {ad : Option Addr} {n cap m : Nat} {xv : Value} {olds news : List Value} {A : Nat → Prop} {new : List PV} (hs : Src P w A i.size xv m new news)
    (hold : (ad = none ∧ olds = []) ∨ ∃ p, ad = some p ∧ olds.length = n * i.size ∧ ∀ (j : Nat) v, olds[j]? = some v → w.cell? (p.add j) = some v)
    (hg : cap < n + m) (hb : (n + m) * i.bytes ≤ 1099511627776) (h63 : n + m ≤ 1099511627776) :
    (Builtin.append_ (t :: tx :: ts).toArray ty #[.slice ad n cap, xv]).run P w =
      .ok (.slice (some ⟨w.heap.size, 0, none⟩) (n + m) (grownCap w (n + m) cap e)) (w.drew.alloc (.cells (olds.toArray ++ news.toArray ++ Builtin.zeroCells z.cells (grownCap w (n + m) cap e - (n + m))) e)) := by
  have h1 := hs.len w
  have h2 : (Builtin.firstCells i.size m xv).run P w.drew = .ok news.toArray w.drew := hs.cells w.drew (fun _ _ => rfl)
  have h3 : (Builtin.firstCells i.size n (.slice ad n cap)).run P w.drew = .ok olds.toArray w.drew := run_first_slice (w := w.drew) (by
    rcases hold with hh | ⟨p, hp, hl, hc⟩
    · exact .inl hh
    · exact .inr ⟨p, hp, hl, fun j v hj => hc j v hj⟩)
  have hfit := growslice_fits (need := n + m) (old := cap) (bytes := i.bytes) hg (by omega)
  have hn : ¬ (n + m ≤ cap) := by omega
  have h63' : ¬ (9223372036854775807 < ((n : Int) + (m : Int))) := by omega
  have h48' : ¬ (281474976710656 < Builtin.nextslicecap (n + m) cap * i.bytes) := by omega
  have hzf : (match d with | .int _ => true | _ => false) = false := by cases d <;> first | rfl | exact absurd rfl (hd _)
  simp [Builtin.append_, run_underlying ht, run_underlying htx, hzf, sizeOf, typeInfo, zeroValue, hi, hz, h1, hn, h63', h48', Question.forced, h2, h3, newRow, grownCap]
  congr 2
  apply Array.ext'
  simp [List.append_assoc]

/-- An append within the capacity. -/
theorem append_room_run {t tx ty e : TypeId} {i : TypeInfo} {d : TypeDesc} {ts : List TypeId} (ht : P.underlying t = some (.slice e)) (htx : P.underlying tx = some d) (hd : ∀ k, d ≠ .int k) (hi : P.info? e = some i)
    {b ob n cap m : Nat} {xv : Value} {news : List Value} {A : Nat → Prop} {new : List PV} (hs : Src P w A i.size xv m new news) (hl : news.length = m * i.size)
    (hcell : ∀ k, k < news.length → (w.cell? ⟨b, ob + n * i.size + k, none⟩).isSome = true) (hfr : ∀ k, k < news.length → w.frozen? ⟨b, ob + n * i.size + k, none⟩ = false) (hg : n + m ≤ cap) :
    (Builtin.append_ (t :: tx :: ts).toArray ty #[.slice (some ⟨b, ob, none⟩) n cap, xv]).run P w = .ok (.slice (some ⟨b, ob, none⟩) (n + m) cap) (w.setCells b (ob + n * i.size) news) := by
  have h1 := hs.len w
  have h2 : (Builtin.firstCells i.size m xv).run P w = .ok news.toArray w := hs.cells w (fun _ _ => rfl)
  have h3 := run_storeCells_cells (P := P) b (ob + n * i.size) news 0 w (fun k hk => by simpa using hcell k hk) (fun k hk => by simpa using hfr k hk) hs.one
  have hzf : (match d with | .int _ => true | _ => false) = false := by cases d <;> first | rfl | exact absurd rfl (hd _)
  have _ := hl
  simp [Builtin.append_, run_underlying ht, run_underlying htx, hzf, sizeOf, typeInfo, hi, h1, hg, h2, add_mk]
  rw [h3]
  simp

theorem append_zero_none {t tx ty e : TypeId} {i : TypeInfo} {k kx : IntKind} {ts : List TypeId} (ht : P.underlying t = some (.slice e)) (htx : P.underlying tx = some (.int k)) (hi : P.info? e = some i) :
    (Builtin.append_ (t :: tx :: ts).toArray ty #[.slice none 0 0, .int kx 0]).run P w = .ok (.slice none 0 0) w := by
  have hw : IntKind.i64.wrap 0 = 0 := by decide
  simp [Builtin.append_, run_underlying ht, run_underlying htx, sizeOf, typeInfo, hi, asInt, asIntOf, hw]

theorem append_zero_run {t tx ty e : TypeId} {i : TypeInfo} {z : Value} {k kx : IntKind} {ts : List TypeId} (ht : P.underlying t = some (.slice e)) (htx : P.underlying tx = some (.int k)) (hi : P.info? e = some i) (hz : i.zero = some z)
    {n : Int} (h0 : 0 < n) (hb : n.toNat * i.bytes ≤ 1099511627776) (hn : n ≤ 1099511627776) :
    (Builtin.append_ (t :: tx :: ts).toArray ty #[.slice none 0 0, .int kx n]).run P w =
      .ok (.slice (some ⟨w.heap.size, 0, none⟩) n.toNat (grownCap w n.toNat 0 e)) (w.drew.alloc (.cells ((if n.toNat * i.size = 0 then #[] else Builtin.zeroCells z.cells n.toNat) ++ Builtin.zeroCells z.cells (grownCap w n.toNat 0 e - n.toNat)) e)) := by
  have hw : IntKind.i64.wrap n = n := IntWalk.i64_in n (by omega)
  have hfit := growslice_fits (need := n.toNat) (old := 0) (bytes := i.bytes) (by omega) (by omega)
  have hn0 : ¬ n < 0 := by omega
  have hnn : ¬ (281474976710656 < n * (i.bytes : Int)) := by
    have : n * (i.bytes : Int) = ((n.toNat * i.bytes : Nat) : Int) := by
      rw [Int.natCast_mul, Int.toNat_of_nonneg (by omega)]
    omega
  have hz0 : ¬ (n.toNat = 0) := by omega
  have h63' : ¬ (9223372036854775807 < (n.toNat : Int)) := by omega
  have h48' : ¬ (281474976710656 < Builtin.nextslicecap n.toNat 0 * i.bytes) := by omega
  have hle : ¬ n ≤ 0 := by omega
  have hmx : ¬ (9223372036854775807 < max n 0) := by omega
  by_cases hs : n.toNat * i.size = 0
  · simp [Builtin.append_, run_underlying ht, run_underlying htx, sizeOf, typeInfo, zeroValue, hi, hz, asInt, asIntOf, hw, hn0, hnn, hz0, hle, hmx, h63', h48', Question.forced, hs, newRow, grownCap, Builtin.firstCells]
  · simp [Builtin.append_, run_underlying ht, run_underlying htx, sizeOf, typeInfo, zeroValue, hi, hz, asInt, asIntOf, hw, hn0, hnn, hz0, hle, hmx, h63', h48', Question.forced, hs, newRow, grownCap, Builtin.firstCells]

theorem append_none_run {t tx ty e : TypeId} {i : TypeInfo} {d : TypeDesc} {ts : List TypeId} (ht : P.underlying t = some (.slice e)) (htx : P.underlying tx = some d) (hd : ∀ k, d ≠ .int k) (hi : P.info? e = some i)
    {xv : Value} {news : List Value} {A : Nat → Prop} {new : List PV} (hs : Src P w A i.size xv 0 new news) :
    (Builtin.append_ (t :: tx :: ts).toArray ty #[.slice none 0 0, xv]).run P w = .ok (.slice none 0 0) w := by
  have h1 := hs.len w
  have h2 : (Builtin.firstCells i.size 0 xv).run P w = .ok news.toArray w := hs.cells w (fun _ _ => rfl)
  have hzf : (match d with | .int _ => true | _ => false) = false := by cases d <;> first | rfl | exact absurd rfl (hd _)
  simp [Builtin.append_, run_underlying ht, run_underlying htx, hzf, sizeOf, typeInfo, hi, h1, h2]
end

end Go.Proofs.Ytoihfmiifeegpaa.Pv
