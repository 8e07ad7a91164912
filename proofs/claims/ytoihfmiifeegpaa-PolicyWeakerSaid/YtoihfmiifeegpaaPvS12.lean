/-
  Operations of class R that make no call: conversions, make, composite literals.
-/
import Derived.Test.YtoihfmiifeegpaaPvS11
import Derived.Laws.IdiomStrings
import Derived.Laws.MakeOwn
namespace Go.Proofs.Ytoihfmiifeegpaa.Pv
open Go.RowKit

section
variable {R : Type} {r : R} {P : Program} {N : Nat} {w0 : World} {X0 : Lend} {Y : Nat → Prop} {β β' : Bt} {s : St} {a : Act} {w w' : World} {o : Oper} {A : Nat → Prop}

theorem bytesOf_inv : ∀ {c : List PV} {l : List UInt8}, bytesOf c = some l → ∃ ns : List Int, c = ns.map (fun n => .sc (.int .u8 n)) ∧ l = ns.map fun n => n.toNat.toUInt8
  | [], l, h => ⟨[], rfl, by simp [bytesOf] at h; subst h; rfl⟩
  | p :: c, l, h => by
    unfold bytesOf at h
    split at h
    · rename_i e; cases e
    · rename_i n r e
      cases e
      cases hr : bytesOf c with
      | none => rw [hr] at h; cases h
      | some l' =>
        rw [hr] at h
        simp at h
        obtain ⟨ns, rfl, rfl⟩ := bytesOf_inv hr
        exact ⟨n :: ns, rfl, h.symm⟩
    · cases h

theorem foldl_push_ints : ∀ (ns : List Int) (b : ByteArray), ns.foldl (fun r n => r.push (UInt8.ofNat n.toNat)) b = ⟨b.data ++ (ns.map fun n => n.toNat.toUInt8).toArray⟩
  | [], b => by simp
  | n :: ns, b => by
    simp only [List.foldl_cons]
    rw [foldl_push_ints ns]
    simp [ByteArray.push]

theorem slcK_inv (h : Sim N w0 X0 Y β s a w) {es : Nat} {x : Operand} {K : Nat → List PV → Option R} (hk : slcK (rda s.hp) es (opv s.tm x) K = some r) :
    ∃ n c, K n c = some r ∧ ((a.eval x = .slice none 0 0 ∧ n = 0 ∧ c = []) ∨ ∃ ad cap, a.eval x = .slice (some ad) n cap ∧ n ≤ cap ∧ (c = [] ∨ ad.block < w.heap.size) ∧ RdT w (Aof s.hp β Y) ad c) := by
  have hx := opv_rep h x
  have hxr := opv_refs h x
  unfold slcK at hk
  split at hk
  · rename_i id es' off n e
    rw [e] at hx hxr
    cases hb : Nat.beq es' es
    · rw [hb] at hk; cases hk
    · rw [hb] at hk
      obtain ⟨c, hc, hk⟩ := optK_inv (show optK _ _ = some r from hk)
      obtain ⟨hl, hk⟩ := chk_inv hk
      have hl := of_decide_eq_true hl
      obtain ⟨f, hbox⟩ := rda_inv hc
      refine ⟨_, _, hk, ?_⟩
      rcases hx with ⟨_, rfl, rfl, hax⟩ | ⟨b, ob, y, cap, hβ, hax, hy, hn, _, hlt⟩
      · exact .inl ⟨hax, rfl, by simp⟩
      · refine .inr ⟨_, cap, hax, hn, .inr hlt, fun j p hj => ?_⟩
        have hpos : 0 < n * es := by
          rcases Nat.eq_zero_or_pos (n * es) with h0 | h0
          · rw [h0] at hj; simp at hj
          · exact h0
        have hn0 : n ≠ 0 := by rintro rfl; simp at hpos
        have hy : y = ob + off := by rcases hy with hy | ⟨h0, _⟩ <;> omega
        subst hy
        rw [List.getElem?_take] at hj
        split at hj
        · rw [List.getElem?_drop] at hj
          rcases h.box id _ hbox with ⟨h1, _⟩ | ⟨b', o', h1, h2, _⟩
          · rw [hβ] at h1; cases h1
          · rw [hβ] at h1; simp at h1; obtain ⟨rfl, rfl⟩ := h1
            obtain ⟨v, hv, h3, ht⟩ := h2 (off + j) p hj
            rw [add_mk] at hv
            exact ⟨v, by rw [add_mk, Nat.add_assoc]; exact hv, h3, ht⟩
        · cases hj
  · obtain ⟨z, n, c, hk, hp⟩ := lsK_inv hk
    refine ⟨n, c, hk, ?_⟩
    rcases slice_form hp hx with h1 | ⟨ad, cap, hax, _, hn, h1, h2, _, h4⟩ | ⟨ad, cap, hax, _, rfl, rfl⟩
    · exact .inl h1
    · exact .inr ⟨ad, cap, hax, hn, .inr h2, h4⟩
    · exact .inr ⟨ad, cap, hax, Nat.zero_le _, .inl rfl, fun j c hj => by simp at hj⟩

theorem str_cells (b : ByteArray) (j : Nat) (p : PV) (h : (strCells b)[j]? = some p) : ∃ x, b.data[j]? = some x ∧ p = .sc (.int .u8 x.toNat) := by
  unfold strCells at h
  rw [List.getElem?_map] at h
  cases hx : b.data.toList[j]? with
  | none => rw [hx] at h; cases h
  | some x =>
    rw [hx] at h
    simp at h
    exact ⟨x, by simpa using hx, h.symm⟩

theorem conv_gives (h : Sim N w0 X0 Y β s a w) {src dst : TypeId} {x : Operand} (ho : o.op = .convert src dst x) {d : Nat} {K : PV → List (Nat × Box) → Option R}
    (hk : convK P (rda s.hp) d src dst (opv s.tm x) K = some r) : ∃ v nw, K v nw = some r ∧ Gives P a w o Y β s v [] nw := by
  have hrun : ∀ v w', (convert src dst (a.eval x)).run P w = .ok v w' → (execOp a.eval o).run P w = .ok (.value v) w' := by
    intro v w' hv
    unfold execOp
    rw [ho]
    simp [hv]
  unfold convK at hk
  split at hk
  · rename_i k hu
    obtain ⟨hs, hk⟩ := chk_inv hk
    obtain ⟨k', n, hx, hk⟩ := anyIntK_inv hk
    exact ⟨_, _, hk, gives_sc (hrun _ _ (by rw [opv_sc h hx]; obtain ⟨ds, hds⟩ := Option.isSome_iff_exists.1 hs; cases ds <;> simp [convert, run_underlying hds, run_underlying hu, Conv.intToInt]))⟩
  · rename_i hu
    split at hk
    · rename_i hs
      obtain ⟨b, hx, hk⟩ := strK_inv hk
      exact ⟨_, _, hk, gives_sc (hrun _ _ (by rw [opv_sc h hx]; simp [convert, run_underlying hs, run_underlying hu]))⟩
    · rename_i e hs
      split at hk
      · rename_i he
        obtain ⟨n, c, hk, hc⟩ := slcK_inv h hk
        obtain ⟨hl, hk⟩ := chk_inv hk
        have hl := of_decide_eq_true hl
        obtain ⟨l, hb, hk⟩ := optK_inv hk
        obtain ⟨ns, rfl, rfl⟩ := bytesOf_inv hb
        refine ⟨_, _, hk, gives_sc (hrun _ _ ?_)⟩
        rcases hc with ⟨hax, rfl, hn⟩ | ⟨ad, cap, hax, _, _, hrd⟩
        · have : ns = [] := by simpa using hn
          subst this
          rw [hax, run_convert_bytes_string w src dst e none 0 0 hs he hu]
          rfl
        · rw [hax, run_convert_bytes_string w src dst e _ _ _ hs he hu]
          have hld : (loadCells ad n).run P w = .ok (ns.map (Value.int .u8)).toArray w := by
            have := run_loadCells_list (P := P) w ad (ns.map (Value.int .u8)) (fun j v hj => by
              rw [List.getElem?_map] at hj
              cases hn : ns[j]? with
              | none => rw [hn] at hj; cases hj
              | some m =>
                rw [hn] at hj
                simp at hj
                subst hj
                obtain ⟨v, hv, _, ht⟩ := hrd j (.sc (.int .u8 m)) (by rw [List.getElem?_map, hn]; rfl)
                rw [ht.val] at hv
                exact hv)
            simp only [List.length_map] at this hl
            rw [hl] at this
            exact this
          rw [run_bytesToString w ad n cap ns hld, foldl_push_ints]
          simp
      · cases hk
    · cases hk
  · rename_i e hu
    split at hk
    · rename_i he hs
      obtain ⟨b, hx, hk⟩ := strK_inv hk
      obtain ⟨hsz, hk⟩ := chk_inv hk
      have hr := run_bytes_of_string (P := P) w src dst e b hs hu he
      rw [← opv_sc h hx] at hr
      have hcap : b.size ≤ grownCap w b.size 0 e := by
        unfold grownCap
        simp [Question.cut]
      have hsize : (bytesRow b (grownCap w b.size 0 e)).size = grownCap w b.size 0 e := by
        simp only [bytesRow, Array.size_append, Array.size_map, Array.size_replicate]
        have : b.data.size = b.size := rfl
        omega
      refine ⟨_, _, hk, gives_row (c := bytesRow b (grownCap w b.size 0 e)) (e := e) (by simp) (hrun _ _ hr) ?_ (fun j p hj => ?_) (.inr ⟨1, b.size, grownCap w b.size 0 e, rfl, rfl, hcap, by rw [hsize]; omega⟩)⟩
      · exact ⟨rfl, rfl, rfl, fun i hi => Below.heap_alloc w.drew _ i hi, by show (w.heap.push _).size = _; simp, _, by show (w.heap.push _)[w.heap.size]? = _; simp; rfl, .inr (Nat.le_refl _)⟩
      · obtain ⟨y, hy, rfl⟩ := str_cells b j p hj
        refine ⟨.int .u8 y.toNat, ?_, rfl, TRep.sc _⟩
        have hlt : j < b.data.size := by
          rcases Nat.lt_or_ge j b.data.size with h | h
          · exact h
          · rw [Array.getElem?_eq_none h] at hy; cases hy
        simp only [bytesRow]
        rw [Array.getElem?_append_left (by simpa using hlt), Array.getElem?_map, hy]
        rfl
    · cases hk
  · cases hk
end

end Go.Proofs.Ytoihfmiifeegpaa.Pv
