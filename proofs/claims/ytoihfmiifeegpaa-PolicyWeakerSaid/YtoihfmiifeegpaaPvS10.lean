/-
  Operations of class R that make no call: numbers, strings, bools.
-/
import Derived.Test.YtoihfmiifeegpaaPvS9
namespace Go.Proofs.Ytoihfmiifeegpaa.Pv
open Go.RowKit

section
variable {R : Type} {r : R} {P : Program} {N : Nat} {w0 : World} {X0 : Lend} {Y : Nat → Prop} {β β' : Bt} {s : St} {a : Act} {w w' : World} {o : Oper} {A : Nat → Prop}

theorem len_gives (h : Sim N w0 X0 Y β s a w) {c : Call} (ho : o.op = .call c) (hc : c.callee = .builtin .len) {K : PV → Option R}
    (hk : (consK c.args.toList fun x _ => consK c.argTypes.toList fun t _ => lenK P t (opv s.tm x) fun n => K (.sc (.int .i64 n))) = some r) : ∃ v, K v = some r ∧ Gives P a w o Y β s v [] [] := by
  obtain ⟨x, xs, hxs, hk⟩ := consK_inv hk
  obtain ⟨t, ts, hts, hk⟩ := consK_inv hk
  have hx := opv_rep h x
  have hargs : c.args = (x :: xs).toArray := by rw [← hxs]
  have htys : c.argTypes = (t :: ts).toArray := by rw [← hts]
  have hrun : ∀ n : Nat, (Builtin.len_ c.argTypes o.type (c.args.map a.eval)).run P w = .ok (.int .i64 n) w → (execOp a.eval o).run P w = .ok (.value (.int .i64 n)) w := by
    intro n hl
    unfold execOp
    rw [ho]
    simp only [resolve, hc, invoke, builtin, Sem.run_bind, Sem.run_pure, Result.andThen_ok, hl]
  unfold lenK at hk
  split at hk
  · rename_i hu
    obtain ⟨sb, hxs', hk⟩ := strK_inv hk
    have hax := opv_sc h hxs'
    refine ⟨_, hk, gives_sc (hrun _ ?_)⟩
    simp [Builtin.len_, hargs, htys, run_underlying hu, hax, goInt]
  · rename_i n e hu
    refine ⟨_, hk, gives_sc (hrun _ ?_)⟩
    simp [Builtin.len_, hargs, htys, run_underlying hu, goInt]
  · rename_i e hu
    split at hk
    · rename_i id es off n e'
      rw [e'] at hx
      obtain ⟨_, hk⟩ := chk_inv hk
      refine ⟨_, hk, gives_sc (hrun _ ?_)⟩
      rcases hx with ⟨_, _, rfl, hax⟩ | ⟨b, ob, y, cap, _, hax, _⟩ <;> simp [Builtin.len_, hargs, htys, run_underlying hu, hax, goInt]
    · obtain ⟨z, n, cc, hk, hp⟩ := lsK_inv hk
      refine ⟨_, hk, gives_sc (hrun _ ?_)⟩
      rcases slice_form hp hx with ⟨hax, rfl, _⟩ | ⟨ad, cap, hax, _⟩ | ⟨ad, cap, hax, _, rfl, _⟩ <;> simp [Builtin.len_, hargs, htys, run_underlying hu, hax, goInt]
  · cases hk

theorem cap_gives (h : Sim N w0 X0 Y β s a w) {c : Call} (ho : o.op = .call c) (hc : c.callee = .builtin .cap) {K : PV → Option R}
    (hk : (consK c.args.toList fun x _ => consK c.argTypes.toList fun t _ => capK P t (opv s.tm x) fun n => K (.sc (.int .i64 n))) = some r) : ∃ v, K v = some r ∧ Gives P a w o Y β s v [] [] := by
  obtain ⟨x, xs, hxs, hk⟩ := consK_inv hk
  obtain ⟨t, ts, hts, hk⟩ := consK_inv hk
  have hx := opv_rep h x
  have hargs : c.args = (x :: xs).toArray := by rw [← hxs]
  have htys : c.argTypes = (t :: ts).toArray := by rw [← hts]
  have hrun : ∀ n : Nat, (Builtin.cap_ c.argTypes o.type (c.args.map a.eval)).run P w = .ok (.int .i64 n) w → (execOp a.eval o).run P w = .ok (.value (.int .i64 n)) w := by
    intro n hl
    unfold execOp
    rw [ho]
    simp only [resolve, hc, invoke, builtin, Sem.run_bind, Sem.run_pure, Result.andThen_ok, hl]
  unfold capK at hk
  split at hk
  · rename_i e hu
    obtain ⟨z, n, cc, hk, hp⟩ := lsK_inv hk
    obtain ⟨hz, hk⟩ := chk_inv hk
    refine ⟨_, hk, gives_sc (hrun _ ?_)⟩
    rcases slice_form hp hx with ⟨hax, rfl, _⟩ | ⟨ad, cap, hax, hzf, _⟩ | ⟨ad, cap, hax, hzf, _, _⟩
    · simp [Builtin.cap_, hargs, htys, run_underlying hu, hax, goInt]
    · rw [hz] at hzf; cases hzf
    · rw [hz] at hzf; cases hzf
  · cases hk

theorem min_gives (h : Sim N w0 X0 Y β s a w) {c : Call} (ho : o.op = .call c) (hc : c.callee = .builtin .min) {K : PV → Option R}
    (hk : (consK c.args.toList fun x r => consK r fun y r' => nilK r' (minK (opv s.tm x) (opv s.tm y) K)) = some r) : ∃ v, K v = some r ∧ Gives P a w o Y β s v [] [] := by
  obtain ⟨x, xs, hxs, hk⟩ := consK_inv hk
  obtain ⟨y, ys, rfl, hk⟩ := consK_inv hk
  obtain ⟨rfl, hk⟩ := nilK_inv hk
  obtain ⟨k, n, hx, hk⟩ := anyIntK_inv hk
  obtain ⟨m, hy, hk⟩ := intK_inv hk
  have hargs : c.args = #[x, y] := by
    have : c.args = ([x, y] : List Operand).toArray := by rw [← hxs]
    exact this
  refine ⟨_, hk, gives_sc ?_⟩
  unfold execOp
  rw [ho]
  simp [resolve, hc, invoke, builtin, hargs, Builtin.min_, Builtin.min2, opv_sc h hx, opv_sc h hy]

theorem max_gives (h : Sim N w0 X0 Y β s a w) {c : Call} (ho : o.op = .call c) (hc : c.callee = .builtin .max) {K : PV → Option R}
    (hk : (consK c.args.toList fun x r => consK r fun y r' => nilK r' (maxK (opv s.tm x) (opv s.tm y) K)) = some r) : ∃ v, K v = some r ∧ Gives P a w o Y β s v [] [] := by
  obtain ⟨x, xs, hxs, hk⟩ := consK_inv hk
  obtain ⟨y, ys, rfl, hk⟩ := consK_inv hk
  obtain ⟨rfl, hk⟩ := nilK_inv hk
  obtain ⟨k, n, hx, hk⟩ := anyIntK_inv hk
  obtain ⟨m, hy, hk⟩ := intK_inv hk
  have hargs : c.args = #[x, y] := by
    have : c.args = ([x, y] : List Operand).toArray := by rw [← hxs]
    exact this
  refine ⟨_, hk, gives_sc ?_⟩
  unfold execOp
  rw [ho]
  simp [resolve, hc, invoke, builtin, hargs, Builtin.max_, Builtin.max2, opv_sc h hx, opv_sc h hy]

theorem unOp_gives (h : Sim N w0 X0 Y β s a w) {op : UnOp} {t : TypeId} {x : Operand} (ho : o.op = .unOp op t x) {K : PV → Option R} (hk : unK op (opv s.tm x) K = some r) :
    ∃ v, K v = some r ∧ Gives P a w o Y β s v [] [] := by
  unfold unK at hk
  split at hk
  · obtain ⟨b, hb, hk⟩ := boolK_inv hk
    refine ⟨_, hk, gives_sc ?_⟩
    unfold execOp
    rw [ho]
    simp [Op.unary, opv_sc h hb]
  · obtain ⟨k, n, hb, hk⟩ := anyIntK_inv hk
    refine ⟨_, hk, gives_sc ?_⟩
    unfold execOp
    rw [ho]
    simp [Op.unary, Op.intArith, opv_sc h hb]
  · obtain ⟨k, n, hb, hk⟩ := anyIntK_inv hk
    refine ⟨_, hk, gives_sc ?_⟩
    unfold execOp
    rw [ho]
    simp [Op.unary, Op.intBits, opv_sc h hb, inot]
  · cases hk

theorem intOp_run {op : BinOp} {k : IntKind} {m n : Int} {t : TypeId} {x y : Operand} {K : PV → Option R} (hs1 : op ≠ .shl) (hs2 : op ≠ .shr) (hk : intOpK op k m n K = some r) :
    ∃ v, K (.sc v) = some r ∧ (do eqGuard op t x y (.int k m) (.int k n); binOp op t (.int k m) (.int k n)).run P w = .ok v w := by
  cases op <;> first
    | exact absurd rfl hs1
    | exact absurd rfl hs2
    | (obtain ⟨hb, hk⟩ := chk_inv hk; have hb := of_decide_eq_true hb; exact ⟨_, hk, by simp [eqGuard, binOp, Op.intDiv, hb]⟩)
    | exact ⟨_, hk, by simp [eqGuard, binOp, -BitVec.toNat_and, -BitVec.toNat_or, -BitVec.toNat_xor, -gt_iff_lt, -ge_iff_le] <;> rfl⟩

/-- Two rows of bytes. -/
theorem strOp_run {op : BinOp} {m n : ByteArray} {t : TypeId} {x y : Operand} {K : PV → Option R} (hk : strOpK op m n K = some r) :
    ∃ v, K (.sc v) = some r ∧ (do eqGuard op t x y (.string m) (.string n); binOp op t (.string m) (.string n)).run P w = .ok v w := by
  cases op <;> first
    | cases hk
    | (obtain ⟨hb, hk⟩ := chk_inv hk; have hb := of_decide_eq_true hb; exact ⟨_, hk, by
        have hb' : ¬ (((m.size + n.size : Nat) : Int) > IntKind.i64.max) := by
          have : IntKind.i64.max = 9223372036854775807 := rfl
          rw [this]; omega
        simp only [eqGuard, binOp, Op.stringOp, if_neg hb']
        rfl⟩)
    | exact ⟨_, hk, by simp only [eqGuard, binOp, Op.stringOp, ByteArray.toList_eq]; rfl⟩
end

end Go.Proofs.Ytoihfmiifeegpaa.Pv
