/-
  The operation that calls a function.
-/
import Derived.Test.YtoihfmiifeegpaaPvS15
namespace Go.Proofs.Ytoihfmiifeegpaa.Pv
open Go.RowKit

section
variable {R : Type} {r : R} {P : Program} {N : Nat} {w0 : World} {X0 : Lend} {Y : Nat → Prop} {β β' : Bt} {s : St} {a : Act} {w w' : World} {o : Oper} {A : Nat → Prop}

theorem OCells.len : ∀ {j : Nat} {own : Bt} {ps : List PV} {us : List Value}, OCells w A own j ps us → ps.length = us.length
  | _, _, [], [], _ => rfl
  | _, _, _ :: _, _ :: _, h => by simp [OCells.len h.2]
  | _, _, [], _ :: _, h => h.elim
  | _, _, _ :: _, [], h => h.elim

theorem OCells.at_ : ∀ {j : Nat} {own : Bt} {ps : List PV} {us : List Value}, OCells w A own j ps us → ∀ {i : Nat} {p}, ps[i]? = some p → ∃ u, us[i]? = some u ∧ OCell w A (own (j + i)) p u
  | _, _, [], [], _, i, p, h => by simp at h
  | j, own, _ :: _, u :: _, h, 0, p, hp => by simp at hp; subst hp; exact ⟨u, rfl, h.1⟩
  | j, own, _ :: _, _ :: _, h, i + 1, p, hp => by
    simp at hp
    obtain ⟨u, hu, hc⟩ := OCells.at_ h.2 hp
    exact ⟨u, by simpa using hu, by rw [show j + (i + 1) = j + 1 + i from by omega]; exact hc⟩
  | _, _, [], _ :: _, h, _, _, _ => h.elim
  | _, _, _ :: _, [], h, _, _, _ => h.elim

/-- The boxes that come with a list of values, by their places. -/
def BoxAt (N id : Nat) (β' : Bt) (w : World) (A : Nat → Prop) (z n : Nat) (bs : List (Nat × Box)) : Prop :=
  ∀ i bx, (i, bx) ∈ bs → (∃ j, i = id + N * j ∧ j < n) ∧ liveB (some bx) ∧ BRep w A β' i bx ∧ ∀ cs, bx = .st cs → ∀ b o, β' i = some (b, o) → z ≤ b

/-- What boxes refer to is among them. -/
def RefsIn (bs : List (Nat × Box)) : Prop := ∀ i cells, (i, .st cells) ∈ bs → ∀ c ∈ cells, ∀ i' ∈ refsC c, ∃ bx, (i', bx) ∈ bs

theorem own_brep {q : Option (Nat × Nat)} {es n i : Nat} {c : List PV} {u : Value} (h : OCell w A q (.own es n c) u) (hβ : β' i = q) : BRep w A β' i (.ar false c) := by
  rcases h with ⟨h1, _, h2, _⟩ | ⟨b, o, cap, h1, _, _, _, _, h6, h7⟩
  · exact .inl ⟨hβ.trans h1, h2⟩
  · exact .inr ⟨b, o, hβ.trans h1, h6, fun _ => h7, (fun x => by cases x)⟩

theorem hasSl_one {t : TypeId} (h : hasSl P [t] = false) : ptrTo P t = none ∧ ∀ es, CT.sl es ∉ cty P t := by
  simp only [hasSl, List.any_cons, List.any_nil, Bool.or_false, Bool.or_eq_false_iff] at h
  refine ⟨by simpa using h.1, fun es hm => ?_⟩
  have := List.any_eq_false.1 h.2 _ hm
  simp at this

/-- One value that a call hands back. -/
theorem unvK_inv (shr : Bool) (N : Nat) {t : TypeId} {p : PV} {id : Nat} {K : PV → List (Nat × Box) → Option R} (hk : unvK P shr N id t p K = some r) :
    ∃ v bs, K v bs = some r ∧ plc p = plcs P t ∧ (∀ x, v ≠ .tup x) ∧ (hasSl P [t] = false → bs = [] ∧ ∀ c ∈ cellsOf v, ∃ u, c = .sc u) ∧ (∀ i ∈ refs1 v, ∃ bx, (i, bx) ∈ bs) ∧ RefsIn bs ∧
      ∀ (w : World) (A : Nat → Prop) (own β' : Bt) (z j0 : Nat) (u : Value), (∀ j, (∃ bx, (id + N * j, bx) ∈ bs) → β' (id + N * j) = own (j0 + j)) → OVal w A own z j0 p u → V1Rep w A β' v u ∧ BoxAt N id β' w A z (plc p) bs := by
  have boxes : ∀ {bs : List (Nat × Box)} {ps : List PV} {id : Nat}, (∀ i bx, (i, bx) ∈ bs → ∃ j es n c, ps[j]? = some (.own es n c) ∧ i = id + N * j ∧ bx = .ar false c) →
      RefsIn bs ∧ ∀ (w : World) (A : Nat → Prop) (own β' : Bt) (j0 : Nat) (us : List Value), (∀ j, (∃ bx, (id + N * j, bx) ∈ bs) → β' (id + N * j) = own (j0 + j)) → OCells w A own j0 ps us → ∀ z, BoxAt N id β' w A z ps.length bs := by
    intro bs ps id hb1
    refine ⟨fun i cells hm => ?_, fun w A own β' j0 us hβ ho z i bx hm => ?_⟩
    · obtain ⟨_, _, _, _, _, _, h3⟩ := hb1 i _ hm
      cases h3
    · obtain ⟨j, es, n, cc, h1, h2, h3⟩ := hb1 i bx hm
      obtain ⟨u, hu, hoc⟩ := ho.at_ h1
      subst h3
      refine ⟨⟨j, h2, ?_⟩, trivial, own_brep hoc ?_, fun _ e => by cases e⟩
      · rcases Nat.lt_or_ge j ps.length with h | h
        · exact h
        · rw [List.getElem?_eq_none h] at h1; cases h1
      · rw [h2]
        exact hβ j ⟨_, h2 ▸ hm⟩
  unfold unvK at hk
  split at hk
  · rename_i e he
    obtain ⟨ps, rfl, hk⟩ := pboxK_inv hk
    obtain ⟨cs, bs, hk, hl, hpag, hF, hsl, hb1, hb2, hcv⟩ := uncsK_inv shr N hk
    obtain ⟨hri, hbx⟩ := boxes hb1
    refine ⟨.ptr id 0, _, hk, by simp only [plc, plcs, he, hl], by simp, fun h => ?_, fun i hi => ?_, fun i cells hm c hc i' hi' => ?_, fun w A own β' z j0 u hβ ho => ?_⟩
    · have := (hasSl_one h).1
      rw [he] at this; cases this
    · simp only [refs1, refsC, List.mem_singleton] at hi
      subst hi
      exact ⟨_, List.mem_cons_self⟩
    · rcases List.mem_cons.1 hm with e | hm
      · cases e
        obtain ⟨bx, hb⟩ := hb2 c hc i' hi'
        exact ⟨bx, List.mem_cons_of_mem _ hb⟩
      · obtain ⟨bx, hb⟩ := hri i cells hm c hc i' hi'
        exact ⟨bx, List.mem_cons_of_mem _ hb⟩
    · obtain ⟨b, o, h1, hz, rfl, vs, h3, h4, h5⟩ := ho
      have h0 := hβ 0 ⟨_, by rw [Nat.mul_zero, Nat.add_zero]; exact List.mem_cons_self⟩
      rw [Nat.mul_zero, Nat.add_zero, Nat.add_zero, h1] at h0
      have hid : ∀ j, id + N + N * j = id + N * (j + 1) := fun j => by rw [Nat.mul_add]; omega
      have hβ1 : ∀ j, (∃ bx, (id + N + N * j, bx) ∈ bs) → β' (id + N + N * j) = own (j0 + 1 + j) := fun j ⟨bx, hm⟩ => by
        rw [hid, hβ (j + 1) ⟨bx, by rw [← hid]; exact List.mem_cons_of_mem _ hm⟩]
        congr 1; omega
      have hc2 := hcv w A own β' (j0 + 1) vs hβ1 h3
      have hb3 := hbx w A own β' (j0 + 1) vs hβ1 h3 z
      have hlen : cs.length = ps.length := by rw [hc2.len, ← h3.len]
      refine ⟨⟨b, o, h0, by simp⟩, fun i bx hm => ?_⟩
      rcases List.mem_cons.1 hm with e | hm
      · cases e
        refine ⟨⟨0, by simp, by simp only [plc]; omega⟩, trivial, ⟨b, o, h0, fun k c hk => ?_, fun k hk => h5 k (by omega)⟩, fun _ _ b' o' hb' => ?_⟩
        · obtain ⟨v, hv, hcr⟩ := hc2.get hk
          exact ⟨v, h4 k v hv, hcr⟩
        · rw [h0] at hb'
          cases hb'
          exact hz
      · obtain ⟨⟨j, hj, hjn⟩, h6, h7⟩ := hb3 i bx hm
        exact ⟨⟨j + 1, by rw [hj, hid], by simp only [plc]; omega⟩, h6, h7⟩
  · rename_i hnp
    have hpl : plcs P t = (cty P t).length := by simp only [plcs, hnp]
    cases hagg : isAggB P t
    · rw [hagg] at hk
      obtain ⟨cs, bs, hk, hl, hpag, hF, hsl, hb1, hb2, hcv⟩ := uncsK_inv shr N (show uncsK _ _ _ _ _ _ = some r from hk)
      obtain ⟨c, t', rfl, hk⟩ := consK_inv hk
      obtain ⟨rfl, hk⟩ := nilK_inv hk
      have hFc := hF c (by simp)
      have hnpb : ∀ x, p ≠ .pbox x := fun x => (hpag p (by simp) x).2
      have hnag : ∀ x, c ≠ .agg x := by rintro x rfl; exact hFc
      have hntu : ∀ x, c ≠ .tup x := by rintro x rfl; exact hFc
      have hr1 : refs1 c = refsC c := by cases c <;> first | rfl | exact absurd rfl (hnag _)
      have hpa : ∀ x, p ≠ .agg x := fun x => (hpag p (by simp) x).1
      obtain ⟨hri, hbx⟩ := boxes hb1
      have hcell : cellsOf p = [p] := by cases p <;> first | rfl | exact absurd rfl (hpa _)
      have hplc : plc p = 1 := by cases p <;> first | rfl | exact absurd rfl (hpa _) | exact absurd rfl (hnpb _)
      have hcc : cellsOf c = [c] := by cases c <;> first | rfl | exact absurd rfl (hnag _)
      refine ⟨c, bs, hk, by rw [hplc, hpl]; exact hl, hntu, fun hne => by rw [hcc]; exact hsl (hasSl_one hne).2, fun i hi => hb2 c (by simp) i (by rw [← hr1]; exact hi), hri, fun w A own β' z j0 u hβ ho => ?_⟩
      have ho' : OCell w A (own j0) p u := by cases p <;> first | exact ho | exact absurd rfl (hpa _) | exact absurd rfl (hnpb _)
      exact ⟨(V1Rep_C hnag).2 (hcv w A own β' j0 [u] hβ ⟨ho', trivial⟩).1, by rw [hplc]; exact hbx w A own β' j0 [u] hβ ⟨ho', trivial⟩ z⟩
    · rw [hagg] at hk
      obtain ⟨ps, rfl, hk⟩ := aggK_inv (show aggK _ _ = some r from hk)
      obtain ⟨cs, bs, hk, hl, hpag, hF, hsl, hb1, hb2, hcv⟩ := uncsK_inv shr N hk
      obtain ⟨hri, hbx⟩ := boxes hb1
      refine ⟨.agg cs, bs, hk, by rw [hpl]; exact hl, by simp, fun hne => hsl (hasSl_one hne).2, fun i hi => ?_, hri, fun w A own β' z j0 u hβ ho => ?_⟩
      · obtain ⟨c, hc, hi⟩ := List.mem_flatMap.1 (show i ∈ cs.flatMap refsC from hi)
        exact hb2 c hc i hi
      · obtain ⟨vs, rfl, ho⟩ := ho
        exact ⟨⟨vs, rfl, hcv w A own β' j0 vs hβ ho⟩, hbx w A own β' j0 vs hβ ho z⟩

theorem unvsK_inv (shr : Bool) (N : Nat) : ∀ {ts : List TypeId} {ps : List PV} {id : Nat} {K : List PV → List (Nat × Box) → Option R}, unvsK P shr N id ts ps K = some r →
    ∃ vs bs, K vs bs = some r ∧ vs.length = ps.length ∧ (∀ v ∈ vs, ∀ x, v ≠ .tup x) ∧ (hasSl P ts = false → bs = [] ∧ ∀ v ∈ vs, ∀ c ∈ cellsOf v, ∃ u, c = .sc u) ∧ (∀ v ∈ vs, ∀ i ∈ refs1 v, ∃ bx, (i, bx) ∈ bs) ∧ RefsIn bs ∧
      ∀ (w : World) (A : Nat → Prop) (own β' : Bt) (z j0 : Nat) (us : List Value), (∀ j, (∃ bx, (id + N * j, bx) ∈ bs) → β' (id + N * j) = own (j0 + j)) → OVals w A own z j0 ps us → All2 (V1Rep w A β') vs us ∧ BoxAt N id β' w A z (plcSum ps) bs
  | [], ps, id, K, hk => by
    obtain ⟨rfl, hk⟩ := nilK_inv hk
    refine ⟨[], [], hk, rfl, by simp, by simp, by simp, (by intro i cells hm; cases hm), fun w A own β' z j0 us _ h => ?_⟩
    cases us with
    | nil => exact ⟨trivial, by intro i bx hm; cases hm⟩
    | cons u us => exact h.elim
  | t :: ts, ps, id, K, hk => by
    unfold unvsK at hk
    obtain ⟨p, ps', hps, hk1⟩ := consK_inv hk
    subst hps
    clear hk
    obtain ⟨v, bs, hk, hl, hnt, hsl, hr1, hri, hv⟩ := unvK_inv shr N hk1
    obtain ⟨vs, bs', hk, hvl, hnts, hsls, hrs, hris, hvs⟩ := unvsK_inv shr N hk
    refine ⟨v :: vs, bs ++ bs', hk, by simp [hvl], ?_, ?_, ?_, ?_, fun w A own β' z j0 us hβ ho => ?_⟩
    · intro x hx
      rcases List.mem_cons.1 hx with rfl | hx
      · exact hnt
      · exact hnts x hx
    · intro hne
      simp only [hasSl, List.any_cons, Bool.or_eq_false_iff] at hne
      obtain ⟨h1, h2⟩ := hsl (by simp only [hasSl, List.any_cons, List.any_nil, Bool.or_false, Bool.or_eq_false_iff]; exact hne.1)
      obtain ⟨h3, h4⟩ := hsls (by simp only [hasSl]; exact hne.2)
      refine ⟨by rw [h1, h3]; rfl, fun x hx => ?_⟩
      rcases List.mem_cons.1 hx with rfl | hx
      · exact h2
      · exact h4 x hx
    · intro x hx i hi
      rcases List.mem_cons.1 hx with rfl | hx
      · obtain ⟨bx, hm⟩ := hr1 i hi; exact ⟨bx, by simp [hm]⟩
      · obtain ⟨bx, hm⟩ := hrs x hx i hi; exact ⟨bx, by simp [hm]⟩
    · intro i cells hm c hc i' hi'
      rcases List.mem_append.1 hm with hm | hm
      · obtain ⟨bx, hb⟩ := hri i cells hm c hc i' hi'; exact ⟨bx, by simp [hb]⟩
      · obtain ⟨bx, hb⟩ := hris i cells hm c hc i' hi'; exact ⟨bx, by simp [hb]⟩
    · cases us with
      | nil => exact ho.elim
      | cons u us =>
        obtain ⟨h1, hb1⟩ := hv w A own β' z j0 u (fun j ⟨bx, hm⟩ => hβ j ⟨bx, by simp [hm]⟩) ho.1
        have hid : ∀ j, id + N * plcs P t + N * j = id + N * (plcs P t + j) := fun j => by rw [Nat.mul_add]; omega
        obtain ⟨h2, hb2⟩ := hvs w A own β' z (j0 + plc p) us (fun j ⟨bx, hm⟩ => by rw [hid, hβ _ ⟨bx, by rw [← hid]; simp [hm]⟩, hl]; congr 1; omega) ho.2
        refine ⟨⟨h1, h2⟩, fun i bx hm => ?_⟩
        rcases List.mem_append.1 hm with hm | hm
        · obtain ⟨⟨j, hj, hjn⟩, h4, h5⟩ := hb1 i bx hm
          exact ⟨⟨j, hj, by simp only [plcSum, List.map_cons, List.sum_cons]; omega⟩, h4, h5⟩
        · obtain ⟨⟨j, hj, hjn⟩, h4, h5⟩ := hb2 i bx hm
          refine ⟨⟨_, by rw [hj, hid], ?_⟩, h4, h5⟩
          simp only [plcSum, List.map_cons, List.sum_cons] at hjn ⊢
          omega

/-- New names for the boxes that a call hands back. -/
def newB (N d : Nat) (bs : List (Nat × Box)) (own β : Bt) : Bt := fun i => if (bs.any fun q => Nat.beq q.1 i) = true then own ((i - d) / N) else β i

theorem any_at {bs : List (Nat × Box)} {i : Nat} : (bs.any fun q => Nat.beq q.1 i) = true ↔ ∃ bx, (i, bx) ∈ bs := by
  rw [List.any_eq_true]
  constructor
  · rintro ⟨⟨j, bx⟩, hm, e⟩
    have := Nat.eq_of_beq_eq_true e
    subst this
    exact ⟨bx, hm⟩
  · rintro ⟨bx, hm⟩
    exact ⟨_, hm, Nat.beq_refl i⟩

theorem newB_at {N d j : Nat} (hN : 0 < N) {bs : List (Nat × Box)} {own β : Bt} (h : ∃ bx, (d + N * j, bx) ∈ bs) : newB N d bs own β (d + N * j) = own j := by
  unfold newB
  rw [if_pos (any_at.2 h), Nat.add_sub_cancel_left, Nat.mul_div_cancel_left _ hN]

theorem call_run {c : Call} {f : FuncId} (ho : o.op = .call c) (hc : c.callee = .value (.func f)) (hNG : NoNG P) {fn : Func} (hf : P.funcs[f]? = some fn) (hb : fn.body.isSome = true) :
    (execOp a.eval o).run P w = .ok (.enter f (c.args.map a.eval)) w := by
  unfold execOp
  rw [ho]
  have hn : ¬ fn.body = none := by
    intro h
    rw [h] at hb; cases hb
  have hne : ¬ fn.name = "runtime.NumGoroutine" := by simpa using hNG f fn hf
  simp [resolve, hc, Act.eval, Deferred.ofValue, invoke, callFunc, hf, hne, hn]

theorem markNil_rep {A' : Nat → Prop} (k : Bool) : ∀ {xs : List Operand} {ps : List PV}, All2 (ARep w A') ps (xs.map a.eval) → All2 (ARep w A') (markNil k xs ps) (xs.map a.eval)
  | [], [], h => h
  | [], _ :: _, h => h
  | _ :: _, [], h => h
  | x :: xs, p :: ps, h => by
    simp only [List.map_cons] at h ⊢
    refine ⟨?_, markNil_rep k h.2⟩
    split
    · exact ⟨trivial, TRep.lnil _ _⟩
    · exact h.1

theorem call_gives (h : Sim N w0 X0 Y β s a w) (hNG : NoNG P) {C : Cfg} {call : Call'} (hcall : ∀ f args res, call f args = some res → SoundC P f args res) {c : Call} {f : FuncId} (ho : o.op = .call c) (hc : c.callee = .value (.func f))
    {K : PV → List Nat → List (Nat × Box) → Option R}
    (hk : (frvsK P (rda s.hp) c.argTypes.toList (c.args.toList.map (opv s.tm)) fun vs m =>
          callK (call f (markNil (C.kz f) c.args.toList vs)) fun rv ro => nilK ro (chk (Nat.blt 0 N) <| unvsK P (C.shr f) N (o.dst.getD 0) (resTys P o.type) rv fun ws bs =>
            chk (bif isTup P o.type then !Nat.beq ws.length 1 else Nat.beq ws.length 1) <| K (packVals ws (isTup P o.type)) (bif hasSl P (resTys P o.type) then m else []) bs)) = some r) : ∃ v fz nw, K v fz nw = some r ∧ GivesW P a w o Y β s v fz nw := by
  obtain ⟨ps, m, hk, hm, hargs⟩ := frvsK_inv h hk
  replace hargs := fun fz h1 h2 => markNil_rep (a := a) (C.kz f) (hargs fz h1 h2)
  generalize markNil (C.kz f) c.args.toList ps = ps at hk hargs
  obtain ⟨rv, ro, hcl, hk⟩ := callK_inv hk
  obtain ⟨rfl, hk⟩ := nilK_inv hk
  obtain ⟨hN, hk⟩ := chk_inv hk
  have hN : 0 < N := Nat.lt_of_succ_le (Nat.le_of_ble_eq_true hN)
  obtain ⟨ws, bs, hk, hwl, hnt, hsl, hrs, hri, hws⟩ := unvsK_inv (C.shr f) N hk
  obtain ⟨htup, hk⟩ := chk_inv hk
  obtain ⟨⟨fn, hfn, hfb⟩, hcs⟩ := hcall f ps _ hcl
  -- what is shared
  obtain ⟨fz, hfz, hfm⟩ : ∃ fz : List Nat, fz = (bif hasSl P (resTys P o.type) then m else []) ∧ ∀ id ∈ fz, ∃ f c, s.hp id = some (.ar f c) := by
    refine ⟨_, rfl, fun id hid => ?_⟩
    cases hh : hasSl P (resTys P o.type) <;> rw [hh] at hid
    · cases hid
    · exact hm id hid
  rw [← hfz] at hk
  refine ⟨_, _, _, hk, hfm, fun next Q hn => ?_⟩
  have hf := h.freeze hfm
  -- what the callee must keep out of
  have hYc : ∃ Yc : Nat → Prop, (∀ b, Yc b → b < w.heap.size) ∧ All2 (ARep w Yc) ps (c.args.toList.map a.eval) ∧ ((∀ b, Aof (freezeIds s.hp fz) β Y b → Yc b) ∨ hasSl P (resTys P o.type) = false) := by
    have hall := hargs m (fun _ hi => hi) hm
    cases hh : hasSl P (resTys P o.type)
    · exact ⟨fun _ => False, fun _ x => x.elim, hall.mono fun _ _ hx => hx.weaken (fun _ _ x => x.elim), .inr rfl⟩
    · rw [hh] at hfz
      have hfz : fz = m := hfz
      subst hfz
      refine ⟨Aof (freezeIds s.hp fz) β Y, fun b hb => ?_, hall, .inl fun _ x => x⟩
      rcases hb with ⟨id, ob, hl, hβ⟩ | hY
      · exact hf.blt id b ob (liveB_some hl) hβ
      · exact Nat.lt_of_lt_of_le (h.Ylt b hY) h.fr.step.size
  obtain ⟨Yc, hYlt, hYargs, hYA⟩ := hYc
  unfold Oper.wp
  rw [call_run ho hc hNG hfn hfb]
  show Calls P f _ w _
  have hca : c.args.map a.eval = (c.args.toList.map a.eval).toArray := by rw [← List.map_toArray, Array.toArray_toList]
  rw [hca]
  refine (hcs w Yc noBt _ (Ins_tree hYlt hYargs)).mono ?_
  rintro e w' ⟨vs, own, rfl, hout⟩
  refine hn (retVal vs) w' fun hab => ⟨newB N (o.dst.getD 0) bs own β, ?_⟩
  obtain ⟨ha1, ha2⟩ := absent_spec hab
  have hnone : ∀ i bx, (i, bx) ∈ bs → freezeIds s.hp fz i = none := fun i bx hm => freeze_none.2 (ha1 i bx hm)
  obtain ⟨hg1, hg2⟩ := addBoxes_get (hp := freezeIds s.hp fz) ha2
  have hold : ∀ i, freezeIds s.hp fz i ≠ none → newB N (o.dst.getD 0) bs own β i = β i := by
    intro i hi
    unfold newB
    rw [if_neg]
    intro hx
    obtain ⟨bx, hm⟩ := any_at.1 hx
    exact hi (hnone i bx hm)
  obtain ⟨hvs, hba⟩ := hws w' _ own (newB N (o.dst.getD 0) bs own β) w.heap.size 0 vs (fun j hj => by rw [newB_at hN hj, Nat.zero_add]) hout.vals
  have hnew : ∀ i bx, (i, bx) ∈ bs → ∃ j, i = o.dst.getD 0 + N * j ∧ newB N (o.dst.getD 0) bs own β i = own j := by
    intro i bx hm
    obtain ⟨⟨j, rfl, _⟩, _, _⟩ := hba i bx hm
    exact ⟨j, rfl, newB_at hN ⟨bx, hm⟩⟩
  have hAA : hasSl P (resTys P o.type) = false ∨ ∀ b, Aof (addBoxes (freezeIds s.hp fz) bs) (newB N (o.dst.getD 0) bs own β) Y b → OutA noBt own Yc b := by
    rcases hYA with hYA | hYA
    · refine .inr fun b hb => ?_
      rcases hb with ⟨i, ob, hl, hβ⟩ | hY
      · by_cases hi : ∃ bx, (i, bx) ∈ bs
        · obtain ⟨bx, hm⟩ := hi
          obtain ⟨j, _, h3⟩ := hnew i bx hm
          rw [h3] at hβ
          exact .inl ⟨j, ob, hβ⟩
        · rw [hg2 i (fun bx hm => hi ⟨bx, hm⟩)] at hl
          rw [hold i (liveB_some hl)] at hβ
          exact .inr (.inr (hYA b (.inl ⟨i, ob, hl, hβ⟩)))
      · exact .inr (.inr (hYA b (.inr hY)))
    · exact .inl hYA
  have hval : VRep w' (Aof (addBoxes (freezeIds s.hp fz) bs) (newB N (o.dst.getD 0) bs own β) Y) (newB N (o.dst.getD 0) bs own β) (packVals ws (isTup P o.type)) (retVal vs) := by
    have hall : All2 (V1Rep w' (Aof (addBoxes (freezeIds s.hp fz) bs) (newB N (o.dst.getD 0) bs own β) Y) (newB N (o.dst.getD 0) bs own β)) ws vs := by
      rcases hAA with hno | hAA
      · obtain ⟨_, hsc⟩ := hsl hno
        refine hvs.mono_mem fun v hv u hvu => ?_
        have hsc := hsc v hv
        cases v with
        | agg cs =>
          obtain ⟨xs, rfl, hxs⟩ := hvu
          refine ⟨xs, rfl, hxs.mono_mem fun cc hcc x hx => ?_⟩
          obtain ⟨y, rfl⟩ := hsc cc hcc
          have := TRep.val (w := w') hx
          subst this
          exact TRep.sc _
        | sc y =>
          have := TRep.val (w := w') hvu
          subst this
          exact TRep.sc _
        | lst z es n cc => obtain ⟨y, hy⟩ := hsc _ (List.mem_singleton_self _); cases hy
        | own es n cc => obtain ⟨y, hy⟩ := hsc _ (List.mem_singleton_self _); cases hy
        | view i es n cc => obtain ⟨y, hy⟩ := hsc _ (List.mem_singleton_self _); cases hy
        | ptr i cc => obtain ⟨y, hy⟩ := hsc _ (List.mem_singleton_self _); cases hy
        | iptr i cc => obtain ⟨y, hy⟩ := hsc _ (List.mem_singleton_self _); cases hy
        | pbox cc => obtain ⟨y, hy⟩ := hsc _ (List.mem_singleton_self _); cases hy
        | tup cc => obtain ⟨y, hy⟩ := hsc _ (List.mem_singleton_self _); cases hy
        | top => obtain ⟨y, hy⟩ := hsc _ (List.mem_singleton_self _); cases hy
        | ub => obtain ⟨y, hy⟩ := hsc _ (List.mem_singleton_self _); cases hy
      · exact hvs.mono fun v u hvu => hvu.step (WStep.refl _ _) (fun b _ => hAA b) (fun _ _ => rfl)
    have hlen := hall.len
    cases hT : isTup P o.type
    · rw [hT] at htup
      have h1 : ws.length = 1 := Nat.eq_of_beq_eq_true htup
      match ws, vs, h1, hlen with
      | [v], [u], _, _ =>
        exact (VRep_V1 (hnt v (by simp))).2 hall.1
    · rw [hT] at htup
      have h1 : ¬ ws.length = 1 := by
        intro e
        rw [e] at htup
        cases htup
      have hr : retVal vs = .tuple ⟨vs⟩ := by
        unfold retVal
        split
        · simp at hlen; omega
        · rfl
      rw [hr]
      exact ⟨vs, rfl, hall⟩
  refine ⟨hout.os, hout.tape, hout.output, hout.ext.weaken (fun b _ hb => noBtX b hb), hold, ?_, ?_, ?_, ?_, ?_, hval, ?_⟩
  · intro i bx hm
    exact (hba i bx hm).2.1
  · intro i bx hm
    rcases hAA with hno | hAA
    · rw [(hsl hno).1] at hm; cases hm
    · exact (hba i bx hm).2.2.1.step' hAA
  · intro i bx b ob hm hβ
    obtain ⟨j, _, h3⟩ := hnew i bx hm
    rw [h3] at hβ
    obtain ⟨h4, h5⟩ := hout.fresh j b ob hβ
    refine ⟨?_, h4⟩
    rcases Nat.lt_or_ge b w.heap.size with h | h
    · obtain ⟨⟨_, _, _, h6⟩, _⟩ := h5 h
      cases h6
    · exact h
  · intro i bx i' bx' b ob ob' hm hm' hβ hβ'
    obtain ⟨j, h1, h3⟩ := hnew i bx hm
    obtain ⟨j', h1', h3'⟩ := hnew i' bx' hm'
    rw [h3] at hβ
    rw [h3'] at hβ'
    rw [h1, h1', hout.inj j j' b ob ob' hβ hβ']
  · intro i cells hm c hc i' hi'
    exact .inr (hri i cells hm c hc i' hi')
  · intro i hi
    right
    cases hT : isTup P o.type
    · rw [hT] at htup hi
      have h1 : ws.length = 1 := Nat.eq_of_beq_eq_true htup
      match ws, h1 with
      | [v], _ =>
        refine hrs v (by simp) i ?_
        have : refs v = refs1 v := by
          have hn := hnt v (by simp)
          cases v <;> first | rfl | exact absurd rfl (hn _)
        rw [← this]
        exact hi
    · rw [hT] at hi
      obtain ⟨v, hv, hi⟩ := List.mem_flatMap.1 (show i ∈ ws.flatMap refs1 from hi)
      exact hrs v hv i hi
end

end Go.Proofs.Ytoihfmiifeegpaa.Pv
