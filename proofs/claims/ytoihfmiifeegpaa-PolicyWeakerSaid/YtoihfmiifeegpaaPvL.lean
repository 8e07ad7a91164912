/-
  A loop of a function, by its place; names for what the generated texts speak of.
-/
import Derived.Test.YtoihfmiifeegpaaPvD
namespace Go.Proofs.Ytoihfmiifeegpaa.Pv

/-- A way down: left, right, into a loop's body (with the rounds that are left). -/
inductive Dir where
  | l
  | r
  | i (m : Nat)

section
variable {R : Type}

noncomputable def loopAt (C : Cfg) (P : Program) (fu N : Nat) (call : Call') : List Dir → Code → Nat → (Nat → Nat) → Nat → (St → Option R) → (Nat → St → Option R) → (St → Option R) → Nat → St → Option R
  | [], .loop c, ln, lx, lr, _, kx, kr, n, s => iter (fun k s' => pevK C P fu N call c (live (.loop c) ln lx lr) lx lr k kx kr s') (normK N (live (.loop c) ln lx lr)) n s
  | .l :: p, .seq a b, ln, lx, lr, kn, kx, kr, n, s => loopAt C P fu N call p a (live b ln lx lr) lx lr (fun s' => pevK C P fu N call b ln lx lr kn kx kr s') kx kr n s
  | .r :: p, .seq _ b, ln, lx, lr, kn, kx, kr, n, s => loopAt C P fu N call p b ln lx lr kn kx kr n s
  | .l :: p, .cond _ a _, ln, lx, lr, kn, kx, kr, n, s => loopAt C P fu N call p a ln lx lr kn kx kr n s
  | .r :: p, .cond _ _ b, ln, lx, lr, kn, kx, kr, n, s => loopAt C P fu N call p b ln lx lr kn kx kr n s
  | .l :: p, .block id c, ln, lx, lr, kn, kx, kr, n, s => loopAt C P fu N call p c ln (fun j => bif Nat.beq j id then ln else lx j) lr kn (fun j s' => bif Nat.beq j id then kn s' else kx j s') kr n s
  | .i m :: p, .loop c, ln, lx, lr, _, kx, kr, n, s =>
    loopAt C P fu N call p c (live (.loop c) ln lx lr) lx lr
      (fun s' => normK N (live (.loop c) ln lx lr) s' (iter (fun k s' => pevK C P fu N call c (live (.loop c) ln lx lr) lx lr k kx kr s') (normK N (live (.loop c) ln lx lr)) m)) kx kr n s
  | _, _, _, _, _, _, _, _, _, _ => none
end

noncomputable def floop (C : Cfg) (P : Program) (fu : Nat) (call : Call') (f : FuncId) (fn : Func) (c : Code) (args : List PV) (p : List Dir) (n : Nat) (s : St) : Option Res :=
  let lr := ptrSlots P 0 fn.params.toList (bitsOf' fn.results.toList)
  loopAt C P fu fn.ntmps call p c lr (fun _ => 0) lr (retK C P f fn args) (fun _ _ => none) (retK C P f fn args) n s

/-- No function hands its slices back shared, none takes memory over. -/
def growIds : List Nat := [
  1000000]
/-- These hand their slices back shared. -/
def shrIds : List Nat := [
  8,
  1000000]
def C0 : Cfg := ⟨fun f => shrIds.any (Nat.beq f), fun _ _ => false, fun _ _ => false, fun f => growIds.any (Nat.beq f)⟩

def bodyOf (f : Func) : Code := match f.body with | some c => c | none => .skip

end Go.Proofs.Ytoihfmiifeegpaa.Pv
