/-
  The proof of RegistrationLeaves, part 9.
-/
import Derived.Test.YtamoegpkglhedaaGreatDoorLH
set_option linter.unusedSimpArgs false
set_option linter.unusedVariables false
namespace Go.Proofs.YtamoegpkglhedaaGreatDoor.Pv
open Go.IntKind (wrap)
open Go.Proofs.Tryz (prog)
set_option maxRecDepth 1000000
noncomputable section
theorem registrationLeaves_plain(qs:Ad)(h:Be (WTv prog) [3,5] qs):∃fu d,Ac C1 prog fu d 4 qs=some ⟨[C9 true],[]⟩:=by obtain⟨q0,_,rfl,h0,g⟩:=h.cons_inv;obtain⟨q1,_,rfl,h1,g⟩:=g.cons_inv;obtain rfl:=g.nil_inv;clear h g;obtain⟨n,rfl,_⟩:=Ahm (k:=.i64) (by kernel_rfl) (by kernel_rfl) h0;obtain⟨w,rfl,hw⟩:=Ahm (k:=.u8) (by kernel_rfl) (by kernel_rfl) h1;have lb:=A3t hw;exact⟨1000400,21,Akl (d:=0) (by omega) (Ao6 (fu:=1000400) (d:=19)) n lb.1 lb.2⟩
end
end Go.Proofs.YtamoegpkglhedaaGreatDoor.Pv
