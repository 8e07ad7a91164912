/-
  The proof of RegistrationBinds, part 8.
-/
import Derived.Test.YtamoegpkglhedaaGreatDoorBG
import Derived.KernelRfl
set_option linter.unusedSimpArgs false
set_option linter.unusedVariables false
namespace Go.Proofs.YtamoegpkglhedaaGreatDoor.Pv
open Go.IntKind (wrap)
open Go.Proofs.Tryz (prog)
set_option maxRecDepth 1000000
noncomputable section
def awB:Ae:=Ad .u8 [192,91,58,38,223,198,187,160,47,118,92,61,8,36,64,47]
def awL(fu n:Nat)(f:Int)(z:Bool):Option A4:=A34 C3.core prog fu (H3 C3 prog 1000400 39) 5 Tryz.f5 (ZV Tryz.f5) [] [.r,.r,.l,.r,.l] n ⟨lk [(1,.view 1 1 0 16),(2,Aw f)],Fx [(1,.ar z awB)]⟩
def A6i:Option A4->Option A4
 |none=>none
 |some r=>Am2 r.vals fun v=>some ⟨v,r.outs⟩
theorem Ae9{C:G3}{P:Program}{fu d:Nat}{f:FuncId}{args:Ae}{fn:Func}{c:Code}(h1:C.ext f=none)(h2:P.funcs[f]?=some fn)(h3:fn.body=some c):H3 C P fu (d+1) f args=A6i (WA C.core P fu (H3 C P fu d) f fn c args):=by rw[H3,NE,h1,h2];simp only;rw[h3];simp only;cases WA C.core P fu (H3 C P fu d) f fn c args<;>rfl
theorem A68(fu:Nat):WA C3.core prog fu (H3 C3 prog 1000400 39) 5 Tryz.f5 (ZV Tryz.f5) []=awL fu fu 0 false:=by kernel_rfl
theorem Bcf(n:Nat):awL 1000400 (n+1) 0 false=awL 1000400 n 1 true:=by kernel_rfl
theorem Bf1(n:Nat):awL 1000400 (n+1) 1 true=awL 1000400 n 2 true:=by kernel_rfl
theorem Bel(n:Nat):awL 1000400 (n+1) 2 true=awL 1000400 n 3 true:=by kernel_rfl
theorem Be1(n:Nat):awL 1000400 (n+1) 3 true=some ⟨[Cz true],[]⟩:=by kernel_rfl
theorem At6:H3 C3 prog 1000400 40 5 []=some ⟨[Cz true],[]⟩:=by rw[Ae9 (C:=C3) (fn:=Tryz.f5) (c:=ZV Tryz.f5) (by kernel_rfl) (by kernel_rfl) (by kernel_rfl),A68,show (1000400:Nat)=1000396+1+1+1+1 from rfl];rw[show awL (1000396+1+1+1+1) (1000396+1+1+1+1) 0 false=awL 1000400 (1000396+1+1+1+1) 0 false from rfl,Bcf,Bf1,Bel,Be1];rfl
theorem As7(fu d:Nat):Ac C1 prog fu (d+1) 5 []=H3 C3 prog 1000400 40 5 []:=by kernel_rfl
theorem Abt{fu d:Nat}:Ac C1 prog fu (d+1) 5 []=some ⟨[Cz true],[]⟩:=(As7 fu d).trans At6
end
end Go.Proofs.YtamoegpkglhedaaGreatDoor.Pv
