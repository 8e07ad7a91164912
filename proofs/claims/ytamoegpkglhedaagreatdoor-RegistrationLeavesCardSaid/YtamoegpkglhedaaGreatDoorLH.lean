/-
  The proof of RegistrationLeaves, part 8.
-/
import Derived.Test.YtamoegpkglhedaaGreatDoorLG
import Derived.KernelRfl
set_option linter.unusedSimpArgs false
set_option linter.unusedVariables false
namespace Go.Proofs.YtamoegpkglhedaaGreatDoor.Pv
open Go.IntKind (wrap)
open Go.Proofs.Tryz (prog)
set_option maxRecDepth 1000000
noncomputable section
def awB:Ad:=Ae .u8 [192,91,58,38,223,198,187,160,47,118,92,61,8,36,64,47]
def awL(fu n:Nat)(f:Int)(z:Bool):Option A1:=A1s C3.core prog fu (Hy C3 prog 1000400 39) 5 Tryz.f5 (YQ Tryz.f5) [] [.r,.r,.l,.r,.l] n ⟨lk [(1,.view 1 1 0 16),(2,Aw f)],Fw [(1,.ar z awB)]⟩
def A6l:Option A1->Option A1
 |none=>none
 |some r=>Akq r.vals fun v=>some ⟨v,r.outs⟩
theorem Aco{C:Gw}{P:Program}{fu d:Nat}{f:FuncId}{args:Ad}{fn:Func}{c:Code}(h1:C.ext f=none)(h2:P.funcs[f]?=some fn)(h3:fn.body=some c):Hy C P fu (d+1) f args=A6l (VQ C.core P fu (Hy C P fu d) f fn c args):=by rw[Hy,LW,h1,h2];simp only;rw[h3];simp only;cases VQ C.core P fu (Hy C P fu d) f fn c args<;>rfl
theorem A36(fu:Nat):VQ C3.core prog fu (Hy C3 prog 1000400 39) 5 Tryz.f5 (YQ Tryz.f5) []=awL fu fu 0 false:=by kernel_rfl
theorem A9v(n:Nat):awL 1000400 (n+1) 0 false=awL 1000400 n 1 true:=by kernel_rfl
theorem Bbv(n:Nat):awL 1000400 (n+1) 1 true=awL 1000400 n 2 true:=by kernel_rfl
theorem Bbx(n:Nat):awL 1000400 (n+1) 2 true=awL 1000400 n 3 true:=by kernel_rfl
theorem Bc4(n:Nat):awL 1000400 (n+1) 3 true=some ⟨[C9 true],[]⟩:=by kernel_rfl
theorem Asa:Hy C3 prog 1000400 40 5 []=some ⟨[C9 true],[]⟩:=by rw[Aco (C:=C3) (fn:=Tryz.f5) (c:=YQ Tryz.f5) (by kernel_rfl) (by kernel_rfl) (by kernel_rfl),A36,show (1000400:Nat)=1000396+1+1+1+1 from rfl];rw[show awL (1000396+1+1+1+1) (1000396+1+1+1+1) 0 false=awL 1000400 (1000396+1+1+1+1) 0 false from rfl,A9v,Bbv,Bbx,Bc4];rfl
theorem Aq6(fu d:Nat):Ac C1 prog fu (d+1) 5 []=Hy C3 prog 1000400 40 5 []:=by kernel_rfl
theorem Ao6{fu d:Nat}:Ac C1 prog fu (d+1) 5 []=some ⟨[C9 true],[]⟩:=(Aq6 fu d).trans Asa
end
end Go.Proofs.YtamoegpkglhedaaGreatDoor.Pv
