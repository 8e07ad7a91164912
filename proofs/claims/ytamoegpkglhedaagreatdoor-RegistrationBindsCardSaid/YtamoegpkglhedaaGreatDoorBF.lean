/-
  The proof of RegistrationBinds, part 6.
-/
import Derived.Test.YtamoegpkglhedaaGreatDoorBE
import Derived.KernelRfl
set_option linter.unusedSimpArgs false
set_option linter.unusedVariables false
namespace Go.Proofs.YtamoegpkglhedaaGreatDoor.Pv
open Go.IntKind (wrap)
open Go.Proofs.Tryz (prog)
set_option maxRecDepth 1000000
noncomputable section
def anV:Ae:=[Bk ⟨#[114,111,111,116]⟩,Aw 1,Ah 13045606763325328693]
def stA:Aj:=[15223769981589091052,13524861137660967179,10552190066117633764,7637040116252300924,7213939271875133399,904331119311216777,1812597708884976612,8702159801953013493,7426616348798041225,3298144720078452858,1911012549201574540,17365396038290372435,2132473212016006410,15853281438451070488,944111056220721849,6677577076035076197,2310257860809320662,15958698831567429614]
def stB:Aj:=[17215257125496422511,14448210825822815051,7205624238150092211,3775798010819766856]
abbrev stV:Ae:=[Aw 1,Aw 0,Aw 1000,.lst false 3 1 [Ah 3,.lst false 3 1 anV,.lst false 2 1 (Ad .i64 [1,0])],Aw 0,.lst false 1 18 (Ad .u64 stA),.lst false 1 4 (Ad .u64 stB)]
def ccB:Ae:=Ad .u8 [137,101,98,97,116,99,104,100,114,111,111,116,1,73,4,50,210,115,103,171,92,48,138,0,25,3,132,244,0,3,0,1,208,77,157,246,239,66,201,211,128,84,157,249,198,210,10,117,130,217,51,156,241,26,167,63,151,194,222,109,186,5,230,168,223,187,146,137,224,160,96,10,55,236,227,180,206,203,149,200,36,111,197,194,132,110,225,26,121,128,92,64,29,11,84,126,78,27,115,89,71,1,194,228,186,206,76,3,132,39,51,47,181,70,130,234,43,174,60,230,75,176,254,102,141,118,136,252,236,75,117,194,98,127,159,169,159,36,147,58,134,55,137,135,159,236,182,148,253,197,78,123,192,216,227,190,227,231,8,225,240,221,164,182,147,183,3,181,55,251,53,211,95,20,122,13,238,72,207,26,199,25,25,64]
abbrev Xo:PV:=.lst false 1 184 ccB
def dcS:Ae:=Ad .u64 [15009826816997378515,9247189631006542453,9428624044029814591,10935547408062736040,16121640411979603978,4029846132292818376,2625534547016474906,8755099106043188350,5628218986610148068,13460779914242765615,13062271711501499622,5454138865159145724,17026832293940928425,11467452430761298311,11523786297563238011,13896107059258525921,17356209643025007541,4033877073189960205]
def dcP:Ae:=Ad .u64 [17170201293266426176]
abbrev dcV:Ae:=[Bk ⟨#[98,97,116,99,104]⟩,Bk ⟨#[114,111,111,116]⟩,Ah 1,Aw 4,Ah 3662116336099405962,Aw 0,Aw 900,Cz false,Aw 0,Ah 3,Aw 0,.lst false 1 18 dcS,.lst false 1 1 dcP]
theorem A84:H3 C2 prog 1000400 40 9 [Aw 1,.lst false 1 1 [Aw 0]]=some ⟨[.agg stV],[]⟩:=by kernel_rfl
theorem A93:H3 C2 prog 1000400 40 28 []=some ⟨[.own 1 1 [Xo]],[]⟩:=by kernel_rfl
theorem A8y:H3 C2 prog 1000400 40 104 [Xo]=some ⟨[.agg dcV,Aw 0],[]⟩:=by kernel_rfl
theorem A9b:H3 C2 prog 1000400 40 105 [.lst false 13 1 dcV,.lst false 3 1 anV,.lst false 3 0 [],Aw 5]=some ⟨[Aw 0,Aw 0],[]⟩:=by kernel_rfl
def XB(A:Ae)(r:A4)(args:Ae):Option A4:=bif bqL args A then some r else none
def A3e(f:FuncId):Option (Ae->Option A4):=
 bif Nat.beq f 9 then some (XB [Aw 1,.lst false 1 1 [Aw 0]] ⟨[.agg stV],[]⟩) else
 bif Nat.beq f 28 then some (XB [] ⟨[.own 1 1 [Xo]],[]⟩) else
 bif Nat.beq f 104 then some (XB [Xo] ⟨[.agg dcV,Aw 0],[]⟩) else
 bif Nat.beq f 105 then some (XB [.lst false 13 1 dcV,.lst false 3 1 anV,.lst false 3 0 [],Aw 5] ⟨[Aw 0,Aw 0],[]⟩) else Awz f
def C3:G3:={ C2 with ext:=A3e }
theorem Vx{f:FuncId}{A:Ae}{r:A4}(h:H3 C2 prog 1000400 40 f A=some r){args:Ae}{res:A4}(hm:XB A r args=some res):C6 gU prog f args res:=by
 unfold XB at hm;cases hb:bqL args A
 ·rw[hb] at hm;cases hm
 ·rw[hb] at hm;cases hm;rw[Zb _ _ hb];exact Dm ngR mxR Bas 40 f A _ ((AQ 40 f A).symm.trans h)
theorem A9n:GX gU prog C3:=by
 intro f g args res hg h;have hg:A3e f=some g:=hg;unfold A3e at hg;cases h1:Nat.beq f 9
 rotate_left
 ·rw[h1] at hg;cases hg;rw[QD h1];exact Vx A84 h
 cases h2:Nat.beq f 28
 rotate_left
 ·rw[h1,h2] at hg;cases hg;rw[QD h2];exact Vx A93 h
 cases h3:Nat.beq f 104
 rotate_left
 ·rw[h1,h2,h3] at hg;cases hg;rw[QD h3];exact Vx A8y h
 cases h4:Nat.beq f 105
 rotate_left
 ·rw[h1,h2,h3,h4] at hg;cases hg;rw[QD h4];exact Vx A9b h
 rw[h1,h2,h3,h4] at hg;exact Bas f g args res hg h
end
end Go.Proofs.YtamoegpkglhedaaGreatDoor.Pv
