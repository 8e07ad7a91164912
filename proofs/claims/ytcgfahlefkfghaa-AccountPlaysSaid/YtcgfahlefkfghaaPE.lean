/-
  The proof of AccountPlays, part 5.
-/
import Derived.Test.YtcgfahlefkfghaaPD
import Derived.Test.YtcgfahlefkfghaaRows
import Derived.Lib.BytesEntry
import Derived.Lib.Bytealg
import Derived.Lib.Walk
import Derived.WalkKit
import Derived.WalkMore
import Derived.Shelf.RegionOpenPlain
import Derived.Lib.Overlaps
import Derived.Lib.AppendZerosOnto
import Derived.Lib.SliceRun
import Derived.Laws.Externs
import Derived.Laws.IdiomCopy
import Derived.Laws.NewBlocks
import Derived.Laws.MakeOwn
set_option linter.unusedSimpArgs false
set_option linter.unusedVariables false
namespace Go.Proofs.Ytcgfahlefkfghaa.Pv
section
open Go.Proofs.Try (prog)
open Go.IntKind (wrap)
set_option maxRecDepth 100000
abbrev Gn:FuncId:=4
noncomputable def Bm (fu:Nat)(call:Ai)(Ap:Nat)(a0:List PV)(a1:Int)(nn:Nat)(y0:Int)(y1 y2:Nat)(y3:Int)(y4:Nat)(y5:List PV)(y6:Int)(y7 y8:List PV):Option A2:=Ct CB prog fu call 4 Try.f4 (Bz Try.f4) [.lst false 1 Ap a0,.sc (.int .u64 a1)] [.r,.r,.r,.l,.r,.l] nn ⟨lk [(1,(.sc (.int .u64 y0))),(5,(.ptr 5 0)),(6,(.view 6 3 0 y1)),(7,(.view 7 3 0 y2)),(8,(.sc (.int .i64 y3)))],Fx [(5,(.st [(.lst false 1 y4 y5),(.sc (.int .i64 y6))])),(6,(.ar false y7)),(7,(.ar false y8))]⟩
noncomputable def At (fu:Nat)(call:Ai)(Ap:Nat)(a0:List PV)(a1:Int)(m0 nn:Nat)(y0:Int)(y1 y2:Nat)(y3:Int)(y4:ByteArray)(y5:Nat)(y6:List PV)(y7:Nat)(y8:List PV)(y9 Fi:Int)(Gi:Nat)(Ek:List PV)(Gh:Int)(Fu G5:List PV)(Ey:Nat)(Gl:List PV)(N7 Om:Int)(Ny Nz:Int)(Ol:Bool)(Oq:Int)(Oj:Nat)(N3:List PV)(Of:Bool)(Oa I3:Int):Option A2:=Ct CB prog fu call 4 Try.f4 (Bz Try.f4) [.lst false 1 Ap a0,.sc (.int .u64 a1)] [.r,.r,.r,.l,.r,.l,.i m0,.r,.l,.l,.r,.r,.r,.r,.r,.r] nn ⟨lk [(1,(.sc (.int .u64 y0))),(5,(.ptr 5 0)),(6,(.view 6 3 0 y1)),(7,(.view 7 3 0 y2)),(8,(.sc (.int .i64 y3))),(9,(.sc (.string y4))),(10,(.ptr 10 0)),(11,(.lst false 3 y5 y6)),(12,(.lst false 3 y7 y8)),(13,(.sc (.int .i64 y9))),(14,(.sc (.int .i64 Fi)))],Fx [(5,(.st [(.lst false 1 Gi Ek),(.sc (.int .i64 Gh))])),(6,(.ar true Fu)),(7,(.ar true G5)),(10,(.st [(.lst false 1 Ey Gl),(.sc (.int .i64 N7)),(.sc (.int .u64 Om)),(.sc (.int .u64 Ny)),(.sc (.int .i64 Nz)),(.sc (.bool Ol)),(.sc (.int .u64 Oq)),(.lst false 2 Oj N3),(.sc (.bool Of)),(.sc (.int .i64 Oa)),(.sc (.int .i64 I3))]))]⟩
noncomputable def B0 (fu:Nat)(call:Ai)(Ap:Nat)(a0:List PV)(a1:Int)(m0 nn:Nat)(y0:Int)(y1 y2:Nat)(y3:Int)(y4:ByteArray)(y5:Nat)(y6:List PV)(y7:Nat)(y8:List PV)(y9 Fi:Int)(Gi:Nat)(Ek:List PV)(Gh:Int)(Fu G5:List PV)(Ey:Nat)(Gl N7:Int)(Om Ny:Int)(Nz:Bool)(Ol:Int)(Oq:Nat)(Oj:List PV)(N3:Bool)(Of Oa:Int)(I3:List PV):Option A2:=Ct CB prog fu call 4 Try.f4 (Bz Try.f4) [.lst false 1 Ap a0,.sc (.int .u64 a1)] [.r,.r,.r,.l,.r,.l,.i m0,.r,.l,.l,.r,.r,.r,.r,.r,.r] nn ⟨lk [(1,(.sc (.int .u64 y0))),(5,(.ptr 5 0)),(6,(.view 6 3 0 y1)),(7,(.view 7 3 0 y2)),(8,(.sc (.int .i64 y3))),(9,(.sc (.string y4))),(10,(.ptr 10 0)),(11,(.lst false 3 y5 y6)),(12,(.lst false 3 y7 y8)),(13,(.sc (.int .i64 y9))),(14,(.sc (.int .i64 Fi)))],Fx [(5,(.st [(.lst false 1 Gi Ek),(.sc (.int .i64 Gh))])),(6,(.ar true Fu)),(7,(.ar true G5)),(10,(.st [(.view 200 1 0 Ey),(.sc (.int .i64 Gl)),(.sc (.int .u64 N7)),(.sc (.int .u64 Om)),(.sc (.int .i64 Ny)),(.sc (.bool Nz)),(.sc (.int .u64 Ol)),(.lst false 2 Oq Oj),(.sc (.bool N3)),(.sc (.int .i64 Of)),(.sc (.int .i64 Oa))])),(200,(.ar true I3))]⟩
noncomputable def Ak (fu:Nat)(call:Ai)(Ap:Nat)(a0:List PV)(a1:Int)(nn:Nat)(y0:Int)(y1:Nat)(y2:List PV)(y3:Nat)(y4:List PV)(y5:Int)(y6:Nat)(y7:List PV)(y8:Int):Option A2:=Ct CB prog fu call 4 Try.f4 (Bz Try.f4) [.lst false 1 Ap a0,.sc (.int .u64 a1)] [.r,.r,.r,.l,.r,.l] nn ⟨lk [(1,(.sc (.int .u64 y0))),(5,(.ptr 5 0)),(6,(.lst false 3 y1 y2)),(7,(.lst false 3 y3 y4)),(8,(.sc (.int .i64 y5)))],Fx [(5,(.st [(.lst false 1 y6 y7),(.sc (.int .i64 y8))]))]⟩
noncomputable def A1 (fu:Nat)(call:Ai)(Ap:Nat)(a0:List PV)(a1:Int)(nn:Nat)(y0:Int)(y1 y2:Nat)(y3:Int)(y4:Nat)(y5:List PV)(y6:Int)(y7 y8:List PV):Option A2:=Ct CB prog fu call 4 Try.f4 (Bz Try.f4) [.lst false 1 Ap a0,.sc (.int .u64 a1)] [.r,.r,.r,.l,.r,.l] nn ⟨lk [(1,(.sc (.int .u64 y0))),(5,(.ptr 5 0)),(6,(.view 6 3 0 y1)),(7,(.view 7 3 0 y2)),(8,(.sc (.int .i64 y3)))],Fx [(5,(.st [(.lst false 1 y4 y5),(.sc (.int .i64 y6))])),(6,(.ar true y7)),(7,(.ar true y8))]⟩
noncomputable def Bc (fu:Nat)(call:Ai)(Ap:Nat)(a0:List PV)(a1:Int)(m0 nn:Nat)(y0:Int)(y1:Nat)(y2:List PV)(y3:Nat)(y4:List PV)(y5:Int)(y6:ByteArray)(y7:Nat)(y8:List PV)(y9:Nat)(Fi:List PV)(Gi Ek:Int)(Gh:Nat)(Fu:List PV)(G5:Int)(Ey:Nat)(Gl:List PV)(N7 Om:Int)(Ny Nz:Int)(Ol:Bool)(Oq:Int)(Oj:Nat)(N3:List PV)(Of:Bool)(Oa I3:Int):Option A2:=Ct CB prog fu call 4 Try.f4 (Bz Try.f4) [.lst false 1 Ap a0,.sc (.int .u64 a1)] [.r,.r,.r,.l,.r,.l,.i m0,.r,.l,.l,.r,.r,.r,.r,.r,.r] nn ⟨lk [(1,(.sc (.int .u64 y0))),(5,(.ptr 5 0)),(6,(.lst false 3 y1 y2)),(7,(.lst false 3 y3 y4)),(8,(.sc (.int .i64 y5))),(9,(.sc (.string y6))),(10,(.ptr 10 0)),(11,(.lst false 3 y7 y8)),(12,(.lst false 3 y9 Fi)),(13,(.sc (.int .i64 Gi))),(14,(.sc (.int .i64 Ek)))],Fx [(5,(.st [(.lst false 1 Gh Fu),(.sc (.int .i64 G5))])),(10,(.st [(.lst false 1 Ey Gl),(.sc (.int .i64 N7)),(.sc (.int .u64 Om)),(.sc (.int .u64 Ny)),(.sc (.int .i64 Nz)),(.sc (.bool Ol)),(.sc (.int .u64 Oq)),(.lst false 2 Oj N3),(.sc (.bool Of)),(.sc (.int .i64 Oa)),(.sc (.int .i64 I3))]))]⟩
noncomputable def Cr (fu:Nat)(call:Ai)(Ap:Nat)(a0:List PV)(a1:Int)(m0 nn:Nat)(y0:Int)(y1:Nat)(y2:List PV)(y3:Nat)(y4:List PV)(y5:Int)(y6:ByteArray)(y7:Nat)(y8:List PV)(y9:Nat)(Fi:List PV)(Gi Ek:Int)(Gh:Nat)(Fu:List PV)(G5:Int)(Ey:Nat)(Gl N7:Int)(Om Ny:Int)(Nz:Bool)(Ol:Int)(Oq:Nat)(Oj:List PV)(N3:Bool)(Of Oa:Int)(I3:List PV):Option A2:=Ct CB prog fu call 4 Try.f4 (Bz Try.f4) [.lst false 1 Ap a0,.sc (.int .u64 a1)] [.r,.r,.r,.l,.r,.l,.i m0,.r,.l,.l,.r,.r,.r,.r,.r,.r] nn ⟨lk [(1,(.sc (.int .u64 y0))),(5,(.ptr 5 0)),(6,(.lst false 3 y1 y2)),(7,(.lst false 3 y3 y4)),(8,(.sc (.int .i64 y5))),(9,(.sc (.string y6))),(10,(.ptr 10 0)),(11,(.lst false 3 y7 y8)),(12,(.lst false 3 y9 Fi)),(13,(.sc (.int .i64 Gi))),(14,(.sc (.int .i64 Ek)))],Fx [(5,(.st [(.lst false 1 Gh Fu),(.sc (.int .i64 G5))])),(10,(.st [(.view 200 1 0 Ey),(.sc (.int .i64 Gl)),(.sc (.int .u64 N7)),(.sc (.int .u64 Om)),(.sc (.int .i64 Ny)),(.sc (.bool Nz)),(.sc (.int .u64 Ol)),(.lst false 2 Oq Oj),(.sc (.bool N3)),(.sc (.int .i64 Of)),(.sc (.int .i64 Oa))])),(200,(.ar true I3))]⟩
theorem Fm (fu:Nat)(call:Ai)(Ap:Nat)(a0:List PV)(a1:Int)(nn:Nat)(y0:Int)(y1 y2:Nat)(y3:Int)(y4:Nat)(y5:List PV)(y6:Int)(y7 y8:List PV):Bm fu call Ap a0 a1 (nn+1) y0 y1 y2 y3 y4 y5 y6 y7 y8=(Bd (decide (y3<60)) (Af (call 7 [.pbox [.lst false 1 y4 y5,.sc (.int .i64 y6)]]) fun K7 K8=>Aa K7 fun Nl Pz=>Av Nl fun M3=>Ac Pz<|Aa K8 fun Hx Mt=>Aa Hx fun Mm Qg=>Ca 1 Mm fun Ro P3 Y5=>Aa Qg fun X7 Ub=>Ae .i64 X7 fun FC=>Ac Ub<|Ac Mt<|Bd M3 (Af (call 10 [.pbox [.lst false 1 P3 Y5,.sc (.int .i64 FC)],.sc (.int .i64 20)]) fun Ul O2=>Aa Ul fun Sq Zq=>Ae .i64 Sq fun V2=>Ac Zq<|Aa O2 fun X3 DR=>Aa X3 fun AJ Yt=>Ca 1 AJ fun HE LY BV=>Aa Yt fun NB PW=>Ae .i64 NB fun BW=>Ac PW<|Ac DR<|An (decide (0<=V2)&&decide (V2<20))<|E2 (List.getD [.sc (.string (ByteArray.mk #[97])),.sc (.string (ByteArray.mk #[98])),.sc (.string (ByteArray.mk #[99])),.sc (.string (ByteArray.mk #[100])),.sc (.string (ByteArray.mk #[101])),.sc (.string (ByteArray.mk #[102])),.sc (.string (ByteArray.mk #[103])),.sc (.string (ByteArray.mk #[104])),.sc (.string (ByteArray.mk #[105])),.sc (.string (ByteArray.mk #[106])),.sc (.string (ByteArray.mk #[107])),.sc (.string (ByteArray.mk #[108])),.sc (.string (ByteArray.mk #[109])),.sc (.string (ByteArray.mk #[110])),.sc (.string (ByteArray.mk #[111])),.sc (.string (ByteArray.mk #[112])),.sc (.string (ByteArray.mk #[113])),.sc (.string (ByteArray.mk #[114])),.sc (.string (ByteArray.mk #[])),.sc (.string (ByteArray.mk #[48,49,50,51,52,53,54,55,56,57,48,49,50,51,52,53,54,55,56,57,48,49,50,51,52,53,54,55,56,57,48,49,50,51]))] (0+Int.toNat V2*1) .top) fun Oz=>Af (call 10 [.pbox [.lst false 1 LY BV,.sc (.int .i64 BW)],.sc (.int .i64 12)]) fun MF NF=>Aa MF fun PZ OG=>Ae .i64 PZ fun RG=>Ac OG<|Aa NF fun EI RB=>Aa EI fun RQ ND=>Ca 1 RQ fun X9 FV RV=>Aa ND fun BN GT=>Ae .i64 BN fun MA=>Ac GT<|Ac RB<|Af (call 8 [.sc (.int .i64 RG),.sc (.int .i64 1)]) fun NA GJ=>Ac GJ<|Aa NA fun HL WY=>Gd HL fun ID=>Aa ID fun TN UD=>Ca 1 TN fun WO Zw FD=>Aa UD fun x70 HT=>Ae .i64 x70 fun To=>Aa HT fun VJ NY=>Ae .u64 VJ fun Td=>Aa NY fun x76 x77=>Ae .u64 x76 fun U7=>Aa x77 fun x79 x80=>Ae .i64 x79 fun X5=>Aa x80 fun x82 x83=>Av x82 fun AA=>Aa x83 fun x85 x86=>Ae .u64 x85 fun AS=>Aa x86 fun x88 x89=>Ca 2 x88 fun x90 Zs Y0=>Aa x89 fun x93 x94=>Av x93 fun x95=>Aa x94 fun x96 x97=>Ae .i64 x96 fun BF=>Aa x97 fun x99 Ae8=>Ae .i64 x99 fun Mc=>Ac Ae8<|Ac WY<|Af (call 10 [.pbox [.lst false 1 FV RV,.sc (.int .i64 MA)],.sc (.int .i64 3)]) fun Adg Ac9=>Aa Adg fun Ace GD=>Ae .i64 Ace fun Mf=>Ac GD<|Aa Ac9 fun Age Ac4=>Aa Age fun Ado Ag7=>Ca 1 Ado fun Ah2 Acv Acj=>Aa Ag7 fun Adp Agn=>Ae .i64 Adp fun Acn=>Ac Agn<|Ac Ac4<|Af (call 10 [.pbox [.lst false 1 Acv Acj,.sc (.int .i64 Acn)],.sc (.int .i64 20)]) fun Ags Air=>Aa Ags fun Aco Aei=>Ae .i64 Aco fun Adb=>Ac Aei<|Aa Air fun Adw Aep=>Aa Adw fun Acg Adz=>Ca 1 Acg fun Akb Abe YT=>Aa Adz fun Aek Afs=>Ae .i64 Aek fun Aar=>Ac Afs<|Ac Aep<|Bd (Adb==19) (Af (call 10 [.pbox [.lst false 1 Abe YT,.sc (.int .i64 Aar)],.sc (.int .i64 176)]) fun Afz Af7=>Aa Afz fun Aec Agw=>Ae .i64 Aec fun UR=>Ac Agw<|Aa Af7 fun Afl Add=>Aa Afl fun Afq Ahv=>Ca 1 Afq fun Aja Agh Ac8=>Aa Ahv fun VF Aev=>Ae .i64 VF fun Acf=>Ac Aev<|Ac Add<|An (decide (0<=UR))<|An (decide (Int.toNat UR<=Zw))<|Ab (Int.toNat UR-0) fun Xp=>Ab (List.take (Xp*1) (List.drop 0 FD)) fun Ya=>Af (call 10 [.pbox [.lst false 1 Agh Ac8,.sc (.int .i64 Acf)],.sc (.int .i64 5)]) fun Aoz Amy=>Aa Aoz fun Ao1 An8=>Ae .i64 Ao1 fun Ajp=>Ac An8<|Aa Amy fun Aq4 Amk=>Aa Aq4 fun Apz Apw=>Ca 1 Apz fun Bae Aea Adx=>Aa Apw fun Aqz Aqa=>Ae .i64 Aqz fun Ah3=>Ac Aqa<|Ac Amk<|Bd (Ajp==0) (An (decide (0+y1*3<=y7.length))<|Af (call 16 [.lst false 3 y1 (List.take (y1*3) (List.drop 0 y7)),.sc (.string Oz),.lst false 1 Xp Ya]) fun An3 Ap7=>Ac Ap7<|Aa An3 fun Aqs Ao7=>Ca 3 Aqs fun Au8 Anh Amr=>Aa Ao7 fun Anl App=>Ae .i64 Anl fun Ao2=>Ac App<|An (decide (0+y2*3<=y8.length))<|Af (call 17 [.lst false 3 y2 (List.take (y2*3) (List.drop 0 y8)),.sc (.string Oz),.lst false 1 Xp Ya]) fun Apv Aov=>Ac Aov<|Aa Apv fun Aqw Ao0=>Ca 3 Aqw fun A86 Aoh Apy=>Aa Ao0 fun Ap9 Aoy=>Ae .i64 Ap9 fun Apc=>Ac Aoy<|At fu call Ap a0 a1 nn (fu) (y0) (y1) (y2) (y3) Oz Anh Amr Aoh Apy Ao2 Apc Aea Adx Ah3 (y7) (y8) Xp Ya To Td U7 X5 AA AS Zs Y0 (Mf==2) BF Mc) (Bd (Ajp==1) (An (decide (0+y1*3<=y7.length))<|Af (call 18 [.lst false 3 y1 (List.take (y1*3) (List.drop 0 y7)),.sc (.string Oz),.agg [.lst false 1 Xp Ya,.sc (.int .i64 To),.sc (.int .u64 Td),.sc (.int .u64 U7),.sc (.int .i64 X5),.sc (.bool AA),.sc (.int .u64 AS),.lst false 2 Zs Y0,.sc (.bool (Mf==2)),.sc (.int .i64 BF),.sc (.int .i64 Mc)]]) fun Aq7 Asa=>Ac Asa<|Aa Aq7 fun Ap1 Amt=>Ca 3 Ap1 fun Axm Amz Aog=>Aa Amt fun Ams Aqq=>Ae .i64 Ams fun Apq=>Ac Aqq<|An (decide (0+y2*3<=y8.length))<|Af (call 19 [.lst false 3 y2 (List.take (y2*3) (List.drop 0 y8)),.sc (.string Oz),.agg [.lst false 1 Xp Ya,.sc (.int .i64 To),.sc (.int .u64 Td),.sc (.int .u64 U7),.sc (.int .i64 X5),.sc (.bool AA),.sc (.int .u64 AS),.lst false 2 Zs Y0,.sc (.bool (Mf==2)),.sc (.int .i64 BF),.sc (.int .i64 Mc)]]) fun Amq Aor=>Ac Aor<|Aa Amq fun Aqb Ap6=>Ca 3 Aqb fun Axx Aob Am1=>Aa Ap6 fun Anv Amu=>Ae .i64 Anv fun Amw=>Ac Amu<|At fu call Ap a0 a1 nn (fu) (y0) (y1) (y2) (y3) Oz Amz Aog Aob Am1 Apq Amw Aea Adx Ah3 (y7) (y8) Xp Ya To Td U7 X5 AA AS Zs Y0 (Mf==2) BF Mc) (Af (call 10 [.pbox [.lst false 1 Aea Adx,.sc (.int .i64 Ah3)],.sc (.int .i64 2)]) fun Aok Aop=>Aa Aok fun Aq5 Aqg=>Ae .i64 Aq5 fun A6b=>Ac Aqg<|Aa Aop fun Aq3 Anq=>Aa Aq3 fun Apf Anr=>Ca 1 Apf fun Aza Ai4 Ajk=>Aa Anr fun Aou Aqx=>Ae .i64 Aou fun Ajv=>Ac Aqx<|Ac Anq<|Bd (A6b==1) (Ab (wrap .i64 (900+y3)) fun Apn=>Af (call 9 [.sc (.int .i64 Apn),.sc (.int .i64 176)]) fun Am4 Anz=>Ac Anz<|Aa Am4 fun Aoq Apk=>Kc 1 Aoq fun LK UQ=>Ac Apk<|An (decide (0+y1*3<=y7.length))<|An (decide (0+LK*1<=UQ.length))<|Af (call 11 [.lst false 3 y1 (List.take (y1*3) (List.drop 0 y7)),.sc (.string Oz),.sc (.string (ByteArray.mk #[117,115,101,114])),.agg [.lst false 1 LK (List.take (LK*1) (List.drop 0 UQ)),.sc (.int .i64 To),.sc (.int .u64 Td),.sc (.int .u64 U7),.sc (.int .i64 X5),.sc (.bool AA),.sc (.int .u64 AS),.lst false 2 Zs Y0,.sc (.bool (Mf==2)),.sc (.int .i64 BF),.sc (.int .i64 Mc)]]) fun Aqv A6j=>Ac A6j<|Aa Aqv fun Aqk Ao3=>Ca 3 Aqk fun Asy An6 Apr=>Aa Ao3 fun Anu Ank=>Ae .i64 Anu fun Aqm=>Ac Ank<|An (decide (0+y2*3<=y8.length))<|An (decide (0+LK*1<=UQ.length))<|Af (call 20 [.lst false 3 y2 (List.take (y2*3) (List.drop 0 y8)),.sc (.string Oz),.sc (.string (ByteArray.mk #[117,115,101,114])),.agg [.lst false 1 LK (List.take (LK*1) (List.drop 0 UQ)),.sc (.int .i64 To),.sc (.int .u64 Td),.sc (.int .u64 U7),.sc (.int .i64 X5),.sc (.bool AA),.sc (.int .u64 AS),.lst false 2 Zs Y0,.sc (.bool (Mf==2)),.sc (.int .i64 BF),.sc (.int .i64 Mc)]]) fun Aqn Ao5=>Ac Ao5<|Aa Aqn fun Aq2 Anb=>Ca 3 Aq2 fun A23 Am2 Api=>Aa Anb fun An4 Aoi=>Ae .i64 An4 fun Apx=>Ac Aoi<|B0 fu call Ap a0 a1 nn (fu) (y0) (y1) (y2) (y3) Oz An6 Apr Am2 Api Aqm Apx Ai4 Ajk Ajv (y7) (y8) LK To Td U7 X5 AA AS Zs Y0 (Mf==2) BF Mc UQ) (An (decide (0+y1*3<=y7.length))<|Af (call 11 [.lst false 3 y1 (List.take (y1*3) (List.drop 0 y7)),.sc (.string Oz),.sc (.string (ByteArray.mk #[117,115,101,114])),.agg [.lst false 1 Xp Ya,.sc (.int .i64 To),.sc (.int .u64 Td),.sc (.int .u64 U7),.sc (.int .i64 X5),.sc (.bool AA),.sc (.int .u64 AS),.lst false 2 Zs Y0,.sc (.bool (Mf==2)),.sc (.int .i64 BF),.sc (.int .i64 Mc)]]) fun Ay1 Bnj=>Ac Bnj<|Aa Ay1 fun Bff Bs6=>Ca 3 Bff fun Byb Bca Boj=>Aa Bs6 fun Bsg Bm4=>Ae .i64 Bsg fun Bt0=>Ac Bm4<|An (decide (0+y2*3<=y8.length))<|Af (call 20 [.lst false 3 y2 (List.take (y2*3) (List.drop 0 y8)),.sc (.string Oz),.sc (.string (ByteArray.mk #[117,115,101,114])),.agg [.lst false 1 Xp Ya,.sc (.int .i64 To),.sc (.int .u64 Td),.sc (.int .u64 U7),.sc (.int .i64 X5),.sc (.bool AA),.sc (.int .u64 AS),.lst false 2 Zs Y0,.sc (.bool (Mf==2)),.sc (.int .i64 BF),.sc (.int .i64 Mc)]]) fun Bhs Bq3=>Ac Bq3<|Aa Bhs fun Bqe Blf=>Ca 3 Bqe fun B1e Bpn Bgy=>Aa Blf fun Bvy Bkq=>Ae .i64 Bvy fun Bdi=>Ac Bkq<|At fu call Ap a0 a1 nn (fu) (y0) (y1) (y2) (y3) Oz Bca Boj Bpn Bgy Bt0 Bdi Ai4 Ajk Ajv (y7) (y8) Xp Ya To Td U7 X5 AA AS Zs Y0 (Mf==2) BF Mc)))) (Af (call 10 [.pbox [.lst false 1 Abe YT,.sc (.int .i64 Aar)],.sc (.int .i64 5)]) fun Br9 Bi5=>Aa Br9 fun Bhd Bm8=>Ae .i64 Bhd fun A7x=>Ac Bm8<|Aa Bi5 fun Bfk Bgu=>Aa Bfk fun Bsh Bld=>Ca 1 Bsh fun Bzp Ans Aod=>Aa Bld fun Bq8 Bb8=>Ae .i64 Bq8 fun Ap0=>Ac Bb8<|Ac Bgu<|Bd (A7x==0) (An (decide (0+y1*3<=y7.length))<|Af (call 16 [.lst false 3 y1 (List.take (y1*3) (List.drop 0 y7)),.sc (.string Oz),.lst false 1 Zw FD]) fun Bjr Bcw=>Ac Bcw<|Aa Bjr fun Bex Bg5=>Ca 3 Bex fun Byt Bil Bkf=>Aa Bg5 fun Bts Boz=>Ae .i64 Bts fun Bu0=>Ac Boz<|An (decide (0+y2*3<=y8.length))<|Af (call 17 [.lst false 3 y2 (List.take (y2*3) (List.drop 0 y8)),.sc (.string Oz),.lst false 1 Zw FD]) fun Brk Btc=>Ac Btc<|Aa Brk fun Bsx Bvq=>Ca 3 Bsx fun Bz1 Bet Bmg=>Aa Bvq fun Bjn Bhq=>Ae .i64 Bjn fun Bro=>Ac Bhq<|At fu call Ap a0 a1 nn (fu) (y0) (y1) (y2) (y3) Oz Bil Bkf Bet Bmg Bu0 Bro Ans Aod Ap0 (y7) (y8) Zw FD To Td U7 X5 AA AS Zs Y0 (Mf==2) BF Mc) (Bd (A7x==1) (An (decide (0+y1*3<=y7.length))<|Af (call 18 [.lst false 3 y1 (List.take (y1*3) (List.drop 0 y7)),.sc (.string Oz),.agg [.lst false 1 Zw FD,.sc (.int .i64 To),.sc (.int .u64 Td),.sc (.int .u64 U7),.sc (.int .i64 X5),.sc (.bool AA),.sc (.int .u64 AS),.lst false 2 Zs Y0,.sc (.bool (Mf==2)),.sc (.int .i64 BF),.sc (.int .i64 Mc)]]) fun Bgo Bvi=>Ac Bvi<|Aa Bgo fun Beq Bbl=>Ca 3 Beq fun By7 Bgz Bra=>Aa Bbl fun Bvt Bgm=>Ae .i64 Bvt fun Bnx=>Ac Bgm<|An (decide (0+y2*3<=y8.length))<|Af (call 19 [.lst false 3 y2 (List.take (y2*3) (List.drop 0 y8)),.sc (.string Oz),.agg [.lst false 1 Zw FD,.sc (.int .i64 To),.sc (.int .u64 Td),.sc (.int .u64 U7),.sc (.int .i64 X5),.sc (.bool AA),.sc (.int .u64 AS),.lst false 2 Zs Y0,.sc (.bool (Mf==2)),.sc (.int .i64 BF),.sc (.int .i64 Mc)]]) fun Brj Beb=>Ac Beb<|Aa Brj fun Bph Bfw=>Ca 3 Bph fun B0j Bge Bed=>Aa Bfw fun Biw Bvf=>Ae .i64 Biw fun Br7=>Ac Bvf<|At fu call Ap a0 a1 nn (fu) (y0) (y1) (y2) (y3) Oz Bgz Bra Bge Bed Bnx Br7 Ans Aod Ap0 (y7) (y8) Zw FD To Td U7 X5 AA AS Zs Y0 (Mf==2) BF Mc) (Af (call 10 [.pbox [.lst false 1 Ans Aod,.sc (.int .i64 Ap0)],.sc (.int .i64 2)]) fun Bss Big=>Aa Bss fun Bt1 Bkw=>Ae .i64 Bt1 fun Bin=>Ac Bkw<|Aa Big fun Bme Bnl=>Aa Bme fun Bsa Bs2=>Ca 1 Bsa fun Byx Aya A58=>Aa Bs2 fun Brw Bfu=>Ae .i64 Brw fun A3j=>Ac Bfu<|Ac Bnl<|Bd (Bin==1) (Ab (wrap .i64 (900+y3)) fun Btb=>Af (call 9 [.sc (.int .i64 Btb),.sc (.int .i64 176)]) fun Bdf Bm7=>Ac Bm7<|Aa Bdf fun Bht Bd2=>Kc 1 Bht fun SY Aha=>Ac Bd2<|An (decide (0+y1*3<=y7.length))<|An (decide (0+SY*1<=Aha.length))<|Af (call 11 [.lst false 3 y1 (List.take (y1*3) (List.drop 0 y7)),.sc (.string Oz),.sc (.string (ByteArray.mk #[117,115,101,114])),.agg [.lst false 1 SY (List.take (SY*1) (List.drop 0 Aha)),.sc (.int .i64 To),.sc (.int .u64 Td),.sc (.int .u64 U7),.sc (.int .i64 X5),.sc (.bool AA),.sc (.int .u64 AS),.lst false 2 Zs Y0,.sc (.bool (Mf==2)),.sc (.int .i64 BF),.sc (.int .i64 Mc)]]) fun Br3 Bid=>Ac Bid<|Aa Br3 fun Bk7 Bsw=>Ca 3 Bk7 fun Bzq Bnc Be6=>Aa Bsw fun Bub Bgr=>Ae .i64 Bub fun Bi4=>Ac Bgr<|An (decide (0+y2*3<=y8.length))<|An (decide (0+SY*1<=Aha.length))<|Af (call 20 [.lst false 3 y2 (List.take (y2*3) (List.drop 0 y8)),.sc (.string Oz),.sc (.string (ByteArray.mk #[117,115,101,114])),.agg [.lst false 1 SY (List.take (SY*1) (List.drop 0 Aha)),.sc (.int .i64 To),.sc (.int .u64 Td),.sc (.int .u64 U7),.sc (.int .i64 X5),.sc (.bool AA),.sc (.int .u64 AS),.lst false 2 Zs Y0,.sc (.bool (Mf==2)),.sc (.int .i64 BF),.sc (.int .i64 Mc)]]) fun Bud Bbi=>Ac Bbi<|Aa Bud fun Bjo Br2=>Ca 3 Bjo fun By2 Bl0 Biv=>Aa Br2 fun Bln Bo0=>Ae .i64 Bln fun Boa=>Ac Bo0<|B0 fu call Ap a0 a1 nn (fu) (y0) (y1) (y2) (y3) Oz Bnc Be6 Bl0 Biv Bi4 Boa Aya A58 A3j (y7) (y8) SY To Td U7 X5 AA AS Zs Y0 (Mf==2) BF Mc Aha) (An (decide (0+y1*3<=y7.length))<|Af (call 11 [.lst false 3 y1 (List.take (y1*3) (List.drop 0 y7)),.sc (.string Oz),.sc (.string (ByteArray.mk #[117,115,101,114])),.agg [.lst false 1 Zw FD,.sc (.int .i64 To),.sc (.int .u64 Td),.sc (.int .u64 U7),.sc (.int .i64 X5),.sc (.bool AA),.sc (.int .u64 AS),.lst false 2 Zs Y0,.sc (.bool (Mf==2)),.sc (.int .i64 BF),.sc (.int .i64 Mc)]]) fun Blu Bkx=>Ac Bkx<|Aa Blu fun Btu Bea=>Ca 3 Btu fun B09 Bsz Bvm=>Aa Bea fun Buz Bt3=>Ae .i64 Buz fun Bc1=>Ac Bt3<|An (decide (0+y2*3<=y8.length))<|Af (call 20 [.lst false 3 y2 (List.take (y2*3) (List.drop 0 y8)),.sc (.string Oz),.sc (.string (ByteArray.mk #[117,115,101,114])),.agg [.lst false 1 Zw FD,.sc (.int .i64 To),.sc (.int .u64 Td),.sc (.int .u64 U7),.sc (.int .i64 X5),.sc (.bool AA),.sc (.int .u64 AS),.lst false 2 Zs Y0,.sc (.bool (Mf==2)),.sc (.int .i64 BF),.sc (.int .i64 Mc)]]) fun Bdh Bom=>Ac Bom<|Aa Bdh fun Brz Bdd=>Ca 3 Brz fun Bzl Bf1 Bpr=>Aa Bdd fun Bd0 Bkm=>Ae .i64 Bd0 fun Bs9=>Ac Bkm<|At fu call Ap a0 a1 nn (fu) (y0) (y1) (y2) (y3) Oz Bsz Bvm Bf1 Bpr Bc1 Bs9 Aya A58 A3j (y7) (y8) Zw FD To Td U7 X5 AA AS Zs Y0 (Mf==2) BF Mc))))) (Af (call 5 []) fun Bfs Bhb=>Ac Bhb<|Aa Bfs fun Bd6 Bn3=>Av Bd6 fun Bml=>Ac Bn3<|some (A2.mk [.sc (.bool Bml)] []))) (Af (call 5 []) fun Bds Bjf=>Ac Bjf<|Aa Bds fun Btt Bkz=>Av Btt fun Bjd=>Ac Bkz<|some (A2.mk [.sc (.bool Bjd)] []))):=by kernel_rfl
theorem Kv (fu:Nat)(call:Ai)(Ap:Nat)(a0:List PV)(a1:Int)(m0 nn:Nat)(Dy:0<nn)(y0:Int)(y1 y2:Nat)(y3:Int)(y4:ByteArray)(y5:Nat)(y6:List PV)(y7:Nat)(y8:List PV)(y9 Fi:Int)(Gi:Nat)(Ek:List PV)(Gh:Int)(Fu G5:List PV)(Ey:Nat)(Gl:List PV)(N7 Om:Int)(Ny Nz:Int)(Ol:Bool)(Oq:Int)(Oj:Nat)(N3:List PV)(Of:Bool)(Oa I3:Int):At fu call Ap a0 a1 m0 nn y0 y1 y2 y3 y4 y5 y6 y7 y8 y9 Fi Gi Ek Gh Fu G5 Ey Gl N7 Om Ny Nz Ol Oq Oj N3 Of Oa I3=(Bd (y9 != Fi) (some (A2.mk [.sc (.bool false)] [])) (Af (call 21 [.lst false 3 y5 y6,.lst false 3 y7 y8]) fun Bmw Bcp=>Ac Bcp<|Aa Bmw fun Bko Bji=>Av Bko fun Bsi=>Ac Bji<|Bd (!Bsi) (some (A2.mk [.sc (.bool false)] [])) (Bd (y9==0) (Af (call 14 [.lst false 3 y5 y6,.sc (.string y4)]) fun Blw Bka=>Ac Bka<|Aa Blw fun Bh9 Bbc=>Ae .i64 Bh9 fun Bl9=>Aa Bbc fun Be7 Bgd=>Av Be7 fun Bdo=>Ac Bgd<|Af (call 22 [.lst false 3 y7 y8,.sc (.string y4)]) fun Biy Bkh=>Ac Bkh<|Aa Biy fun Bcn Bp5=>Ae .i64 Bcn fun Bdr=>Aa Bp5 fun Bis Bpb=>Av Bis fun Bso=>Ac Bpb<|Af (call 23 [.lst false 3 y5 y6,.lst false 1 Ey Gl]) fun Bg9 Bej=>Ac Bej<|Aa Bg9 fun Bnu Bqa=>Ae .i64 Bnu fun Bqm=>Aa Bqa fun Bog Bg4=>Ae .i64 Bog fun Bbo=>Aa Bg4 fun Btd Bti=>Av Btd fun Bsl=>Ac Bti<|Af (call 24 [.lst false 3 y7 y8,.lst false 1 Ey Gl]) fun Bvw Bq5=>Ac Bq5<|Aa Bvw fun Bbs Bc5=>Ae .i64 Bbs fun Bvn=>Aa Bc5 fun Bns Bqw=>Ae .i64 Bns fun Bei=>Aa Bqw fun Bfg Bif=>Av Bfg fun Bvg=>Ac Bif<|Bd (Bl9 != Bdr) (some (A2.mk [.sc (.bool false)] [])) (Bd (!Bdo==Bso) (some (A2.mk [.sc (.bool false)] [])) (Bd (Bqm != Bvn) (some (A2.mk [.sc (.bool false)] [])) (Bd (Bbo != Bei) (some (A2.mk [.sc (.bool false)] [])) (Bd (!Bsl==Bvg) (some (A2.mk [.sc (.bool false)] [])) (Af (call 13 [.lst false 3 y5 y6,.sc (.int .u64 y0),.sc (.string y4)]) fun Bny Bla=>Ac Bla<|Aa Bny fun Bne Bmr=>Kc 1 Bne fun Apu A14=>Ac Bmr<|Af (call 26 [.lst false 3 y7 y8,.sc (.int .u64 y0),.sc (.string y4)]) fun Bnf Bu1=>Ac Bu1<|Aa Bnf fun Bjl Bj5=>Kc 1 Bjl fun Aoe Av6=>Ac Bj5<|An (decide (0+Apu*1<=A14.length))<|An (decide (0+Aoe*1<=Av6.length))<|Af (call 25 [.lst false 1 Apu (List.take (Apu*1) (List.drop 0 A14)),.lst false 1 Aoe (List.take (Aoe*1) (List.drop 0 Av6))]) fun Bs8 Bb6=>Ac Bb6<|Aa Bs8 fun Bmj Bga=>Av Bmj fun Bt8=>Ac Bga<|Bd (!Bt8) (some (A2.mk [.sc (.bool false)] [])) (Ab (wrap .i64 (y3+1)) fun Brt=>Ak fu call Ap a0 a1 (m0) (y0) (y5) (y6) (y7) (y8) Brt (Gi) (Ek) (Gh)))))))) (An (decide (0+y1*3<=Fu.length))<|Af (call 14 [.lst false 3 y1 (List.take (y1*3) (List.drop 0 Fu)),.sc (.string y4)]) fun Bdz Bgg=>Ac Bgg<|Aa Bdz fun Bmo Buk=>Ae .i64 Bmo fun Bfi=>Aa Buk fun Bsj Bqo=>Av Bsj fun Bi2=>Ac Bqo<|An (decide (0+y2*3<=G5.length))<|Af (call 22 [.lst false 3 y2 (List.take (y2*3) (List.drop 0 G5)),.sc (.string y4)]) fun Bfy Bli=>Ac Bli<|Aa Bfy fun Bgf Bi8=>Ae .i64 Bgf fun Buw=>Aa Bi8 fun Bek Ben=>Av Bek fun Bfn=>Ac Ben<|An (decide (0+y1*3<=Fu.length))<|Af (call 23 [.lst false 3 y1 (List.take (y1*3) (List.drop 0 Fu)),.lst false 1 Ey Gl]) fun Bhe Bdj=>Ac Bdj<|Aa Bhe fun Bnm Bgs=>Ae .i64 Bnm fun Btn=>Aa Bgs fun Bvs Bsd=>Ae .i64 Bvs fun Bug=>Aa Bsd fun Btq Brl=>Av Btq fun Bir=>Ac Brl<|An (decide (0+y2*3<=G5.length))<|Af (call 24 [.lst false 3 y2 (List.take (y2*3) (List.drop 0 G5)),.lst false 1 Ey Gl]) fun Bke Bup=>Ac Bup<|Aa Bke fun Bl4 Bd9=>Ae .i64 Bl4 fun Btr=>Aa Bd9 fun Bri Bih=>Ae .i64 Bri fun Bib=>Aa Bih fun Bch Bdu=>Av Bch fun Bdx=>Ac Bdu<|Bd (Bfi != Buw) (some (A2.mk [.sc (.bool false)] [])) (Bd (!Bi2==Bfn) (some (A2.mk [.sc (.bool false)] [])) (Bd (Btn != Btr) (some (A2.mk [.sc (.bool false)] [])) (Bd (Bug != Bib) (some (A2.mk [.sc (.bool false)] [])) (Bd (!Bir==Bdx) (some (A2.mk [.sc (.bool false)] [])) (An (decide (0+y1*3<=Fu.length))<|Af (call 13 [.lst false 3 y1 (List.take (y1*3) (List.drop 0 Fu)),.sc (.int .u64 y0),.sc (.string y4)]) fun Bfq Bey=>Ac Bey<|Aa Bfq fun Bu3 Bo5=>Kc 1 Bu3 fun Aq9 A9q=>Ac Bo5<|An (decide (0+y2*3<=G5.length))<|Af (call 26 [.lst false 3 y2 (List.take (y2*3) (List.drop 0 G5)),.sc (.int .u64 y0),.sc (.string y4)]) fun Bob Bjv=>Ac Bjv<|Aa Bob fun Bk9 Bjt=>Kc 1 Bk9 fun An7 Atw=>Ac Bjt<|An (decide (0+Aq9*1<=A9q.length))<|An (decide (0+An7*1<=Atw.length))<|Af (call 25 [.lst false 1 Aq9 (List.take (Aq9*1) (List.drop 0 A9q)),.lst false 1 An7 (List.take (An7*1) (List.drop 0 Atw))]) fun Bjj Bez=>Ac Bez<|Aa Bjj fun Brr Brs=>Av Brr fun Bta=>Ac Brs<|Bd (!Bta) (some (A2.mk [.sc (.bool false)] [])) (Ab (wrap .i64 (y3+1)) fun Bg3=>A1 fu call Ap a0 a1 (m0) (y0) (y1) (y2) Bg3 (Gi) (Ek) (Gh) (Fu) (G5))))))))))):=by cases nn with|zero=>exact absurd Dy (Nat.lt_irrefl 0)|succ nn=>kernel_rfl
theorem Jr (fu:Nat)(call:Ai)(Ap:Nat)(a0:List PV)(a1:Int)(m0 nn:Nat)(Dy:0<nn)(y0:Int)(y1 y2:Nat)(y3:Int)(y4:ByteArray)(y5:Nat)(y6:List PV)(y7:Nat)(y8:List PV)(y9 Fi:Int)(Gi:Nat)(Ek:List PV)(Gh:Int)(Fu G5:List PV)(Ey:Nat)(Gl N7:Int)(Om Ny:Int)(Nz:Bool)(Ol:Int)(Oq:Nat)(Oj:List PV)(N3:Bool)(Of Oa:Int)(I3:List PV):B0 fu call Ap a0 a1 m0 nn y0 y1 y2 y3 y4 y5 y6 y7 y8 y9 Fi Gi Ek Gh Fu G5 Ey Gl N7 Om Ny Nz Ol Oq Oj N3 Of Oa I3=(Bd (y9 != Fi) (some (A2.mk [.sc (.bool false)] [])) (Af (call 21 [.lst false 3 y5 y6,.lst false 3 y7 y8]) fun Bqq Bh8=>Ac Bh8<|Aa Bqq fun Bve Bk0=>Av Bve fun Bsm=>Ac Bk0<|Bd (!Bsm) (some (A2.mk [.sc (.bool false)] [])) (Bd (y9==0) (Af (call 14 [.lst false 3 y5 y6,.sc (.string y4)]) fun Bpk Bn5=>Ac Bn5<|Aa Bpk fun Bpt Bki=>Ae .i64 Bpt fun Bqx=>Aa Bki fun Bhz Bm3=>Av Bhz fun Bb7=>Ac Bm3<|Af (call 22 [.lst false 3 y7 y8,.sc (.string y4)]) fun Bm1 Btf=>Ac Btf<|Aa Bm1 fun Buh Bhv=>Ae .i64 Buh fun Bbg=>Aa Bhv fun Blt Blb=>Av Blt fun Bsb=>Ac Blb<|An (decide (0+Ey*1<=I3.length))<|Af (call 23 [.lst false 3 y5 y6,.lst false 1 Ey (List.take (Ey*1) (List.drop 0 I3))]) fun Bvv Brh=>Ac Brh<|Aa Bvv fun Bnv Bs7=>Ae .i64 Bnv fun Bul=>Aa Bs7 fun Bq1 Bl5=>Ae .i64 Bq1 fun Bfc=>Aa Bl5 fun Bbz Bel=>Av Bbz fun Bos=>Ac Bel<|An (decide (0+Ey*1<=I3.length))<|Af (call 24 [.lst false 3 y7 y8,.lst false 1 Ey (List.take (Ey*1) (List.drop 0 I3))]) fun Bn9 Bs1=>Ac Bs1<|Aa Bn9 fun Bmi Buq=>Ae .i64 Bmi fun Bhw=>Aa Buq fun Bcm Bth=>Ae .i64 Bcm fun Br4=>Aa Bth fun Bpa Blj=>Av Bpa fun Bev=>Ac Blj<|Bd (Bqx != Bbg) (some (A2.mk [.sc (.bool false)] [])) (Bd (!Bb7==Bsb) (some (A2.mk [.sc (.bool false)] [])) (Bd (Bul != Bhw) (some (A2.mk [.sc (.bool false)] [])) (Bd (Bfc != Br4) (some (A2.mk [.sc (.bool false)] [])) (Bd (!Bos==Bev) (some (A2.mk [.sc (.bool false)] [])) (Af (call 13 [.lst false 3 y5 y6,.sc (.int .u64 y0),.sc (.string y4)]) fun Bbm Bpc=>Ac Bpc<|Aa Bbm fun Bft Bcy=>Kc 1 Bft fun Anf A30=>Ac Bcy<|Af (call 26 [.lst false 3 y7 y8,.sc (.int .u64 y0),.sc (.string y4)]) fun Bjq Bk8=>Ac Bk8<|Aa Bjq fun Bhi Bqu=>Kc 1 Bhi fun Aqf A8v=>Ac Bqu<|An (decide (0+Anf*1<=A30.length))<|An (decide (0+Aqf*1<=A8v.length))<|Af (call 25 [.lst false 1 Anf (List.take (Anf*1) (List.drop 0 A30)),.lst false 1 Aqf (List.take (Aqf*1) (List.drop 0 A8v))]) fun Bpw Bte=>Ac Bte<|Aa Bpw fun Bms Bkp=>Av Bms fun Bpf=>Ac Bkp<|Bd (!Bpf) (some (A2.mk [.sc (.bool false)] [])) (Ab (wrap .i64 (y3+1)) fun Bhx=>Ak fu call Ap a0 a1 (m0) (y0) (y5) (y6) (y7) (y8) Bhx (Gi) (Ek) (Gh)))))))) (An (decide (0+y1*3<=Fu.length))<|Af (call 14 [.lst false 3 y1 (List.take (y1*3) (List.drop 0 Fu)),.sc (.string y4)]) fun Be4 Bj3=>Ac Bj3<|Aa Be4 fun Bhm Brp=>Ae .i64 Bhm fun Bh1=>Aa Brp fun Bkd Bc4=>Av Bkd fun Bno=>Ac Bc4<|An (decide (0+y2*3<=G5.length))<|Af (call 22 [.lst false 3 y2 (List.take (y2*3) (List.drop 0 G5)),.sc (.string y4)]) fun Bmt Bmq=>Ac Bmq<|Aa Bmt fun Bvo Bcf=>Ae .i64 Bvo fun Bp9=>Aa Bcf fun Bh3 Bd3=>Av Bh3 fun Bkg=>Ac Bd3<|An (decide (0+y1*3<=Fu.length))<|An (decide (0+Ey*1<=I3.length))<|Af (call 23 [.lst false 3 y1 (List.take (y1*3) (List.drop 0 Fu)),.lst false 1 Ey (List.take (Ey*1) (List.drop 0 I3))]) fun Bnt Btv=>Ac Btv<|Aa Bnt fun Bh6 Bbp=>Ae .i64 Bh6 fun Bix=>Aa Bbp fun Boc Bcc=>Ae .i64 Boc fun Bpd=>Aa Bcc fun Ber Bnz=>Av Ber fun Bkb=>Ac Bnz<|An (decide (0+y2*3<=G5.length))<|An (decide (0+Ey*1<=I3.length))<|Af (call 24 [.lst false 3 y2 (List.take (y2*3) (List.drop 0 G5)),.lst false 1 Ey (List.take (Ey*1) (List.drop 0 I3))]) fun Bdl Bvk=>Ac Bvk<|Aa Bdl fun Blm Bfl=>Ae .i64 Blm fun Bng=>Aa Bfl fun Buv Bdy=>Ae .i64 Buv fun Bna=>Aa Bdy fun Bbr Bho=>Av Bbr fun Bcd=>Ac Bho<|Bd (Bh1 != Bp9) (some (A2.mk [.sc (.bool false)] [])) (Bd (!Bno==Bkg) (some (A2.mk [.sc (.bool false)] [])) (Bd (Bix != Bng) (some (A2.mk [.sc (.bool false)] [])) (Bd (Bpd != Bna) (some (A2.mk [.sc (.bool false)] [])) (Bd (!Bkb==Bcd) (some (A2.mk [.sc (.bool false)] [])) (An (decide (0+y1*3<=Fu.length))<|Af (call 13 [.lst false 3 y1 (List.take (y1*3) (List.drop 0 Fu)),.sc (.int .u64 y0),.sc (.string y4)]) fun Bbh Bni=>Ac Bni<|Aa Bbh fun Bqn Bqc=>Kc 1 Bqn fun Ant A81=>Ac Bqc<|An (decide (0+y2*3<=G5.length))<|Af (call 26 [.lst false 3 y2 (List.take (y2*3) (List.drop 0 G5)),.sc (.int .u64 y0),.sc (.string y4)]) fun Bqk Bfm=>Ac Bfm<|Aa Bqk fun Bpx Bvx=>Kc 1 Bpx fun Aqc Ay5=>Ac Bvx<|An (decide (0+Ant*1<=A81.length))<|An (decide (0+Aqc*1<=Ay5.length))<|Af (call 25 [.lst false 1 Ant (List.take (Ant*1) (List.drop 0 A81)),.lst false 1 Aqc (List.take (Aqc*1) (List.drop 0 Ay5))]) fun Bc3 Bfv=>Ac Bfv<|Aa Bc3 fun Bsn Bux=>Av Bsn fun Bg7=>Ac Bux<|Bd (!Bg7) (some (A2.mk [.sc (.bool false)] [])) (Ab (wrap .i64 (y3+1)) fun Bp1=>A1 fu call Ap a0 a1 (m0) (y0) (y1) (y2) Bp1 (Gi) (Ek) (Gh) (Fu) (G5))))))))))):=by cases nn with|zero=>exact absurd Dy (Nat.lt_irrefl 0)|succ nn=>kernel_rfl
theorem Ff (fu:Nat)(call:Ai)(Ap:Nat)(a0:List PV)(a1:Int)(nn:Nat)(y0:Int)(y1:Nat)(y2:List PV)(y3:Nat)(y4:List PV)(y5:Int)(y6:Nat)(y7:List PV)(y8:Int):Ak fu call Ap a0 a1 (nn+1) y0 y1 y2 y3 y4 y5 y6 y7 y8=(Bd (decide (y5<60)) (Af (call 7 [.pbox [.lst false 1 y6 y7,.sc (.int .i64 y8)]]) fun Bpz Bu9=>Aa Bpz fun Bo7 Bec=>Av Bo7 fun Bse=>Ac Bec<|Aa Bu9 fun Bnn Beu=>Aa Bnn fun Bo9 Bha=>Ca 1 Bo9 fun Bx5 Bgw Bp7=>Aa Bha fun Bfd Bco=>Ae .i64 Bfd fun Bbq=>Ac Bco<|Ac Beu<|Bd Bse (Af (call 10 [.pbox [.lst false 1 Bgw Bp7,.sc (.int .i64 Bbq)],.sc (.int .i64 20)]) fun Bh7 Bmv=>Aa Bh7 fun Bi6 Bjc=>Ae .i64 Bi6 fun Ane=>Ac Bjc<|Aa Bmv fun Boy Brx=>Aa Boy fun Bes Bdn=>Ca 1 Bes fun Byp Bqd Bg6=>Aa Bdn fun Blc Brm=>Ae .i64 Blc fun Bjs=>Ac Brm<|Ac Brx<|An (decide (0<=Ane)&&decide (Ane<20))<|E2 (List.getD [.sc (.string (ByteArray.mk #[97])),.sc (.string (ByteArray.mk #[98])),.sc (.string (ByteArray.mk #[99])),.sc (.string (ByteArray.mk #[100])),.sc (.string (ByteArray.mk #[101])),.sc (.string (ByteArray.mk #[102])),.sc (.string (ByteArray.mk #[103])),.sc (.string (ByteArray.mk #[104])),.sc (.string (ByteArray.mk #[105])),.sc (.string (ByteArray.mk #[106])),.sc (.string (ByteArray.mk #[107])),.sc (.string (ByteArray.mk #[108])),.sc (.string (ByteArray.mk #[109])),.sc (.string (ByteArray.mk #[110])),.sc (.string (ByteArray.mk #[111])),.sc (.string (ByteArray.mk #[112])),.sc (.string (ByteArray.mk #[113])),.sc (.string (ByteArray.mk #[114])),.sc (.string (ByteArray.mk #[])),.sc (.string (ByteArray.mk #[48,49,50,51,52,53,54,55,56,57,48,49,50,51,52,53,54,55,56,57,48,49,50,51,52,53,54,55,56,57,48,49,50,51]))] (0+Int.toNat Ane*1) .top) fun Mk=>Af (call 10 [.pbox [.lst false 1 Bqd Bg6,.sc (.int .i64 Bjs)],.sc (.int .i64 12)]) fun Bqg Bi1=>Aa Bqg fun Bum Biq=>Ae .i64 Bum fun Bij=>Ac Biq<|Aa Bi1 fun Bci Bq6=>Aa Bci fun Bm9 Beo=>Ca 1 Bm9 fun Bzj Bu8 Bcv=>Aa Beo fun Bc7 Bjb=>Ae .i64 Bc7 fun Bua=>Ac Bjb<|Ac Bq6<|Af (call 8 [.sc (.int .i64 Bij),.sc (.int .i64 1)]) fun Bfo Bs4=>Ac Bs4<|Aa Bfo fun Bqf Bg0=>Gd Bqf fun Bpg=>Aa Bpg fun Bbw Bj6=>Ca 1 Bbw fun Bys FS FT=>Aa Bj6 fun Br0 Bpm=>Ae .i64 Br0 fun Pm=>Aa Bpm fun Bpe Bun=>Ae .u64 Bpe fun O3=>Aa Bun fun Bce Bcs=>Ae .u64 Bce fun P0=>Aa Bcs fun Bvh Bo6=>Ae .i64 Bvh fun P6=>Aa Bo6 fun Bdw Bnh=>Av Bdw fun Pk=>Aa Bnh fun Bqy Bfx=>Ae .u64 Bqy fun Pn=>Aa Bfx fun Bfp Brq=>Ca 2 Bfp fun B1d Ps P4=>Aa Brq fun Be8 Bn2=>Av Be8 fun By3=>Aa Bn2 fun Bj4 Bdt=>Ae .i64 Bj4 fun O8=>Aa Bdt fun Be2 Bh5=>Ae .i64 Be2 fun O7=>Ac Bh5<|Ac Bg0<|Af (call 10 [.pbox [.lst false 1 Bu8 Bcv,.sc (.int .i64 Bua)],.sc (.int .i64 3)]) fun Bf6 Bhj=>Aa Bf6 fun Bgj Bde=>Ae .i64 Bgj fun Qf=>Ac Bde<|Aa Bhj fun Bu7 Bls=>Aa Bu7 fun Bic Bsk=>Ca 1 Bic fun Bx7 Bo4 Bgb=>Aa Bsk fun Bn4 Bus=>Ae .i64 Bn4 fun Bc6=>Ac Bus<|Ac Bls<|Af (call 10 [.pbox [.lst false 1 Bo4 Bgb,.sc (.int .i64 Bc6)],.sc (.int .i64 20)]) fun Bie Bmz=>Aa Bie fun Bo2 Bfr=>Ae .i64 Bo2 fun Bdp=>Ac Bfr<|Aa Bmz fun Bja Bvp=>Aa Bja fun Bmd But=>Ca 1 Bmd fun B1q Ax3 Axk=>Aa But fun Bl7 Bpv=>Ae .i64 Bl7 fun A4n=>Ac Bpv<|Ac Bvp<|Bd (Bdp==19) (Af (call 10 [.pbox [.lst false 1 Ax3 Axk,.sc (.int .i64 A4n)],.sc (.int .i64 176)]) fun Btj Bgt=>Aa Btj fun Bql Bhh=>Ae .i64 Bql fun Apl=>Ac Bhh<|Aa Bgt fun Bre Bhl=>Aa Bre fun Bod Bcx=>Ca 1 Bod fun Bze Btx Bl3=>Aa Bcx fun Bsv Bu2=>Ae .i64 Bsv fun Bo8=>Ac Bu2<|Ac Bhl<|An (decide (0<=Apl))<|An (decide (Int.toNat Apl<=FS))<|Ab (Int.toNat Apl-0) fun GG=>Ab (List.take (GG*1) (List.drop 0 FT)) fun ML=>Af (call 10 [.pbox [.lst false 1 Btx Bl3,.sc (.int .i64 Bo8)],.sc (.int .i64 5)]) fun Btm Bh0=>Aa Btm fun Bkn Bfj=>Ae .i64 Bkn fun At0=>Ac Bfj<|Aa Bh0 fun Bsq Brd=>Aa Bsq fun Bqb Bjk=>Ca 1 Bqb fun Byh Aqt Ao4=>Aa Bjk fun Bdk Bvr=>Ae .i64 Bdk fun An1=>Ac Bvr<|Ac Brd<|Bd (At0==0) (Af (call 16 [.lst false 3 y1 y2,.sc (.string Mk),.lst false 1 GG ML]) fun Bok Bto=>Ac Bto<|Aa Bok fun Bio Bm0=>Ca 3 Bio fun Bye Bru Bmm=>Aa Bm0 fun Bjw Bk6=>Ae .i64 Bjw fun Bk3=>Ac Bk6<|Af (call 17 [.lst false 3 y3 y4,.sc (.string Mk),.lst false 1 GG ML]) fun Bj0 Brf=>Ac Brf<|Aa Bj0 fun Bhy Bjz=>Ca 3 Bhy fun B1g Bkv Bii=>Aa Bjz fun Bgn Bfz=>Ae .i64 Bgn fun Bik=>Ac Bfz<|Bc fu call Ap a0 a1 nn (fu) (y0) (y1) (y2) (y3) (y4) (y5) Mk Bru Bmm Bkv Bii Bk3 Bik Aqt Ao4 An1 GG ML Pm O3 P0 P6 Pk Pn Ps P4 (Qf==2) O8 O7) (Bd (At0==1) (Af (call 18 [.lst false 3 y1 y2,.sc (.string Mk),.agg [.lst false 1 GG ML,.sc (.int .i64 Pm),.sc (.int .u64 O3),.sc (.int .u64 P0),.sc (.int .i64 P6),.sc (.bool Pk),.sc (.int .u64 Pn),.lst false 2 Ps P4,.sc (.bool (Qf==2)),.sc (.int .i64 O8),.sc (.int .i64 O7)]]) fun Bmk Bva=>Ac Bva<|Aa Bmk fun Bbe Bly=>Ca 3 Bbe fun Byz Bb1 Bhr=>Aa Bly fun Bpu Biu=>Ae .i64 Bpu fun Bjx=>Ac Biu<|Af (call 19 [.lst false 3 y3 y4,.sc (.string Mk),.agg [.lst false 1 GG ML,.sc (.int .i64 Pm),.sc (.int .u64 O3),.sc (.int .u64 P0),.sc (.int .i64 P6),.sc (.bool Pk),.sc (.int .u64 Pn),.lst false 2 Ps P4,.sc (.bool (Qf==2)),.sc (.int .i64 O8),.sc (.int .i64 O7)]]) fun Bjg Bmn=>Ac Bmn<|Aa Bjg fun Bsy Bvb=>Ca 3 Bsy fun B1k Blk Be5=>Aa Bvb fun Bnb Bi9=>Ae .i64 Bnb fun Boh=>Ac Bi9<|Bc fu call Ap a0 a1 nn (fu) (y0) (y1) (y2) (y3) (y4) (y5) Mk Bb1 Bhr Blk Be5 Bjx Boh Aqt Ao4 An1 GG ML Pm O3 P0 P6 Pk Pn Ps P4 (Qf==2) O8 O7) (Af (call 10 [.pbox [.lst false 1 Aqt Ao4,.sc (.int .i64 An1)],.sc (.int .i64 2)]) fun Bf8 Br5=>Aa Bf8 fun Bf4 Bnd=>Ae .i64 Bf4 fun Bpj=>Ac Bnd<|Aa Br5 fun Bsp Bjm=>Aa Bsp fun Bkj Bmu=>Ca 1 Bkj fun B0w Asj A4q=>Aa Bmu fun Bl1 Bo1=>Ae .i64 Bl1 fun Ats=>Ac Bo1<|Ac Bjm<|Bd (Bpj==1) (Ab (wrap .i64 (900+y5)) fun Bp6=>Af (call 9 [.sc (.int .i64 Bp6),.sc (.int .i64 176)]) fun Bsr Blh=>Ac Blh<|Aa Bsr fun Bcr Bcl=>Kc 1 Bcr fun UH Aey=>Ac Bcl<|An (decide (0+UH*1<=Aey.length))<|Af (call 11 [.lst false 3 y1 y2,.sc (.string Mk),.sc (.string (ByteArray.mk #[117,115,101,114])),.agg [.lst false 1 UH (List.take (UH*1) (List.drop 0 Aey)),.sc (.int .i64 Pm),.sc (.int .u64 O3),.sc (.int .u64 P0),.sc (.int .i64 P6),.sc (.bool Pk),.sc (.int .u64 Pn),.lst false 2 Ps P4,.sc (.bool (Qf==2)),.sc (.int .i64 O8),.sc (.int .i64 O7)]]) fun Bee Bit=>Ac Bit<|Aa Bee fun Bow Bnw=>Ca 3 Bow fun Bx8 Bgq Bnr=>Aa Bnw fun Bhk Bip=>Ae .i64 Bhk fun Bi7=>Ac Bip<|An (decide (0+UH*1<=Aey.length))<|Af (call 20 [.lst false 3 y3 y4,.sc (.string Mk),.sc (.string (ByteArray.mk #[117,115,101,114])),.agg [.lst false 1 UH (List.take (UH*1) (List.drop 0 Aey)),.sc (.int .i64 Pm),.sc (.int .u64 O3),.sc (.int .u64 P0),.sc (.int .i64 P6),.sc (.bool Pk),.sc (.int .u64 Pn),.lst false 2 Ps P4,.sc (.bool (Qf==2)),.sc (.int .i64 O8),.sc (.int .i64 O7)]]) fun Bgp Bcu=>Ac Bcu<|Aa Bgp fun Bbx Bnk=>Ca 3 Bbx fun Bzn Boq Bps=>Aa Bnk fun Bd4 Bt4=>Ae .i64 Bd4 fun Bp0=>Ac Bt4<|Cr fu call Ap a0 a1 nn (fu) (y0) (y1) (y2) (y3) (y4) (y5) Mk Bgq Bnr Boq Bps Bi7 Bp0 Asj A4q Ats UH Pm O3 P0 P6 Pk Pn Ps P4 (Qf==2) O8 O7 Aey) (Af (call 11 [.lst false 3 y1 y2,.sc (.string Mk),.sc (.string (ByteArray.mk #[117,115,101,114])),.agg [.lst false 1 GG ML,.sc (.int .i64 Pm),.sc (.int .u64 O3),.sc (.int .u64 P0),.sc (.int .i64 P6),.sc (.bool Pk),.sc (.int .u64 Pn),.lst false 2 Ps P4,.sc (.bool (Qf==2)),.sc (.int .i64 O8),.sc (.int .i64 O7)]]) fun Bqs Bcj=>Ac Bcj<|Aa Bqs fun Bmy Bkl=>Ca 3 Bmy fun By1 Bbd Bj2=>Aa Bkl fun Be1 Bkk=>Ae .i64 Be1 fun Bt7=>Ac Bkk<|Af (call 20 [.lst false 3 y3 y4,.sc (.string Mk),.sc (.string (ByteArray.mk #[117,115,101,114])),.agg [.lst false 1 GG ML,.sc (.int .i64 Pm),.sc (.int .u64 O3),.sc (.int .u64 P0),.sc (.int .i64 P6),.sc (.bool Pk),.sc (.int .u64 Pn),.lst false 2 Ps P4,.sc (.bool (Qf==2)),.sc (.int .i64 O8),.sc (.int .i64 O7)]]) fun Bn6 Bbn=>Ac Bbn<|Aa Bn6 fun Bc8 Bst=>Ca 3 Bc8 fun B0v Bsu Blr=>Aa Bst fun Beh Bb3=>Ae .i64 Beh fun Bcb=>Ac Bb3<|Bc fu call Ap a0 a1 nn (fu) (y0) (y1) (y2) (y3) (y4) (y5) Mk Bbd Bj2 Bsu Blr Bt7 Bcb Asj A4q Ats GG ML Pm O3 P0 P6 Pk Pn Ps P4 (Qf==2) O8 O7)))) (Af (call 10 [.pbox [.lst false 1 Ax3 Axk,.sc (.int .i64 A4n)],.sc (.int .i64 5)]) fun Boo Bl6=>Aa Boo fun Bof Buo=>Ae .i64 Bof fun A26=>Ac Buo<|Aa Bl6 fun Bpy Bef=>Aa Bpy fun Bj1 Bh4=>Ca 1 Bj1 fun Bz0 Aq6 Ara=>Aa Bh4 fun Bn0 Bmb=>Ae .i64 Bn0 fun Aq8=>Ac Bmb<|Ac Bef<|Bd (A26==0) (Af (call 16 [.lst false 3 y1 y2,.sc (.string Mk),.lst false 1 FS FT]) fun Bfh Bje=>Ac Bje<|Aa Bfh fun Bqi Bsc=>Ca 3 Bqi fun B0l Bvc Bk5=>Aa Bsc fun Bkt Bpl=>Ae .i64 Bkt fun Bot=>Ac Bpl<|Af (call 17 [.lst false 3 y3 y4,.sc (.string Mk),.lst false 1 FS FT]) fun Bct Bgi=>Ac Bgi<|Aa Bct fun Bmx Bgx=>Ca 3 Bmx fun Byl Bue Bry=>Aa Bgx fun Blg Bgl=>Ae .i64 Blg fun Bmf=>Ac Bgl<|Bc fu call Ap a0 a1 nn (fu) (y0) (y1) (y2) (y3) (y4) (y5) Mk Bvc Bk5 Bue Bry Bot Bmf Aq6 Ara Aq8 FS FT Pm O3 P0 P6 Pk Pn Ps P4 (Qf==2) O8 O7) (Bd (A26==1) (Af (call 18 [.lst false 3 y1 y2,.sc (.string Mk),.agg [.lst false 1 FS FT,.sc (.int .i64 Pm),.sc (.int .u64 O3),.sc (.int .u64 P0),.sc (.int .i64 P6),.sc (.bool Pk),.sc (.int .u64 Pn),.lst false 2 Ps P4,.sc (.bool (Qf==2)),.sc (.int .i64 O8),.sc (.int .i64 O7)]]) fun Bjp Btz=>Ac Btz<|Aa Bjp fun Bg8 Bim=>Ca 3 Bg8 fun B02 Bm5 Br1=>Aa Bim fun Bqj Bhp=>Ae .i64 Bqj fun Bhn=>Ac Bhp<|Af (call 19 [.lst false 3 y3 y4,.sc (.string Mk),.agg [.lst false 1 FS FT,.sc (.int .i64 Pm),.sc (.int .u64 O3),.sc (.int .u64 P0),.sc (.int .i64 P6),.sc (.bool Pk),.sc (.int .u64 Pn),.lst false 2 Ps P4,.sc (.bool (Qf==2)),.sc (.int .i64 O8),.sc (.int .i64 O7)]]) fun Bqp Bf5=>Ac Bf5<|Aa Bqp fun Bq9 Bui=>Ca 3 Bq9 fun B08 Bpq Be3=>Aa Bui fun Bby Bky=>Ae .i64 Bby fun Buj=>Ac Bky<|Bc fu call Ap a0 a1 nn (fu) (y0) (y1) (y2) (y3) (y4) (y5) Mk Bm5 Br1 Bpq Be3 Bhn Buj Aq6 Ara Aq8 FS FT Pm O3 P0 P6 Pk Pn Ps P4 (Qf==2) O8 O7) (Af (call 10 [.pbox [.lst false 1 Aq6 Ara,.sc (.int .i64 Aq8)],.sc (.int .i64 2)]) fun Bd1 Bi3=>Aa Bd1 fun Blo Bsf=>Ae .i64 Blo fun Bpo=>Ac Bsf<|Aa Bi3 fun Be0 Blv=>Aa Be0 fun Bp2 Bck=>Ca 1 Bp2 fun B07 A46 A3u=>Aa Bck fun Bd7 Btw=>Ae .i64 Bd7 fun A1e=>Ac Btw<|Ac Blv<|Bd (Bpo==1) (Ab (wrap .i64 (900+y5)) fun Btl=>Af (call 9 [.sc (.int .i64 Btl),.sc (.int .i64 176)]) fun Bl8 Bep=>Ac Bep<|Aa Bl8 fun Bp4 Bdv=>Kc 1 Bp4 fun UU Adj=>Ac Bdv<|An (decide (0+UU*1<=Adj.length))<|Af (call 11 [.lst false 3 y1 y2,.sc (.string Mk),.sc (.string (ByteArray.mk #[117,115,101,114])),.agg [.lst false 1 UU (List.take (UU*1) (List.drop 0 Adj)),.sc (.int .i64 Pm),.sc (.int .u64 O3),.sc (.int .u64 P0),.sc (.int .i64 P6),.sc (.bool Pk),.sc (.int .u64 Pn),.lst false 2 Ps P4,.sc (.bool (Qf==2)),.sc (.int .i64 O8),.sc (.int .i64 O7)]]) fun Bg1 Bq0=>Ac Bq0<|Aa Bg1 fun Bs0 Boi=>Ca 3 Bs0 fun B1h Bcq Bkr=>Aa Boi fun Bfe Bty=>Ae .i64 Bfe fun Bc9=>Ac Bty<|An (decide (0+UU*1<=Adj.length))<|Af (call 20 [.lst false 3 y3 y4,.sc (.string Mk),.sc (.string (ByteArray.mk #[117,115,101,114])),.agg [.lst false 1 UU (List.take (UU*1) (List.drop 0 Adj)),.sc (.int .i64 Pm),.sc (.int .u64 O3),.sc (.int .u64 P0),.sc (.int .i64 P6),.sc (.bool Pk),.sc (.int .u64 Pn),.lst false 2 Ps P4,.sc (.bool (Qf==2)),.sc (.int .i64 O8),.sc (.int .i64 O7)]]) fun Bb0 Btp=>Ac Btp<|Aa Bb0 fun Bk2 Ble=>Ca 3 Bk2 fun Bya Bmc Bfa=>Aa Ble fun Bqr Bju=>Ae .i64 Bqr fun Bj9=>Ac Bju<|Cr fu call Ap a0 a1 nn (fu) (y0) (y1) (y2) (y3) (y4) (y5) Mk Bcq Bkr Bmc Bfa Bc9 Bj9 A46 A3u A1e UU Pm O3 P0 P6 Pk Pn Ps P4 (Qf==2) O8 O7 Adj) (Af (call 11 [.lst false 3 y1 y2,.sc (.string Mk),.sc (.string (ByteArray.mk #[117,115,101,114])),.agg [.lst false 1 FS FT,.sc (.int .i64 Pm),.sc (.int .u64 O3),.sc (.int .u64 P0),.sc (.int .i64 P6),.sc (.bool Pk),.sc (.int .u64 Pn),.lst false 2 Ps P4,.sc (.bool (Qf==2)),.sc (.int .i64 O8),.sc (.int .i64 O7)]]) fun Btk Buu=>Ac Buu<|Aa Btk fun Bcg Bbv=>Ca 3 Bcg fun Bzv Bt6 Bf0=>Aa Bbv fun Bd8 Bks=>Ae .i64 Bd8 fun Buf=>Ac Bks<|Af (call 20 [.lst false 3 y3 y4,.sc (.string Mk),.sc (.string (ByteArray.mk #[117,115,101,114])),.agg [.lst false 1 FS FT,.sc (.int .i64 Pm),.sc (.int .u64 O3),.sc (.int .u64 P0),.sc (.int .i64 P6),.sc (.bool Pk),.sc (.int .u64 Pn),.lst false 2 Ps P4,.sc (.bool (Qf==2)),.sc (.int .i64 O8),.sc (.int .i64 O7)]]) fun Bm2 Bj8=>Ac Bj8<|Aa Bm2 fun Bhf Brb=>Ca 3 Bhf fun Byc Bqt Bdb=>Aa Brb fun Bt9 Be9=>Ae .i64 Bt9 fun Bd5=>Ac Be9<|Bc fu call Ap a0 a1 nn (fu) (y0) (y1) (y2) (y3) (y4) (y5) Mk Bt6 Bf0 Bqt Bdb Buf Bd5 A46 A3u A1e FS FT Pm O3 P0 P6 Pk Pn Ps P4 (Qf==2) O8 O7))))) (Af (call 5 []) fun Bor Bhg=>Ac Bhg<|Aa Bor fun Bq4 Bf9=>Av Bq4 fun Au9=>Ac Bf9<|some (A2.mk [.sc (.bool Au9)] []))) (Af (call 5 []) fun Aul As3=>Ac As3<|Aa Aul fun A5d A5k=>Av A5d fun A6v=>Ac A5k<|some (A2.mk [.sc (.bool A6v)] []))):=by kernel_rfl
theorem E7 (fu:Nat)(call:Ai)(Ap:Nat)(a0:List PV)(a1:Int)(nn:Nat)(y0:Int)(y1 y2:Nat)(y3:Int)(y4:Nat)(y5:List PV)(y6:Int)(y7 y8:List PV):A1 fu call Ap a0 a1 (nn+1) y0 y1 y2 y3 y4 y5 y6 y7 y8=(Bd (decide (y3<60)) (Af (call 7 [.pbox [.lst false 1 y4 y5,.sc (.int .i64 y6)]]) fun A19 At3=>Aa A19 fun Au3 A4w=>Av Au3 fun A2s=>Ac A4w<|Aa At3 fun A91 A77=>Aa A91 fun Ayb A4t=>Ca 1 Ayb fun Bw1 A7g A7d=>Aa A4t fun As2 A0y=>Ae .i64 As2 fun Aw1=>Ac A0y<|Ac A77<|Bd A2s (Af (call 10 [.pbox [.lst false 1 A7g A7d,.sc (.int .i64 Aw1)],.sc (.int .i64 20)]) fun Atv A4k=>Aa Atv fun Ayv A68=>Ae .i64 Ayv fun Aee=>Ac A68<|Aa A4k fun A90 Az5=>Aa A90 fun A61 A2i=>Ca 1 A61 fun Bwb Baf Avv=>Aa A2i fun A4l At7=>Ae .i64 A4l fun A36=>Ac At7<|Ac Az5<|An (decide (0<=Aee)&&decide (Aee<20))<|E2 (List.getD [.sc (.string (ByteArray.mk #[97])),.sc (.string (ByteArray.mk #[98])),.sc (.string (ByteArray.mk #[99])),.sc (.string (ByteArray.mk #[100])),.sc (.string (ByteArray.mk #[101])),.sc (.string (ByteArray.mk #[102])),.sc (.string (ByteArray.mk #[103])),.sc (.string (ByteArray.mk #[104])),.sc (.string (ByteArray.mk #[105])),.sc (.string (ByteArray.mk #[106])),.sc (.string (ByteArray.mk #[107])),.sc (.string (ByteArray.mk #[108])),.sc (.string (ByteArray.mk #[109])),.sc (.string (ByteArray.mk #[110])),.sc (.string (ByteArray.mk #[111])),.sc (.string (ByteArray.mk #[112])),.sc (.string (ByteArray.mk #[113])),.sc (.string (ByteArray.mk #[114])),.sc (.string (ByteArray.mk #[])),.sc (.string (ByteArray.mk #[48,49,50,51,52,53,54,55,56,57,48,49,50,51,52,53,54,55,56,57,48,49,50,51,52,53,54,55,56,57,48,49,50,51]))] (0+Int.toNat Aee*1) .top) fun Gp=>Af (call 10 [.pbox [.lst false 1 Baf Avv,.sc (.int .i64 A36)],.sc (.int .i64 12)]) fun Auh A7o=>Aa Auh fun A2w A33=>Ae .i64 A2w fun As1=>Ac A33<|Aa A7o fun Ay9 A0i=>Aa Ay9 fun A1u A9s=>Ca 1 A1u fun Bxf A45 Aw5=>Aa A9s fun Ayj Arw=>Ae .i64 Ayj fun A2k=>Ac Arw<|Ac A0i<|Af (call 8 [.sc (.int .i64 As1),.sc (.int .i64 1)]) fun Axv Aum=>Ac Aum<|Aa Axv fun Aym A0x=>Gd Aym fun A89=>Aa A89 fun A06 A5c=>Ca 1 A06 fun Bxe Uz U5=>Aa A5c fun A7t A8k=>Ae .i64 A7t fun In=>Aa A8k fun A7c Ar4=>Ae .u64 A7c fun Iu=>Aa Ar4 fun Atd At9=>Ae .u64 Atd fun Ii=>Aa At9 fun A4m Ar6=>Ae .i64 A4m fun Ip=>Aa Ar6 fun A95 A1k=>Av A95 fun Ix=>Aa A1k fun Ax2 Ayq=>Ae .u64 Ax2 fun Ie=>Aa Ayq fun A4x A0f=>Ca 2 A4x fun Bwx Iy Iq=>Aa A0f fun Aux Av2=>Av Aux fun Bwh=>Aa Av2 fun A9w A8g=>Ae .i64 A9w fun Im=>Aa A8g fun A2u A3t=>Ae .i64 A2u fun Iv=>Ac A3t<|Ac A0x<|Af (call 10 [.pbox [.lst false 1 A45 Aw5,.sc (.int .i64 A2k)],.sc (.int .i64 3)]) fun A1s A2p=>Aa A1s fun A5q Awl=>Ae .i64 A5q fun Io=>Ac Awl<|Aa A2p fun Asz A5w=>Aa Asz fun Azk Bab=>Ca 1 Azk fun Bxu A6d A2z=>Aa Bab fun A0r A78=>Ae .i64 A0r fun A1b=>Ac A78<|Ac A5w<|Af (call 10 [.pbox [.lst false 1 A6d A2z,.sc (.int .i64 A1b)],.sc (.int .i64 20)]) fun Azu Asl=>Aa Azu fun A5y A8z=>Ae .i64 A5y fun A69=>Ac A8z<|Aa Asl fun Ayu A0z=>Aa Ayu fun Ayc Arz=>Ca 1 Ayc fun Bv7 Al4 Alx=>Aa Arz fun A82 Av4=>Ae .i64 A82 fun Ali=>Ac Av4<|Ac A0z<|Bd (A69==19) (Af (call 10 [.pbox [.lst false 1 Al4 Alx,.sc (.int .i64 Ali)],.sc (.int .i64 176)]) fun A3k A2e=>Aa A3k fun Auz A29=>Ae .i64 Auz fun Ad2=>Ac A29<|Aa A2e fun A08 Av1=>Aa A08 fun Ask Awz=>Ca 1 Ask fun Bwd A3p Awu=>Aa Awz fun Aww A3x=>Ae .i64 Aww fun A9t=>Ac A3x<|Ac Av1<|An (decide (0<=Ad2))<|An (decide (Int.toNat Ad2<=Uz))<|Ab (Int.toNat Ad2-0) fun Ut=>Ab (List.take (Ut*1) (List.drop 0 U5)) fun V4=>Af (call 10 [.pbox [.lst false 1 A3p Awu,.sc (.int .i64 A9t)],.sc (.int .i64 5)]) fun A2c A8u=>Aa A2c fun Av0 A3f=>Ae .i64 Av0 fun Aly=>Ac A3f<|Aa A8u fun A38 A5a=>Aa A38 fun Ax4 A6k=>Ca 1 Ax4 fun Bw8 Acp Afg=>Aa A6k fun At4 A5u=>Ae .i64 At4 fun Agu=>Ac A5u<|Ac A5a<|Bd (Aly==0) (An (decide (0+y1*3<=y7.length))<|Af (call 16 [.lst false 3 y1 (List.take (y1*3) (List.drop 0 y7)),.sc (.string Gp),.lst false 1 Ut V4]) fun Ava A8w=>Ac A8w<|Aa Ava fun Ax8 A7l=>Ca 3 Ax8 fun Bv6 A9j Ar1=>Aa A7l fun A3q A97=>Ae .i64 A3q fun A74=>Ac A97<|An (decide (0+y2*3<=y8.length))<|Af (call 17 [.lst false 3 y2 (List.take (y2*3) (List.drop 0 y8)),.sc (.string Gp),.lst false 1 Ut V4]) fun Ar7 Au4=>Ac Au4<|Aa Ar7 fun A9l A0s=>Ca 3 A9l fun Bxt Aui At8=>Aa A0s fun Atf A3r=>Ae .i64 Atf fun A50=>Ac A3r<|At fu call Ap a0 a1 nn (fu) (y0) (y1) (y2) (y3) Gp A9j Ar1 Aui At8 A74 A50 Acp Afg Agu (y7) (y8) Ut V4 In Iu Ii Ip Ix Ie Iy Iq (Io==2) Im Iv) (Bd (Aly==1) (An (decide (0+y1*3<=y7.length))<|Af (call 18 [.lst false 3 y1 (List.take (y1*3) (List.drop 0 y7)),.sc (.string Gp),.agg [.lst false 1 Ut V4,.sc (.int .i64 In),.sc (.int .u64 Iu),.sc (.int .u64 Ii),.sc (.int .i64 Ip),.sc (.bool Ix),.sc (.int .u64 Ie),.lst false 2 Iy Iq,.sc (.bool (Io==2)),.sc (.int .i64 Im),.sc (.int .i64 Iv)]]) fun Atz Azx=>Ac Azx<|Aa Atz fun Avc A4y=>Ca 3 Avc fun Bv2 Az1 Azj=>Aa A4y fun Auw Asr=>Ae .i64 Auw fun A3y=>Ac Asr<|An (decide (0+y2*3<=y8.length))<|Af (call 19 [.lst false 3 y2 (List.take (y2*3) (List.drop 0 y8)),.sc (.string Gp),.agg [.lst false 1 Ut V4,.sc (.int .i64 In),.sc (.int .u64 Iu),.sc (.int .u64 Ii),.sc (.int .i64 Ip),.sc (.bool Ix),.sc (.int .u64 Ie),.lst false 2 Iy Iq,.sc (.bool (Io==2)),.sc (.int .i64 Im),.sc (.int .i64 Iv)]]) fun A1f A0j=>Ac A0j<|Aa A1f fun Aw9 A7i=>Ca 3 Aw9 fun Bv3 Axz Atp=>Aa A7i fun A6m Avf=>Ae .i64 A6m fun Awp=>Ac Avf<|At fu call Ap a0 a1 nn (fu) (y0) (y1) (y2) (y3) Gp Az1 Azj Axz Atp A3y Awp Acp Afg Agu (y7) (y8) Ut V4 In Iu Ii Ip Ix Ie Iy Iq (Io==2) Im Iv) (Af (call 10 [.pbox [.lst false 1 Acp Afg,.sc (.int .i64 Agu)],.sc (.int .i64 2)]) fun A62 A4j=>Aa A62 fun A9h A1w=>Ae .i64 A9h fun A0t=>Ac A1w<|Aa A4j fun A7n Ax6=>Aa A7n fun A4r Aso=>Ca 1 A4r fun Bxi Akr Aks=>Aa Aso fun Azv A5t=>Ae .i64 Azv fun All=>Ac A5t<|Ac Ax6<|Bd (A0t==1) (Ab (wrap .i64 (900+y3)) fun Ayn=>Af (call 9 [.sc (.int .i64 Ayn),.sc (.int .i64 176)]) fun A35 A6n=>Ac A6n<|Aa A35 fun Arx Ay7=>Kc 1 Arx fun FA NO=>Ac Ay7<|An (decide (0+y1*3<=y7.length))<|An (decide (0+FA*1<=NO.length))<|Af (call 11 [.lst false 3 y1 (List.take (y1*3) (List.drop 0 y7)),.sc (.string Gp),.sc (.string (ByteArray.mk #[117,115,101,114])),.agg [.lst false 1 FA (List.take (FA*1) (List.drop 0 NO)),.sc (.int .i64 In),.sc (.int .u64 Iu),.sc (.int .u64 Ii),.sc (.int .i64 Ip),.sc (.bool Ix),.sc (.int .u64 Ie),.lst false 2 Iy Iq,.sc (.bool (Io==2)),.sc (.int .i64 Im),.sc (.int .i64 Iv)]]) fun Ay6 Az6=>Ac Az6<|Aa Ay6 fun Avo Avi=>Ca 3 Avo fun Bx0 Atx Ax7=>Aa Avi fun A8j A84=>Ae .i64 A8j fun Awf=>Ac A84<|An (decide (0+y2*3<=y8.length))<|An (decide (0+FA*1<=NO.length))<|Af (call 20 [.lst false 3 y2 (List.take (y2*3) (List.drop 0 y8)),.sc (.string Gp),.sc (.string (ByteArray.mk #[117,115,101,114])),.agg [.lst false 1 FA (List.take (FA*1) (List.drop 0 NO)),.sc (.int .i64 In),.sc (.int .u64 Iu),.sc (.int .u64 Ii),.sc (.int .i64 Ip),.sc (.bool Ix),.sc (.int .u64 Ie),.lst false 2 Iy Iq,.sc (.bool (Io==2)),.sc (.int .i64 Im),.sc (.int .i64 Iv)]]) fun A6r A0e=>Ac A0e<|Aa A6r fun A21 Ath=>Ca 3 A21 fun Bxl At1 A9u=>Aa Ath fun A7k Aud=>Ae .i64 A7k fun A3d=>Ac Aud<|B0 fu call Ap a0 a1 nn (fu) (y0) (y1) (y2) (y3) Gp Atx Ax7 At1 A9u Awf A3d Akr Aks All (y7) (y8) FA In Iu Ii Ip Ix Ie Iy Iq (Io==2) Im Iv NO) (An (decide (0+y1*3<=y7.length))<|Af (call 11 [.lst false 3 y1 (List.take (y1*3) (List.drop 0 y7)),.sc (.string Gp),.sc (.string (ByteArray.mk #[117,115,101,114])),.agg [.lst false 1 Ut V4,.sc (.int .i64 In),.sc (.int .u64 Iu),.sc (.int .u64 Ii),.sc (.int .i64 Ip),.sc (.bool Ix),.sc (.int .u64 Ie),.lst false 2 Iy Iq,.sc (.bool (Io==2)),.sc (.int .i64 Im),.sc (.int .i64 Iv)]]) fun A9y Ay0=>Ac Ay0<|Aa A9y fun Az9 Ase=>Ca 3 Az9 fun Bxj Avm As4=>Aa Ase fun A0w A6e=>Ae .i64 A0w fun A1o=>Ac A6e<|An (decide (0+y2*3<=y8.length))<|Af (call 20 [.lst false 3 y2 (List.take (y2*3) (List.drop 0 y8)),.sc (.string Gp),.sc (.string (ByteArray.mk #[117,115,101,114])),.agg [.lst false 1 Ut V4,.sc (.int .i64 In),.sc (.int .u64 Iu),.sc (.int .u64 Ii),.sc (.int .i64 Ip),.sc (.bool Ix),.sc (.int .u64 Ie),.lst false 2 Iy Iq,.sc (.bool (Io==2)),.sc (.int .i64 Im),.sc (.int .i64 Iv)]]) fun Axf Awq=>Ac Awq<|Aa Axf fun A8l A83=>Ca 3 A8l fun Bvz Ayx A7y=>Aa A83 fun A9x A24=>Ae .i64 A9x fun A5e=>Ac A24<|At fu call Ap a0 a1 nn (fu) (y0) (y1) (y2) (y3) Gp Avm As4 Ayx A7y A1o A5e Akr Aks All (y7) (y8) Ut V4 In Iu Ii Ip Ix Ie Iy Iq (Io==2) Im Iv)))) (Af (call 10 [.pbox [.lst false 1 Al4 Alx,.sc (.int .i64 Ali)],.sc (.int .i64 5)]) fun A6x A7r=>Aa A6x fun A39 A8h=>Ae .i64 A39 fun Ak2=>Ac A8h<|Aa A7r fun A0c Asd=>Aa A0c fun Au6 A6l=>Ca 1 Au6 fun Bx3 Agy Ab4=>Aa A6l fun A3n Aw7=>Ae .i64 A3n fun Ac3=>Ac Aw7<|Ac Asd<|Bd (Ak2==0) (An (decide (0+y1*3<=y7.length))<|Af (call 16 [.lst false 3 y1 (List.take (y1*3) (List.drop 0 y7)),.sc (.string Gp),.lst false 1 Uz U5]) fun Avx A1d=>Ac A1d<|Aa Avx fun A93 Au5=>Ca 3 A93 fun Bwo A55 A5b=>Aa Au5 fun A54 Azf=>Ae .i64 A54 fun Axq=>Ac Azf<|An (decide (0+y2*3<=y8.length))<|Af (call 17 [.lst false 3 y2 (List.take (y2*3) (List.drop 0 y8)),.sc (.string Gp),.lst false 1 Uz U5]) fun Ash A60=>Ac A60<|Aa Ash fun Ayh A7m=>Ca 3 Ayh fun Bxs Ayy Axd=>Aa A7m fun A9r A5n=>Ae .i64 A9r fun A43=>Ac A5n<|At fu call Ap a0 a1 nn (fu) (y0) (y1) (y2) (y3) Gp A55 A5b Ayy Axd Axq A43 Agy Ab4 Ac3 (y7) (y8) Uz U5 In Iu Ii Ip Ix Ie Iy Iq (Io==2) Im Iv) (Bd (Ak2==1) (An (decide (0+y1*3<=y7.length))<|Af (call 18 [.lst false 3 y1 (List.take (y1*3) (List.drop 0 y7)),.sc (.string Gp),.agg [.lst false 1 Uz U5,.sc (.int .i64 In),.sc (.int .u64 Iu),.sc (.int .u64 Ii),.sc (.int .i64 Ip),.sc (.bool Ix),.sc (.int .u64 Ie),.lst false 2 Iy Iq,.sc (.bool (Io==2)),.sc (.int .i64 Im),.sc (.int .i64 Iv)]]) fun A80 Awi=>Ac Awi<|Aa A80 fun Asp A48=>Ca 3 Asp fun Bwq A6s A3o=>Aa A48 fun A0q Av7=>Ae .i64 A0q fun A7z=>Ac Av7<|An (decide (0+y2*3<=y8.length))<|Af (call 19 [.lst false 3 y2 (List.take (y2*3) (List.drop 0 y8)),.sc (.string Gp),.agg [.lst false 1 Uz U5,.sc (.int .i64 In),.sc (.int .u64 Iu),.sc (.int .u64 Ii),.sc (.int .i64 Ip),.sc (.bool Ix),.sc (.int .u64 Ie),.lst false 2 Iy Iq,.sc (.bool (Io==2)),.sc (.int .i64 Im),.sc (.int .i64 Iv)]]) fun Asg Avn=>Ac Avn<|Aa Asg fun A8m A3v=>Ca 3 A8m fun Bxq A1z Auy=>Aa A3v fun Azy Aug=>Ae .i64 Azy fun A2r=>Ac Aug<|At fu call Ap a0 a1 nn (fu) (y0) (y1) (y2) (y3) Gp A6s A3o A1z Auy A7z A2r Agy Ab4 Ac3 (y7) (y8) Uz U5 In Iu Ii Ip Ix Ie Iy Iq (Io==2) Im Iv) (Af (call 10 [.pbox [.lst false 1 Agy Ab4,.sc (.int .i64 Ac3)],.sc (.int .i64 2)]) fun Atq A49=>Aa Atq fun Asu Axn=>Ae .i64 Asu fun Aut=>Ac Axn<|Aa A49 fun Az8 Ay3=>Aa Az8 fun Aue Atg=>Ca 1 Aue fun Bxv Amd Alj=>Aa Atg fun A44 Atb=>Ae .i64 A44 fun Al0=>Ac Atb<|Ac Ay3<|Bd (Aut==1) (Ab (wrap .i64 (900+y3)) fun Auj=>Af (call 9 [.sc (.int .i64 Auj),.sc (.int .i64 176)]) fun Au0 Asm=>Ac Asm<|Aa Au0 fun A2y Ayd=>Kc 1 A2y fun DW PH=>Ac Ayd<|An (decide (0+y1*3<=y7.length))<|An (decide (0+DW*1<=PH.length))<|Af (call 11 [.lst false 3 y1 (List.take (y1*3) (List.drop 0 y7)),.sc (.string Gp),.sc (.string (ByteArray.mk #[117,115,101,114])),.agg [.lst false 1 DW (List.take (DW*1) (List.drop 0 PH)),.sc (.int .i64 In),.sc (.int .u64 Iu),.sc (.int .u64 Ii),.sc (.int .i64 Ip),.sc (.bool Ix),.sc (.int .u64 Ie),.lst false 2 Iy Iq,.sc (.bool (Io==2)),.sc (.int .i64 Im),.sc (.int .i64 Iv)]]) fun A76 Aw3=>Ac Aw3<|Aa A76 fun A72 Awr=>Ca 3 A72 fun Bx2 A8x A5g=>Aa Awr fun A47 Awe=>Ae .i64 A47 fun Aur=>Ac Awe<|An (decide (0+y2*3<=y8.length))<|An (decide (0+DW*1<=PH.length))<|Af (call 20 [.lst false 3 y2 (List.take (y2*3) (List.drop 0 y8)),.sc (.string Gp),.sc (.string (ByteArray.mk #[117,115,101,114])),.agg [.lst false 1 DW (List.take (DW*1) (List.drop 0 PH)),.sc (.int .i64 In),.sc (.int .u64 Iu),.sc (.int .u64 Ii),.sc (.int .i64 Ip),.sc (.bool Ix),.sc (.int .u64 Ie),.lst false 2 Iy Iq,.sc (.bool (Io==2)),.sc (.int .i64 Im),.sc (.int .i64 Iv)]]) fun A9n Ayw=>Ac Ayw<|Aa A9n fun Aw6 A4i=>Ca 3 Aw6 fun Bwk Azp A51=>Aa A4i fun A0l Awc=>Ae .i64 A0l fun A1t=>Ac Awc<|B0 fu call Ap a0 a1 nn (fu) (y0) (y1) (y2) (y3) Gp A8x A5g Azp A51 Aur A1t Amd Alj Al0 (y7) (y8) DW In Iu Ii Ip Ix Ie Iy Iq (Io==2) Im Iv PH) (An (decide (0+y1*3<=y7.length))<|Af (call 11 [.lst false 3 y1 (List.take (y1*3) (List.drop 0 y7)),.sc (.string Gp),.sc (.string (ByteArray.mk #[117,115,101,114])),.agg [.lst false 1 Uz U5,.sc (.int .i64 In),.sc (.int .u64 Iu),.sc (.int .u64 Ii),.sc (.int .i64 Ip),.sc (.bool Ix),.sc (.int .u64 Ie),.lst false 2 Iy Iq,.sc (.bool (Io==2)),.sc (.int .i64 Im),.sc (.int .i64 Iv)]]) fun Avh A75=>Ac A75<|Aa Avh fun A8o A4p=>Ca 3 A8o fun Bv8 Avr Bah=>Aa A4p fun Ar3 A6c=>Ae .i64 Ar3 fun Awy=>Ac A6c<|An (decide (0+y2*3<=y8.length))<|Af (call 20 [.lst false 3 y2 (List.take (y2*3) (List.drop 0 y8)),.sc (.string Gp),.sc (.string (ByteArray.mk #[117,115,101,114])),.agg [.lst false 1 Uz U5,.sc (.int .i64 In),.sc (.int .u64 Iu),.sc (.int .u64 Ii),.sc (.int .i64 Ip),.sc (.bool Ix),.sc (.int .u64 Ie),.lst false 2 Iy Iq,.sc (.bool (Io==2)),.sc (.int .i64 Im),.sc (.int .i64 Iv)]]) fun A5m As5=>Ac As5<|Aa A5m fun A4d Axc=>Ca 3 A4d fun Bwy Aw2 A5h=>Aa Axc fun Azi As6=>Ae .i64 Azi fun A4a=>Ac As6<|At fu call Ap a0 a1 nn (fu) (y0) (y1) (y2) (y3) Gp Avr Bah Aw2 A5h Awy A4a Amd Alj Al0 (y7) (y8) Uz U5 In Iu Ii Ip Ix Ie Iy Iq (Io==2) Im Iv))))) (Af (call 5 []) fun Avw Auk=>Ac Auk<|Aa Avw fun Avs A12=>Av Avs fun A59=>Ac A12<|some (A2.mk [.sc (.bool A59)] []))) (Af (call 5 []) fun A13 Axs=>Ac Axs<|Aa A13 fun A7a A73=>Av A7a fun Ar0=>Ac A73<|some (A2.mk [.sc (.bool Ar0)] []))):=by kernel_rfl
theorem Jf (fu:Nat)(call:Ai)(Ap:Nat)(a0:List PV)(a1:Int)(m0 nn:Nat)(Dy:0<nn)(y0:Int)(y1:Nat)(y2:List PV)(y3:Nat)(y4:List PV)(y5:Int)(y6:ByteArray)(y7:Nat)(y8:List PV)(y9:Nat)(Fi:List PV)(Gi Ek:Int)(Gh:Nat)(Fu:List PV)(G5:Int)(Ey:Nat)(Gl:List PV)(N7 Om:Int)(Ny Nz:Int)(Ol:Bool)(Oq:Int)(Oj:Nat)(N3:List PV)(Of:Bool)(Oa I3:Int):Bc fu call Ap a0 a1 m0 nn y0 y1 y2 y3 y4 y5 y6 y7 y8 y9 Fi Gi Ek Gh Fu G5 Ey Gl N7 Om Ny Nz Ol Oq Oj N3 Of Oa I3=(Bd (Gi != Ek) (some (A2.mk [.sc (.bool false)] [])) (Af (call 21 [.lst false 3 y7 y8,.lst false 3 y9 Fi]) fun Az3 Bac=>Ac Bac<|Aa Az3 fun A0m Arv=>Av A0m fun A8b=>Ac Arv<|Bd (!A8b) (some (A2.mk [.sc (.bool false)] [])) (Bd (Gi==0) (Af (call 14 [.lst false 3 y7 y8,.sc (.string y6)]) fun Av5 A6z=>Ac A6z<|Aa Av5 fun A1n A2a=>Ae .i64 A1n fun A34=>Aa A2a fun A9f A25=>Av A9f fun Ar9=>Ac A25<|Af (call 22 [.lst false 3 y9 Fi,.sc (.string y6)]) fun A0n Avq=>Ac Avq<|Aa A0n fun Aye A3m=>Ae .i64 Aye fun Ast=>Aa A3m fun A85 Awm=>Av A85 fun A7w=>Ac Awm<|Af (call 23 [.lst false 3 y7 y8,.lst false 1 Ey Gl]) fun Ays A2h=>Ac A2h<|Aa Ays fun Ar5 Axj=>Ae .i64 Ar5 fun A6q=>Aa Axj fun A0p Aus=>Ae .i64 A0p fun A5s=>Aa Aus fun Axg A99=>Av Axg fun Ayk=>Ac A99<|Af (call 24 [.lst false 3 y9 Fi,.lst false 1 Ey Gl]) fun A18 A6w=>Ac A6w<|Aa A18 fun Ayp Awh=>Ae .i64 Ayp fun Asw=>Aa Awh fun A8y A1a=>Ae .i64 A8y fun A5l=>Aa A1a fun A3a Asv=>Av A3a fun Aw0=>Ac Asv<|Bd (A34 != Ast) (some (A2.mk [.sc (.bool false)] [])) (Bd (!Ar9==A7w) (some (A2.mk [.sc (.bool false)] [])) (Bd (A6q != Asw) (some (A2.mk [.sc (.bool false)] [])) (Bd (A5s != A5l) (some (A2.mk [.sc (.bool false)] [])) (Bd (!Ayk==Aw0) (some (A2.mk [.sc (.bool false)] [])) (Af (call 13 [.lst false 3 y7 y8,.sc (.int .u64 y0),.sc (.string y6)]) fun A0k A0v=>Ac A0v<|Aa A0k fun Avu A1m=>Kc 1 Avu fun Adf Alm=>Ac A1m<|Af (call 26 [.lst false 3 y9 Fi,.sc (.int .u64 y0),.sc (.string y6)]) fun Aze Azl=>Ac Azl<|Aa Aze fun A7e A28=>Kc 1 A7e fun Af4 Akq=>Ac A28<|An (decide (0+Adf*1<=Alm.length))<|An (decide (0+Af4*1<=Akq.length))<|Af (call 25 [.lst false 1 Adf (List.take (Adf*1) (List.drop 0 Alm)),.lst false 1 Af4 (List.take (Af4*1) (List.drop 0 Akq))]) fun A4o A67=>Ac A67<|Aa A4o fun A9b A4s=>Av A9b fun Awb=>Ac A4s<|Bd (!Awb) (some (A2.mk [.sc (.bool false)] [])) (Ab (wrap .i64 (y5+1)) fun A3g=>Ak fu call Ap a0 a1 (m0) (y0) (y7) (y8) (y9) (Fi) A3g (Gh) (Fu) (G5)))))))) (Af (call 14 [.lst false 3 y1 y2,.sc (.string y6)]) fun Azq A20=>Ac A20<|Aa Azq fun Bad Azr=>Ae .i64 Bad fun Auc=>Aa Azr fun Auu Atn=>Av Auu fun A3b=>Ac Atn<|Af (call 22 [.lst false 3 y3 y4,.sc (.string y6)]) fun Asx Avk=>Ac Avk<|Aa Asx fun A64 Awd=>Ae .i64 A64 fun A87=>Aa Awd fun Ay8 A2x=>Av Ay8 fun As8=>Ac A2x<|Af (call 23 [.lst false 3 y1 y2,.lst false 1 Ey Gl]) fun Ax9 Auv=>Ac Auv<|Aa Ax9 fun A8q Atj=>Ae .i64 A8q fun Ayo=>Aa Atj fun A9d A70=>Ae .i64 A9d fun A7h=>Aa A70 fun A8s A9m=>Av A8s fun Azc=>Ac A9m<|Af (call 24 [.lst false 3 y3 y4,.lst false 1 Ey Gl]) fun A4f Ayr=>Ac Ayr<|Aa A4f fun A57 A2m=>Ae .i64 A57 fun Atc=>Aa A2m fun A7q A4g=>Ae .i64 A7q fun A8c=>Aa A4g fun A1p Asn=>Av A1p fun A9k=>Ac Asn<|Bd (Auc != A87) (some (A2.mk [.sc (.bool false)] [])) (Bd (!A3b==As8) (some (A2.mk [.sc (.bool false)] [])) (Bd (Ayo != Atc) (some (A2.mk [.sc (.bool false)] [])) (Bd (A7h != A8c) (some (A2.mk [.sc (.bool false)] [])) (Bd (!Azc==A9k) (some (A2.mk [.sc (.bool false)] [])) (Af (call 13 [.lst false 3 y1 y2,.sc (.int .u64 y0),.sc (.string y6)]) fun Aw4 Ayz=>Ac Ayz<|Aa Aw4 fun Ayf Auq=>Kc 1 Ayf fun Aez Ak0=>Ac Auq<|Af (call 26 [.lst false 3 y3 y4,.sc (.int .u64 y0),.sc (.string y6)]) fun A7j Avg=>Ac Avg<|Aa A7j fun Awo Aty=>Kc 1 Awo fun Agi Ako=>Ac Aty<|An (decide (0+Aez*1<=Ak0.length))<|An (decide (0+Agi*1<=Ako.length))<|Af (call 25 [.lst false 1 Aez (List.take (Aez*1) (List.drop 0 Ak0)),.lst false 1 Agi (List.take (Agi*1) (List.drop 0 Ako))]) fun Axp Atk=>Ac Atk<|Aa Axp fun Awg Axb=>Av Awg fun Auo=>Ac Axb<|Bd (!Auo) (some (A2.mk [.sc (.bool false)] [])) (Ab (wrap .i64 (y5+1)) fun A7v=>Ak fu call Ap a0 a1 (m0) (y0) (y1) (y2) (y3) (y4) A7v (Gh) (Fu) (G5))))))))))):=by cases nn with|zero=>exact absurd Dy (Nat.lt_irrefl 0)|succ nn=>kernel_rfl
theorem I2 (fu:Nat)(call:Ai)(Ap:Nat)(a0:List PV)(a1:Int)(m0 nn:Nat)(Dy:0<nn)(y0:Int)(y1:Nat)(y2:List PV)(y3:Nat)(y4:List PV)(y5:Int)(y6:ByteArray)(y7:Nat)(y8:List PV)(y9:Nat)(Fi:List PV)(Gi Ek:Int)(Gh:Nat)(Fu:List PV)(G5:Int)(Ey:Nat)(Gl N7:Int)(Om Ny:Int)(Nz:Bool)(Ol:Int)(Oq:Nat)(Oj:List PV)(N3:Bool)(Of Oa:Int)(I3:List PV):Cr fu call Ap a0 a1 m0 nn y0 y1 y2 y3 y4 y5 y6 y7 y8 y9 Fi Gi Ek Gh Fu G5 Ey Gl N7 Om Ny Nz Ol Oq Oj N3 Of Oa I3=(Bd (Gi != Ek) (some (A2.mk [.sc (.bool false)] [])) (Af (call 21 [.lst false 3 y7 y8,.lst false 3 y9 Fi]) fun Asb Az7=>Ac Az7<|Aa Asb fun A4b Awa=>Av A4b fun A7f=>Ac Awa<|Bd (!A7f) (some (A2.mk [.sc (.bool false)] [])) (Bd (Gi==0) (Af (call 14 [.lst false 3 y7 y8,.sc (.string y6)]) fun Ax1 Ayt=>Ac Ayt<|Aa Ax1 fun A66 A8n=>Ae .i64 A66 fun A1c=>Aa A8n fun A5r Au7=>Av A5r fun A9c=>Ac Au7<|Af (call 22 [.lst false 3 y9 Fi,.sc (.string y6)]) fun A4u Asq=>Ac Asq<|Aa A4u fun A3z A37=>Ae .i64 A3z fun A5o=>Aa A37 fun A05 Ayl=>Av A05 fun A3h=>Ac Ayl<|An (decide (0+Ey*1<=I3.length))<|Af (call 23 [.lst false 3 y7 y8,.lst false 1 Ey (List.take (Ey*1) (List.drop 0 I3))]) fun A0u A6u=>Ac A6u<|Aa A0u fun A02 A63=>Ae .i64 A02 fun Ax5=>Aa A63 fun A8i Avd=>Ae .i64 A8i fun A2l=>Aa Avd fun A0h A9e=>Av A0h fun A07=>Ac A9e<|An (decide (0+Ey*1<=I3.length))<|Af (call 24 [.lst false 3 y9 Fi,.lst false 1 Ey (List.take (Ey*1) (List.drop 0 I3))]) fun A88 Bag=>Ac Bag<|Aa A88 fun A41 A2b=>Ae .i64 A41 fun A7p=>Aa A2b fun A1j Ar8=>Ae .i64 A1j fun Aua=>Aa Ar8 fun A1i Auf=>Av A1i fun A8t=>Ac Auf<|Bd (A1c != A5o) (some (A2.mk [.sc (.bool false)] [])) (Bd (!A9c==A3h) (some (A2.mk [.sc (.bool false)] [])) (Bd (Ax5 != A7p) (some (A2.mk [.sc (.bool false)] [])) (Bd (A2l != Aua) (some (A2.mk [.sc (.bool false)] [])) (Bd (!A07==A8t) (some (A2.mk [.sc (.bool false)] [])) (Af (call 13 [.lst false 3 y7 y8,.sc (.int .u64 y0),.sc (.string y6)]) fun Azs At5=>Ac At5<|Aa Azs fun A6p Awt=>Kc 1 A6p fun Af3 Aln=>Ac Awt<|Af (call 26 [.lst false 3 y9 Fi,.sc (.int .u64 y0),.sc (.string y6)]) fun Awn A6t=>Ac A6t<|Aa Awn fun Asi At6=>Kc 1 Asi fun Aeh Aku=>Ac At6<|An (decide (0+Af3*1<=Aln.length))<|An (decide (0+Aeh*1<=Aku.length))<|Af (call 25 [.lst false 1 Af3 (List.take (Af3*1) (List.drop 0 Aln)),.lst false 1 Aeh (List.take (Aeh*1) (List.drop 0 Aku))]) fun A8e Azm=>Ac Azm<|Aa A8e fun A1x Axy=>Av A1x fun A6f=>Ac Axy<|Bd (!A6f) (some (A2.mk [.sc (.bool false)] [])) (Ab (wrap .i64 (y5+1)) fun A1l=>Ak fu call Ap a0 a1 (m0) (y0) (y7) (y8) (y9) (Fi) A1l (Gh) (Fu) (G5)))))))) (Af (call 14 [.lst false 3 y1 y2,.sc (.string y6)]) fun A3c Axi=>Ac Axi<|Aa A3c fun Ar2 Aup=>Ae .i64 Ar2 fun As9=>Aa Aup fun A9a A6g=>Av A9a fun Ayg=>Ac A6g<|Af (call 22 [.lst false 3 y3 y4,.sc (.string y6)]) fun Avl Atr=>Ac Atr<|Aa Avl fun A3l A2t=>Ae .i64 A3l fun Azd=>Aa A2t fun A52 Av3=>Av A52 fun A10=>Ac Av3<|An (decide (0+Ey*1<=I3.length))<|Af (call 23 [.lst false 3 y1 y2,.lst false 1 Ey (List.take (Ey*1) (List.drop 0 I3))]) fun A6i Au1=>Ac Au1<|Aa A6i fun A4c Azn=>Ae .i64 A4c fun A6o=>Aa Azn fun Avj A5i=>Ae .i64 Avj fun Ave=>Aa A5i fun A8r A1y=>Av A8r fun Ate=>Ac A1y<|An (decide (0+Ey*1<=I3.length))<|Af (call 24 [.lst false 3 y3 y4,.lst false 1 Ey (List.take (Ey*1) (List.drop 0 I3))]) fun Axt A22=>Ac A22<|Aa Axt fun Azz A65=>Ae .i64 Azz fun Azt=>Aa A65 fun Axh A8d=>Ae .i64 Axh fun A56=>Aa A8d fun Ary Axe=>Av Ary fun A7u=>Ac Axe<|Bd (As9 != Azd) (some (A2.mk [.sc (.bool false)] [])) (Bd (!Ayg==A10) (some (A2.mk [.sc (.bool false)] [])) (Bd (A6o != Azt) (some (A2.mk [.sc (.bool false)] [])) (Bd (Ave != A56) (some (A2.mk [.sc (.bool false)] [])) (Bd (!Ate==A7u) (some (A2.mk [.sc (.bool false)] [])) (Af (call 13 [.lst false 3 y1 y2,.sc (.int .u64 y0),.sc (.string y6)]) fun A71 A5p=>Ac A5p<|Aa A71 fun A8a A8p=>Kc 1 A8a fun Acz Amb=>Ac A8p<|Af (call 26 [.lst false 3 y3 y4,.sc (.int .u64 y0),.sc (.string y6)]) fun A3s Axu=>Ac Axu<|Aa A3s fun A16 A8f=>Kc 1 A16 fun Adi Akn=>Ac A8f<|An (decide (0+Acz*1<=Amb.length))<|An (decide (0+Adi*1<=Akn.length))<|Af (call 25 [.lst false 1 Acz (List.take (Acz*1) (List.drop 0 Amb)),.lst false 1 Adi (List.take (Adi*1) (List.drop 0 Akn))]) fun A6h A9z=>Ac A9z<|Aa A6h fun A9v A94=>Av A9v fun Axw=>Ac A94<|Bd (!Axw) (some (A2.mk [.sc (.bool false)] [])) (Ab (wrap .i64 (y5+1)) fun Au2=>Ak fu call Ap a0 a1 (m0) (y0) (y1) (y2) (y3) (y4) Au2 (Gh) (Fu) (G5))))))))))):=by cases nn with|zero=>exact absurd Dy (Nat.lt_irrefl 0)|succ nn=>kernel_rfl
theorem Mi (fu d Ap:Nat)(a0:List PV)(a1:Int):Ag C0 prog fu (d+1) Gn [.lst false 1 Ap a0,.sc (.int .u64 a1)]=(fun (call:Ai)=>Af (call 6 [.lst false 1 Ap a0]) fun x1 x2=>Ac x2<|Aa x1 fun x3 x4=>Uo x3 fun x5=>Aa x5 fun x6 x7=>Ca 1 x6 fun x8 x9 H5=>Aa x7 fun Ib H6=>Ae .i64 Ib fun L9=>Ac H6<|Ac x4<|Bm fu call Ap a0 a1 (fu) (a1) 0 0 0 x9 H5 L9 ([]) ([])) (Ag C0 prog fu d):=by kernel_rfl
end
section
open Go.Proofs.Try (prog)
open Go.IntKind (wrap)
set_option maxRecDepth 100000
theorem Ah4 (o:Option Nat):∃(j:Int)(b:Bool),Gs o=[.sc (.int .i64 j),.sc (.bool b)]:=by
 cases o with
 |none=>exact⟨_,_,rfl⟩
 |some i=>exact⟨_,_,rfl⟩
theorem Ajo (o:Option (Nat × Nat)):∃(j k:Int)(b:Bool),JS o=[.sc (.int .i64 j),.sc (.int .i64 k),.sc (.bool b)]:=by
 cases o with
 |none=>exact⟨_,_,_,rfl⟩
 |some i=>exact⟨_,_,_,rfl⟩
structure Kq (l:List Cw):Prop where
 len:l.length<=16
 ok:∀a∈l,a.ok
theorem Kq.nil:Kq []:=⟨by simp,fun a h=>by cases h⟩
theorem Kq.set {l:List Cw}(h:Kq l){i:Nat}{a:Cw}(ha:a.ok):Kq (l.set i a):=⟨by rw[List.length_set];exact h.len,fun x hx=>by
 rcases List.mem_or_eq_of_mem_set hx with hx|rfl
 ·exact h.ok x hx
 ·exact ha⟩
theorem Aiw {l:List Cw}{nm us:ByteArray}{c:Sd}(h:Kq l)(hc:c.ok):Kq (AH l nm us c).1:=by
 unfold AH;split
 ·exact Kq.nil
 split
 ·exact Kq.nil
 split
 ·exact Kq.nil
 split
 ·split
  ·rename_i a ha;split
   ·exact Kq.nil
   ·have hk:=h.ok a (List.mem_of_getElem? ha);refine h.set ⟨?_,fun x hx=>?_⟩
    ·show (a.cr++[c]).length<=_;simp;omega
    ·rcases List.mem_append.1 hx with hx|hx
     ·exact hk.cs x hx
     ·rw[List.mem_singleton] at hx;subst hx;exact hc
  ·exact Kq.nil
 ·split
  ·exact Kq.nil
  ·refine⟨by simp;omega,fun x hx=>?_⟩
   rcases List.mem_append.1 hx with hx|hx
   ·exact h.ok x hx
   ·rw[List.mem_singleton] at hx;subst hx
    exact⟨by simp,fun y hy=>by
     rw[List.mem_singleton] at hy;subst hy;exact hc⟩
theorem VU {l:List Cw}{nm:ByteArray}{id:List Int}{i k:Nat}{a:Cw}(h:MR l nm id=some (i,k,a)):l[i]?=some a:=by
 unfold MR at h;cases h1:X8 nm 0 l with
 |none=>rw[h1] at h;cases h
 |some i'=>
  rw[h1] at h;dsimp only at h;cases h2:l[i']? with
  |none=>rw[h2] at h;cases h
  |some a'=>
   rw[h2] at h;dsimp only at h;cases h3:KQ id 0 a'.cr with
   |none=>rw[h3] at h;cases h
   |some k'=>
    rw[h3] at h;cases h;exact h2
theorem Ajl {l:List Cw}{nm:ByteArray}{c:Sd}(h:Kq l)(hc:c.ok):Kq (FY l nm c).1:=by
 unfold FY;split
 ·rename_i i k a hl;have hk:=h.ok a (List.mem_of_getElem? (VU hl));refine h.set ⟨?_,fun x hx=>?_⟩
  ·show (a.cr.set k c).length<=_;rw[List.length_set];exact hk.cn
  ·rcases List.mem_or_eq_of_mem_set hx with hx|rfl
   ·exact hk.cs x hx
   ·exact hc
 ·exact Kq.nil
theorem Aiq {l:List Cw}{nm:ByteArray}{id:List Int}(h:Kq l):Kq (FZ l nm id).1:=by
 unfold FZ;split
 ·rename_i i k a hl;have hk:=h.ok a (List.mem_of_getElem? (VU hl));refine h.set ⟨?_,fun x hx=>?_⟩
  ·show (a.cr.eraseIdx k).length<=_;rw[List.length_eraseIdx];have:=hk.cn;split<;>omega
  ·exact hk.cs x (List.mem_of_mem_eraseIdx hx)
 ·exact Kq.nil
section
variable {fu d:Nat}
theorem AF (B2:2000<=fu){l:List Cw}(h:Kq l){nm:ByteArray}(Hk:nm.size<=500)(secret:Int)(id:List Int):∃(j j1 j2:Int)(b b1:Bool)(A:List (List Int)),A.length=4 ∧
  Ag C0 prog fu (d+8) 14 [.lst false 3 l.length (Az l),.sc (.string nm)]=some ⟨[.sc (.int .i64 j),.sc (.bool b)],[]⟩ ∧
  Ag C0 prog fu (d+8) 22 [.lst false 3 l.length (Az l),.sc (.string nm)]=some ⟨[.sc (.int .i64 j),.sc (.bool b)],[]⟩ ∧
  Ag C0 prog fu (d+8) 23 [.lst false 3 l.length (Az l),.lst false 1 id.length (Am .u8 id)]=some ⟨[.sc (.int .i64 j1),.sc (.int .i64 j2),.sc (.bool b1)],[]⟩ ∧
  Ag C0 prog fu (d+8) 24 [.lst false 3 l.length (Az l),.lst false 1 id.length (Am .u8 id)]=some ⟨[.sc (.int .i64 j1),.sc (.int .i64 j2),.sc (.bool b1)],[]⟩ ∧
  Ag C0 prog fu (d+8) 13 [.lst false 3 l.length (Az l),.sc (.int .u64 secret),.sc (.string nm)]=some ⟨[.own 1 4 (Cp A)],[]⟩ ∧
  Ag C0 prog fu (d+8) 26 [.lst false 3 l.length (Az l),.sc (.int .u64 secret),.sc (.string nm)]=some ⟨[.own 1 4 (Cp A)],[]⟩ ∧
  Ag C0 prog fu (d+8) 25 [.lst false 1 4 (Cp A),.lst false 1 4 (Cp A)]=some ⟨[.sc (.bool true)],[]⟩ ∧
  Ag C0 prog fu (d+8) 21 [.lst false 3 l.length (Az l),.lst false 3 l.length (Az l)]=some ⟨[.sc (.bool true)],[]⟩:=by
 have hl:=h.len;have hs:∀a∈l,a.cr.length<=1000:=fun a ha=>(h.ok a ha).cn
 obtain⟨j,b,e1⟩:=Ah4 (X8 nm 0 l);obtain⟨j1,j2,b1,e2⟩:=Ajo (Wp id 0 l)
 have lA:(MY l secret nm).length=4:=by
  unfold MY;rw[Qe,Af2 (Ag4 _ _)];rfl
 have f1:=Xf (xs:=Ih) (fu:=fu) (d:=d+7) (l:=l) (nm:=nm) (by omega) (by omega)
 have f2:=So (fu:=fu) (d:=d+7) (l:=l) (nm:=nm) (by omega) (by omega)
 have o1:=Aej (xs:=Ih) (fu:=fu) (d:=d+5) (id:=id) (l:=l) (by omega) hs B2
 have o2:=XA (fu:=fu) (d:=d+6) (id:=id) (l:=l) (by omega) hs B2
 have a1:=DJ (fu:=fu) (d:=d+1) B2 (l:=l) (by omega) h.ok secret Hk
 have a2:=OC (fu:=fu) (d:=d+2) B2 (l:=l) (by omega) h.ok secret Hk
 have sl:=Ae5 (fu:=fu) (d:=d+7) (L:=MY l secret nm) (by omega) (by omega)
 rw[e1] at f1 f2;rw[e2] at o1 o2;rw[lA] at sl;exact⟨j,j1,j2,b,b1,MY l secret nm,lA,f1,f2,o1,o2,a1,a2,sl,YH (fu:=fu) (d:=d+4) (by omega) h.ok B2⟩
theorem Hz (B2:2000<=fu){Ap m0 i p:Nat}{a0:List PV}{a1 secret:Int}{nm:ByteArray}{X:List Cw}{z:Int}{dl:List Int}{c:Sd}(hX:Kq X)(Hk:nm.size<=500)(hi:i<=100)
  (h1:z=0->Ak fu (Ag C0 prog fu (d+8)) Ap a0 a1 m0 secret X.length (Az X) X.length (Az X) ((i+1:Nat):Int) dl.length (Am .i64 dl) (p:Int)=some ⟨[.sc (.bool true)],[]⟩)
  (h2:z≠0->A1 fu (Ag C0 prog fu (d+8)) Ap a0 a1 m0 secret 0 0 ((i+1:Nat):Int) dl.length (Am .i64 dl) (p:Int) [] []=some ⟨[.sc (.bool true)],[]⟩):
  At fu (Ag C0 prog fu (d+8)) Ap a0 a1 m0 fu secret 0 0 (i:Int) nm X.length (Az X) X.length (Az X) z z dl.length (Am .i64 dl) (p:Int) [] [] c.id.length (Am .u8 c.id) c.ht c.root c.model c.fmt c.sh c.used c.rg.length (H7 c.rg) c.sus c.since c.last=some ⟨[.sc (.bool true)],[]⟩:=by
 rw[Kv (Dy:=by omega)]
 obtain⟨_,_,_,_,_,_,_,_,_,_,_,_,_,_,sA⟩:=AF (fu:=fu) (d:=d) B2 hX Hk secret c.id;have bI:∀x:Int,(x != x)=false:=fun x=>by simp
 have bB:∀x:Bool,(!(x==x))=false:=fun x=>by simp
 have bt:(!true)=false:=rfl;have w1:wrap .i64 ((i:Int)+1)=((i+1:Nat):Int):=by rw[wrap_i64 (by omega) (by omega)];omega
 have LI:=A0 .u8 c.id;have tI:List.take c.id.length (Am .u8 c.id)=Am .u8 c.id:=G9 (by omega)
 by_cases hz:z=0
 ·have h1:=h1 hz;obtain⟨j,j1,j2,b,b1,A,lA,f1,f2,o1,o2,a1,a2,sl,_⟩:=AF (fu:=fu) (d:=d) B2 hX Hk secret c.id;have lR:=Eh A;have tR:List.take 4 (Cp A)=Cp A:=G9 (by omega)
  rw[lA] at lR;have bz:(z==0)=true:=by simp[hz]
  try unfold Ab
  repeat first
   |((with_reducible first|apply A5|apply Aw|apply A9|apply Ay|apply B7|apply Ax|apply A6|apply A8);· first|with_reducible rfl|(simp (disch:=omega) only[gT,sA,bz,f1,f2,o1,o2,a1,a2,sl,h1,bI,bB,w1,Cn,Ch,Nat.zero_mul,Cm,List.take_nil,Dh,tI,LI,lR,tR,bt]<;>first|with_reducible rfl|omega)|omega)
   |(with_reducible apply A7;· first|with_reducible rfl|(simp (disch:=omega) only[gF,sA,bz,f1,f2,o1,o2,a1,a2,sl,h1,bI,bB,w1,Cn,Ch,Nat.zero_mul,Cm,List.take_nil,Dh,tI,LI,lR,tR,bt]<;>omega))
  try simp (disch:=omega) only[sA,bz,f1,f2,o1,o2,a1,a2,sl,h1,bI,bB,w1,Cn,Ch,Nat.zero_mul,Cm,List.take_nil,Dh,tI,LI,lR,tR,bt]
 ·have h2:=h2 hz;obtain⟨j,j1,j2,b,b1,A,lA,f1,f2,o1,o2,a1,a2,sl,_⟩:=AF (fu:=fu) (d:=d) B2 Kq.nil Hk secret c.id;have lR:=Eh A;have tR:List.take 4 (Cp A)=Cp A:=G9 (by omega)
  rw[lA] at lR;have bz:(z==0)=false:=by simp[hz]
  simp only[Dh,Az,List.flatMap_nil] at f1 f2 o1 o2 a1 a2
  try unfold Ab
  repeat first
   |((with_reducible first|apply A5|apply Aw|apply A9|apply Ay|apply B7|apply Ax|apply A6|apply A8);· first|with_reducible rfl|(simp (disch:=omega) only[gT,sA,bz,f1,f2,o1,o2,a1,a2,sl,h2,bI,bB,w1,Cn,Ch,Nat.zero_mul,Cm,List.take_nil,Dh,tI,LI,lR,tR,bt]<;>first|with_reducible rfl|omega)|omega)
   |(with_reducible apply A7;· first|with_reducible rfl|(simp (disch:=omega) only[gF,sA,bz,f1,f2,o1,o2,a1,a2,sl,h2,bI,bB,w1,Cn,Ch,Nat.zero_mul,Cm,List.take_nil,Dh,tI,LI,lR,tR,bt]<;>omega))
  try simp (disch:=omega) only[sA,bz,f1,f2,o1,o2,a1,a2,sl,h2,bI,bB,w1,Cn,Ch,Nat.zero_mul,Cm,List.take_nil,Dh,tI,LI,lR,tR,bt]
theorem Xe (B2:2000<=fu){Ap m0 i p:Nat}{a0:List PV}{a1 secret:Int}{nm:ByteArray}{X:List Cw}{z:Int}{dl:List Int}{c:Sd}(hX:Kq X)(Hk:nm.size<=500)(hi:i<=100)
  (h1:z=0->Ak fu (Ag C0 prog fu (d+8)) Ap a0 a1 m0 secret X.length (Az X) X.length (Az X) ((i+1:Nat):Int) dl.length (Am .i64 dl) (p:Int)=some ⟨[.sc (.bool true)],[]⟩)
  (h2:z≠0->A1 fu (Ag C0 prog fu (d+8)) Ap a0 a1 m0 secret 0 0 ((i+1:Nat):Int) dl.length (Am .i64 dl) (p:Int) [] []=some ⟨[.sc (.bool true)],[]⟩):
  B0 fu (Ag C0 prog fu (d+8)) Ap a0 a1 m0 fu secret 0 0 (i:Int) nm X.length (Az X) X.length (Az X) z z dl.length (Am .i64 dl) (p:Int) [] [] c.id.length c.ht c.root c.model c.fmt c.sh c.used c.rg.length (H7 c.rg) c.sus c.since c.last (Am .u8 c.id)=some ⟨[.sc (.bool true)],[]⟩:=by
 rw[Jr (Dy:=by omega)]
 obtain⟨_,_,_,_,_,_,_,_,_,_,_,_,_,_,sA⟩:=AF (fu:=fu) (d:=d) B2 hX Hk secret c.id;have bI:∀x:Int,(x != x)=false:=fun x=>by simp
 have bB:∀x:Bool,(!(x==x))=false:=fun x=>by simp
 have bt:(!true)=false:=rfl;have w1:wrap .i64 ((i:Int)+1)=((i+1:Nat):Int):=by rw[wrap_i64 (by omega) (by omega)];omega
 have LI:=A0 .u8 c.id;have tI:List.take c.id.length (Am .u8 c.id)=Am .u8 c.id:=G9 (by omega)
 by_cases hz:z=0
 ·have h1:=h1 hz;obtain⟨j,j1,j2,b,b1,A,lA,f1,f2,o1,o2,a1,a2,sl,_⟩:=AF (fu:=fu) (d:=d) B2 hX Hk secret c.id;have lR:=Eh A;have tR:List.take 4 (Cp A)=Cp A:=G9 (by omega)
  rw[lA] at lR;have bz:(z==0)=true:=by simp[hz]
  try unfold Ab
  repeat first
   |((with_reducible first|apply A5|apply Aw|apply A9|apply Ay|apply B7|apply Ax|apply A6|apply A8);· first|with_reducible rfl|(simp (disch:=omega) only[gT,sA,bz,f1,f2,o1,o2,a1,a2,sl,h1,bI,bB,w1,Cn,Ch,Nat.zero_mul,Cm,List.take_nil,Dh,tI,LI,lR,tR,bt]<;>first|with_reducible rfl|omega)|omega)
   |(with_reducible apply A7;· first|with_reducible rfl|(simp (disch:=omega) only[gF,sA,bz,f1,f2,o1,o2,a1,a2,sl,h1,bI,bB,w1,Cn,Ch,Nat.zero_mul,Cm,List.take_nil,Dh,tI,LI,lR,tR,bt]<;>omega))
  try simp (disch:=omega) only[sA,bz,f1,f2,o1,o2,a1,a2,sl,h1,bI,bB,w1,Cn,Ch,Nat.zero_mul,Cm,List.take_nil,Dh,tI,LI,lR,tR,bt]
 ·have h2:=h2 hz;obtain⟨j,j1,j2,b,b1,A,lA,f1,f2,o1,o2,a1,a2,sl,_⟩:=AF (fu:=fu) (d:=d) B2 Kq.nil Hk secret c.id;have lR:=Eh A;have tR:List.take 4 (Cp A)=Cp A:=G9 (by omega)
  rw[lA] at lR;have bz:(z==0)=false:=by simp[hz]
  simp only[Dh,Az,List.flatMap_nil] at f1 f2 o1 o2 a1 a2
  try unfold Ab
  repeat first
   |((with_reducible first|apply A5|apply Aw|apply A9|apply Ay|apply B7|apply Ax|apply A6|apply A8);· first|with_reducible rfl|(simp (disch:=omega) only[gT,sA,bz,f1,f2,o1,o2,a1,a2,sl,h2,bI,bB,w1,Cn,Ch,Nat.zero_mul,Cm,List.take_nil,Dh,tI,LI,lR,tR,bt]<;>first|with_reducible rfl|omega)|omega)
   |(with_reducible apply A7;· first|with_reducible rfl|(simp (disch:=omega) only[gF,sA,bz,f1,f2,o1,o2,a1,a2,sl,h2,bI,bB,w1,Cn,Ch,Nat.zero_mul,Cm,List.take_nil,Dh,tI,LI,lR,tR,bt]<;>omega))
  try simp (disch:=omega) only[sA,bz,f1,f2,o1,o2,a1,a2,sl,h2,bI,bB,w1,Cn,Ch,Nat.zero_mul,Cm,List.take_nil,Dh,tI,LI,lR,tR,bt]
theorem Mp (B2:2000<=fu){Ap m0 i p:Nat}{a0:List PV}{a1 secret:Int}{nm:ByteArray}{l X:List Cw}{z:Int}{dl:List Int}{c:Sd}(hl:Kq l)(hX:Kq X)(Hk:nm.size<=500)(hi:i<=100)
  (h1:z=0->Ak fu (Ag C0 prog fu (d+8)) Ap a0 a1 m0 secret X.length (Az X) X.length (Az X) ((i+1:Nat):Int) dl.length (Am .i64 dl) (p:Int)=some ⟨[.sc (.bool true)],[]⟩)
  (h2:z≠0->Ak fu (Ag C0 prog fu (d+8)) Ap a0 a1 m0 secret l.length (Az l) l.length (Az l) ((i+1:Nat):Int) dl.length (Am .i64 dl) (p:Int)=some ⟨[.sc (.bool true)],[]⟩):
  Bc fu (Ag C0 prog fu (d+8)) Ap a0 a1 m0 fu secret l.length (Az l) l.length (Az l) (i:Int) nm X.length (Az X) X.length (Az X) z z dl.length (Am .i64 dl) (p:Int) c.id.length (Am .u8 c.id) c.ht c.root c.model c.fmt c.sh c.used c.rg.length (H7 c.rg) c.sus c.since c.last=some ⟨[.sc (.bool true)],[]⟩:=by
 rw[Jf (Dy:=by omega)]
 obtain⟨_,_,_,_,_,_,_,_,_,_,_,_,_,_,sA⟩:=AF (fu:=fu) (d:=d) B2 hX Hk secret c.id;have bI:∀x:Int,(x != x)=false:=fun x=>by simp
 have bB:∀x:Bool,(!(x==x))=false:=fun x=>by simp
 have bt:(!true)=false:=rfl;have w1:wrap .i64 ((i:Int)+1)=((i+1:Nat):Int):=by rw[wrap_i64 (by omega) (by omega)];omega
 have LI:=A0 .u8 c.id;have tI:List.take c.id.length (Am .u8 c.id)=Am .u8 c.id:=G9 (by omega)
 by_cases hz:z=0
 ·have h1:=h1 hz;obtain⟨j,j1,j2,b,b1,A,lA,f1,f2,o1,o2,a1,a2,sl,_⟩:=AF (fu:=fu) (d:=d) B2 hX Hk secret c.id;have lR:=Eh A;have tR:List.take 4 (Cp A)=Cp A:=G9 (by omega)
  rw[lA] at lR;have bz:(z==0)=true:=by simp[hz]
  try unfold Ab
  repeat first
   |((with_reducible first|apply A5|apply Aw|apply A9|apply Ay|apply B7|apply Ax|apply A6|apply A8);· first|with_reducible rfl|(simp (disch:=omega) only[gT,sA,bz,f1,f2,o1,o2,a1,a2,sl,h1,bI,bB,w1,Cn,Ch,Nat.zero_mul,Cm,List.take_nil,Dh,tI,LI,lR,tR,bt]<;>first|with_reducible rfl|omega)|omega)
   |(with_reducible apply A7;· first|with_reducible rfl|(simp (disch:=omega) only[gF,sA,bz,f1,f2,o1,o2,a1,a2,sl,h1,bI,bB,w1,Cn,Ch,Nat.zero_mul,Cm,List.take_nil,Dh,tI,LI,lR,tR,bt]<;>omega))
  try simp (disch:=omega) only[sA,bz,f1,f2,o1,o2,a1,a2,sl,h1,bI,bB,w1,Cn,Ch,Nat.zero_mul,Cm,List.take_nil,Dh,tI,LI,lR,tR,bt]
 ·have h2:=h2 hz;obtain⟨j,j1,j2,b,b1,A,lA,f1,f2,o1,o2,a1,a2,sl,_⟩:=AF (fu:=fu) (d:=d) B2 hl Hk secret c.id;have lR:=Eh A;have tR:List.take 4 (Cp A)=Cp A:=G9 (by omega)
  rw[lA] at lR;have bz:(z==0)=false:=by simp[hz]
  try unfold Ab
  repeat first
   |((with_reducible first|apply A5|apply Aw|apply A9|apply Ay|apply B7|apply Ax|apply A6|apply A8);· first|with_reducible rfl|(simp (disch:=omega) only[gT,sA,bz,f1,f2,o1,o2,a1,a2,sl,h2,bI,bB,w1,Cn,Ch,Nat.zero_mul,Cm,List.take_nil,Dh,tI,LI,lR,tR,bt]<;>first|with_reducible rfl|omega)|omega)
   |(with_reducible apply A7;· first|with_reducible rfl|(simp (disch:=omega) only[gF,sA,bz,f1,f2,o1,o2,a1,a2,sl,h2,bI,bB,w1,Cn,Ch,Nat.zero_mul,Cm,List.take_nil,Dh,tI,LI,lR,tR,bt]<;>omega))
  try simp (disch:=omega) only[sA,bz,f1,f2,o1,o2,a1,a2,sl,h2,bI,bB,w1,Cn,Ch,Nat.zero_mul,Cm,List.take_nil,Dh,tI,LI,lR,tR,bt]
theorem DG (B2:2000<=fu){Ap m0 i p:Nat}{a0:List PV}{a1 secret:Int}{nm:ByteArray}{l X:List Cw}{z:Int}{dl:List Int}{c:Sd}(hl:Kq l)(hX:Kq X)(Hk:nm.size<=500)(hi:i<=100)
  (h1:z=0->Ak fu (Ag C0 prog fu (d+8)) Ap a0 a1 m0 secret X.length (Az X) X.length (Az X) ((i+1:Nat):Int) dl.length (Am .i64 dl) (p:Int)=some ⟨[.sc (.bool true)],[]⟩)
  (h2:z≠0->Ak fu (Ag C0 prog fu (d+8)) Ap a0 a1 m0 secret l.length (Az l) l.length (Az l) ((i+1:Nat):Int) dl.length (Am .i64 dl) (p:Int)=some ⟨[.sc (.bool true)],[]⟩):
  Cr fu (Ag C0 prog fu (d+8)) Ap a0 a1 m0 fu secret l.length (Az l) l.length (Az l) (i:Int) nm X.length (Az X) X.length (Az X) z z dl.length (Am .i64 dl) (p:Int) c.id.length c.ht c.root c.model c.fmt c.sh c.used c.rg.length (H7 c.rg) c.sus c.since c.last (Am .u8 c.id)=some ⟨[.sc (.bool true)],[]⟩:=by
 rw[I2 (Dy:=by omega)]
 obtain⟨_,_,_,_,_,_,_,_,_,_,_,_,_,_,sA⟩:=AF (fu:=fu) (d:=d) B2 hX Hk secret c.id;have bI:∀x:Int,(x != x)=false:=fun x=>by simp
 have bB:∀x:Bool,(!(x==x))=false:=fun x=>by simp
 have bt:(!true)=false:=rfl;have w1:wrap .i64 ((i:Int)+1)=((i+1:Nat):Int):=by rw[wrap_i64 (by omega) (by omega)];omega
 have LI:=A0 .u8 c.id;have tI:List.take c.id.length (Am .u8 c.id)=Am .u8 c.id:=G9 (by omega)
 by_cases hz:z=0
 ·have h1:=h1 hz;obtain⟨j,j1,j2,b,b1,A,lA,f1,f2,o1,o2,a1,a2,sl,_⟩:=AF (fu:=fu) (d:=d) B2 hX Hk secret c.id;have lR:=Eh A;have tR:List.take 4 (Cp A)=Cp A:=G9 (by omega)
  rw[lA] at lR;have bz:(z==0)=true:=by simp[hz]
  try unfold Ab
  repeat first
   |((with_reducible first|apply A5|apply Aw|apply A9|apply Ay|apply B7|apply Ax|apply A6|apply A8);· first|with_reducible rfl|(simp (disch:=omega) only[gT,sA,bz,f1,f2,o1,o2,a1,a2,sl,h1,bI,bB,w1,Cn,Ch,Nat.zero_mul,Cm,List.take_nil,Dh,tI,LI,lR,tR,bt]<;>first|with_reducible rfl|omega)|omega)
   |(with_reducible apply A7;· first|with_reducible rfl|(simp (disch:=omega) only[gF,sA,bz,f1,f2,o1,o2,a1,a2,sl,h1,bI,bB,w1,Cn,Ch,Nat.zero_mul,Cm,List.take_nil,Dh,tI,LI,lR,tR,bt]<;>omega))
  try simp (disch:=omega) only[sA,bz,f1,f2,o1,o2,a1,a2,sl,h1,bI,bB,w1,Cn,Ch,Nat.zero_mul,Cm,List.take_nil,Dh,tI,LI,lR,tR,bt]
 ·have h2:=h2 hz;obtain⟨j,j1,j2,b,b1,A,lA,f1,f2,o1,o2,a1,a2,sl,_⟩:=AF (fu:=fu) (d:=d) B2 hl Hk secret c.id;have lR:=Eh A;have tR:List.take 4 (Cp A)=Cp A:=G9 (by omega)
  rw[lA] at lR;have bz:(z==0)=false:=by simp[hz]
  try unfold Ab
  repeat first
   |((with_reducible first|apply A5|apply Aw|apply A9|apply Ay|apply B7|apply Ax|apply A6|apply A8);· first|with_reducible rfl|(simp (disch:=omega) only[gT,sA,bz,f1,f2,o1,o2,a1,a2,sl,h2,bI,bB,w1,Cn,Ch,Nat.zero_mul,Cm,List.take_nil,Dh,tI,LI,lR,tR,bt]<;>first|with_reducible rfl|omega)|omega)
   |(with_reducible apply A7;· first|with_reducible rfl|(simp (disch:=omega) only[gF,sA,bz,f1,f2,o1,o2,a1,a2,sl,h2,bI,bB,w1,Cn,Ch,Nat.zero_mul,Cm,List.take_nil,Dh,tI,LI,lR,tR,bt]<;>omega))
  try simp (disch:=omega) only[sA,bz,f1,f2,o1,o2,a1,a2,sl,h2,bI,bB,w1,Cn,Ch,Nat.zero_mul,Cm,List.take_nil,Dh,tI,LI,lR,tR,bt]
end
end
section
open Go.Proofs.Try (prog)
open Go.IntKind (wrap)
set_option maxRecDepth 100000
theorem TU {c:Sd}(h:c.ok)(k:Nat):Sd.ok { c with id:=c.id.take k }:=⟨fun x hx=>h.idB x (List.mem_of_mem_take hx),by show (c.id.take k).length<=_;have:=h.idL;rw[List.length_take];omega,h.u0,h.u1,h.asc,h.rgn⟩
theorem TC {c:Sd}(h:c.ok)(b:Bool):Sd.ok { c with sus:=b }:=⟨h.idB,h.idL,h.u0,h.u1,h.asc,h.rgn⟩
theorem Yo {c:Sd}(h:c.ok)(k:Int):Sd.ok { c with id:=Dj k 176 }:=⟨TL _ _ _,by show (Nb _ _ _).length<=_;rw[G4];omega,h.u0,h.u1,h.asc,h.rgn⟩
theorem Er (k:Int)(n:Nat):(Dj k n).length=n:=G4 _ _ _
section
variable {fu d:Nat}
theorem KA {v:Int}(h0:0<=v)(h1:v<20):∃nm:ByteArray,nm.size<=500∧List.getD [PV.sc (Value.string (ByteArray.mk #[(97:UInt8)])),PV.sc (Value.string (ByteArray.mk #[(98:UInt8)])),PV.sc (Value.string (ByteArray.mk #[(99:UInt8)])),PV.sc (Value.string (ByteArray.mk #[(100:UInt8)])),PV.sc (Value.string (ByteArray.mk #[(101:UInt8)])),PV.sc (Value.string (ByteArray.mk #[(102:UInt8)])),PV.sc (Value.string (ByteArray.mk #[(103:UInt8)])),PV.sc (Value.string (ByteArray.mk #[(104:UInt8)])),PV.sc (Value.string (ByteArray.mk #[(105:UInt8)])),PV.sc (Value.string (ByteArray.mk #[(106:UInt8)])),PV.sc (Value.string (ByteArray.mk #[(107:UInt8)])),PV.sc (Value.string (ByteArray.mk #[(108:UInt8)])),PV.sc (Value.string (ByteArray.mk #[(109:UInt8)])),PV.sc (Value.string (ByteArray.mk #[(110:UInt8)])),PV.sc (Value.string (ByteArray.mk #[(111:UInt8)])),PV.sc (Value.string (ByteArray.mk #[(112:UInt8)])),PV.sc (Value.string (ByteArray.mk #[(113:UInt8)])),PV.sc (Value.string (ByteArray.mk #[(114:UInt8)])),PV.sc (Value.string (ByteArray.mk #[])),PV.sc (Value.string (ByteArray.mk #[(48:UInt8),(49:UInt8),(50:UInt8),(51:UInt8),(52:UInt8),(53:UInt8),(54:UInt8),(55:UInt8),(56:UInt8),(57:UInt8),(48:UInt8),(49:UInt8),(50:UInt8),(51:UInt8),(52:UInt8),(53:UInt8),(54:UInt8),(55:UInt8),(56:UInt8),(57:UInt8),(48:UInt8),(49:UInt8),(50:UInt8),(51:UInt8),(52:UInt8),(53:UInt8),(54:UInt8),(55:UInt8),(56:UInt8),(57:UInt8),(48:UInt8),(49:UInt8),(50:UInt8),(51:UInt8)]))] ((0:Nat)+Int.toNat v*(1:Nat)) PV.top=.sc (.string nm):=by
 have:v=0∨v=1∨v=2∨v=3∨v=4∨v=5∨v=6∨v=7∨v=8∨v=9∨v=10∨v=11∨v=12∨v=13∨v=14∨v=15∨v=16∨v=17∨v=18∨v=19:=by omega
 rcases this with rfl|rfl|rfl|rfl|rfl|rfl|rfl|rfl|rfl|rfl|rfl|rfl|rfl|rfl|rfl|rfl|rfl|rfl|rfl|rfl<;>exact⟨_,by decide,rfl⟩
theorem P9 {l:List Cw}(h:Kq l)(B2:2000<=fu)(nm:ByteArray){id:List Int}(Bb:id.length<=1000000):∃X z,Kq X ∧
  Ag C0 prog fu (d+8) 16 [.lst false 3 l.length (Az l),.sc (.string nm),.lst false 1 id.length (Am .u8 id)]=some ⟨[.lst false 3 X.length (Az X),.sc (.int .i64 z)],[]⟩ ∧
  Ag C0 prog fu (d+8) 17 [.lst false 3 l.length (Az l),.sc (.string nm),.lst false 1 id.length (Am .u8 id)]=some ⟨[.lst false 3 X.length (Az X),.sc (.int .i64 z)],[]⟩:=
 ⟨(FZ l nm id).1,(FZ l nm id).2,Aiq h,Ao9 (by have:=h.len;omega) (fun a ha=>(h.ok a ha).sm) Bb,Aib (fu:=fu) (d:=d+5) (by have:=h.len;omega) (fun a ha=>(h.ok a ha).cn) B2⟩
theorem Pg {l:List Cw}(h:Kq l)(B2:2000<=fu)(nm:ByteArray){c:Sd}(hc:c.ok):∃X z,Kq X ∧
  Ag C0 prog fu (d+8) 18 [.lst false 3 l.length (Az l),.sc (.string nm),.agg c.cells]=some ⟨[.lst false 3 X.length (Az X),.sc (.int .i64 z)],[]⟩ ∧
  Ag C0 prog fu (d+8) 19 [.lst false 3 l.length (Az l),.sc (.string nm),.agg c.cells]=some ⟨[.lst false 3 X.length (Az X),.sc (.int .i64 z)],[]⟩:=
 ⟨(FY l nm c).1,(FY l nm c).2,Ajl h hc,Aq1 (by have:=h.len;omega) (fun a ha=>(h.ok a ha).sm) hc.sm,Ai8 (fu:=fu) (d:=d+5) (by have:=h.len;omega) (fun a ha=>(h.ok a ha).cn) B2⟩
theorem F8 {l:List Cw}(h:Kq l)(B2:2000<=fu)(nm us:ByteArray){c:Sd}(hc:c.ok):∃X z,Kq X ∧
  Ag C0 prog fu (d+8) 11 [.lst false 3 l.length (Az l),.sc (.string nm),.sc (.string us),.agg c.cells]=some ⟨[.lst false 3 X.length (Az X),.sc (.int .i64 z)],[]⟩ ∧
  Ag C0 prog fu (d+8) 20 [.lst false 3 l.length (Az l),.sc (.string nm),.sc (.string us),.agg c.cells]=some ⟨[.lst false 3 X.length (Az X),.sc (.int .i64 z)],[]⟩:=
 ⟨(AH l nm us c).1,(AH l nm us c).2,Aiw h hc,Ad5 (by have:=h.len;omega) (fun a ha=>(h.ok a ha).sm) hc.sm,Aj1 (fu:=fu) (d:=d+5) (by have:=h.len;omega) (fun a ha=>(h.ok a ha).cn) B2⟩
set_option maxHeartbeats 2000000 in
theorem ZU (B2:2000<=fu){dl:List Int}(NR:dl.length<=maxLen){Ap i nn p:Nat}{a0:List PV}{a1 secret:Int}(hi:i<60){l:List Cw}(hl:Kq l)
  (ih:(∀(l:List Cw)(p:Nat),Kq l->Ak fu (Ag C0 prog fu (d+8)) Ap a0 a1 nn secret l.length (Az l) l.length (Az l) ((i+1:Nat):Int) dl.length (Am .i64 dl) (p:Int)=some ⟨[.sc (.bool true)],[]⟩)∧(∀p:Nat,Bm fu (Ag C0 prog fu (d+8)) Ap a0 a1 nn secret 0 0 ((i+1:Nat):Int) dl.length (Am .i64 dl) (p:Int) [] []=some ⟨[.sc (.bool true)],[]⟩)∧(∀p:Nat,A1 fu (Ag C0 prog fu (d+8)) Ap a0 a1 nn secret 0 0 ((i+1:Nat):Int) dl.length (Am .i64 dl) (p:Int) [] []=some ⟨[.sc (.bool true)],[]⟩)):Ak fu (Ag C0 prog fu (d+8)) Ap a0 a1 (nn+1) secret l.length (Az l) l.length (Az l) (i:Int) dl.length (Am .i64 dl) (p:Int)=some ⟨[.sc (.bool true)],[]⟩:=by
 have aw:=Xy (fu:=fu) (d:=d) B2;have I5:=NR;simp only[maxLen] at NR;rw[Ff];have lf:=JK (fu:=fu) (d:=d+7) dl p;by_cases hp:(p:Int)<(dl.length:Int)
 rotate_left
 ·rw[decide_eq_false hp] at lf;simp only[X6] at lf
  try unfold Ab
  repeat first
   |((with_reducible first|apply A5|apply Aw|apply A9|apply Ay|apply Bh|apply B7|apply B5|apply C6|apply Cg|apply Ax|apply A6|apply A8);· first|with_reducible rfl|(simp (disch:=omega) only[gT,lf,aw]<;>first|with_reducible rfl|omega)|omega)
   |(with_reducible apply A7;· first|with_reducible rfl|(simp (disch:=omega) only[gF,lf,aw]<;>omega))
  try simp (disch:=omega) only[lf,aw]
 rw[decide_eq_true hp] at lf;obtain⟨v1,p1,b1,c1,n1⟩:=Cz I5 p 20 (by omega) (by omega)
 obtain⟨v2,p2,b2,c2,n2⟩:=Cz I5 p1 12 (by omega) (by omega)
 obtain⟨v3,p3,b3,c3,n3⟩:=Cz I5 p2 3 (by omega) (by omega)
 obtain⟨v4,p4,b4,c4,n4⟩:=Cz I5 p3 20 (by omega) (by omega)
 have m1:=n1 (fu:=fu) (d:=d+6);have m2:=n2 (fu:=fu) (d:=d+6);have m3:=n3 (fu:=fu) (d:=d+6);have m4:=n4 (fu:=fu) (d:=d+6);clear n1 n2 n3 n4;obtain⟨nm,Hk,hN⟩:=KA b1 c1;have s:=Ty (fu:=fu) (d:=d+1) (by omega) (k:=v2) b2 c2 1
 have sk:=TC (Ta v2 1) (v3==2);have li:(sdE v2 1).id.length=176:=Er _ _;simp only[X6] at lf m1 m2 m3 m4;simp only[Sd.cells] at s;generalize sdE v2 1=s0 at s sk li;have LI:=A0 .u8 s0.id;by_cases h4:v4=19
 ·have e4:(v4==19)=true:=by simp[h4]
  obtain⟨v5,p5,b5,c5,n5⟩:=Cz I5 p4 176 (by omega) (by omega)
  have m5:=n5 (fu:=fu) (d:=d+6);clear n5;simp only[X6] at m5;have ck:=TU sk v5.toNat;obtain⟨ic,hic⟩:∃ic,ic=s0.id.take v5.toNat:=⟨_,rfl⟩;have Rw:v5.toNat-0=ic.length:=by rw[hic,List.length_take];omega
  have Rs:List.take ic.length (Am .u8 s0.id)=Am .u8 ic:=by
   rw[hic,List.length_take,Nat.min_eq_left (by omega),Ga]
  have hc5:v5.toNat<=s0.id.length:=by omega
  dsimp only at ck;rw[←hic] at ck;obtain⟨v6,p6,b6,c6,n6⟩:=Cz I5 p5 5 (by omega) (by omega)
  have m6:=n6 (fu:=fu) (d:=d+6);clear n6;simp only[X6] at m6;by_cases PU:v6=0
  ·have e60:(v6==0)=true:=by simp[PU]
   obtain⟨X,z,hX,r1,r2⟩:=P9 (fu:=fu) (d:=d) hl B2 nm (id:=ic) ck.idL;have q:=Mp (fu:=fu) (d:=d) B2 (Ap:=Ap) (a0:=a0) (a1:=a1) (m0:=nn) (i:=i) (p:=p6) (secret:=secret) (nm:=nm) (l:=l) (X:=X) (z:=z) (dl:=dl) (c:=(⟨ic,s0.ht,s0.root,s0.model,s0.fmt,s0.sh,s0.used,s0.rg,v3==2,s0.since,s0.last⟩:Sd)) hl hX Hk (by omega) (fun _=>ih.1 X p6 hX) (fun _=>ih.1 l p6 hl)
   simp only[Sd.cells] at r1 r2 q
   try unfold Ab
   repeat first
    |((with_reducible first|apply A5|apply Aw|apply A9|apply Ay|apply Bh|apply B7|apply B5|apply C6|apply Cg|apply Ax|apply A6|apply A8);· first|with_reducible rfl|(simp (disch:=omega) only[gT,lf,m1,hN,m2,s,m3,m4,e4,m5,Rw,Rs,LI,m6,e60,r1,r2,q,Cn,Ch,Nat.zero_mul,Cm,List.take_nil,Dh]<;>first|with_reducible rfl|omega)|omega)
    |(with_reducible apply A7;· first|with_reducible rfl|(simp (disch:=omega) only[gF,lf,m1,hN,m2,s,m3,m4,e4,m5,Rw,Rs,LI,m6,e60,r1,r2,q,Cn,Ch,Nat.zero_mul,Cm,List.take_nil,Dh]<;>omega))
   try simp (disch:=omega) only[lf,m1,hN,m2,s,m3,m4,e4,m5,Rw,Rs,LI,m6,e60,r1,r2,q,Cn,Ch,Nat.zero_mul,Cm,List.take_nil,Dh]
  have e60:(v6==0)=false:=by simp[PU]
  by_cases OH:v6=1
  ·have e61:(v6==1)=true:=by simp[OH]
   obtain⟨X,z,hX,r1,r2⟩:=Pg (fu:=fu) (d:=d) hl B2 nm (c:=(⟨ic,s0.ht,s0.root,s0.model,s0.fmt,s0.sh,s0.used,s0.rg,v3==2,s0.since,s0.last⟩:Sd)) ck;have q:=Mp (fu:=fu) (d:=d) B2 (Ap:=Ap) (a0:=a0) (a1:=a1) (m0:=nn) (i:=i) (p:=p6) (secret:=secret) (nm:=nm) (l:=l) (X:=X) (z:=z) (dl:=dl) (c:=(⟨ic,s0.ht,s0.root,s0.model,s0.fmt,s0.sh,s0.used,s0.rg,v3==2,s0.since,s0.last⟩:Sd)) hl hX Hk (by omega) (fun _=>ih.1 X p6 hX) (fun _=>ih.1 l p6 hl)
   simp only[Sd.cells] at r1 r2 q
   try unfold Ab
   repeat first
    |((with_reducible first|apply A5|apply Aw|apply A9|apply Ay|apply Bh|apply B7|apply B5|apply C6|apply Cg|apply Ax|apply A6|apply A8);· first|with_reducible rfl|(simp (disch:=omega) only[gT,lf,m1,hN,m2,s,m3,m4,e4,m5,Rw,Rs,LI,m6,e60,e61,r1,r2,q,Cn,Ch,Nat.zero_mul,Cm,List.take_nil,Dh]<;>first|with_reducible rfl|omega)|omega)
    |(with_reducible apply A7;· first|with_reducible rfl|(simp (disch:=omega) only[gF,lf,m1,hN,m2,s,m3,m4,e4,m5,Rw,Rs,LI,m6,e60,e61,r1,r2,q,Cn,Ch,Nat.zero_mul,Cm,List.take_nil,Dh]<;>omega))
   try simp (disch:=omega) only[lf,m1,hN,m2,s,m3,m4,e4,m5,Rw,Rs,LI,m6,e60,e61,r1,r2,q,Cn,Ch,Nat.zero_mul,Cm,List.take_nil,Dh]
  have e61:(v6==1)=false:=by simp[OH]
  obtain⟨v7,p7,b7,c7,n7⟩:=Cz I5 p6 2 (by omega) (by omega)
  have m7:=n7 (fu:=fu) (d:=d+6);clear n7;simp only[X6] at m7;by_cases h7:v7=1
  ·have e7:(v7==1)=true:=by simp[h7]
   obtain⟨X,z,hX,r1,r2⟩:=F8 (fu:=fu) (d:=d) hl B2 nm (ByteArray.mk #[(117:UInt8),(115:UInt8),(101:UInt8),(114:UInt8)]) (c:=(⟨Dj (wrap .i64 (900+(i:Int))) 176,s0.ht,s0.root,s0.model,s0.fmt,s0.sh,s0.used,s0.rg,v3==2,s0.since,s0.last⟩:Sd)) (Yo ck (wrap .i64 (900+(i:Int))));have q:=DG (fu:=fu) (d:=d) B2 (Ap:=Ap) (a0:=a0) (a1:=a1) (m0:=nn) (i:=i) (p:=p7) (secret:=secret) (nm:=nm) (l:=l) (X:=X) (z:=z) (dl:=dl) (c:=(⟨Dj (wrap .i64 (900+(i:Int))) 176,s0.ht,s0.root,s0.model,s0.fmt,s0.sh,s0.used,s0.rg,v3==2,s0.since,s0.last⟩:Sd)) hl hX Hk (by omega) (fun _=>ih.1 X p7 hX) (fun _=>ih.1 l p7 hl)
   have by1:=My (fu:=fu) (d:=d+2) (by omega) (wrap .i64 (900+(i:Int))) (n:=176) (by omega)
   have LB:(Am .u8 (Dj (wrap .i64 (900+(i:Int))) 176)).length=176:=by rw[A0,Er]
   have TB:List.take 176 (Am .u8 (Dj (wrap .i64 (900+(i:Int))) 176))=Am .u8 (Dj (wrap .i64 (900+(i:Int))) 176):=G9 (by omega)
   have lB:(Dj (wrap .i64 (900+(i:Int))) 176).length=176:=Er _ _;simp only[Sd.cells,lB] at r1 r2 q;generalize Dj (wrap .i64 (900+(i:Int))) 176=BB at *
   try unfold Ab
   repeat first
    |((with_reducible first|apply A5|apply Aw|apply A9|apply Ay|apply Bh|apply B7|apply B5|apply C6|apply Cg|apply Ax|apply A6|apply A8);· first|with_reducible rfl|(simp (disch:=omega) only[gT,lf,m1,hN,m2,s,m3,m4,e4,m5,Rw,Rs,LI,m6,e60,e61,m7,e7,by1,LB,TB,r1,r2,q,Cn,Ch,Nat.zero_mul,Cm,List.take_nil,Dh]<;>first|with_reducible rfl|omega)|omega)
    |(with_reducible apply A7;· first|with_reducible rfl|(simp (disch:=omega) only[gF,lf,m1,hN,m2,s,m3,m4,e4,m5,Rw,Rs,LI,m6,e60,e61,m7,e7,by1,LB,TB,r1,r2,q,Cn,Ch,Nat.zero_mul,Cm,List.take_nil,Dh]<;>omega))
   try simp (disch:=omega) only[lf,m1,hN,m2,s,m3,m4,e4,m5,Rw,Rs,LI,m6,e60,e61,m7,e7,by1,LB,TB,r1,r2,q,Cn,Ch,Nat.zero_mul,Cm,List.take_nil,Dh]
  ·have e7:(v7==1)=false:=by simp[h7]
   obtain⟨X,z,hX,r1,r2⟩:=F8 (fu:=fu) (d:=d) hl B2 nm (ByteArray.mk #[(117:UInt8),(115:UInt8),(101:UInt8),(114:UInt8)]) (c:=(⟨ic,s0.ht,s0.root,s0.model,s0.fmt,s0.sh,s0.used,s0.rg,v3==2,s0.since,s0.last⟩:Sd)) ck;have q:=Mp (fu:=fu) (d:=d) B2 (Ap:=Ap) (a0:=a0) (a1:=a1) (m0:=nn) (i:=i) (p:=p7) (secret:=secret) (nm:=nm) (l:=l) (X:=X) (z:=z) (dl:=dl) (c:=(⟨ic,s0.ht,s0.root,s0.model,s0.fmt,s0.sh,s0.used,s0.rg,v3==2,s0.since,s0.last⟩:Sd)) hl hX Hk (by omega) (fun _=>ih.1 X p7 hX) (fun _=>ih.1 l p7 hl)
   simp only[Sd.cells] at r1 r2 q
   try unfold Ab
   repeat first
    |((with_reducible first|apply A5|apply Aw|apply A9|apply Ay|apply Bh|apply B7|apply B5|apply C6|apply Cg|apply Ax|apply A6|apply A8);· first|with_reducible rfl|(simp (disch:=omega) only[gT,lf,m1,hN,m2,s,m3,m4,e4,m5,Rw,Rs,LI,m6,e60,e61,m7,e7,r1,r2,q,Cn,Ch,Nat.zero_mul,Cm,List.take_nil,Dh]<;>first|with_reducible rfl|omega)|omega)
    |(with_reducible apply A7;· first|with_reducible rfl|(simp (disch:=omega) only[gF,lf,m1,hN,m2,s,m3,m4,e4,m5,Rw,Rs,LI,m6,e60,e61,m7,e7,r1,r2,q,Cn,Ch,Nat.zero_mul,Cm,List.take_nil,Dh]<;>omega))
   try simp (disch:=omega) only[lf,m1,hN,m2,s,m3,m4,e4,m5,Rw,Rs,LI,m6,e60,e61,m7,e7,r1,r2,q,Cn,Ch,Nat.zero_mul,Cm,List.take_nil,Dh]
 ·have e4:(v4==19)=false:=by simp[h4]
  obtain⟨v6,p6,b6,c6,n6⟩:=Cz I5 p4 5 (by omega) (by omega)
  have m6:=n6 (fu:=fu) (d:=d+6);clear n6;simp only[X6] at m6;by_cases PU:v6=0
  ·have e60:(v6==0)=true:=by simp[PU]
   obtain⟨X,z,hX,r1,r2⟩:=P9 (fu:=fu) (d:=d) hl B2 nm (id:=s0.id) sk.idL;have q:=Mp (fu:=fu) (d:=d) B2 (Ap:=Ap) (a0:=a0) (a1:=a1) (m0:=nn) (i:=i) (p:=p6) (secret:=secret) (nm:=nm) (l:=l) (X:=X) (z:=z) (dl:=dl) (c:=(⟨s0.id,s0.ht,s0.root,s0.model,s0.fmt,s0.sh,s0.used,s0.rg,v3==2,s0.since,s0.last⟩:Sd)) hl hX Hk (by omega) (fun _=>ih.1 X p6 hX) (fun _=>ih.1 l p6 hl)
   simp only[Sd.cells] at r1 r2 q
   try unfold Ab
   repeat first
    |((with_reducible first|apply A5|apply Aw|apply A9|apply Ay|apply Bh|apply B7|apply B5|apply C6|apply Cg|apply Ax|apply A6|apply A8);· first|with_reducible rfl|(simp (disch:=omega) only[gT,lf,m1,hN,m2,s,m3,m4,e4,m6,e60,r1,r2,q,Cn,Ch,Nat.zero_mul,Cm,List.take_nil,Dh]<;>first|with_reducible rfl|omega)|omega)
    |(with_reducible apply A7;· first|with_reducible rfl|(simp (disch:=omega) only[gF,lf,m1,hN,m2,s,m3,m4,e4,m6,e60,r1,r2,q,Cn,Ch,Nat.zero_mul,Cm,List.take_nil,Dh]<;>omega))
   try simp (disch:=omega) only[lf,m1,hN,m2,s,m3,m4,e4,m6,e60,r1,r2,q,Cn,Ch,Nat.zero_mul,Cm,List.take_nil,Dh]
  have e60:(v6==0)=false:=by simp[PU]
  by_cases OH:v6=1
  ·have e61:(v6==1)=true:=by simp[OH]
   obtain⟨X,z,hX,r1,r2⟩:=Pg (fu:=fu) (d:=d) hl B2 nm (c:=(⟨s0.id,s0.ht,s0.root,s0.model,s0.fmt,s0.sh,s0.used,s0.rg,v3==2,s0.since,s0.last⟩:Sd)) sk;have q:=Mp (fu:=fu) (d:=d) B2 (Ap:=Ap) (a0:=a0) (a1:=a1) (m0:=nn) (i:=i) (p:=p6) (secret:=secret) (nm:=nm) (l:=l) (X:=X) (z:=z) (dl:=dl) (c:=(⟨s0.id,s0.ht,s0.root,s0.model,s0.fmt,s0.sh,s0.used,s0.rg,v3==2,s0.since,s0.last⟩:Sd)) hl hX Hk (by omega) (fun _=>ih.1 X p6 hX) (fun _=>ih.1 l p6 hl)
   simp only[Sd.cells] at r1 r2 q
   try unfold Ab
   repeat first
    |((with_reducible first|apply A5|apply Aw|apply A9|apply Ay|apply Bh|apply B7|apply B5|apply C6|apply Cg|apply Ax|apply A6|apply A8);· first|with_reducible rfl|(simp (disch:=omega) only[gT,lf,m1,hN,m2,s,m3,m4,e4,m6,e60,e61,r1,r2,q,Cn,Ch,Nat.zero_mul,Cm,List.take_nil,Dh]<;>first|with_reducible rfl|omega)|omega)
    |(with_reducible apply A7;· first|with_reducible rfl|(simp (disch:=omega) only[gF,lf,m1,hN,m2,s,m3,m4,e4,m6,e60,e61,r1,r2,q,Cn,Ch,Nat.zero_mul,Cm,List.take_nil,Dh]<;>omega))
   try simp (disch:=omega) only[lf,m1,hN,m2,s,m3,m4,e4,m6,e60,e61,r1,r2,q,Cn,Ch,Nat.zero_mul,Cm,List.take_nil,Dh]
  have e61:(v6==1)=false:=by simp[OH]
  obtain⟨v7,p7,b7,c7,n7⟩:=Cz I5 p6 2 (by omega) (by omega)
  have m7:=n7 (fu:=fu) (d:=d+6);clear n7;simp only[X6] at m7;by_cases h7:v7=1
  ·have e7:(v7==1)=true:=by simp[h7]
   obtain⟨X,z,hX,r1,r2⟩:=F8 (fu:=fu) (d:=d) hl B2 nm (ByteArray.mk #[(117:UInt8),(115:UInt8),(101:UInt8),(114:UInt8)]) (c:=(⟨Dj (wrap .i64 (900+(i:Int))) 176,s0.ht,s0.root,s0.model,s0.fmt,s0.sh,s0.used,s0.rg,v3==2,s0.since,s0.last⟩:Sd)) (Yo sk (wrap .i64 (900+(i:Int))));have q:=DG (fu:=fu) (d:=d) B2 (Ap:=Ap) (a0:=a0) (a1:=a1) (m0:=nn) (i:=i) (p:=p7) (secret:=secret) (nm:=nm) (l:=l) (X:=X) (z:=z) (dl:=dl) (c:=(⟨Dj (wrap .i64 (900+(i:Int))) 176,s0.ht,s0.root,s0.model,s0.fmt,s0.sh,s0.used,s0.rg,v3==2,s0.since,s0.last⟩:Sd)) hl hX Hk (by omega) (fun _=>ih.1 X p7 hX) (fun _=>ih.1 l p7 hl)
   have by1:=My (fu:=fu) (d:=d+2) (by omega) (wrap .i64 (900+(i:Int))) (n:=176) (by omega)
   have LB:(Am .u8 (Dj (wrap .i64 (900+(i:Int))) 176)).length=176:=by rw[A0,Er]
   have TB:List.take 176 (Am .u8 (Dj (wrap .i64 (900+(i:Int))) 176))=Am .u8 (Dj (wrap .i64 (900+(i:Int))) 176):=G9 (by omega)
   have lB:(Dj (wrap .i64 (900+(i:Int))) 176).length=176:=Er _ _;simp only[Sd.cells,lB] at r1 r2 q;generalize Dj (wrap .i64 (900+(i:Int))) 176=BB at *
   try unfold Ab
   repeat first
    |((with_reducible first|apply A5|apply Aw|apply A9|apply Ay|apply Bh|apply B7|apply B5|apply C6|apply Cg|apply Ax|apply A6|apply A8);· first|with_reducible rfl|(simp (disch:=omega) only[gT,lf,m1,hN,m2,s,m3,m4,e4,m6,e60,e61,m7,e7,by1,LB,TB,r1,r2,q,Cn,Ch,Nat.zero_mul,Cm,List.take_nil,Dh]<;>first|with_reducible rfl|omega)|omega)
    |(with_reducible apply A7;· first|with_reducible rfl|(simp (disch:=omega) only[gF,lf,m1,hN,m2,s,m3,m4,e4,m6,e60,e61,m7,e7,by1,LB,TB,r1,r2,q,Cn,Ch,Nat.zero_mul,Cm,List.take_nil,Dh]<;>omega))
   try simp (disch:=omega) only[lf,m1,hN,m2,s,m3,m4,e4,m6,e60,e61,m7,e7,by1,LB,TB,r1,r2,q,Cn,Ch,Nat.zero_mul,Cm,List.take_nil,Dh]
  ·have e7:(v7==1)=false:=by simp[h7]
   obtain⟨X,z,hX,r1,r2⟩:=F8 (fu:=fu) (d:=d) hl B2 nm (ByteArray.mk #[(117:UInt8),(115:UInt8),(101:UInt8),(114:UInt8)]) (c:=(⟨s0.id,s0.ht,s0.root,s0.model,s0.fmt,s0.sh,s0.used,s0.rg,v3==2,s0.since,s0.last⟩:Sd)) sk;have q:=Mp (fu:=fu) (d:=d) B2 (Ap:=Ap) (a0:=a0) (a1:=a1) (m0:=nn) (i:=i) (p:=p7) (secret:=secret) (nm:=nm) (l:=l) (X:=X) (z:=z) (dl:=dl) (c:=(⟨s0.id,s0.ht,s0.root,s0.model,s0.fmt,s0.sh,s0.used,s0.rg,v3==2,s0.since,s0.last⟩:Sd)) hl hX Hk (by omega) (fun _=>ih.1 X p7 hX) (fun _=>ih.1 l p7 hl)
   simp only[Sd.cells] at r1 r2 q
   try unfold Ab
   repeat first
    |((with_reducible first|apply A5|apply Aw|apply A9|apply Ay|apply Bh|apply B7|apply B5|apply C6|apply Cg|apply Ax|apply A6|apply A8);· first|with_reducible rfl|(simp (disch:=omega) only[gT,lf,m1,hN,m2,s,m3,m4,e4,m6,e60,e61,m7,e7,r1,r2,q,Cn,Ch,Nat.zero_mul,Cm,List.take_nil,Dh]<;>first|with_reducible rfl|omega)|omega)
    |(with_reducible apply A7;· first|with_reducible rfl|(simp (disch:=omega) only[gF,lf,m1,hN,m2,s,m3,m4,e4,m6,e60,e61,m7,e7,r1,r2,q,Cn,Ch,Nat.zero_mul,Cm,List.take_nil,Dh]<;>omega))
   try simp (disch:=omega) only[lf,m1,hN,m2,s,m3,m4,e4,m6,e60,e61,m7,e7,r1,r2,q,Cn,Ch,Nat.zero_mul,Cm,List.take_nil,Dh]
set_option maxHeartbeats 2000000 in
theorem Ae9 (B2:2000<=fu){dl:List Int}(NR:dl.length<=maxLen){Ap i nn p:Nat}{a0:List PV}{a1 secret:Int}(hi:i<60)
  (ih:(∀(l:List Cw)(p:Nat),Kq l->Ak fu (Ag C0 prog fu (d+8)) Ap a0 a1 nn secret l.length (Az l) l.length (Az l) ((i+1:Nat):Int) dl.length (Am .i64 dl) (p:Int)=some ⟨[.sc (.bool true)],[]⟩)∧(∀p:Nat,Bm fu (Ag C0 prog fu (d+8)) Ap a0 a1 nn secret 0 0 ((i+1:Nat):Int) dl.length (Am .i64 dl) (p:Int) [] []=some ⟨[.sc (.bool true)],[]⟩)∧(∀p:Nat,A1 fu (Ag C0 prog fu (d+8)) Ap a0 a1 nn secret 0 0 ((i+1:Nat):Int) dl.length (Am .i64 dl) (p:Int) [] []=some ⟨[.sc (.bool true)],[]⟩)):Bm fu (Ag C0 prog fu (d+8)) Ap a0 a1 (nn+1) secret 0 0 (i:Int) dl.length (Am .i64 dl) (p:Int) [] []=some ⟨[.sc (.bool true)],[]⟩:=by
 have aw:=Xy (fu:=fu) (d:=d) B2;have I5:=NR;simp only[maxLen] at NR;rw[Fm];have lf:=JK (fu:=fu) (d:=d+7) dl p;by_cases hp:(p:Int)<(dl.length:Int)
 rotate_left
 ·rw[decide_eq_false hp] at lf;simp only[X6] at lf
  try unfold Ab
  repeat first
   |((with_reducible first|apply A5|apply Aw|apply A9|apply Ay|apply Bh|apply B7|apply B5|apply C6|apply Cg|apply Ax|apply A6|apply A8);· first|with_reducible rfl|(simp (disch:=omega) only[gT,lf,aw]<;>first|with_reducible rfl|omega)|omega)
   |(with_reducible apply A7;· first|with_reducible rfl|(simp (disch:=omega) only[gF,lf,aw]<;>omega))
  try simp (disch:=omega) only[lf,aw]
 rw[decide_eq_true hp] at lf;obtain⟨v1,p1,b1,c1,n1⟩:=Cz I5 p 20 (by omega) (by omega)
 obtain⟨v2,p2,b2,c2,n2⟩:=Cz I5 p1 12 (by omega) (by omega)
 obtain⟨v3,p3,b3,c3,n3⟩:=Cz I5 p2 3 (by omega) (by omega)
 obtain⟨v4,p4,b4,c4,n4⟩:=Cz I5 p3 20 (by omega) (by omega)
 have m1:=n1 (fu:=fu) (d:=d+6);have m2:=n2 (fu:=fu) (d:=d+6);have m3:=n3 (fu:=fu) (d:=d+6);have m4:=n4 (fu:=fu) (d:=d+6);clear n1 n2 n3 n4;obtain⟨nm,Hk,hN⟩:=KA b1 c1;have s:=Ty (fu:=fu) (d:=d+1) (by omega) (k:=v2) b2 c2 1
 have sk:=TC (Ta v2 1) (v3==2);have li:(sdE v2 1).id.length=176:=Er _ _;simp only[X6] at lf m1 m2 m3 m4;simp only[Sd.cells] at s;generalize sdE v2 1=s0 at s sk li;have LI:=A0 .u8 s0.id;by_cases h4:v4=19
 ·have e4:(v4==19)=true:=by simp[h4]
  obtain⟨v5,p5,b5,c5,n5⟩:=Cz I5 p4 176 (by omega) (by omega)
  have m5:=n5 (fu:=fu) (d:=d+6);clear n5;simp only[X6] at m5;have ck:=TU sk v5.toNat;obtain⟨ic,hic⟩:∃ic,ic=s0.id.take v5.toNat:=⟨_,rfl⟩;have Rw:v5.toNat-0=ic.length:=by rw[hic,List.length_take];omega
  have Rs:List.take ic.length (Am .u8 s0.id)=Am .u8 ic:=by
   rw[hic,List.length_take,Nat.min_eq_left (by omega),Ga]
  have hc5:v5.toNat<=s0.id.length:=by omega
  dsimp only at ck;rw[←hic] at ck;obtain⟨v6,p6,b6,c6,n6⟩:=Cz I5 p5 5 (by omega) (by omega)
  have m6:=n6 (fu:=fu) (d:=d+6);clear n6;simp only[X6] at m6;by_cases PU:v6=0
  ·have e60:(v6==0)=true:=by simp[PU]
   obtain⟨X,z,hX,r1,r2⟩:=P9 (fu:=fu) (d:=d) Kq.nil B2 nm (id:=ic) ck.idL;have q:=Hz (fu:=fu) (d:=d) B2 (Ap:=Ap) (a0:=a0) (a1:=a1) (m0:=nn) (i:=i) (p:=p6) (secret:=secret) (nm:=nm) (X:=X) (z:=z) (dl:=dl) (c:=(⟨ic,s0.ht,s0.root,s0.model,s0.fmt,s0.sh,s0.used,s0.rg,v3==2,s0.since,s0.last⟩:Sd)) hX Hk (by omega) (fun _=>ih.1 X p6 hX) (fun _=>ih.2.2 p6)
   simp only[Sd.cells] at r1 r2 q;simp only[Dh,Az,List.flatMap_nil] at r1 r2
   try unfold Ab
   repeat first
    |((with_reducible first|apply A5|apply Aw|apply A9|apply Ay|apply Bh|apply B7|apply B5|apply C6|apply Cg|apply Ax|apply A6|apply A8);· first|with_reducible rfl|(simp (disch:=omega) only[gT,lf,m1,hN,m2,s,m3,m4,e4,m5,Rw,Rs,LI,m6,e60,r1,r2,q,Cn,Ch,Nat.zero_mul,Cm,List.take_nil,Dh]<;>first|with_reducible rfl|omega)|omega)
    |(with_reducible apply A7;· first|with_reducible rfl|(simp (disch:=omega) only[gF,lf,m1,hN,m2,s,m3,m4,e4,m5,Rw,Rs,LI,m6,e60,r1,r2,q,Cn,Ch,Nat.zero_mul,Cm,List.take_nil,Dh]<;>omega))
   try simp (disch:=omega) only[lf,m1,hN,m2,s,m3,m4,e4,m5,Rw,Rs,LI,m6,e60,r1,r2,q,Cn,Ch,Nat.zero_mul,Cm,List.take_nil,Dh]
  have e60:(v6==0)=false:=by simp[PU]
  by_cases OH:v6=1
  ·have e61:(v6==1)=true:=by simp[OH]
   obtain⟨X,z,hX,r1,r2⟩:=Pg (fu:=fu) (d:=d) Kq.nil B2 nm (c:=(⟨ic,s0.ht,s0.root,s0.model,s0.fmt,s0.sh,s0.used,s0.rg,v3==2,s0.since,s0.last⟩:Sd)) ck;have q:=Hz (fu:=fu) (d:=d) B2 (Ap:=Ap) (a0:=a0) (a1:=a1) (m0:=nn) (i:=i) (p:=p6) (secret:=secret) (nm:=nm) (X:=X) (z:=z) (dl:=dl) (c:=(⟨ic,s0.ht,s0.root,s0.model,s0.fmt,s0.sh,s0.used,s0.rg,v3==2,s0.since,s0.last⟩:Sd)) hX Hk (by omega) (fun _=>ih.1 X p6 hX) (fun _=>ih.2.2 p6)
   simp only[Sd.cells] at r1 r2 q;simp only[Dh,Az,List.flatMap_nil] at r1 r2
   try unfold Ab
   repeat first
    |((with_reducible first|apply A5|apply Aw|apply A9|apply Ay|apply Bh|apply B7|apply B5|apply C6|apply Cg|apply Ax|apply A6|apply A8);· first|with_reducible rfl|(simp (disch:=omega) only[gT,lf,m1,hN,m2,s,m3,m4,e4,m5,Rw,Rs,LI,m6,e60,e61,r1,r2,q,Cn,Ch,Nat.zero_mul,Cm,List.take_nil,Dh]<;>first|with_reducible rfl|omega)|omega)
    |(with_reducible apply A7;· first|with_reducible rfl|(simp (disch:=omega) only[gF,lf,m1,hN,m2,s,m3,m4,e4,m5,Rw,Rs,LI,m6,e60,e61,r1,r2,q,Cn,Ch,Nat.zero_mul,Cm,List.take_nil,Dh]<;>omega))
   try simp (disch:=omega) only[lf,m1,hN,m2,s,m3,m4,e4,m5,Rw,Rs,LI,m6,e60,e61,r1,r2,q,Cn,Ch,Nat.zero_mul,Cm,List.take_nil,Dh]
  have e61:(v6==1)=false:=by simp[OH]
  obtain⟨v7,p7,b7,c7,n7⟩:=Cz I5 p6 2 (by omega) (by omega)
  have m7:=n7 (fu:=fu) (d:=d+6);clear n7;simp only[X6] at m7;by_cases h7:v7=1
  ·have e7:(v7==1)=true:=by simp[h7]
   obtain⟨X,z,hX,r1,r2⟩:=F8 (fu:=fu) (d:=d) Kq.nil B2 nm (ByteArray.mk #[(117:UInt8),(115:UInt8),(101:UInt8),(114:UInt8)]) (c:=(⟨Dj (wrap .i64 (900+(i:Int))) 176,s0.ht,s0.root,s0.model,s0.fmt,s0.sh,s0.used,s0.rg,v3==2,s0.since,s0.last⟩:Sd)) (Yo ck (wrap .i64 (900+(i:Int))));have q:=Xe (fu:=fu) (d:=d) B2 (Ap:=Ap) (a0:=a0) (a1:=a1) (m0:=nn) (i:=i) (p:=p7) (secret:=secret) (nm:=nm) (X:=X) (z:=z) (dl:=dl) (c:=(⟨Dj (wrap .i64 (900+(i:Int))) 176,s0.ht,s0.root,s0.model,s0.fmt,s0.sh,s0.used,s0.rg,v3==2,s0.since,s0.last⟩:Sd)) hX Hk (by omega) (fun _=>ih.1 X p7 hX) (fun _=>ih.2.2 p7)
   have by1:=My (fu:=fu) (d:=d+2) (by omega) (wrap .i64 (900+(i:Int))) (n:=176) (by omega)
   have LB:(Am .u8 (Dj (wrap .i64 (900+(i:Int))) 176)).length=176:=by rw[A0,Er]
   have TB:List.take 176 (Am .u8 (Dj (wrap .i64 (900+(i:Int))) 176))=Am .u8 (Dj (wrap .i64 (900+(i:Int))) 176):=G9 (by omega)
   have lB:(Dj (wrap .i64 (900+(i:Int))) 176).length=176:=Er _ _;simp only[Sd.cells,lB] at r1 r2 q;simp only[Dh,Az,List.flatMap_nil] at r1 r2;generalize Dj (wrap .i64 (900+(i:Int))) 176=BB at *
   try unfold Ab
   repeat first
    |((with_reducible first|apply A5|apply Aw|apply A9|apply Ay|apply Bh|apply B7|apply B5|apply C6|apply Cg|apply Ax|apply A6|apply A8);· first|with_reducible rfl|(simp (disch:=omega) only[gT,lf,m1,hN,m2,s,m3,m4,e4,m5,Rw,Rs,LI,m6,e60,e61,m7,e7,by1,LB,TB,r1,r2,q,Cn,Ch,Nat.zero_mul,Cm,List.take_nil,Dh]<;>first|with_reducible rfl|omega)|omega)
    |(with_reducible apply A7;· first|with_reducible rfl|(simp (disch:=omega) only[gF,lf,m1,hN,m2,s,m3,m4,e4,m5,Rw,Rs,LI,m6,e60,e61,m7,e7,by1,LB,TB,r1,r2,q,Cn,Ch,Nat.zero_mul,Cm,List.take_nil,Dh]<;>omega))
   try simp (disch:=omega) only[lf,m1,hN,m2,s,m3,m4,e4,m5,Rw,Rs,LI,m6,e60,e61,m7,e7,by1,LB,TB,r1,r2,q,Cn,Ch,Nat.zero_mul,Cm,List.take_nil,Dh]
  ·have e7:(v7==1)=false:=by simp[h7]
   obtain⟨X,z,hX,r1,r2⟩:=F8 (fu:=fu) (d:=d) Kq.nil B2 nm (ByteArray.mk #[(117:UInt8),(115:UInt8),(101:UInt8),(114:UInt8)]) (c:=(⟨ic,s0.ht,s0.root,s0.model,s0.fmt,s0.sh,s0.used,s0.rg,v3==2,s0.since,s0.last⟩:Sd)) ck;have q:=Hz (fu:=fu) (d:=d) B2 (Ap:=Ap) (a0:=a0) (a1:=a1) (m0:=nn) (i:=i) (p:=p7) (secret:=secret) (nm:=nm) (X:=X) (z:=z) (dl:=dl) (c:=(⟨ic,s0.ht,s0.root,s0.model,s0.fmt,s0.sh,s0.used,s0.rg,v3==2,s0.since,s0.last⟩:Sd)) hX Hk (by omega) (fun _=>ih.1 X p7 hX) (fun _=>ih.2.2 p7)
   simp only[Sd.cells] at r1 r2 q;simp only[Dh,Az,List.flatMap_nil] at r1 r2
   try unfold Ab
   repeat first
    |((with_reducible first|apply A5|apply Aw|apply A9|apply Ay|apply Bh|apply B7|apply B5|apply C6|apply Cg|apply Ax|apply A6|apply A8);· first|with_reducible rfl|(simp (disch:=omega) only[gT,lf,m1,hN,m2,s,m3,m4,e4,m5,Rw,Rs,LI,m6,e60,e61,m7,e7,r1,r2,q,Cn,Ch,Nat.zero_mul,Cm,List.take_nil,Dh]<;>first|with_reducible rfl|omega)|omega)
    |(with_reducible apply A7;· first|with_reducible rfl|(simp (disch:=omega) only[gF,lf,m1,hN,m2,s,m3,m4,e4,m5,Rw,Rs,LI,m6,e60,e61,m7,e7,r1,r2,q,Cn,Ch,Nat.zero_mul,Cm,List.take_nil,Dh]<;>omega))
   try simp (disch:=omega) only[lf,m1,hN,m2,s,m3,m4,e4,m5,Rw,Rs,LI,m6,e60,e61,m7,e7,r1,r2,q,Cn,Ch,Nat.zero_mul,Cm,List.take_nil,Dh]
 ·have e4:(v4==19)=false:=by simp[h4]
  obtain⟨v6,p6,b6,c6,n6⟩:=Cz I5 p4 5 (by omega) (by omega)
  have m6:=n6 (fu:=fu) (d:=d+6);clear n6;simp only[X6] at m6;by_cases PU:v6=0
  ·have e60:(v6==0)=true:=by simp[PU]
   obtain⟨X,z,hX,r1,r2⟩:=P9 (fu:=fu) (d:=d) Kq.nil B2 nm (id:=s0.id) sk.idL;have q:=Hz (fu:=fu) (d:=d) B2 (Ap:=Ap) (a0:=a0) (a1:=a1) (m0:=nn) (i:=i) (p:=p6) (secret:=secret) (nm:=nm) (X:=X) (z:=z) (dl:=dl) (c:=(⟨s0.id,s0.ht,s0.root,s0.model,s0.fmt,s0.sh,s0.used,s0.rg,v3==2,s0.since,s0.last⟩:Sd)) hX Hk (by omega) (fun _=>ih.1 X p6 hX) (fun _=>ih.2.2 p6)
   simp only[Sd.cells] at r1 r2 q;simp only[Dh,Az,List.flatMap_nil] at r1 r2
   try unfold Ab
   repeat first
    |((with_reducible first|apply A5|apply Aw|apply A9|apply Ay|apply Bh|apply B7|apply B5|apply C6|apply Cg|apply Ax|apply A6|apply A8);· first|with_reducible rfl|(simp (disch:=omega) only[gT,lf,m1,hN,m2,s,m3,m4,e4,m6,e60,r1,r2,q,Cn,Ch,Nat.zero_mul,Cm,List.take_nil,Dh]<;>first|with_reducible rfl|omega)|omega)
    |(with_reducible apply A7;· first|with_reducible rfl|(simp (disch:=omega) only[gF,lf,m1,hN,m2,s,m3,m4,e4,m6,e60,r1,r2,q,Cn,Ch,Nat.zero_mul,Cm,List.take_nil,Dh]<;>omega))
   try simp (disch:=omega) only[lf,m1,hN,m2,s,m3,m4,e4,m6,e60,r1,r2,q,Cn,Ch,Nat.zero_mul,Cm,List.take_nil,Dh]
  have e60:(v6==0)=false:=by simp[PU]
  by_cases OH:v6=1
  ·have e61:(v6==1)=true:=by simp[OH]
   obtain⟨X,z,hX,r1,r2⟩:=Pg (fu:=fu) (d:=d) Kq.nil B2 nm (c:=(⟨s0.id,s0.ht,s0.root,s0.model,s0.fmt,s0.sh,s0.used,s0.rg,v3==2,s0.since,s0.last⟩:Sd)) sk;have q:=Hz (fu:=fu) (d:=d) B2 (Ap:=Ap) (a0:=a0) (a1:=a1) (m0:=nn) (i:=i) (p:=p6) (secret:=secret) (nm:=nm) (X:=X) (z:=z) (dl:=dl) (c:=(⟨s0.id,s0.ht,s0.root,s0.model,s0.fmt,s0.sh,s0.used,s0.rg,v3==2,s0.since,s0.last⟩:Sd)) hX Hk (by omega) (fun _=>ih.1 X p6 hX) (fun _=>ih.2.2 p6)
   simp only[Sd.cells] at r1 r2 q;simp only[Dh,Az,List.flatMap_nil] at r1 r2
   try unfold Ab
   repeat first
    |((with_reducible first|apply A5|apply Aw|apply A9|apply Ay|apply Bh|apply B7|apply B5|apply C6|apply Cg|apply Ax|apply A6|apply A8);· first|with_reducible rfl|(simp (disch:=omega) only[gT,lf,m1,hN,m2,s,m3,m4,e4,m6,e60,e61,r1,r2,q,Cn,Ch,Nat.zero_mul,Cm,List.take_nil,Dh]<;>first|with_reducible rfl|omega)|omega)
    |(with_reducible apply A7;· first|with_reducible rfl|(simp (disch:=omega) only[gF,lf,m1,hN,m2,s,m3,m4,e4,m6,e60,e61,r1,r2,q,Cn,Ch,Nat.zero_mul,Cm,List.take_nil,Dh]<;>omega))
   try simp (disch:=omega) only[lf,m1,hN,m2,s,m3,m4,e4,m6,e60,e61,r1,r2,q,Cn,Ch,Nat.zero_mul,Cm,List.take_nil,Dh]
  have e61:(v6==1)=false:=by simp[OH]
  obtain⟨v7,p7,b7,c7,n7⟩:=Cz I5 p6 2 (by omega) (by omega)
  have m7:=n7 (fu:=fu) (d:=d+6);clear n7;simp only[X6] at m7;by_cases h7:v7=1
  ·have e7:(v7==1)=true:=by simp[h7]
   obtain⟨X,z,hX,r1,r2⟩:=F8 (fu:=fu) (d:=d) Kq.nil B2 nm (ByteArray.mk #[(117:UInt8),(115:UInt8),(101:UInt8),(114:UInt8)]) (c:=(⟨Dj (wrap .i64 (900+(i:Int))) 176,s0.ht,s0.root,s0.model,s0.fmt,s0.sh,s0.used,s0.rg,v3==2,s0.since,s0.last⟩:Sd)) (Yo sk (wrap .i64 (900+(i:Int))));have q:=Xe (fu:=fu) (d:=d) B2 (Ap:=Ap) (a0:=a0) (a1:=a1) (m0:=nn) (i:=i) (p:=p7) (secret:=secret) (nm:=nm) (X:=X) (z:=z) (dl:=dl) (c:=(⟨Dj (wrap .i64 (900+(i:Int))) 176,s0.ht,s0.root,s0.model,s0.fmt,s0.sh,s0.used,s0.rg,v3==2,s0.since,s0.last⟩:Sd)) hX Hk (by omega) (fun _=>ih.1 X p7 hX) (fun _=>ih.2.2 p7)
   have by1:=My (fu:=fu) (d:=d+2) (by omega) (wrap .i64 (900+(i:Int))) (n:=176) (by omega)
   have LB:(Am .u8 (Dj (wrap .i64 (900+(i:Int))) 176)).length=176:=by rw[A0,Er]
   have TB:List.take 176 (Am .u8 (Dj (wrap .i64 (900+(i:Int))) 176))=Am .u8 (Dj (wrap .i64 (900+(i:Int))) 176):=G9 (by omega)
   have lB:(Dj (wrap .i64 (900+(i:Int))) 176).length=176:=Er _ _;simp only[Sd.cells,lB] at r1 r2 q;simp only[Dh,Az,List.flatMap_nil] at r1 r2;generalize Dj (wrap .i64 (900+(i:Int))) 176=BB at *
   try unfold Ab
   repeat first
    |((with_reducible first|apply A5|apply Aw|apply A9|apply Ay|apply Bh|apply B7|apply B5|apply C6|apply Cg|apply Ax|apply A6|apply A8);· first|with_reducible rfl|(simp (disch:=omega) only[gT,lf,m1,hN,m2,s,m3,m4,e4,m6,e60,e61,m7,e7,by1,LB,TB,r1,r2,q,Cn,Ch,Nat.zero_mul,Cm,List.take_nil,Dh]<;>first|with_reducible rfl|omega)|omega)
    |(with_reducible apply A7;· first|with_reducible rfl|(simp (disch:=omega) only[gF,lf,m1,hN,m2,s,m3,m4,e4,m6,e60,e61,m7,e7,by1,LB,TB,r1,r2,q,Cn,Ch,Nat.zero_mul,Cm,List.take_nil,Dh]<;>omega))
   try simp (disch:=omega) only[lf,m1,hN,m2,s,m3,m4,e4,m6,e60,e61,m7,e7,by1,LB,TB,r1,r2,q,Cn,Ch,Nat.zero_mul,Cm,List.take_nil,Dh]
  ·have e7:(v7==1)=false:=by simp[h7]
   obtain⟨X,z,hX,r1,r2⟩:=F8 (fu:=fu) (d:=d) Kq.nil B2 nm (ByteArray.mk #[(117:UInt8),(115:UInt8),(101:UInt8),(114:UInt8)]) (c:=(⟨s0.id,s0.ht,s0.root,s0.model,s0.fmt,s0.sh,s0.used,s0.rg,v3==2,s0.since,s0.last⟩:Sd)) sk;have q:=Hz (fu:=fu) (d:=d) B2 (Ap:=Ap) (a0:=a0) (a1:=a1) (m0:=nn) (i:=i) (p:=p7) (secret:=secret) (nm:=nm) (X:=X) (z:=z) (dl:=dl) (c:=(⟨s0.id,s0.ht,s0.root,s0.model,s0.fmt,s0.sh,s0.used,s0.rg,v3==2,s0.since,s0.last⟩:Sd)) hX Hk (by omega) (fun _=>ih.1 X p7 hX) (fun _=>ih.2.2 p7)
   simp only[Sd.cells] at r1 r2 q;simp only[Dh,Az,List.flatMap_nil] at r1 r2
   try unfold Ab
   repeat first
    |((with_reducible first|apply A5|apply Aw|apply A9|apply Ay|apply Bh|apply B7|apply B5|apply C6|apply Cg|apply Ax|apply A6|apply A8);· first|with_reducible rfl|(simp (disch:=omega) only[gT,lf,m1,hN,m2,s,m3,m4,e4,m6,e60,e61,m7,e7,r1,r2,q,Cn,Ch,Nat.zero_mul,Cm,List.take_nil,Dh]<;>first|with_reducible rfl|omega)|omega)
    |(with_reducible apply A7;· first|with_reducible rfl|(simp (disch:=omega) only[gF,lf,m1,hN,m2,s,m3,m4,e4,m6,e60,e61,m7,e7,r1,r2,q,Cn,Ch,Nat.zero_mul,Cm,List.take_nil,Dh]<;>omega))
   try simp (disch:=omega) only[lf,m1,hN,m2,s,m3,m4,e4,m6,e60,e61,m7,e7,r1,r2,q,Cn,Ch,Nat.zero_mul,Cm,List.take_nil,Dh]
set_option maxHeartbeats 2000000 in
theorem UL (B2:2000<=fu){dl:List Int}(NR:dl.length<=maxLen){Ap i nn p:Nat}{a0:List PV}{a1 secret:Int}(hi:i<60)
  (ih:(∀(l:List Cw)(p:Nat),Kq l->Ak fu (Ag C0 prog fu (d+8)) Ap a0 a1 nn secret l.length (Az l) l.length (Az l) ((i+1:Nat):Int) dl.length (Am .i64 dl) (p:Int)=some ⟨[.sc (.bool true)],[]⟩)∧(∀p:Nat,Bm fu (Ag C0 prog fu (d+8)) Ap a0 a1 nn secret 0 0 ((i+1:Nat):Int) dl.length (Am .i64 dl) (p:Int) [] []=some ⟨[.sc (.bool true)],[]⟩)∧(∀p:Nat,A1 fu (Ag C0 prog fu (d+8)) Ap a0 a1 nn secret 0 0 ((i+1:Nat):Int) dl.length (Am .i64 dl) (p:Int) [] []=some ⟨[.sc (.bool true)],[]⟩)):A1 fu (Ag C0 prog fu (d+8)) Ap a0 a1 (nn+1) secret 0 0 (i:Int) dl.length (Am .i64 dl) (p:Int) [] []=some ⟨[.sc (.bool true)],[]⟩:=by
 have aw:=Xy (fu:=fu) (d:=d) B2;have I5:=NR;simp only[maxLen] at NR;rw[E7];have lf:=JK (fu:=fu) (d:=d+7) dl p;by_cases hp:(p:Int)<(dl.length:Int)
 rotate_left
 ·rw[decide_eq_false hp] at lf;simp only[X6] at lf
  try unfold Ab
  repeat first
   |((with_reducible first|apply A5|apply Aw|apply A9|apply Ay|apply Bh|apply B7|apply B5|apply C6|apply Cg|apply Ax|apply A6|apply A8);· first|with_reducible rfl|(simp (disch:=omega) only[gT,lf,aw]<;>first|with_reducible rfl|omega)|omega)
   |(with_reducible apply A7;· first|with_reducible rfl|(simp (disch:=omega) only[gF,lf,aw]<;>omega))
  try simp (disch:=omega) only[lf,aw]
 rw[decide_eq_true hp] at lf;obtain⟨v1,p1,b1,c1,n1⟩:=Cz I5 p 20 (by omega) (by omega)
 obtain⟨v2,p2,b2,c2,n2⟩:=Cz I5 p1 12 (by omega) (by omega)
 obtain⟨v3,p3,b3,c3,n3⟩:=Cz I5 p2 3 (by omega) (by omega)
 obtain⟨v4,p4,b4,c4,n4⟩:=Cz I5 p3 20 (by omega) (by omega)
 have m1:=n1 (fu:=fu) (d:=d+6);have m2:=n2 (fu:=fu) (d:=d+6);have m3:=n3 (fu:=fu) (d:=d+6);have m4:=n4 (fu:=fu) (d:=d+6);clear n1 n2 n3 n4;obtain⟨nm,Hk,hN⟩:=KA b1 c1;have s:=Ty (fu:=fu) (d:=d+1) (by omega) (k:=v2) b2 c2 1
 have sk:=TC (Ta v2 1) (v3==2);have li:(sdE v2 1).id.length=176:=Er _ _;simp only[X6] at lf m1 m2 m3 m4;simp only[Sd.cells] at s;generalize sdE v2 1=s0 at s sk li;have LI:=A0 .u8 s0.id;by_cases h4:v4=19
 ·have e4:(v4==19)=true:=by simp[h4]
  obtain⟨v5,p5,b5,c5,n5⟩:=Cz I5 p4 176 (by omega) (by omega)
  have m5:=n5 (fu:=fu) (d:=d+6);clear n5;simp only[X6] at m5;have ck:=TU sk v5.toNat;obtain⟨ic,hic⟩:∃ic,ic=s0.id.take v5.toNat:=⟨_,rfl⟩;have Rw:v5.toNat-0=ic.length:=by rw[hic,List.length_take];omega
  have Rs:List.take ic.length (Am .u8 s0.id)=Am .u8 ic:=by
   rw[hic,List.length_take,Nat.min_eq_left (by omega),Ga]
  have hc5:v5.toNat<=s0.id.length:=by omega
  dsimp only at ck;rw[←hic] at ck;obtain⟨v6,p6,b6,c6,n6⟩:=Cz I5 p5 5 (by omega) (by omega)
  have m6:=n6 (fu:=fu) (d:=d+6);clear n6;simp only[X6] at m6;by_cases PU:v6=0
  ·have e60:(v6==0)=true:=by simp[PU]
   obtain⟨X,z,hX,r1,r2⟩:=P9 (fu:=fu) (d:=d) Kq.nil B2 nm (id:=ic) ck.idL;have q:=Hz (fu:=fu) (d:=d) B2 (Ap:=Ap) (a0:=a0) (a1:=a1) (m0:=nn) (i:=i) (p:=p6) (secret:=secret) (nm:=nm) (X:=X) (z:=z) (dl:=dl) (c:=(⟨ic,s0.ht,s0.root,s0.model,s0.fmt,s0.sh,s0.used,s0.rg,v3==2,s0.since,s0.last⟩:Sd)) hX Hk (by omega) (fun _=>ih.1 X p6 hX) (fun _=>ih.2.2 p6)
   simp only[Sd.cells] at r1 r2 q;simp only[Dh,Az,List.flatMap_nil] at r1 r2
   try unfold Ab
   repeat first
    |((with_reducible first|apply A5|apply Aw|apply A9|apply Ay|apply Bh|apply B7|apply B5|apply C6|apply Cg|apply Ax|apply A6|apply A8);· first|with_reducible rfl|(simp (disch:=omega) only[gT,lf,m1,hN,m2,s,m3,m4,e4,m5,Rw,Rs,LI,m6,e60,r1,r2,q,Cn,Ch,Nat.zero_mul,Cm,List.take_nil,Dh]<;>first|with_reducible rfl|omega)|omega)
    |(with_reducible apply A7;· first|with_reducible rfl|(simp (disch:=omega) only[gF,lf,m1,hN,m2,s,m3,m4,e4,m5,Rw,Rs,LI,m6,e60,r1,r2,q,Cn,Ch,Nat.zero_mul,Cm,List.take_nil,Dh]<;>omega))
   try simp (disch:=omega) only[lf,m1,hN,m2,s,m3,m4,e4,m5,Rw,Rs,LI,m6,e60,r1,r2,q,Cn,Ch,Nat.zero_mul,Cm,List.take_nil,Dh]
  have e60:(v6==0)=false:=by simp[PU]
  by_cases OH:v6=1
  ·have e61:(v6==1)=true:=by simp[OH]
   obtain⟨X,z,hX,r1,r2⟩:=Pg (fu:=fu) (d:=d) Kq.nil B2 nm (c:=(⟨ic,s0.ht,s0.root,s0.model,s0.fmt,s0.sh,s0.used,s0.rg,v3==2,s0.since,s0.last⟩:Sd)) ck;have q:=Hz (fu:=fu) (d:=d) B2 (Ap:=Ap) (a0:=a0) (a1:=a1) (m0:=nn) (i:=i) (p:=p6) (secret:=secret) (nm:=nm) (X:=X) (z:=z) (dl:=dl) (c:=(⟨ic,s0.ht,s0.root,s0.model,s0.fmt,s0.sh,s0.used,s0.rg,v3==2,s0.since,s0.last⟩:Sd)) hX Hk (by omega) (fun _=>ih.1 X p6 hX) (fun _=>ih.2.2 p6)
   simp only[Sd.cells] at r1 r2 q;simp only[Dh,Az,List.flatMap_nil] at r1 r2
   try unfold Ab
   repeat first
    |((with_reducible first|apply A5|apply Aw|apply A9|apply Ay|apply Bh|apply B7|apply B5|apply C6|apply Cg|apply Ax|apply A6|apply A8);· first|with_reducible rfl|(simp (disch:=omega) only[gT,lf,m1,hN,m2,s,m3,m4,e4,m5,Rw,Rs,LI,m6,e60,e61,r1,r2,q,Cn,Ch,Nat.zero_mul,Cm,List.take_nil,Dh]<;>first|with_reducible rfl|omega)|omega)
    |(with_reducible apply A7;· first|with_reducible rfl|(simp (disch:=omega) only[gF,lf,m1,hN,m2,s,m3,m4,e4,m5,Rw,Rs,LI,m6,e60,e61,r1,r2,q,Cn,Ch,Nat.zero_mul,Cm,List.take_nil,Dh]<;>omega))
   try simp (disch:=omega) only[lf,m1,hN,m2,s,m3,m4,e4,m5,Rw,Rs,LI,m6,e60,e61,r1,r2,q,Cn,Ch,Nat.zero_mul,Cm,List.take_nil,Dh]
  have e61:(v6==1)=false:=by simp[OH]
  obtain⟨v7,p7,b7,c7,n7⟩:=Cz I5 p6 2 (by omega) (by omega)
  have m7:=n7 (fu:=fu) (d:=d+6);clear n7;simp only[X6] at m7;by_cases h7:v7=1
  ·have e7:(v7==1)=true:=by simp[h7]
   obtain⟨X,z,hX,r1,r2⟩:=F8 (fu:=fu) (d:=d) Kq.nil B2 nm (ByteArray.mk #[(117:UInt8),(115:UInt8),(101:UInt8),(114:UInt8)]) (c:=(⟨Dj (wrap .i64 (900+(i:Int))) 176,s0.ht,s0.root,s0.model,s0.fmt,s0.sh,s0.used,s0.rg,v3==2,s0.since,s0.last⟩:Sd)) (Yo ck (wrap .i64 (900+(i:Int))));have q:=Xe (fu:=fu) (d:=d) B2 (Ap:=Ap) (a0:=a0) (a1:=a1) (m0:=nn) (i:=i) (p:=p7) (secret:=secret) (nm:=nm) (X:=X) (z:=z) (dl:=dl) (c:=(⟨Dj (wrap .i64 (900+(i:Int))) 176,s0.ht,s0.root,s0.model,s0.fmt,s0.sh,s0.used,s0.rg,v3==2,s0.since,s0.last⟩:Sd)) hX Hk (by omega) (fun _=>ih.1 X p7 hX) (fun _=>ih.2.2 p7)
   have by1:=My (fu:=fu) (d:=d+2) (by omega) (wrap .i64 (900+(i:Int))) (n:=176) (by omega)
   have LB:(Am .u8 (Dj (wrap .i64 (900+(i:Int))) 176)).length=176:=by rw[A0,Er]
   have TB:List.take 176 (Am .u8 (Dj (wrap .i64 (900+(i:Int))) 176))=Am .u8 (Dj (wrap .i64 (900+(i:Int))) 176):=G9 (by omega)
   have lB:(Dj (wrap .i64 (900+(i:Int))) 176).length=176:=Er _ _;simp only[Sd.cells,lB] at r1 r2 q;simp only[Dh,Az,List.flatMap_nil] at r1 r2;generalize Dj (wrap .i64 (900+(i:Int))) 176=BB at *
   try unfold Ab
   repeat first
    |((with_reducible first|apply A5|apply Aw|apply A9|apply Ay|apply Bh|apply B7|apply B5|apply C6|apply Cg|apply Ax|apply A6|apply A8);· first|with_reducible rfl|(simp (disch:=omega) only[gT,lf,m1,hN,m2,s,m3,m4,e4,m5,Rw,Rs,LI,m6,e60,e61,m7,e7,by1,LB,TB,r1,r2,q,Cn,Ch,Nat.zero_mul,Cm,List.take_nil,Dh]<;>first|with_reducible rfl|omega)|omega)
    |(with_reducible apply A7;· first|with_reducible rfl|(simp (disch:=omega) only[gF,lf,m1,hN,m2,s,m3,m4,e4,m5,Rw,Rs,LI,m6,e60,e61,m7,e7,by1,LB,TB,r1,r2,q,Cn,Ch,Nat.zero_mul,Cm,List.take_nil,Dh]<;>omega))
   try simp (disch:=omega) only[lf,m1,hN,m2,s,m3,m4,e4,m5,Rw,Rs,LI,m6,e60,e61,m7,e7,by1,LB,TB,r1,r2,q,Cn,Ch,Nat.zero_mul,Cm,List.take_nil,Dh]
  ·have e7:(v7==1)=false:=by simp[h7]
   obtain⟨X,z,hX,r1,r2⟩:=F8 (fu:=fu) (d:=d) Kq.nil B2 nm (ByteArray.mk #[(117:UInt8),(115:UInt8),(101:UInt8),(114:UInt8)]) (c:=(⟨ic,s0.ht,s0.root,s0.model,s0.fmt,s0.sh,s0.used,s0.rg,v3==2,s0.since,s0.last⟩:Sd)) ck;have q:=Hz (fu:=fu) (d:=d) B2 (Ap:=Ap) (a0:=a0) (a1:=a1) (m0:=nn) (i:=i) (p:=p7) (secret:=secret) (nm:=nm) (X:=X) (z:=z) (dl:=dl) (c:=(⟨ic,s0.ht,s0.root,s0.model,s0.fmt,s0.sh,s0.used,s0.rg,v3==2,s0.since,s0.last⟩:Sd)) hX Hk (by omega) (fun _=>ih.1 X p7 hX) (fun _=>ih.2.2 p7)
   simp only[Sd.cells] at r1 r2 q;simp only[Dh,Az,List.flatMap_nil] at r1 r2
   try unfold Ab
   repeat first
    |((with_reducible first|apply A5|apply Aw|apply A9|apply Ay|apply Bh|apply B7|apply B5|apply C6|apply Cg|apply Ax|apply A6|apply A8);· first|with_reducible rfl|(simp (disch:=omega) only[gT,lf,m1,hN,m2,s,m3,m4,e4,m5,Rw,Rs,LI,m6,e60,e61,m7,e7,r1,r2,q,Cn,Ch,Nat.zero_mul,Cm,List.take_nil,Dh]<;>first|with_reducible rfl|omega)|omega)
    |(with_reducible apply A7;· first|with_reducible rfl|(simp (disch:=omega) only[gF,lf,m1,hN,m2,s,m3,m4,e4,m5,Rw,Rs,LI,m6,e60,e61,m7,e7,r1,r2,q,Cn,Ch,Nat.zero_mul,Cm,List.take_nil,Dh]<;>omega))
   try simp (disch:=omega) only[lf,m1,hN,m2,s,m3,m4,e4,m5,Rw,Rs,LI,m6,e60,e61,m7,e7,r1,r2,q,Cn,Ch,Nat.zero_mul,Cm,List.take_nil,Dh]
 ·have e4:(v4==19)=false:=by simp[h4]
  obtain⟨v6,p6,b6,c6,n6⟩:=Cz I5 p4 5 (by omega) (by omega)
  have m6:=n6 (fu:=fu) (d:=d+6);clear n6;simp only[X6] at m6;by_cases PU:v6=0
  ·have e60:(v6==0)=true:=by simp[PU]
   obtain⟨X,z,hX,r1,r2⟩:=P9 (fu:=fu) (d:=d) Kq.nil B2 nm (id:=s0.id) sk.idL;have q:=Hz (fu:=fu) (d:=d) B2 (Ap:=Ap) (a0:=a0) (a1:=a1) (m0:=nn) (i:=i) (p:=p6) (secret:=secret) (nm:=nm) (X:=X) (z:=z) (dl:=dl) (c:=(⟨s0.id,s0.ht,s0.root,s0.model,s0.fmt,s0.sh,s0.used,s0.rg,v3==2,s0.since,s0.last⟩:Sd)) hX Hk (by omega) (fun _=>ih.1 X p6 hX) (fun _=>ih.2.2 p6)
   simp only[Sd.cells] at r1 r2 q;simp only[Dh,Az,List.flatMap_nil] at r1 r2
   try unfold Ab
   repeat first
    |((with_reducible first|apply A5|apply Aw|apply A9|apply Ay|apply Bh|apply B7|apply B5|apply C6|apply Cg|apply Ax|apply A6|apply A8);· first|with_reducible rfl|(simp (disch:=omega) only[gT,lf,m1,hN,m2,s,m3,m4,e4,m6,e60,r1,r2,q,Cn,Ch,Nat.zero_mul,Cm,List.take_nil,Dh]<;>first|with_reducible rfl|omega)|omega)
    |(with_reducible apply A7;· first|with_reducible rfl|(simp (disch:=omega) only[gF,lf,m1,hN,m2,s,m3,m4,e4,m6,e60,r1,r2,q,Cn,Ch,Nat.zero_mul,Cm,List.take_nil,Dh]<;>omega))
   try simp (disch:=omega) only[lf,m1,hN,m2,s,m3,m4,e4,m6,e60,r1,r2,q,Cn,Ch,Nat.zero_mul,Cm,List.take_nil,Dh]
  have e60:(v6==0)=false:=by simp[PU]
  by_cases OH:v6=1
  ·have e61:(v6==1)=true:=by simp[OH]
   obtain⟨X,z,hX,r1,r2⟩:=Pg (fu:=fu) (d:=d) Kq.nil B2 nm (c:=(⟨s0.id,s0.ht,s0.root,s0.model,s0.fmt,s0.sh,s0.used,s0.rg,v3==2,s0.since,s0.last⟩:Sd)) sk;have q:=Hz (fu:=fu) (d:=d) B2 (Ap:=Ap) (a0:=a0) (a1:=a1) (m0:=nn) (i:=i) (p:=p6) (secret:=secret) (nm:=nm) (X:=X) (z:=z) (dl:=dl) (c:=(⟨s0.id,s0.ht,s0.root,s0.model,s0.fmt,s0.sh,s0.used,s0.rg,v3==2,s0.since,s0.last⟩:Sd)) hX Hk (by omega) (fun _=>ih.1 X p6 hX) (fun _=>ih.2.2 p6)
   simp only[Sd.cells] at r1 r2 q;simp only[Dh,Az,List.flatMap_nil] at r1 r2
   try unfold Ab
   repeat first
    |((with_reducible first|apply A5|apply Aw|apply A9|apply Ay|apply Bh|apply B7|apply B5|apply C6|apply Cg|apply Ax|apply A6|apply A8);· first|with_reducible rfl|(simp (disch:=omega) only[gT,lf,m1,hN,m2,s,m3,m4,e4,m6,e60,e61,r1,r2,q,Cn,Ch,Nat.zero_mul,Cm,List.take_nil,Dh]<;>first|with_reducible rfl|omega)|omega)
    |(with_reducible apply A7;· first|with_reducible rfl|(simp (disch:=omega) only[gF,lf,m1,hN,m2,s,m3,m4,e4,m6,e60,e61,r1,r2,q,Cn,Ch,Nat.zero_mul,Cm,List.take_nil,Dh]<;>omega))
   try simp (disch:=omega) only[lf,m1,hN,m2,s,m3,m4,e4,m6,e60,e61,r1,r2,q,Cn,Ch,Nat.zero_mul,Cm,List.take_nil,Dh]
  have e61:(v6==1)=false:=by simp[OH]
  obtain⟨v7,p7,b7,c7,n7⟩:=Cz I5 p6 2 (by omega) (by omega)
  have m7:=n7 (fu:=fu) (d:=d+6);clear n7;simp only[X6] at m7;by_cases h7:v7=1
  ·have e7:(v7==1)=true:=by simp[h7]
   obtain⟨X,z,hX,r1,r2⟩:=F8 (fu:=fu) (d:=d) Kq.nil B2 nm (ByteArray.mk #[(117:UInt8),(115:UInt8),(101:UInt8),(114:UInt8)]) (c:=(⟨Dj (wrap .i64 (900+(i:Int))) 176,s0.ht,s0.root,s0.model,s0.fmt,s0.sh,s0.used,s0.rg,v3==2,s0.since,s0.last⟩:Sd)) (Yo sk (wrap .i64 (900+(i:Int))));have q:=Xe (fu:=fu) (d:=d) B2 (Ap:=Ap) (a0:=a0) (a1:=a1) (m0:=nn) (i:=i) (p:=p7) (secret:=secret) (nm:=nm) (X:=X) (z:=z) (dl:=dl) (c:=(⟨Dj (wrap .i64 (900+(i:Int))) 176,s0.ht,s0.root,s0.model,s0.fmt,s0.sh,s0.used,s0.rg,v3==2,s0.since,s0.last⟩:Sd)) hX Hk (by omega) (fun _=>ih.1 X p7 hX) (fun _=>ih.2.2 p7)
   have by1:=My (fu:=fu) (d:=d+2) (by omega) (wrap .i64 (900+(i:Int))) (n:=176) (by omega)
   have LB:(Am .u8 (Dj (wrap .i64 (900+(i:Int))) 176)).length=176:=by rw[A0,Er]
   have TB:List.take 176 (Am .u8 (Dj (wrap .i64 (900+(i:Int))) 176))=Am .u8 (Dj (wrap .i64 (900+(i:Int))) 176):=G9 (by omega)
   have lB:(Dj (wrap .i64 (900+(i:Int))) 176).length=176:=Er _ _;simp only[Sd.cells,lB] at r1 r2 q;simp only[Dh,Az,List.flatMap_nil] at r1 r2;generalize Dj (wrap .i64 (900+(i:Int))) 176=BB at *
   try unfold Ab
   repeat first
    |((with_reducible first|apply A5|apply Aw|apply A9|apply Ay|apply Bh|apply B7|apply B5|apply C6|apply Cg|apply Ax|apply A6|apply A8);· first|with_reducible rfl|(simp (disch:=omega) only[gT,lf,m1,hN,m2,s,m3,m4,e4,m6,e60,e61,m7,e7,by1,LB,TB,r1,r2,q,Cn,Ch,Nat.zero_mul,Cm,List.take_nil,Dh]<;>first|with_reducible rfl|omega)|omega)
    |(with_reducible apply A7;· first|with_reducible rfl|(simp (disch:=omega) only[gF,lf,m1,hN,m2,s,m3,m4,e4,m6,e60,e61,m7,e7,by1,LB,TB,r1,r2,q,Cn,Ch,Nat.zero_mul,Cm,List.take_nil,Dh]<;>omega))
   try simp (disch:=omega) only[lf,m1,hN,m2,s,m3,m4,e4,m6,e60,e61,m7,e7,by1,LB,TB,r1,r2,q,Cn,Ch,Nat.zero_mul,Cm,List.take_nil,Dh]
  ·have e7:(v7==1)=false:=by simp[h7]
   obtain⟨X,z,hX,r1,r2⟩:=F8 (fu:=fu) (d:=d) Kq.nil B2 nm (ByteArray.mk #[(117:UInt8),(115:UInt8),(101:UInt8),(114:UInt8)]) (c:=(⟨s0.id,s0.ht,s0.root,s0.model,s0.fmt,s0.sh,s0.used,s0.rg,v3==2,s0.since,s0.last⟩:Sd)) sk;have q:=Hz (fu:=fu) (d:=d) B2 (Ap:=Ap) (a0:=a0) (a1:=a1) (m0:=nn) (i:=i) (p:=p7) (secret:=secret) (nm:=nm) (X:=X) (z:=z) (dl:=dl) (c:=(⟨s0.id,s0.ht,s0.root,s0.model,s0.fmt,s0.sh,s0.used,s0.rg,v3==2,s0.since,s0.last⟩:Sd)) hX Hk (by omega) (fun _=>ih.1 X p7 hX) (fun _=>ih.2.2 p7)
   simp only[Sd.cells] at r1 r2 q;simp only[Dh,Az,List.flatMap_nil] at r1 r2
   try unfold Ab
   repeat first
    |((with_reducible first|apply A5|apply Aw|apply A9|apply Ay|apply Bh|apply B7|apply B5|apply C6|apply Cg|apply Ax|apply A6|apply A8);· first|with_reducible rfl|(simp (disch:=omega) only[gT,lf,m1,hN,m2,s,m3,m4,e4,m6,e60,e61,m7,e7,r1,r2,q,Cn,Ch,Nat.zero_mul,Cm,List.take_nil,Dh]<;>first|with_reducible rfl|omega)|omega)
    |(with_reducible apply A7;· first|with_reducible rfl|(simp (disch:=omega) only[gF,lf,m1,hN,m2,s,m3,m4,e4,m6,e60,e61,m7,e7,r1,r2,q,Cn,Ch,Nat.zero_mul,Cm,List.take_nil,Dh]<;>omega))
   try simp (disch:=omega) only[lf,m1,hN,m2,s,m3,m4,e4,m6,e60,e61,m7,e7,r1,r2,q,Cn,Ch,Nat.zero_mul,Cm,List.take_nil,Dh]
theorem SV (B2:2000<=fu){dl:List Int}(NR:dl.length<=maxLen){Ap:Nat}{a0:List PV}{a1 secret:Int}:∀(k i nn:Nat),i+k=60->k<nn ->
  (∀(l:List Cw)(p:Nat),Kq l->Ak fu (Ag C0 prog fu (d+8)) Ap a0 a1 nn secret l.length (Az l) l.length (Az l) (i:Int) dl.length (Am .i64 dl) (p:Int)=some ⟨[.sc (.bool true)],[]⟩)∧(∀p:Nat,Bm fu (Ag C0 prog fu (d+8)) Ap a0 a1 nn secret 0 0 (i:Int) dl.length (Am .i64 dl) (p:Int) [] []=some ⟨[.sc (.bool true)],[]⟩)∧(∀p:Nat,A1 fu (Ag C0 prog fu (d+8)) Ap a0 a1 nn secret 0 0 (i:Int) dl.length (Am .i64 dl) (p:Int) [] []=some ⟨[.sc (.bool true)],[]⟩):=by
 have aw:=Xy (fu:=fu) (d:=d) B2;intro k
 induction k with
 |zero=>
  intro i nn h1 h2;obtain⟨nn,rfl⟩:∃k,nn=k+1:=⟨nn-1,by omega⟩
  refine⟨fun l p hl=>?_,fun p=>?_,fun p=>?_⟩
  ·rw[Ff]
   try unfold Ab
   repeat first
    |((with_reducible first|apply A5|apply Aw|apply A9|apply Ay|apply Bh|apply B7|apply B5|apply C6|apply Cg|apply Ax|apply A6|apply A8);· first|with_reducible rfl|(simp (disch:=omega) only[gT,aw]<;>first|with_reducible rfl|omega)|omega)
    |(with_reducible apply A7;· first|with_reducible rfl|(simp (disch:=omega) only[gF,aw]<;>omega))
   try simp (disch:=omega) only[aw]
  ·rw[Fm]
   try unfold Ab
   repeat first
    |((with_reducible first|apply A5|apply Aw|apply A9|apply Ay|apply Bh|apply B7|apply B5|apply C6|apply Cg|apply Ax|apply A6|apply A8);· first|with_reducible rfl|(simp (disch:=omega) only[gT,aw]<;>first|with_reducible rfl|omega)|omega)
    |(with_reducible apply A7;· first|with_reducible rfl|(simp (disch:=omega) only[gF,aw]<;>omega))
   try simp (disch:=omega) only[aw]
  ·rw[E7]
   try unfold Ab
   repeat first
    |((with_reducible first|apply A5|apply Aw|apply A9|apply Ay|apply Bh|apply B7|apply B5|apply C6|apply Cg|apply Ax|apply A6|apply A8);· first|with_reducible rfl|(simp (disch:=omega) only[gT,aw]<;>first|with_reducible rfl|omega)|omega)
    |(with_reducible apply A7;· first|with_reducible rfl|(simp (disch:=omega) only[gF,aw]<;>omega))
   try simp (disch:=omega) only[aw]
 |succ k ih=>
  intro i nn h1 h2;obtain⟨nn,rfl⟩:∃k,nn=k+1:=⟨nn-1,by omega⟩
  have ih:=ih (i+1) nn (by omega) (by omega)
  exact⟨fun l p hl=>ZU B2 NR (by omega) hl ih,fun p=>Ae9 B2 NR (by omega) ih,fun p=>UL B2 NR (by omega) ih⟩
end
theorem accountPlays_plain (qs:List PV)(h:Ba (WTv prog) [22,23] qs):∃fu d,Ag C0 prog fu d Gn qs=some ⟨[.sc (.bool true)],[]⟩:=by
 obtain⟨q0,_,rfl,h0,g⟩:=h.cons_inv;obtain⟨q1,_,rfl,h1,g⟩:=g.cons_inv;obtain rfl:=g.nil_inv;clear h g;obtain⟨l,rfl,NR,hlw⟩:=Af8 (k:=.i64) (e:=3) (by kernel_rfl) (by kernel_rfl) (by kernel_rfl) (by kernel_rfl) h0
 obtain⟨secret,rfl,_⟩:=Aj5 (P:=prog) (k:=.u64) (by kernel_rfl) (by kernel_rfl) h1
 clear h0 h1 hlw;obtain⟨fu,Bza⟩:∃fu,fu=2000:=⟨_,rfl⟩;have B2:2000<=fu:=by omega
 refine⟨fu,9,?_⟩;refine (Mi fu 8 l.length (Am .i64 l) secret).trans ?_;have nw:=Ap2 (fu:=fu) (d:=7) (l:=l);have lp:=(SV (fu:=fu) (d:=0) B2 NR (Ap:=l.length) (a0:=Am .i64 l) (a1:=secret) (secret:=secret) 60 0 fu rfl (by omega)).2.1 0
 simp only[X6] at nw;have e0:((0:Nat):Int)=0:=rfl;rw[e0] at nw lp
 try unfold Ab
 repeat first
  |((with_reducible first|apply A5|apply Aw|apply A9|apply Ay|apply Bh|apply B7|apply B5|apply C6|apply Cg|apply Ax|apply A6|apply A8);· first|with_reducible rfl|(simp (disch:=omega) only[gT,nw,lp]<;>first|with_reducible rfl|omega)|omega)
  |(with_reducible apply A7;· first|with_reducible rfl|(simp (disch:=omega) only[gF,nw,lp]<;>omega))
 try simp (disch:=omega) only[nw,lp]
end
section
open Go.Proofs.Try (prog)
open Go.IntKind (wrap)
open Go.RowKit
theorem Aa6 {w w':World}{Y:Nat->Prop}{bt:V6}{args:List PV}{v:Value}(hb:Below w.heap.size w w')(ho:Gz w' (Nn bt (fun _=>none) Y) (fun _=>none) bt (Jd [.sc v]) 0 args []):
  VY w w' Y bt args (fun _=>none) ⟨[.sc v],[]⟩ [v] where
 os:=hb.os
 tape:=hb.tape
 output:=hb.output
 ext:=⟨hb.size,fun b h _=>hb.block b h,fun b h=>Hw.same (hb.block b h)⟩
 rng:=fun b j h _=>⟨by unfold World.cell?;simp only[hb.block b h],by unfold World.frozen?;simp only[hb.block b h]⟩
 vals:=⟨As.sc v,trivial⟩
 outs:=ho
 fresh:=fun j b o h=>by cases h
 inj:=fun j j' b o o' h=>by cases h
theorem Z3 {P:Program}{w:World}{A:Nat->Prop}{bt:Bt}{z:Bool}{n:Nat}{c:List PV}{u:Value}{l:List UInt8}(h:FR w A bt (.lst z 1 n c) u) (hl:bytesOf c=some l)(hn:c.length=n):
  (Extern.Bytes.bytesOf u).run P w=.ok ⟨l.toArray⟩ w:=by
 obtain⟨ns,rfl,rfl⟩:=Sn hl;have ht:As w A (.lst z 1 n (ns.map fun n=>.sc (.int .u8 n))) u:=h.2
 generalize hc:(ns.map fun n=>PV.sc (.int .u8 n))=c at ht
 cases ht with
 |lnil=>
  have:ns=[]:=by simpa using hc
  subst this;rfl
 |lemp=>
  have:ns=[]:=by simpa using hc
  subst this;rfl
 |lst _ _ _ a cap f hs hb hA hn' hcell h1 hr=>
  subst hc;rw[List.length_map] at hn;subst hn;show (Extern.Bytes.loadBytes a ns.length .empty).run P w=_;rw[Lib.run_loadBytesX w ns a .empty fun j x hj=>?_]
  ·simp[Lib.bytesOf,Nat.toUInt8]
  ·have e:(ns.map fun n=>PV.sc (.int .u8 n))[j]?=some (.sc (.int .u8 x)):=by rw[List.getElem?_map,hj];rfl
   rw[hcell j _ e,(hr j _ e).val]
set_option maxRecDepth 1000000 in
theorem MK (u1 u2:Value)(a b:List UInt8)(w:World)(h1:(Extern.Bytes.bytesOf u1).run prog w=.ok ⟨a.toArray⟩ w) (h2:(Extern.Bytes.bytesOf u2).run prog w=.ok ⟨b.toArray⟩ w):
  Calls prog 36 #[u1,u2] w fun e w'=>e=.returned (.int .i64 (Lib.compareBytes a b))∧w'=w:=by
 have hr:(Extern.BytealgCompare.compare #[u1,u2]).run prog w=.ok (.int .i64 (Lib.compareBytes a b)) w:=by
  change Sem.run prog (do pure (goInt (Extern.BytealgCompare.cmp (←Extern.Bytes.bytesOf u1) (←Extern.Bytes.bytesOf u2)))) w=_
  simp only[Sem.run_bind,Sem.run_pure,Result.andThen,h1,h2];rw[Lib.cmp_eq];rfl
 go_enter Try.func36,Try.ntmps36
 go_wp2
 rw[run_callFunc_extern Try.func53 (by kernel_rfl) (by kernel_rfl) (by kernel_rfl) (e:=Extern.BytealgCompare.compare) (by kernel_rfl),hr]
 simp only[Result.andThen];rw[Oper.upon_value]
 go_wp2
 go_ret
 exact⟨rfl,rfl⟩
theorem GO (G:Glo)(args:List PV)(res:A2)(h:Sg args=some res):Do G prog 36 args res:=by
 refine⟨⟨_,Try.func36,by kernel_rfl⟩,fun w Y bt us hi _ _=>?_⟩
 unfold Sg at h;split at h
 rotate_left
 ·cases h
 rename_i z n c z' m c';cases hq:(Nat.beq c.length n&&Nat.beq c'.length m)
 ·rw[hq] at h;cases h
 rw[hq] at h;simp only[Bool.and_eq_true] at hq;have hn:=Nat.eq_of_beq_eq_true hq.1;have hm:=Nat.eq_of_beq_eq_true hq.2;simp only[cond_true] at h;split at h
 rotate_left
 ·cases h
 rename_i a b ha hb;cases h;have ps:=hi.args
 match us,ps with
 |[u1,u2],ps=>
  refine (MK u1 u2 a b w (Z3 ps.1 ha hn) (Z3 ps.2.1 hb hm)).mono ?_
  rintro e w' ⟨rfl,rfl⟩
  exact⟨[.int .i64 (Lib.compareBytes a b)],fun _=>none,rfl,Aa6 (Below.refl _ _) rfl⟩
 |[],ps=>exact ps.elim
 |[_],ps=>exact ps.2.elim
 |_::_::_::_,ps=>exact ps.2.2.elim
end
section
open Go.IntKind (wrap)
open Go.RowKit Go.Lib
section
variable {P:Program}
theorem Tv (w:World)(dT sT ty elem:TypeId)(i:TypeInfo)(b o dLen dCap:Nat)(a:Addr)(sLen sCap k:Nat)(cs:List Value)
  (hu:P.underlying dT=some (.slice elem)) (hq:P.info? elem=some i)(hk:k=Nat.min sLen dLen)(hn:cs.length=k*i.size)
  (M8:∀j v,cs[j]?=some v->w.cell? (a.add j)=some v) (hc:∀j,j<cs.length->(w.cell? ⟨b,o+j,none⟩).isSome=true) (hf:∀j,j<cs.length->w.frozen? ⟨b,o+j,none⟩=false)(h1:∀v∈cs,v.oneCell'=true):
  (Builtin.copy_ #[dT,sT] ty #[.slice (some ⟨b,o,none⟩) dLen dCap,.slice (some a) sLen sCap]).run P w=.ok (goInt k) (w.setCells b o cs):=by
 have hl:=run_loadCells_list (P:=P) w a cs M8;have Lx:=run_storeCells_cells (P:=P) b o cs 0 w (by simpa using hc) (by simpa using hf) h1
 simp[Builtin.copy_,run_underlying hu,Builtin.lenOf,Builtin.firstCells,sizeOf,typeInfo,hq,←hk,←hn,hl,Lx]
theorem H0 (b:Nat)(vs:List Value)(o:Nat)(w:World)(k:Nat)(hk:(w.cell? ⟨b,k,none⟩).isSome=true):((w.setCells b o vs).cell? ⟨b,k,none⟩).isSome=true:=by
 have h:=(Bf.setCells b vs o w).bs;obtain⟨v,hv⟩:=Option.isSome_iff_exists.1 hk;have h1:=V7 hv;exact F4 (by omega)
theorem LL (w:World){o:Oper}{a:Act}{K:Act->World->Prop}{Q:Exit->Act->World->Prop}(d s:Operand)(t t':TypeId)
  (ho:o.op=.call { callee:=.builtin .copy,args:= #[d,s],argTypes:= #[t,t'] }) (v u:Value)(hd:a.eval d=v)(hs:a.eval s=u){v':Value}{w':World}
  (hr:(Builtin.copy_ #[t,t'] o.type #[v,u]).run P w=.ok v' w') (h:K (a.put o.dst v') w'):o.wp P a w K Q:=by
 unfold Oper.wp execOp;simp only[ho,resolve,invoke,builtin,Sem.run_bind,Sem.run_pure,Result.andThen_ok,List.map_toArray,List.map_cons,List.map_nil,hd,hs,hr];exact h
theorem Kr (w:World){ops:Array Oper}{rest:List Oper}{o:Oper}{a:Act}{Q:Exit->Act->World->Prop}(hgd:o.guard=none)(d s:Operand)(t t':TypeId)
  (ho:o.op=.call { callee:=.builtin .copy,args:= #[d,s],argTypes:= #[t,t'] }) (v u:Value)(hd:a.eval d=v)(hs:a.eval s=u){v':Value}{w':World}
  (hr:(Builtin.copy_ #[t,t'] o.type #[v,u]).run P w=.ok v' w') (h:wpList P ops Q rest (a.put o.dst v') w'):wpList P ops Q (o::rest) a w:=
 wpList_plain hgd fun _ hK=>LL w d s t t' ho v u hd hs hr (hK _ _ h)
theorem S4 {ops:Array Oper}{o:Oper}{a:Act}{w:World}{K:Act->World->Prop}{Q:Exit->Act->World->Prop}{E:Prop}
  (hg:o.guard=none)(d x:Operand)(dT sT:TypeId)(XE:o.op=Op.call { callee:=Callee.builtin Builtin.copy,args:= #[d,x],argTypes:= #[dT,sT] })
  (v u:Value)(hd:a.eval d=v)(hx:a.eval x=u){v':Value}{w':World}(hr:(Builtin.copy_ #[dT,sT] o.type #[v,u]).run P w=.ok v' w') (hK:K (a.put o.dst v') w'):
  if Region.wanted o (yielded ops a.tmps)=true then Oper.wp P o a w K Q else E:=by
 have hw:Region.wanted o (yielded ops a.tmps)=true:=by simp[Region.wanted,hg]
 rw[J8 hw];unfold Oper.wp;simp[execOp,XE,resolve,invoke,builtin,hd,hx,hr,Result.andThen];exact hK
end
end
section
open Go.Proofs.Try (prog)
open Go.IntKind (wrap)
open Go.RowKit Go.Lib
theorem MS:(prog.info? 79).map (fun i=>(i.zero,i.size,i.bytes))=some (some (.agg #[.int .i64 0,.int .i64 0]),2,16):=by kernel_rfl
theorem Un:prog.underlying 31=some (.slice 79):=by kernel_rfl
theorem Aom:prog.underlying 3=some (.int .i64):=by kernel_rfl
set_option maxHeartbeats 4000000 in
set_option maxRecDepth 100000 in
theorem Aaw (b off n c i vb voff vc:Nat)(cs vs:List Value)(w:World)(hi:i<n)(Lf:n+1<=c)(A7b:n<=100000)(hvb:vb≠b)
  (N1:cs.length=n*2)(Ls:vs.length=2)
  (Te:∀j v,cs[j]?=some v->w.cell? ⟨b,off+j,none⟩=some v) (hsp:∀j,j<(n+1)*2->(w.cell? ⟨b,off+j,none⟩).isSome=true) (Rt:∀j,j<(n+1)*2->w.frozen? ⟨b,off+j,none⟩=false)
  (Fq:∀j v,vs[j]?=some v->w.cell? ⟨vb,voff+j,none⟩=some v) (h1c:∀v∈cs,v.oneCell'=true)(FN:∀v∈vs,v.oneCell'=true)
  (tA tB:TypeId)(kA kB:Nat)(hsa:w.shape? vb=some (tA,kA)) (hsb:w.shape? b=some (tB,kB)) (hkB:kB≠0)(hfa:w.frozen? ⟨vb,voff,none⟩=false)(hfe:w.frozen? ⟨vb,kA,none⟩=false):
  Calls prog 46 #[.slice (some ⟨b,off,none⟩) n c,.int .i64 i,.slice (some ⟨vb,voff,none⟩) 1 vc] w fun e w'=>
   e=.returned (.slice (some ⟨b,off,none⟩) (n+1) c)∧w'=(w.drew.setCells b (off+(i+1)*2) (cs.drop (i*2))).setCells b (off+i*2) vs:=by
 obtain⟨i0,T0,LZ,Nt,RW⟩:=info_parts MS;have hz2:¬((i:Int)=(n:Int)):=by omega
 have hov:∀lb cb,(callFunc 57 #[.slice (some ⟨vb,voff,none⟩) 1 vc,.slice (some ⟨b,off+(i+1)*2,none⟩) lb cb]).run prog w=.ok (.value (.bool false)) w:=fun lb cb=>by
  rw[run_callFunc_extern Try.func57 (by kernel_rfl) (by kernel_rfl) (by kernel_rfl) (e:=Extern.SlicesOverlaps.overlaps #[31,31] #[4]) (by kernel_rfl),
   Lib.run_overlaps_apart w 31 4 79 Un 2 (fun w=>by simp[sizeOf,typeInfo,T0,Nt]) ⟨vb,voff,none⟩ ⟨b,off+(i+1)*2,none⟩ 1 vc lb cb hvb tA tB kA kB hsa hsb hkB hfa hfe]
  rfl
 have TK:(cs.drop (i*2)).length=(n-i)*2:=by rw[List.length_drop,N1];omega
 have hw1:IntKind.i64.wrap ((i:Int)+1)=(i:Int)+1:=by rw[IntKind.wrap_i64];omega
 have hw2:IntKind.i64.wrap ((n:Int)+1)=(n:Int)+1:=by rw[IntKind.wrap_i64];omega
 have mixed:prog.follows Departure.mixedOrders=true:=by kernel_rfl
 have Fh:(0:Int)<=(i:Int)+1:=by omega
 have U0:i<=n:=by omega
 have htn:((i:Int)+1).toNat=i+1:=by omega
 have Kw:¬(c=i+1):=by omega
 have LE:(i:Int)<=(n:Int)+1:=by omega
 have hb4:¬(c=i):=by omega
 have A4e:∀ty dc sc,(Builtin.copy_ #[31,31] ty #[.slice (some ⟨b,off+(i+1)*2,none⟩) (n-i) dc,.slice (some ⟨b,off+i*2,none⟩) (n+1-i) sc]).run prog w.drew=.ok (goInt ((n-i:Nat):Int)) (w.drew.setCells b (off+(i+1)*2) (cs.drop (i*2))):=fun ty dc sc=>
  Tv w.drew _ _ ty 79 i0 b (off+(i+1)*2) (n-i) dc ⟨b,off+i*2,none⟩ (n+1-i) sc (n-i) (cs.drop (i*2)) Un T0 (by simp only[Nat.min_def];split<;>omega) (by rw[Nt];exact TK)
   (fun j v hj=>by rw[Addr.add_lit,Nat.add_assoc];exact Te (i*2+j) v (by rwa [List.getElem?_drop] at hj))
   (fun j hj=>by rw[Nat.add_assoc];exact hsp _ (by omega)) (fun j hj=>by rw[Nat.add_assoc];exact Rt _ (by omega)) (fun v hv=>h1c v (List.mem_of_mem_drop hv))
 obtain⟨W1,FM⟩:∃W1,W1=w.drew.setCells b (off+(i+1)*2) (cs.drop (i*2)):=⟨_,rfl⟩
 have Bbu:∀k,k<(n+1)*2->(W1.cell? ⟨b,off+k,none⟩).isSome=true:=fun k hk=>by
  rw[FM];exact H0 b _ _ _ _ (hsp k hk)
 have Bjh:∀(W:World),(∀x,W.cell? x=W1.cell? x)->(∀x,W.frozen? x=W1.frozen? x)->∀ty dc,(Builtin.copy_ #[31,31] ty #[.slice (some ⟨b,off+i*2,none⟩) (n+1-i) dc,.slice (some ⟨vb,voff,none⟩) 1 vc]).run prog W=.ok (goInt 1) (W.setCells b (off+i*2) vs):=fun W hWc hWf ty dc=>
  Tv W _ _ ty 79 i0 b (off+i*2) (n+1-i) dc ⟨vb,voff,none⟩ 1 vc 1 vs Un T0 (by simp only[Nat.min_def];split<;>omega) (by rw[Ls,Nt])
   (fun j v hj=>by
    rw[Addr.add_lit,hWc,FM,World.cell?_setCells_out b _ _ _ _ (fun h _=>absurd h hvb)]
    exact Fq j v hj)
   (fun j hj=>by rw[hWc,Nat.add_assoc];exact Bbu _ (by omega)) (fun j hj=>by rw[hWf,FM,World.frozen?_setCells,Nat.add_assoc];exact Rt _ (by omega)) FN
 rw[←FM] at A4e
 go_enter Try.func46,Try.ntmps46
 go_wp2_with (simp only[hov])
 go_region_law_o (refine S4 rfl _ _ 31 31 rfl _ _ (by simp[Act.eval,Act.put]) (by simp[Act.eval,Act.put]) (A4e _ _ _) ?_)
 go_wp2_with (at_builtin;refine Kr _ rfl _ _ 31 31 rfl _ _ rfl rfl (Bjh _ (fun _=>rfl) (fun _=>rfl) _ _) ?_)
 go_ret
 first|exact⟨rfl,rfl⟩|exact⟨rfl,by rw[FM]⟩
theorem Afy {w:World}{vb voff vc:Nat}{vs:List Value}(Ls:vs.length=2)(Fq:∀j v,vs[j]?=some v->w.cell? ⟨vb,voff+j,none⟩=some v) (FN:∀v∈vs,v.oneCell'=true):
  Pv.Src prog w (fun _=>False) 2 (.slice (some ⟨vb,voff,none⟩) 1 vc) 1 (vs.map .sc) vs where
 len:=fun w'=>by simp[Builtin.lenOf]
 cells:=fun w' hw=>by
  refine Pv.run_first_slice (w:=w') (.inr ⟨_,rfl,by omega,fun j v hj=>?_⟩)
  have hv:=Fq j v hj;rw[Addr.add_lit,World.cell?_of_block (w:=w) (hw vb (block_lt_of_cell hv))];exact hv
 part:=fun k hk=>by
  refine run_firstCells_some w 2 k ⟨vb,voff,none⟩ 1 vc _ (by rw[List.length_take];omega) fun j v hj=>?_
  rw[List.getElem?_take] at hj;split at hj
  ·rw[Addr.add_lit];exact Fq j v hj
  ·cases hj
 one:=FN
 rep:=by
  clear Fq FN Ls
  induction vs with
  |nil=>trivial
  |cons v vs ih=>exact⟨.sc v,ih⟩
set_option maxHeartbeats 4000000 in
set_option maxRecDepth 100000 in
theorem LJ (b off n c vb voff vc:Nat)(vs:List Value)(w:World)(Lf:n+1<=c)
  (Ls:vs.length=2)(hsp:∀j,j<2->(w.cell? ⟨b,off+n*2+j,none⟩).isSome=true) (Rt:∀j,j<2->w.frozen? ⟨b,off+n*2+j,none⟩=false)
  (Fq:∀j v,vs[j]?=some v->w.cell? ⟨vb,voff+j,none⟩=some v) (FN:∀v∈vs,v.oneCell'=true):
  Calls prog 46 #[.slice (some ⟨b,off,none⟩) n c,.int .i64 n,.slice (some ⟨vb,voff,none⟩) 1 vc] w fun e w'=>
   e=.returned (.slice (some ⟨b,off,none⟩) (n+1) c)∧w'=w.setCells b (off+n*2) vs:=by
 obtain⟨i0,T0,LZ,Nt,RW⟩:=info_parts MS;have M8:=Afy (vc:=vc) Ls Fq FN;rw[←Nt] at M8 hsp Rt ⊢
 have hr:∀ty,(Builtin.append_ #[31,31] ty #[.slice (some ⟨b,off,none⟩) n c,.slice (some ⟨vb,voff,none⟩) 1 vc]).run prog w=_:=fun ty=>
  Pv.append_room_run (P:=prog) (w:=w) (t:=31) (tx:=31) (ty:=ty) (ts:=[]) (b:=b) (ob:=off) (n:=n) (cap:=c) Un Un (fun k=>by simp) T0 M8 (by rw[Ls,Nt]) (fun k hk=>hsp k (by rw[Nt];omega)) (fun k hk=>Rt k (by rw[Nt];omega)) Lf
 have mixed:prog.follows Departure.mixedOrders=true:=by kernel_rfl
 go_enter Try.func46,Try.ntmps46
 go_wp2_with (at_builtin;refine Lib.wpList_append_run _ rfl _ _ _ _ rfl _ _ rfl rfl _ _ (hr _) ?_)
 go_ret
 exact⟨rfl,by rw[Nt]⟩
set_option maxHeartbeats 4000000 in
set_option maxRecDepth 100000 in
theorem JO (base:Option Addr)(n c vb voff vc:Nat)(cs vs:List Value)(w:World)(hnc:n<=c)(Lf:c<n+1)(A7b:n<=100000)
  (N1:cs.length=n*2)(Ls:vs.length=2)(Te:(base=none∧cs=[])∨∃p,base=some p∧∀j v,cs[j]?=some v->w.cell? (p.add j)=some v)
  (Fq:∀j v,vs[j]?=some v->w.cell? ⟨vb,voff+j,none⟩=some v) (FN:∀v∈vs,v.oneCell'=true):
  Calls prog 46 #[.slice base n c,.int .i64 n,.slice (some ⟨vb,voff,none⟩) 1 vc] w fun e w'=>
   e=.returned (.slice (some ⟨w.heap.size,0,none⟩) (n+1) (grownCap w (n+1) c 79)) ∧
   w'=w.drew.alloc (.cells (cs.toArray++vs.toArray++Builtin.zeroCells #[.int .i64 0,.int .i64 0] (grownCap w (n+1) c 79-(n+1))) 79):=by
 obtain⟨i0,T0,LZ,Nt,RW⟩:=info_parts MS;have M8:=Afy (vc:=vc) Ls Fq FN;rw[←Nt] at M8
 have hr:∀ty,(Builtin.append_ #[31,31] ty #[.slice base n c,.slice (some ⟨vb,voff,none⟩) 1 vc]).run prog w=_:=fun ty=>
  Pv.append_grow_run (P:=prog) (w:=w) (t:=31) (tx:=31) (ty:=ty) (ts:=[]) (ad:=base) (n:=n) (cap:=c) (olds:=cs) Un Un (fun k=>by simp) T0 LZ M8 (by
   rcases Te with h|⟨p,h,g⟩
   ·exact .inl h
   ·exact .inr ⟨p,h,by rw[Nt];exact N1,g⟩) Lf (by rw[RW];omega) (by omega)
 have Vn:base=none->n=0:=by
  rintro rfl
  rcases Te with⟨_,rfl⟩|⟨p,h,_⟩
  ·simp at N1;omega
  ·cases h
 have mixed:prog.follows Departure.mixedOrders=true:=by kernel_rfl
 clear Te
 go_enter Try.func46,Try.ntmps46
 cases base with
 |none=>
  have h0:=Vn rfl;subst h0
  go_wp2_with (at_builtin;refine Lib.wpList_append_run _ rfl _ _ _ _ rfl _ _ rfl rfl _ _ (hr _) ?_)
  go_ret
  exact⟨rfl,rfl⟩
 |some a=>
  go_wp2_with (at_builtin;refine Lib.wpList_append_run _ rfl _ _ _ _ rfl _ _ rfl rfl _ _ (hr _) ?_)
  go_ret
  exact⟨rfl,rfl⟩
set_option maxHeartbeats 4000000 in
set_option maxRecDepth 100000 in
theorem Adq (b off n c i vb voff vc:Nat)(cs vs:List Value)(w:World)(hi:i<n)(hnc:n<=c)(Lf:c<n+1)(A7b:n<=100000)
  (N1:cs.length=n*2)(Ls:vs.length=2)
  (Te:∀j v,cs[j]?=some v->w.cell? ⟨b,off+j,none⟩=some v)
  (Fq:∀j v,vs[j]?=some v->w.cell? ⟨vb,voff+j,none⟩=some v) (h1c:∀v∈cs,v.oneCell'=true)(FN:∀v∈vs,v.oneCell'=true):
  Calls prog 46 #[.slice (some ⟨b,off,none⟩) n c,.int .i64 i,.slice (some ⟨vb,voff,none⟩) 1 vc] w fun e w'=>
   e=.returned (.slice (some ⟨w.heap.size,0,none⟩) (n+1) (grownCap w (n+1) c 79)) ∧
   w'=(((w.alloc (.cells ((cs.take (i*2)).toArray++Builtin.zeroCells #[.int .i64 0,.int .i64 0] (n+1-i)++Builtin.zeroCells #[.int .i64 0,.int .i64 0] (grownCap w (n+1) c 79-(n+1))) 79)).drew.setCells w.heap.size (i*2) vs).drew).setCells w.heap.size ((i+1)*2) (cs.drop (i*2)):=by
 obtain⟨i0,T0,LZ,Nt,RW⟩:=info_parts MS;have hz2:¬((i:Int)=(n:Int)):=by omega
 have hz3:(c:Int)<(n:Int)+1:=by omega
 have hbw:b<w.heap.size:=block_lt_of_cell (Te 0 _ (List.getElem?_eq_getElem (by omega)))
 have hvw:vb<w.heap.size:=block_lt_of_cell (Fq 0 _ (List.getElem?_eq_getElem (by omega)))
 have hkk:(n:Int)+1-(i:Int)=((n+1-i:Nat):Int):=by omega
 have hik:i+(n+1-i)=n+1:=by omega
 have hold:(Builtin.firstCells i0.size i (.slice (some ⟨b,off,none⟩) i c)).run prog w.drew=.ok (cs.take (i*2)).toArray w.drew:=by
  rw[Nt]
  exact run_firstCells_some w.drew 2 i ⟨b,off,none⟩ i c (cs.take (i*2)) (by rw[List.length_take];omega) (fun j v hj=>by
   rw[Addr.add_lit];rw[List.getElem?_take] at hj;split at hj
   ·exact Te j v hj
   ·cases hj)
 have hrz:∀ty,(Builtin.append_ #[31,3] ty #[.slice (some ⟨b,off,none⟩) i c,.int .i64 ((n:Int)+1-(i:Int))]).run prog w =
   .ok (.slice (some ⟨w.heap.size,0,none⟩) (n+1) (grownCap w (n+1) c 79)) (w.drew.alloc (.cells ((cs.take (i*2)).toArray++Builtin.zeroCells #[.int .i64 0,.int .i64 0] (n+1-i)++Builtin.zeroCells #[.int .i64 0,.int .i64 0] (grownCap w (n+1) c 79-(n+1))) 79)):=fun ty=>by
  have h:=Lib.run_append_grow_zeros w 31 3 ty 79 i0 _ .i64 .i64 Un Aom T0 LZ (some ⟨b,off,none⟩) i c (cs.take (i*2)) hold (n+1-i) (by omega) (by omega) (by omega) (by omega) (by rw[RW];omega) (by rw[RW,hik];exact growslice_fits Lf (by omega))
  rw[hik] at h;rw[hkk];exact h
 obtain⟨G,hG⟩:∃G,G=grownCap w (n+1) c 79:=⟨_,rfl⟩;obtain⟨ROW,QF⟩:∃ROW:Array Value,ROW=(cs.take (i*2)).toArray++Builtin.zeroCells #[.int .i64 0,.int .i64 0] (n+1-i)++Builtin.zeroCells #[.int .i64 0,.int .i64 0] (G-(n+1)):=⟨_,rfl⟩;rw[←hG] at hrz ⊢;rw[←QF] at hrz ⊢
 have hRl:(n+1)*2<=ROW.size:=by
  rw[QF];simp[Builtin.zeroCells];omega
 obtain⟨W1,FM⟩:∃W1,W1=w.drew.alloc (.cells ROW 79):=⟨_,rfl⟩;rw[←FM] at hrz
 have hN:∀j,j<(n+1)*2->(W1.cell? ⟨w.heap.size,j,none⟩).isSome=true:=fun j hj=>by
  rw[FM,World.cell?_alloc_at (w:=w.drew) ROW _ w.heap.size j rfl,Array.getElem?_eq_getElem (by omega)];rfl
 have hNf:∀j,W1.frozen? ⟨w.heap.size,j,none⟩=false:=fun j=>by rw[FM];exact World.frozen?_alloc_at (w:=w.drew) ROW _ w.heap.size j rfl
 have hOb:∀j v,w.cell? ⟨b,j,none⟩=some v->W1.cell? ⟨b,j,none⟩=some v:=fun j v h=>by rw[FM,World.cell?_alloc_past (w:=w.drew) _ b j hbw];exact h
 have hOv:∀j v,w.cell? ⟨vb,j,none⟩=some v->W1.cell? ⟨vb,j,none⟩=some v:=fun j v h=>by rw[FM,World.cell?_alloc_past (w:=w.drew) _ vb j hvw];exact h
 have Bq7:∀(W:World),(∀x,W.cell? x=W1.cell? x)->(∀x,W.frozen? x=W1.frozen? x)->∀ty dc,(Builtin.copy_ #[31,31] ty #[.slice (some ⟨w.heap.size,i*2,none⟩) (n+1-i) dc,.slice (some ⟨vb,voff,none⟩) 1 vc]).run prog W=.ok (goInt 1) (W.setCells w.heap.size (i*2) vs):=fun W hWc hWf ty dc=>
  Tv W _ _ ty 79 i0 w.heap.size (i*2) (n+1-i) dc ⟨vb,voff,none⟩ 1 vc 1 vs Un T0 (by simp only[Nat.min_def];split<;>omega) (by rw[Ls,Nt])
   (fun j v hj=>by rw[Addr.add_lit,hWc];exact hOv _ v (Fq j v hj))
   (fun j hj=>by rw[hWc];exact hN _ (by omega)) (fun j hj=>by rw[hWf];exact hNf _) FN
 have hGn:n+1<=G:=by rw[hG];exact grownCap_ge w _ _ _
 have Bzo:G<=9223372036854775807:=by
  have:=grownCap_le_maxLen w (n+1) c 79 (by unfold maxLen;omega)
  rw[←hG] at this;unfold maxLen at this;omega
 have hGi:¬(G=i):=by omega
 have B0m:¬(G=i+1):=by omega
 have hci:¬(c=i):=by omega
 have hbN:b≠w.heap.size:=by omega
 have TK:(cs.drop (i*2)).length=(n-i)*2:=by rw[List.length_drop,N1];omega
 have A79:∀(W:World),(∀x,W.cell? x=(W1.setCells w.heap.size (i*2) vs).cell? x)->(∀x,W.frozen? x=(W1.setCells w.heap.size (i*2) vs).frozen? x)->∀ty dc sc,(Builtin.copy_ #[31,31] ty #[.slice (some ⟨w.heap.size,(i+1)*2,none⟩) (n-i) dc,.slice (some ⟨b,off+i*2,none⟩) (n-i) sc]).run prog W=.ok (goInt ((n-i:Nat):Int)) (W.setCells w.heap.size ((i+1)*2) (cs.drop (i*2))):=fun W hWc hWf ty dc sc=>
  Tv W _ _ ty 79 i0 w.heap.size ((i+1)*2) (n-i) dc ⟨b,off+i*2,none⟩ (n-i) sc (n-i) (cs.drop (i*2)) Un T0 (by simp only[Nat.min_def];split<;>omega) (by rw[Nt];exact TK)
   (fun j v hj=>by
    rw[Addr.add_lit,hWc,World.cell?_setCells_out _ _ _ _ _ (fun h _=>absurd h hbN),Nat.add_assoc]
    exact hOb _ v (Te (i*2+j) v (by rwa [List.getElem?_drop] at hj)))
   (fun j hj=>by rw[hWc];exact H0 _ _ _ _ _ (hN _ (by omega)))
   (fun j hj=>by rw[hWf,World.frozen?_setCells];exact hNf _) (fun v hv=>h1c v (List.mem_of_mem_drop hv))
 subst FM;have hE1:∀x,((w.alloc (.cells ROW 79)).drew).cell? x=(w.drew.alloc (.cells ROW 79)).cell? x:=fun x=>rfl
 have hE2:∀x,((w.alloc (.cells ROW 79)).drew).frozen? x=(w.drew.alloc (.cells ROW 79)).frozen? x:=fun x=>rfl
 have hF1:∀x,(((w.alloc (.cells ROW 79)).drew.setCells w.heap.size (i*2) vs).drew).cell? x=((w.drew.alloc (.cells ROW 79)).setCells w.heap.size (i*2) vs).cell? x:=fun x=>rfl
 have hF2:∀x,(((w.alloc (.cells ROW 79)).drew.setCells w.heap.size (i*2) vs).drew).frozen? x=((w.drew.alloc (.cells ROW 79)).setCells w.heap.size (i*2) vs).frozen? x:=fun x=>rfl
 have hw1:IntKind.i64.wrap ((i:Int)+1)=(i:Int)+1:=by rw[IntKind.wrap_i64];omega
 have hw2:IntKind.i64.wrap ((n:Int)+1)=(n:Int)+1:=by rw[IntKind.wrap_i64];omega
 have hw3:IntKind.i64.wrap ((n:Int)+1-(i:Int))=(n:Int)+1-(i:Int):=by rw[IntKind.wrap_i64];omega
 have Fh:(0:Int)<=(i:Int)+1:=by omega
 have U0:i<=n:=by omega
 have htn:((i:Int)+1).toNat=i+1:=by omega
 have LE:(i:Int)<=(n:Int):=by omega
 have mixed:prog.follows Departure.mixedOrders=true:=by kernel_rfl
 clear hkk hik hold QF hG hRl
 go_enter Try.func46,Try.ntmps46
 go_wp2_with (first
  |(at_builtin;refine Lib.wpList_append_run _ rfl _ _ _ _ rfl _ _ rfl rfl _ _ (hrz _) ?_)
  |(at_builtin;refine Kr _ rfl _ _ 31 31 rfl _ _ rfl rfl (Bq7 _ hE1 hE2 _ _) ?_)
  |(at_builtin;refine Kr _ rfl _ _ 31 31 rfl _ _ rfl rfl (A79 _ (fun _=>rfl) (fun _=>rfl) _ _ _) ?_))
 go_region_law_o (refine S4 rfl _ _ 31 31 rfl (.slice (some ⟨w.heap.size,(i+1)*2,none⟩) (n-i) (G-(i+1))) (.slice (some ⟨b,off+i*2,none⟩) (n-i) (c-i)) (by simp[Act.eval,Act.put]) (by simp[Act.eval,Act.put]) (A79 _ hF1 hF2 3 (G-(i+1)) (c-i)) ?_)
 go_wp2
 go_ret
 exact⟨rfl,rfl⟩
end
section
open Go.Proofs.Try (prog)
open Go.IntKind (wrap)
open Go.RowKit Go.Lib
structure E1 (w w':World):Prop where
 os:w'.os=w.os
 tape:w'.tape=w.tape
 output:w'.output=w.output
 old:∀k,k<w.heap.size->w'.heap[k]?=w.heap[k]?
 size:w'.heap.size=w.heap.size+1
 frz:∀j,w'.frozen? ⟨w.heap.size,j,none⟩=false
theorem E1.alloc (w:World)(c:Array Value)(e:TypeId):E1 w (w.alloc (.cells c e)):=
 ⟨rfl,rfl,rfl,fun b hb=>Below.heap_alloc w _ b hb,by show (w.heap.push _).size=_;simp,fun j=>World.frozen?_alloc_at (w:=w) c e w.heap.size j rfl⟩
theorem E1.allocD (w:World)(c:Array Value)(e:TypeId):E1 w (w.drew.alloc (.cells c e)):=by
 have h:=E1.alloc w.drew c e;exact⟨h.os,h.tape,h.output,h.old,h.size,h.frz⟩
theorem E1.wrote {w w' w'':World}(h:E1 w w')(g:Bf w.heap.size w' w''):E1 w w'':=
 ⟨g.os.trans h.os,g.tape.trans h.tape,g.output.trans h.output,fun k hk=>(g.other k (by omega)).trans (h.old k hk),g.size.trans h.size,fun j=>(g.frz j).trans (h.frz j)⟩
theorem Bf.drew (b:Nat)(w:World):Bf b w w.drew:=⟨rfl,rfl,rfl,rfl,fun _ _=>rfl,rfl,fun _=>rfl⟩
theorem Adc {w:World}{A:Nat->Prop}{a:Addr}:∀{cs:List Value},Wv w A a (cs.map .sc)->∀j v,cs[j]?=some v->w.cell? (a.add j)=some v∧v.oneCell'=true:=by
 intro cs h j v hj;obtain⟨u,h1,h2,h3⟩:=h j (.sc v) (by rw[List.getElem?_map,hj];rfl)
 cases h3;exact⟨h1,h2⟩
theorem KZ {w:World}{A:Nat->Prop}{a:Addr}{cs:List Value}(h:∀j v,cs[j]?=some v->w.cell? (a.add j)=some v) (h1:∀v∈cs,v.oneCell'=true):Wv w A a (cs.map .sc):=by
 intro j p hp;rw[List.getElem?_map] at hp;cases hv:cs[j]? with
 |none=>rw[hv] at hp;cases hp
 |some v=>
  rw[hv] at hp;cases hp;exact⟨v,h j v hv,h1 v (List.mem_of_getElem? hv),.sc v⟩
theorem XQ:∀{c:List PV},c.all CD=true->∃cs:List Value,c=cs.map .sc
 |[],_=>⟨[],rfl⟩
 |p::c,h=>by
  simp only[List.all_cons,Bool.and_eq_true] at h;obtain⟨cs,rfl⟩:=XQ h.2;have hp:=h.1;unfold CD at hp;split at hp
  ·exact⟨_::cs,rfl⟩
  ·cases hp
def Xq (q:Nat × Nat):Bt:=fun j=>match j with|0=>some q|_=>none
def T9 (i:Nat)(cs vs:List Value):List Value:=cs.take (i*2)++vs++cs.drop (i*2)
theorem NP {i n j:Nat}{cs vs:List Value}{v:Value}(hi:i<=n)(hc:cs.length=n*2)(hv:vs.length=2)(h:(T9 i cs vs)[j]?=some v):
  (j<i*2∧cs[j]?=some v)∨(i*2<=j∧j<i*2+2∧vs[j-i*2]?=some v)∨((i+1)*2<=j∧(cs.drop (i*2))[j-(i+1)*2]?=some v):=by
 unfold T9 at h;have lt:(cs.take (i*2)).length=i*2:=by rw[List.length_take];omega
 by_cases h1:j<i*2
 ·rw[Zzv,List.getElem?_append_left (by omega),List.getElem?_take,J8 h1] at h
  exact .inl ⟨h1,h⟩
 ·by_cases h2:j<i*2+2
  ·rw[Zzv,List.getElem?_append_right (by omega),lt,List.getElem?_append_left (by omega)] at h
   exact .inr (.inl ⟨by omega,h2,h⟩)
  ·rw[List.getElem?_append_right (by simp;omega)] at h
   refine .inr (.inr ⟨by omega,?_⟩)
   rw[AV,lt,hv] at h;rw[←h]
   congr 1
   omega
section
variable {w w':World} {Y:Nat->Prop} {bt:V6} {args:List PV} {L vs:List Value} {n cap b o vb vo:Nat} {x1:PV} {x0:PV}
theorem Aak (hb:bt 0 1=some (b,o)) (hv:bt 2 0=some (vb,vo)) (Hu:vb≠b)(Vq:b<w.heap.size)(Ls:vb<w.heap.size)(hw:Bf b w w')
  (Agb:∀j,j<o->w'.cell? ⟨b,j,none⟩=w.cell? ⟨b,j,none⟩)(hn:n<=cap)(hF:Fit w 2 b (o+cap*2)) (Rt:∀j,o<=j->j<bsz w b->w.frozen? ⟨b,j,none⟩=false)
  (hL:∀j v,L[j]?=some v->w'.cell? ⟨b,o+j,none⟩=some v) (h1:∀v∈L,v.oneCell'=true)
  (Fq:∀j v,vs[j]?=some v->w.cell? ⟨vb,vo+j,none⟩=some v) (h2:∀v∈vs,v.oneCell'=true)(hvf:∀j,vo<=j->j<bsz w vb->w.frozen? ⟨vb,j,none⟩=false)
  (e0:∀ps,x0 ≠ .pbox ps)(e0':∀ps,x0 ≠ .tup ps)(e1:∀ps,x1 ≠ .pbox ps)(e1':∀ps,x1 ≠ .tup ps){q:List PV}:
  VY w w' Y bt [x0,x1,.tup q] (Xq (b,o)) ⟨[.own 2 n (L.map .sc)],[vs.map .sc]⟩ [.slice (some ⟨b,o,none⟩) n cap] where
 os:=hw.os
 tape:=hw.tape
 output:=hw.output
 ext:=⟨by rw[hw.size];exact Nat.le_refl _,fun k _ hk=>hw.other k (fun e=>hk (e ▸ ⟨0,1,o,hb⟩)),fun k _=>hw.grow k⟩
 rng:=fun k j hk hX=>by
  by_cases e:k=b
  ·subst e
   have hj:j<o:=by
    refine Nat.lt_of_not_le fun Z0=>hX ⟨0,x0,rfl,Or.inl ⟨0,o,hb,Z0⟩⟩
   exact⟨Agb j hj,hw.frz j⟩
  ·exact⟨by unfold World.cell?;simp only[hw.other k e],by unfold World.frozen?;simp only[hw.other k e]⟩
 vals:=⟨.inr ⟨b,o,cap,rfl,rfl,hn,hF.step (hw.grow b),by rw[hw.size];exact Vq,KZ (fun j v hj=>by rw[B8];exact hL j v hj) h1,fun j hj Nk=>by rw[hw.frz];exact Rt j hj (by rw[hw.bs] at Nk;exact Nk)⟩,trivial⟩
 outs:=by
  have hbk:w'.heap[vb]?=w.heap[vb]?:=hw.other vb Hu;have Z8:bsz w' vb=bsz w vb:=by unfold bsz;rw[hbk]
  have h:Gz w' (Nn bt (Xq (b,o)) Y) (Xq (b,o)) bt 1 2 [.tup q] [vs.map .sc]:=by
   refine⟨.inr ⟨vb,vo,hv,KZ (fun j v hj=>?_) h2,fun j hj Nk=>?_⟩,rfl⟩
   ·rw[B8,World.cell?_of_block (w:=w) hbk];exact Fq j v hj
   ·rw[World.frozen?_of_block (w:=w) hbk];exact hvf j hj (by rw[Z8] at Nk;exact Nk)
  have h':Gz w' (Nn bt (Xq (b,o)) Y) (Xq (b,o)) bt 1 1 [x1,.tup q] [vs.map .sc]:=by
   unfold Gz;cases x1<;>first|exact h|exact absurd rfl (e1 _)|exact absurd rfl (e1' _)
  show Gz w' (Nn bt (Xq (b,o)) Y) (Xq (b,o)) bt 1 0 [x0,x1,.tup q] [vs.map .sc];unfold Gz;cases x0<;>first|exact h'|exact absurd rfl (e0 _)|exact absurd rfl (e0' _)
 fresh:=fun j k y h=>by
  cases j with
  |zero=>
   cases h;refine⟨by rw[hw.size];exact Vq,fun _=>⟨⟨0,0,o,hb⟩,fun x hx=>⟨0,x0,rfl,Or.inl ⟨0,o,hb,hx⟩⟩⟩⟩
  |succ j=>cases h
 inj:=fun j j' k y y' h h'=>by
  cases j with
  |zero=>cases j' with
   |zero=>rfl
   |succ j'=>cases h'
  |succ j=>cases h
theorem Ail (hv:bt 2 0=some (vb,vo)) (Ls:vb<w.heap.size)(hw:E1 w w')
  (hn:n<=cap)(hF:cap*2<=bsz w' w.heap.size)
  (hL:∀j v,L[j]?=some v->w'.cell? ⟨w.heap.size,j,none⟩=some v) (h1:∀v∈L,v.oneCell'=true)
  (Fq:∀j v,vs[j]?=some v->w.cell? ⟨vb,vo+j,none⟩=some v) (h2:∀v∈vs,v.oneCell'=true)(hvf:∀j,vo<=j->j<bsz w vb->w.frozen? ⟨vb,j,none⟩=false)
  (e0:∀ps,x0 ≠ .pbox ps)(e0':∀ps,x0 ≠ .tup ps)(e1:∀ps,x1 ≠ .pbox ps)(e1':∀ps,x1 ≠ .tup ps){q:List PV}:
  VY w w' Y bt [x0,x1,.tup q] (Xq (w.heap.size,0)) ⟨[.own 2 n (L.map .sc)],[vs.map .sc]⟩ [.slice (some ⟨w.heap.size,0,none⟩) n cap] where
 os:=hw.os
 tape:=hw.tape
 output:=hw.output
 ext:=⟨by rw[hw.size];omega,fun k hk _=>hw.old k hk,fun k hk=>Hw.same (hw.old k hk)⟩
 rng:=fun k j hk _=>⟨by unfold World.cell?;simp only[hw.old k hk],by unfold World.frozen?;simp only[hw.old k hk]⟩
 vals:=⟨.inr ⟨w.heap.size,0,cap,rfl,rfl,hn,⟨by omega,.inr (hw.frz _)⟩,by rw[hw.size];omega,KZ (fun j v hj=>by rw[B8,Cn];exact hL j v hj) h1,fun j _ _=>hw.frz j⟩,trivial⟩
 outs:=by
  have hbk:w'.heap[vb]?=w.heap[vb]?:=hw.old vb Ls;have Z8:bsz w' vb=bsz w vb:=by unfold bsz;rw[hbk]
  have h:Gz w' (Nn bt (Xq (w.heap.size,0)) Y) (Xq (w.heap.size,0)) bt 1 2 [.tup q] [vs.map .sc]:=by
   refine⟨.inr ⟨vb,vo,hv,KZ (fun j v hj=>?_) h2,fun j hj Nk=>?_⟩,rfl⟩
   ·rw[B8,World.cell?_of_block (w:=w) hbk];exact Fq j v hj
   ·rw[World.frozen?_of_block (w:=w) hbk];exact hvf j hj (by rw[Z8] at Nk;exact Nk)
  have h':Gz w' (Nn bt (Xq (w.heap.size,0)) Y) (Xq (w.heap.size,0)) bt 1 1 [x1,.tup q] [vs.map .sc]:=by
   unfold Gz;cases x1<;>first|exact h|exact absurd rfl (e1 _)|exact absurd rfl (e1' _)
  show Gz w' (Nn bt (Xq (w.heap.size,0)) Y) (Xq (w.heap.size,0)) bt 1 0 [x0,x1,.tup q] [vs.map .sc];unfold Gz;cases x0<;>first|exact h'|exact absurd rfl (e0 _)|exact absurd rfl (e0' _)
 fresh:=fun j k y h=>by
  cases j with
  |zero=>cases h;exact⟨by rw[hw.size];omega,fun Bp=>absurd Bp (Nat.lt_irrefl _)⟩
  |succ j=>cases h
 inj:=fun j j' k y y' h h'=>by
  cases j with
  |zero=>cases j' with
   |zero=>rfl
   |succ j'=>cases h'
  |succ j=>cases h
end
theorem ZC (G:Glo)(args:List PV)(res:A2)(h:Ad4 args=some res):Do G prog 46 args res:=by
 refine⟨⟨_,Try.func46,by kernel_rfl⟩,fun w Y bt us hi _ _=>?_⟩
 unfold Ad4 at h;split at h
 rotate_left
 ·cases h
 rename_i n c i f l;cases hq:(Nat.beq c.length (n*2)&&decide (0<=i)&&decide (i<=n)&&Nat.ble n 100000&&c.all CD)
 ·rw[hq] at h;cases h
 rw[hq] at h;simp only[Bool.and_eq_true,decide_eq_true_eq] at hq;obtain⟨⟨⟨⟨hc,h0⟩,h1⟩,hn⟩,L7⟩:=hq;have hc:=Nat.eq_of_beq_eq_true hc;have hn:=Nat.le_of_ble_eq_true hn;simp only[cond_true] at h;cases h;obtain⟨k,rfl⟩:=Int.eq_ofNat_of_zero_le h0;have hk:k<=n:=by omega
 obtain⟨cs,rfl⟩:=XQ L7;rw[List.length_map] at hc
 have eL:List.take (Int.toNat (k:Int)*2) (cs.map PV.sc)++(PV.sc (.int .i64 f)::PV.sc (.int .i64 l)::List.drop (Int.toNat (k:Int)*2) (cs.map PV.sc))=(T9 k cs [.int .i64 f,.int .i64 l]).map .sc:=by
  unfold T9;rw[Rq,List.map_append,List.map_append,List.map_take,List.map_drop,Zzv];rfl
 rw[eL];clear h0 h1 L7 eL;obtain⟨vs,Akd⟩:∃vs:List Value,vs=[.int .i64 f,.int .i64 l]:=⟨_,rfl⟩;have Ls:vs.length=2:=by rw[Akd];rfl
 have hv1:∀v∈vs,v.oneCell'=true:=by
  intro v hv;rw[Akd] at hv;rcases List.mem_cons.1 hv with rfl|hv
  ·rfl
  ·rw[List.mem_singleton] at hv;subst hv;rfl
 have evm:[PV.sc (.int .i64 f),PV.sc (.int .i64 l)]=vs.map .sc:=by rw[Akd];rfl
 rw[←Akd];have ps:=hi.args;rw[evm] at ps ⊢
 match us,ps with
 |[u0,u1,u2],ps=>
  obtain⟨⟨_,p0⟩,⟨_,p1⟩,⟨es2,n2,c2,e2,p2⟩,_⟩:=ps;simp only[List.cons.injEq,PV.own.injEq,and_true] at e2;obtain⟨rfl,rfl,rfl⟩:=e2;have hu1:u1=.int .i64 k:=As.val (show As w _ (.sc (.int .i64 k)) u1 from p1)
  subst hu1;rcases p2 with⟨_,hz,_⟩|⟨vb,vo,vc,hvb,rfl,hvn,hvF,Aox,hvR,hvf⟩
  ·cases hz
  have hvr:=Adc hvR
  have Fq:∀j v,vs[j]?=some v->w.cell? ⟨vb,vo+j,none⟩=some v:=fun j v hj=>by
   have:=(hvr j v hj).1
   rwa [B8] at this
  have fin_new:∀(u0:Value) (w':World) (cap:Nat),E1 w w'->n+1<=cap->cap*2<=bsz w' w.heap.size->(∀j v,(T9 k cs vs)[j]?=some v->w'.cell? ⟨w.heap.size,j,none⟩=some v)->(∀v∈T9 k cs vs,v.oneCell'=true) ->
    ∃us own,Ending.returned (Value.slice (some ⟨w.heap.size,0,none⟩) (n+1) cap)=.returned (Eo us)∧VY w w' Y bt [.own 2 n (cs.map .sc),.sc (.int .i64 k),.tup [.own 2 1 (vs.map .sc)]] own ⟨[.own 2 (n+1) ((T9 k cs vs).map .sc)],[vs.map .sc]⟩ us:=by
   intro u0 w' cap hw Uj hF hL h1;exact⟨_,_,rfl,Ail hvb Aox hw Uj hF hL h1 Fq hv1 hvf (by simp) (by simp) (by simp) (by simp)⟩
  have one:(∀v∈cs,v.oneCell'=true)->∀v∈T9 k cs vs,v.oneCell'=true:=by
   intro Z9 v hv;unfold T9 at hv;rcases List.mem_append.1 hv with hv|hv
   ·rcases List.mem_append.1 hv with hv|hv
    ·exact Z9 v (List.mem_of_mem_take hv)
    ·exact hv1 v hv
   ·exact Z9 v (List.mem_of_mem_drop hv)
  have grow_end:∀(base:Option Addr) (cap0:Nat),n<=cap0->cap0<n+1->k=n->((base=none∧cs=[])∨∃p,base=some p∧∀j v,cs[j]?=some v->w.cell? (p.add j)=some v)->(∀v∈cs,v.oneCell'=true) ->
    Calls prog 46 #[.slice base n cap0,.int .i64 k,.slice (some ⟨vb,vo,none⟩) 1 vc] w fun e w'=>
     ∃us own,e=.returned (Eo us)∧VY w w' Y bt [.own 2 n (cs.map .sc),.sc (.int .i64 k),.tup [.own 2 1 (vs.map .sc)]] own ⟨[.own 2 (n+1) ((T9 k cs vs).map .sc)],[vs.map .sc]⟩ us:=by
   intro base cap0 Z9 YA hkn hb SS;subst hkn;refine (JO base k cap0 vb vo vc cs vs w Z9 YA hn hc Ls hb Fq hv1).mono ?_
   rintro e w' ⟨rfl,rfl⟩
   obtain⟨G,hG⟩:∃G,G=grownCap w (k+1) cap0 79:=⟨_,rfl⟩;rw[←hG];have hGn:k+1<=G:=by rw[hG];exact grownCap_ge w _ _ _
   have eI:T9 k cs vs=cs++vs:=by
    unfold T9;rw[G9 (by omega),List.drop_of_length_le (by omega),List.append_nil]
   refine fin_new undef _ G (E1.allocD w _ _) hGn ?_ (fun j v hj=>?_) (one SS)
   ·have:bsz (w.drew.alloc (.cells (cs.toArray++vs.toArray++Builtin.zeroCells #[.int .i64 0,.int .i64 0] (G-(k+1))) 79)) w.heap.size=_:=(Dl.alloc w.drew _ _).bsz;rw[this];simp[Builtin.zeroCells];omega
   ·rw[eI] at hj;have Bp:=H9 hj;rw[World.cell?_alloc_at (w:=w.drew) _ _ w.heap.size j rfl,Array.getElem?_append_left (by simpa using Bp)]
    simpa using hj
  rcases p0 with⟨_,rfl,hc0,ad,rfl⟩|⟨b,o,cap,hb,rfl,VZ,hF,Aem,hR,Rt⟩
  ·have Te:cs=[]:=by simpa using hc0
   subst Te;have hk0:k=0:=by omega
   refine grow_end ad 0 (Nat.le_refl _) (by omega) hk0 ?_ (by simp)
   cases ad with
   |none=>exact .inl ⟨rfl,rfl⟩
   |some p=>exact .inr ⟨p,rfl,fun j v hj=>by cases hj⟩
  have hr:=Adc hR
  have Ag3:∀j v,cs[j]?=some v->w.cell? ⟨b,o+j,none⟩=some v:=fun j v hj=>by
   have:=(hr j v hj).1
   rwa [B8] at this
  have Z9:∀v∈cs,v.oneCell'=true:=fun v hv=>by
   obtain⟨j,hj⟩:=List.mem_iff_getElem?.1 hv;exact (hr j v hj).2
  have Hu:vb≠b:=by
   rintro rfl
   have:=(hi.inj 0 1 2 0 vb o vo hb hvb).1;omega
  have L8:∀j,j<cap*2->(w.cell? ⟨b,o+j,none⟩).isSome=true:=fun j hj=>F4 (by have:=hF.1;omega)
  have hfr:∀j,j<cap*2->w.frozen? ⟨b,o+j,none⟩=false:=fun j hj=>Rt _ (by omega) (by have:=hF.1;omega)
  by_cases Lf:n+1<=cap
  ·-- in F5
   have hX:cap*2<=bsz w b:=by have:=hF.1;omega
   have hwB:∀w':World,Bf b w w'->(∀j,j<o->w'.cell? ⟨b,j,none⟩=w.cell? ⟨b,j,none⟩)->(∀j v,(T9 k cs vs)[j]?=some v->w'.cell? ⟨b,o+j,none⟩=some v) ->
     ∃us own,Ending.returned (Value.slice (some ⟨b,o,none⟩) (n+1) cap)=.returned (Eo us)∧VY w w' Y bt [.own 2 n (cs.map .sc),.sc (.int .i64 k),.tup [.own 2 1 (vs.map .sc)]] own ⟨[.own 2 (n+1) ((T9 k cs vs).map .sc)],[vs.map .sc]⟩ us:=by
    intro w' hw Agb hL;exact⟨_,_,rfl,Aak hb hvb Hu Aem Aox hw Agb Lf hF Rt hL (one Z9) Fq hv1 hvf (by simp) (by simp) (by simp) (by simp)⟩
   by_cases hkn:k=n
   ·subst hkn
    have eI:T9 k cs vs=cs++vs:=by
     unfold T9;rw[G9 (by omega),List.drop_of_length_le (by omega),List.append_nil]
    refine (LJ b o k cap vb vo vc vs w Lf Ls (fun j hj=>by rw[Nat.add_assoc];exact L8 _ (by omega)) (fun j hj=>by rw[Nat.add_assoc];exact hfr _ (by omega)) Fq hv1).mono ?_
    rintro e w' ⟨rfl,rfl⟩
    refine hwB _ (Bf.setCells b _ _ w) (fun j hj=>World.cell?_setCells_out b _ _ w ⟨b,j,none⟩ (fun _ _=>.inl (by show j<o+k*2;omega))) (fun j v hj=>?_)
    rw[eI] at hj;by_cases Bp:j<cs.length
    ·rw[List.getElem?_append_left Bp] at hj;rw[World.cell?_setCells_out b _ _ w ⟨b,o+j,none⟩ (fun _ _=>.inl (by show o+j<o+k*2;omega))]
     exact Ag3 j v hj
    ·rw[List.getElem?_append_right (by omega)] at hj
     have hl:=H9 hj;have:=World.cell?_setCells_in b vs (o+k*2) w (fun t ht=>by rw[Nat.add_assoc];exact L8 _ (by omega)) (j-cs.length) hl
     rw[show o+k*2+(j-cs.length)=o+j by omega] at this
     rw[this,←hj,List.getElem?_eq_getElem hl]
   ·have Jo:k<n:=by omega
    have hsh:∀q:Nat,q<w.heap.size->∃t,w.shape? q=some (t,bsz w q)∨bsz w q=0:=by
     intro q hq;unfold World.shape? bsz;cases w.heap[q]? with
     |none=>exact⟨0,.inr rfl⟩
     |some x=>cases x<;>first|exact⟨_,.inl rfl⟩|exact⟨0,.inr rfl⟩
    obtain⟨tA,hA⟩:=hsh vb Aox;obtain⟨tB,hB⟩:=hsh b Aem;have Bz6:=hvF.1
    have hvE:w.frozen? ⟨vb,bsz w vb,none⟩=false:=by
     rcases hvF.2 with h|h
     ·omega
     ·exact h
    have hA:w.shape? vb=some (tA,bsz w vb):=hA.resolve_right (by omega)
    have hB:w.shape? b=some (tB,bsz w b):=hB.resolve_right (by omega)
    refine (Aaw b o n cap k vb vo vc cs vs w Jo Lf hn Hu hc Ls Ag3 (fun j hj=>L8 j (by omega)) (fun j hj=>hfr j (by omega)) Fq Z9 hv1 tA tB _ _ hA hB (by omega) (hvf vo (Nat.le_refl _) (by omega)) hvE).mono ?_
    rintro e w' ⟨rfl,rfl⟩
    have TK:(cs.drop (k*2)).length=(n-k)*2:=by rw[List.length_drop,hc];omega
    have hw1:=(Bf.drew b w).trans (Bf.setCells b (cs.drop (k*2)) (o+(k+1)*2) w.drew);refine hwB _ (hw1.trans (Bf.setCells b vs (o+k*2) _)) (fun j hj=>?_) (fun j v hj=>?_)
    ·rw[World.cell?_setCells_out b _ _ _ ⟨b,j,none⟩ (fun _ _=>.inl (by show j<o+k*2;omega)),World.cell?_setCells_out b _ _ _ ⟨b,j,none⟩ (fun _ _=>.inl (by show j<o+(k+1)*2;omega))]
     rfl
    ·have hs1:∀t,t<cap*2->((w.drew.setCells b (o+(k+1)*2) (cs.drop (k*2))).cell? ⟨b,o+t,none⟩).isSome=true:=fun t ht=>H0 b _ _ _ _ (L8 t ht)
     rcases NP hk hc Ls hj with⟨h1,h2⟩|⟨h1,h2,h3⟩|⟨h1,h2⟩
     ·rw[World.cell?_setCells_out b _ _ _ ⟨b,o+j,none⟩ (fun _ _=>.inl (by show o+j<o+k*2;omega)),World.cell?_setCells_out b _ _ _ ⟨b,o+j,none⟩ (fun _ _=>.inl (by show o+j<o+(k+1)*2;omega))]
      exact Ag3 j v h2
     ·have hl:=H9 h3;have:=World.cell?_setCells_in b vs (o+k*2) (w.drew.setCells b (o+(k+1)*2) (cs.drop (k*2))) (fun t ht=>by rw[Nat.add_assoc];exact hs1 _ (by omega)) (j-k*2) hl
      rw[show o+k*2+(j-k*2)=o+j by omega] at this
      rw[this,←h3,List.getElem?_eq_getElem hl]
     ·have hl:=H9 h2;rw[World.cell?_setCells_out b _ _ _ ⟨b,o+j,none⟩ (fun _ _=>.inr (by show o+k*2+vs.length<=o+j;omega))]
      have:=World.cell?_setCells_in b (cs.drop (k*2)) (o+(k+1)*2) w.drew (fun t ht=>by rw[Nat.add_assoc];exact L8 _ (by omega)) (j-(k+1)*2) hl
      rw[show o+(k+1)*2+(j-(k+1)*2)=o+j by omega] at this
      rw[this,←h2,List.getElem?_eq_getElem hl]
  ·by_cases hkn:k=n
   ·exact grow_end _ cap VZ (by omega) hkn (.inr ⟨_,rfl,fun j v hj=>by rw[B8];exact Ag3 j v hj⟩) Z9
   ·refine (Adq b o n cap k vb vo vc cs vs w (by omega) VZ (by omega) hn hc Ls Ag3 Fq Z9 hv1).mono ?_
    rintro e w' ⟨rfl,rfl⟩
    obtain⟨G,hG⟩:∃G,G=grownCap w (n+1) cap 79:=⟨_,rfl⟩;rw[←hG];have hGn:n+1<=G:=by rw[hG];exact grownCap_ge w _ _ _
    obtain⟨ROW,QF⟩:∃ROW:Array Value,ROW=(cs.take (k*2)).toArray++Builtin.zeroCells #[.int .i64 0,.int .i64 0] (n+1-k)++Builtin.zeroCells #[.int .i64 0,.int .i64 0] (G-(n+1)):=⟨_,rfl⟩;rw[←QF]
    have hRl:ROW.size=G*2:=by
     rw[QF];simp[Builtin.zeroCells];omega
    have hR0:∀(j:Nat) v,j<k*2->cs[j]?=some v->ROW[j]?=some v:=by
     intro j v hj hv;rw[QF,Array.getElem?_append_left (by simp;omega),Array.getElem?_append_left (by simp;omega)]
     simp only[List.getElem?_toArray];rw[List.getElem?_take,J8 hj];exact hv
    clear QF;obtain⟨W0,hW0⟩:∃W0,W0=w.alloc (.cells ROW 79):=⟨_,rfl⟩;have hN0:E1 w W0:=by rw[hW0];exact E1.alloc w ROW _
    have hB0:bsz W0 w.heap.size=G*2:=by rw[hW0,(Dl.alloc w ROW 79).bsz,hRl]
    have hC0:∀j,W0.cell? ⟨w.heap.size,j,none⟩=ROW[j]?:=fun j=>by rw[hW0];exact (Dl.alloc w ROW 79).cell j
    rw[←hW0];have TK:(cs.drop (k*2)).length=(n-k)*2:=by rw[List.length_drop,hc];omega
    have Bop:∀j,j<G*2->(W0.cell? ⟨w.heap.size,j,none⟩).isSome=true:=fun j hj=>F4 (by omega)
    obtain⟨W1,FM⟩:∃W1,W1=(W0.drew.setCells w.heap.size (k*2) vs).drew:=⟨_,rfl⟩;have hw1:Bf w.heap.size W0 W1:=by rw[FM];exact ((Bf.drew _ W0).trans (Bf.setCells _ vs (k*2) W0.drew)).trans (Bf.drew _ _)
    have hC1:∀j,W1.cell? ⟨w.heap.size,j,none⟩=(W0.drew.setCells w.heap.size (k*2) vs).cell? ⟨w.heap.size,j,none⟩:=fun j=>by rw[FM];rfl
    have Bem:∀j,j<G*2->(W1.cell? ⟨w.heap.size,j,none⟩).isSome=true:=fun j hj=>F4 (by rw[hw1.bs];omega)
    rw[←FM];have hw2:=hw1.trans (Bf.setCells w.heap.size (cs.drop (k*2)) ((k+1)*2) W1);refine fin_new undef _ G (hN0.wrote hw2) hGn (by rw[hw2.bs,hB0];exact Nat.le_refl _) (fun j v hj=>?_) (one Z9)
    rcases NP hk hc Ls hj with⟨h1,h2⟩|⟨h1,h2,h3⟩|⟨h1,h2⟩
    ·rw[World.cell?_setCells_out _ _ _ _ ⟨w.heap.size,j,none⟩ (fun _ _=>.inl (by show j<(k+1)*2;omega)),hC1,World.cell?_setCells_out _ _ _ _ ⟨w.heap.size,j,none⟩ (fun _ _=>.inl (by show j<k*2;omega))]
     show W0.cell? _=_;rw[hC0];exact hR0 j v h1 h2
    ·have hl:=H9 h3;rw[World.cell?_setCells_out _ _ _ _ ⟨w.heap.size,j,none⟩ (fun _ _=>.inl (by show j<(k+1)*2;omega)),hC1]
     have:=World.cell?_setCells_in w.heap.size vs (k*2) W0.drew (fun t ht=>Bop _ (by omega)) (j-k*2) hl
     rw[show k*2+(j-k*2)=j by omega] at this
     rw[this,←h3,List.getElem?_eq_getElem hl]
    ·have hl:=H9 h2;have:=World.cell?_setCells_in w.heap.size (cs.drop (k*2)) ((k+1)*2) W1 (fun t ht=>Bem _ (by omega)) (j-(k+1)*2) hl
     rw[show (k+1)*2+(j-(k+1)*2)=j by omega] at this
     rw[this,←h2,List.getElem?_eq_getElem hl]
 |[],ps=>exact ps.elim
 |[_],ps=>exact ps.2.elim
 |[_,_],ps=>exact ps.2.2.elim
 |_::_::_::_::_,ps=>exact ps.2.2.2.elim
end
section
open Go.IntKind (wrap)
open Go.RowKit Go.Lib
structure Ce (E:Nat->Prop) (w w':World):Prop where
 os:w'.os=w.os
 tape:w'.tape=w.tape
 output:w'.output=w.output
 st:Bw E w w'
theorem Ce.refl (E:Nat->Prop)(w:World):Ce E w w:=⟨rfl,rfl,rfl,Bw.refl _ _⟩
theorem Ce.trans {E E':Nat->Prop}{w w' w'':World}(h:Ce E w w')(g:Ce E' w' w'')(hE:∀b,b<w.heap.size->E' b->E b):Ce E w w'':=
 ⟨g.os.trans h.os,g.tape.trans h.tape,g.output.trans h.output,h.st.trans g.st hE⟩
theorem Ce.weak {E E':Nat->Prop}{w w':World}(h:Ce E w w')(hE:∀b,b<w.heap.size->E b->E' b):Ce E' w w':=⟨h.os,h.tape,h.output,h.st.weaken hE⟩
theorem Ce.wrote {b:Nat}{w w':World}(h:Bf b w w'):Ce (· = b) w w':=
 ⟨h.os,h.tape,h.output,⟨by rw[h.size];exact Nat.le_refl _,fun k _ hk=>h.other k hk,fun k _=>h.grow k⟩⟩
theorem Ce.new {w w':World}(h:E1 w w'):Ce (fun _=>False) w w':=
 ⟨h.os,h.tape,h.output,⟨by rw[h.size];omega,fun k hk _=>h.old k hk,fun k hk=>Hw.same (h.old k hk)⟩⟩
theorem Ce.drew (w:World):Ce (fun _=>False) w w.drew:=⟨rfl,rfl,rfl,⟨Nat.le_refl _,fun _ _ _=>rfl,fun _ _=>Hw.refl _ _⟩⟩
theorem Ce.out {w w':World}{Y:Nat->Prop}{args:List PV}{own:Bt}{r:A2}{vs:List Value}(h:VY w w' Y Nv args own r vs):Ce (fun _=>False) w w':=
 ⟨h.os,h.tape,h.output,h.ext.weaken fun b _ hb=>V5 b hb⟩
theorem Ce.same {E:Nat->Prop}{w w':World}(h:Ce E w w'){b:Nat}(hb:b<w.heap.size)(hE:¬E b):w'.heap[b]?=w.heap[b]?:=h.st.keep b hb hE
theorem Ce.cell {E:Nat->Prop}{w w':World}(h:Ce E w w'){b j:Nat}(hb:b<w.heap.size)(hE:¬E b):w'.cell? ⟨b,j,none⟩=w.cell? ⟨b,j,none⟩:=World.cell?_of_block (h.same hb hE)
theorem Ce.frz {E:Nat->Prop}{w w':World}(h:Ce E w w'){b j:Nat}(hb:b<w.heap.size)(hE:¬E b):w'.frozen? ⟨b,j,none⟩=w.frozen? ⟨b,j,none⟩:=World.frozen?_of_block (h.same hb hE)
theorem Ce.bs {E:Nat->Prop}{w w':World}(h:Ce E w w'){b:Nat}(hb:b<w.heap.size)(hE:¬E b):bsz w' b=bsz w b:=by unfold bsz;rw[h.same hb hE]
theorem Ce.size {E:Nat->Prop}{w w':World}(h:Ce E w w'):w.heap.size<=w'.heap.size:=h.st.size
structure Nu (w:World) (S:Nat->Prop) (b sz:Nat) (cells:List PV):Prop where
 lt:b<w.heap.size
 sz:bsz w b=sz
 fz:∀j,w.frozen? ⟨b,j,none⟩=false
 rd:Wv w S ⟨b,0,none⟩ cells
theorem Wv.adv {w w':World}{S S' E:Nat->Prop}{a:Addr}{cells:List PV}(h:Wv w S a cells)(g:Ce E w w')(ha:a.block<w.heap.size)(hb:¬E a.block)(hE:∀x,x<w.heap.size->E x->S x)(hS:∀x,x<w.heap.size->S' x->S x):Wv w' S' a cells:=by
 intro j c hj;obtain⟨v,h1,h2,h3⟩:=h j c hj;refine⟨v,?_,h2,h3.step (g.st.weaken hE) hS⟩;rw[World.cell?_of_block (w:=w) (by rw[E4];exact g.same ha hb)]
 exact h1
theorem Nu.adv {w w':World}{S S' E:Nat->Prop}{b sz:Nat}{cells:List PV}(h:Nu w S b sz cells)(g:Ce E w w')(hb:¬E b)(hE:∀x,x<w.heap.size->E x->S x)(hS:∀x,x<w.heap.size->S' x->S x):Nu w' S' b sz cells:=
 ⟨Nat.lt_of_lt_of_le h.lt g.size,(g.bs h.lt hb).trans h.sz,fun j=>(g.frz h.lt hb).trans (h.fz j),h.rd.adv g h.lt hb hE hS⟩
theorem Nu.cellAt {w:World}{S:Nat->Prop}{b sz:Nat}{cells:List PV}(h:Nu w S b sz cells){j:Nat}(hj:j<sz):(w.cell? ⟨b,j,none⟩).isSome=true:=F4 (by rw[h.sz];exact hj)
theorem Nu.app {w:World}{S:Nat->Prop}{b sz o:Nat}{cells ps:List PV}{vs:List Value}(h:Nu w S b sz cells)(ho:cells.length=o)(hS:S b)(hv:Ba (fun p v=>M0 p∧As w S p v) ps vs) (h1:∀v∈vs,v.oneCell'=true)(Aji:o+ps.length<=sz):Nu (w.setCells b o vs) S b sz (cells++ps):=by
 have g:=Bf.setCells b vs o w;have ga:=(Ce.wrote g).weak (E':=S) fun x _ e=>e ▸ hS
 have hl:=hv.len;refine⟨by rw[g.size];exact h.lt,g.bs.trans h.sz,fun j=>(g.frz j).trans (h.fz j),fun j c hj=>?_⟩
 rw[B8,Cn];by_cases Bp:j<o
 ·rw[List.getElem?_append_left (by omega)] at hj
  obtain⟨v,a1,a2,a3⟩:=h.rd j c hj;rw[B8,Cn] at a1;refine⟨v,?_,a2,a3.step ga.st fun _ _ x=>x⟩
  rw[World.cell?_setCells_out b _ _ _ ⟨b,j,none⟩ (fun _ _=>.inl Bp)]
  exact a1
 ·rw[List.getElem?_append_right (by omega),ho] at hj
  have hjl:=(List.getElem?_eq_some_iff.1 hj).1;have hvj:vs[j-o]?=some (vs[j-o]'(by omega)):=List.getElem?_eq_getElem _
  have:=World.cell?_setCells_in b vs o w (fun t ht=>h.cellAt (by omega)) (j-o) (by omega)
  rw[show o+(j-o)=j by omega] at this
  exact⟨_,this,h1 _ (List.getElem_mem _),(hv.at_ hj hvj).2.step ga.st fun _ _ x=>x⟩
theorem Wv.tree {w:World}{S:Nat->Prop}{a:Addr}{es n cap:Nat}{cells:List PV}(h:Wv w S a cells)(hs:a.spot=none)(hb:a.block<w.heap.size)(hS:¬S a.block)(hn:n<=cap):As w S (.lst false es n cells) (.slice (some a) n cap):=by
 refine .lst es n cells a cap (fun j=>(w.cell? (a.add j)).getD undef) hs hb hS hn (fun j c hj=>?_) (fun j c hj=>?_) fun j c hj=>?_<;>obtain⟨v,h1,h2,h3⟩:=h j c hj
 ·rw[h1];rfl
 ·rw[h1];exact h2
 ·rw[h1];exact h3
theorem UM {w:World}{A S:Nat->Prop}{q:Option (Nat × Nat)} {u:Value}{es n:Nat}{c:List PV}(h:Fz w A q (.own es n c) u) (hA:∀x,x<w.heap.size->S x->A x)(hq:∀b o,q=some (b,o)->¬S b):As w S (.lst false es n c) u∧u.oneCell'=true:=by
 rcases h with⟨_,rfl,rfl,ad,rfl⟩|⟨b,o,cap,hb,rfl,hn,_,Bp,hr,_⟩
 ·cases ad with
  |none=>exact⟨.lnil false es,rfl⟩
  |some a=>exact⟨.lemp es a 0,rfl⟩
 ·exact⟨(hr.weak hA).tree rfl Bp (hq b o hb) hn,rfl⟩
def Js (B:Nat)(bs:List (Nat × Nat)) (ex:Nat->Prop)(x:Nat):Prop:=x=B∨(∃p∈bs,p.1=x)∨ex x
structure X4 (w wr:World) (ex:Nat->Prop) (B cap:Nat) (done:List Cw) (bs:List (Nat × Nat)):Prop where
 kept:Ce (fun _=>False) w wr
 lo:w.heap.size<=B
 lt:B<wr.heap.size
 szB:bsz wr B=cap*3
 fzB:∀j,wr.frozen? ⟨B,j,none⟩=false
 len:bs.length=done.length
 blk:∀p∈bs,w.heap.size<=p.1∧p.1≠B
 nd:(bs.map Prod.fst).Nodup
 cell:∀(k:Nat) (a:Cw) (p:Nat × Nat),done[k]?=some a->bs[k]?=some p->wr.cell? ⟨B,k*3,none⟩=some (.string a.nm)∧wr.cell? ⟨B,k*3+1,none⟩=some (.string a.us)∧wr.cell? ⟨B,k*3+2,none⟩=some (.slice (some ⟨p.1,0,none⟩) a.cr.length p.2)∧a.cr.length<=p.2
 row:∀(k:Nat) (a:Cw) (p:Nat × Nat),done[k]?=some a->bs[k]?=some p->Nu wr (Js B bs ex) p.1 (p.2*11) (Cf a.cr)
 exq:∀b,ex b->b≠B∧∀p∈bs,p.1≠b
section
variable {w wr wr':World} {ex ex' E:Nat->Prop} {B cap:Nat} {done:List Cw} {bs:List (Nat × Nat)}
theorem X4.blkLt (h:X4 w wr ex B cap done bs){p:Nat × Nat}(hp:p∈bs):p.1<wr.heap.size:=by
 obtain⟨k,hk⟩:=List.mem_iff_getElem?.1 hp;have Bp:=(List.getElem?_eq_some_iff.1 hk).1;have MB:k<done.length:=by rw[←h.len];exact Bp
 exact (h.row k _ p (List.getElem?_eq_getElem MB) hk).lt
theorem X4.adv (h:X4 w wr ex B cap done bs)(g:Ce E wr wr')(hE:∀b,b<wr.heap.size->E b->ex b∧w.heap.size<=b)(hex:∀b,b<wr.heap.size->ex' b->ex b):X4 w wr' ex' B cap done bs:=by
 have nB:¬E B:=fun x=>(h.exq B (hE B h.lt x).1).1 rfl
 have nb:∀p∈bs,¬E p.1:=fun p hp x=>(h.exq p.1 (hE _ (h.blkLt hp) x).1).2 p hp rfl
 refine⟨h.kept.trans g fun b hb x=>?_,h.lo,Nat.lt_of_lt_of_le h.lt g.size,(g.bs h.lt nB).trans h.szB,fun j=>(g.frz h.lt nB).trans (h.fzB j),h.len,h.blk,h.nd,fun k a p hk hp=>?_,fun k a p hk hp=>?_,fun b hb=>?_⟩
 ·have:=(hE b (Nat.lt_of_lt_of_le hb h.kept.size) x).2;omega
 ·rw[g.cell h.lt nB,g.cell h.lt nB,g.cell h.lt nB];exact h.cell k a p hk hp
 ·refine (h.row k a p hk hp).adv g (nb p (List.mem_of_getElem? hp)) (fun x hx e=>.inr (.inr (hE x hx e).1)) fun x hx e=>?_
  rcases e with e|e|e
  ·exact .inl e
  ·exact .inr (.inl e)
  ·exact .inr (.inr (hex x hx e))
 ·by_cases Bp:b<wr.heap.size
  ·exact h.exq b (hex b Bp hb)
  ·refine⟨fun e=>Bp (e ▸ h.lt),fun p hp e=>Bp (e ▸ h.blkLt hp)⟩
theorem X4.push (h:X4 w wr ex B cap done bs)(g:Ce (fun x=>x=B) wr wr') {a:Cw}{κ kc:Nat}(hκ:w.heap.size<=κ)(hx:ex κ∨wr.heap.size<=κ)(hkc:a.cr.length<=kc)
  (hs:bsz wr' B=cap*3)(hf:∀j,wr'.frozen? ⟨B,j,none⟩=false)(hold:∀j,j<done.length*3->wr'.cell? ⟨B,j,none⟩=wr.cell? ⟨B,j,none⟩)
  (c0:wr'.cell? ⟨B,done.length*3,none⟩=some (.string a.nm)) (c1:wr'.cell? ⟨B,done.length*3+1,none⟩=some (.string a.us)) (c2:wr'.cell? ⟨B,done.length*3+2,none⟩=some (.slice (some ⟨κ,0,none⟩) a.cr.length kc))
  (hr:Nu wr' (Js B (bs++[(κ,kc)]) ex') κ (kc*11) (Cf a.cr)) (hex:∀b,ex' b->ex b∧b≠κ):X4 w wr' ex' B cap (done++[a]) (bs++[(κ,kc)]):=by
 have nb:∀p∈bs,¬p.1=B:=fun p hp=>(h.blk p hp).2
 have κB:κ≠B:=by
  rintro rfl
  rcases hx with hx|hx
  ·exact (h.exq _ hx).1 rfl
  ·exact Nat.lt_irrefl _ (Nat.lt_of_lt_of_le h.lt hx)
 have κb:∀p∈bs,p.1≠κ:=by
  rintro p hp rfl
  rcases hx with hx|hx
  ·exact (h.exq _ hx).2 p hp rfl
  ·exact Nat.lt_irrefl _ (Nat.lt_of_lt_of_le (h.blkLt hp) hx)
 have at_:∀k (a':Cw) (p:Nat × Nat),(done++[a])[k]?=some a'->(bs++[(κ,kc)])[k]?=some p->(k<done.length∧done[k]?=some a'∧bs[k]?=some p)∨(k=done.length∧a'=a∧p=(κ,kc)):=by
  intro k a' p hk hp;by_cases Bp:k<done.length
  ·rw[List.getElem?_append_left Bp] at hk;rw[List.getElem?_append_left (by rw[h.len];exact Bp)] at hp
   exact .inl ⟨Bp,hk,hp⟩
  ·have hl:k<(done++[a]).length:=(List.getElem?_eq_some_iff.1 hk).1;have:k=done.length:=by simp at hl;omega
   subst this;rw[List.getElem?_append_right (Nat.le_refl _),Nat.sub_self] at hk;rw[List.getElem?_append_right (by rw[h.len];exact Nat.le_refl _),h.len,Nat.sub_self] at hp
   cases hk;cases hp;exact .inr ⟨rfl,rfl,rfl⟩
 refine⟨h.kept.trans g fun b hb x=>?_,h.lo,Nat.lt_of_lt_of_le h.lt g.size,hs,hf,by simp[h.len],fun p hp=>?_,?_,fun k a' p hk hp=>?_,fun k a' p hk hp=>?_,fun b hb=>?_⟩
 ·have:=h.lo;have:=h.kept.size;omega
 ·rcases List.mem_append.1 hp with hp|hp
  ·exact h.blk p hp
  ·rw[List.mem_singleton] at hp;subst hp;exact⟨hκ,κB⟩
 ·rw[List.map_append,List.nodup_append];refine⟨h.nd,by simp,fun x hx1 y hy=>?_⟩
  obtain⟨p,hp,rfl⟩:=List.mem_map.1 hx1;simp only[List.map_cons,List.map_nil,List.mem_singleton] at hy;subst hy;exact κb p hp
 ·rcases at_ k a' p hk hp with⟨Bp,hk,hp⟩|⟨rfl,rfl,rfl⟩
  ·rw[hold _ (by omega),hold _ (by omega),hold _ (by omega)]
   exact h.cell k a' p hk hp
  ·exact⟨c0,c1,c2,hkc⟩
 ·rcases at_ k a' p hk hp with⟨Bp,hk,hp⟩|⟨rfl,rfl,rfl⟩
  ·refine (h.row k a' p hk hp).adv g (nb p (List.mem_of_getElem? hp)) (fun x hx e=>.inl e) fun x hx1 e=>?_
   ·rcases e with e|⟨q,hq,rfl⟩|e
    ·exact .inl e
    ·rcases List.mem_append.1 hq with hq|hq
     ·exact .inr (.inl ⟨q,hq,rfl⟩)
     ·rw[List.mem_singleton] at hq;subst hq;rcases hx with hx|hx
      ·exact .inr (.inr hx)
      ·exact absurd hx1 (Nat.not_lt.2 hx)
    ·exact .inr (.inr (hex x e).1)
  ·exact hr
 ·obtain⟨h1,h2⟩:=hex b hb;refine⟨(h.exq b h1).1,fun p hp=>?_⟩
  rcases List.mem_append.1 hp with hp|hp
  ·exact (h.exq b h1).2 p hp
  ·rw[List.mem_singleton] at hp;subst hp;exact fun e=>h2 e.symm
theorem X4.set (h:X4 w wr ex B cap done bs){i:Nat}{a a':Cw}{p:Nat × Nat}(hi:done[i]?=some a) (hp:bs[i]?=some p) (hn:a'.nm=a.nm)(hu:a'.us=a.us)(hl:a'.cr.length<=p.2)(g:Ce (fun x=>x=B∨x=p.1) wr wr')
  (hs:bsz wr' B=cap*3)(hf:∀j,wr'.frozen? ⟨B,j,none⟩=false)(hold:∀j,j≠i*3+2->wr'.cell? ⟨B,j,none⟩=wr.cell? ⟨B,j,none⟩)
  (c2:wr'.cell? ⟨B,i*3+2,none⟩=some (.slice (some ⟨p.1,0,none⟩) a'.cr.length p.2)) (hr:Nu wr' (Js B bs ex) p.1 (p.2*11) (Cf a'.cr)):X4 w wr' ex B cap (done.set i a') bs:=by
 have Bp:=(List.getElem?_eq_some_iff.1 hi).1;have DE:=List.mem_of_getElem? hp
 have at_:∀k (x:Cw),(done.set i a')[k]?=some x->(k=i∧x=a')∨(k≠i∧done[k]?=some x):=by
  intro k x hk;rw[List.getElem?_set] at hk;by_cases e:i=k
  ·rw[J8 e,J8 (e ▸ Bp)] at hk;cases hk;exact .inl ⟨e.symm,rfl⟩
  ·rw[Mr e] at hk;exact .inr ⟨fun x=>e x.symm,hk⟩
 refine⟨h.kept.trans g fun b hb x=>?_,h.lo,Nat.lt_of_lt_of_le h.lt g.size,hs,hf,by rw[List.length_set];exact h.len,h.blk,h.nd,fun k x q hk hq=>?_,fun k x q hk hq=>?_,h.exq⟩
 ·have:=h.lo;have:=(h.blk p DE).1;omega
 ·rcases at_ k x hk with⟨rfl,rfl⟩|⟨Hu,hk⟩
  ·rw[hp] at hq;cases hq;obtain⟨h1,h2,h3,h4⟩:=h.cell k a p hi hp;rw[hold _ (by omega),hold _ (by omega),hn,hu]
   exact⟨h1,h2,c2,hl⟩
  ·rw[hold _ (by omega),hold _ (by omega),hold _ (by omega)]
   exact h.cell k x q hk hq
 ·rcases at_ k x hk with⟨rfl,rfl⟩|⟨Hu,hk⟩
  ·rw[hp] at hq;cases hq;exact hr
  ·have hqm:=List.mem_of_getElem? hq;refine (h.row k x q hk hq).adv g ?_ (fun y hy e=>?_) (fun y hy e=>e)
   ·rintro (e|e)
    ·exact (h.blk q hqm).2 e
    ·have e1:(bs.map Prod.fst)[k]?=some q.1:=by rw[List.getElem?_map,hq];rfl
     have e2:(bs.map Prod.fst)[i]?=some p.1:=by rw[List.getElem?_map,hp];rfl
     have Jo:=(List.getElem?_eq_some_iff.1 e1).1;exact Hu (((List.getElem?_inj Jo h.nd).1 (by rw[e1,e2,e])))
   ·rcases e with e|e
    ·exact .inl e
    ·exact .inr (.inl ⟨p,DE,e.symm⟩)
theorem X4.tree {Y:Nat->Prop}(h:X4 w wr ex B cap done bs)(hY:∀x,Y x->x<w.heap.size)(hc:done.length<=cap)(hx:∀x,Y x->ex x):As wr Y (.lst false 3 done.length (Az done)) (.slice (some ⟨B,0,none⟩) done.length cap):=by
 have nY:∀x,w.heap.size<=x->¬Y x:=fun x hx y=>by have:=hY x y;omega
 refine Wv.tree (fun j c hj=>?_) rfl h.lt (nY _ h.lo) hc
 have hjl:j<done.length*3:=by rw[←Ky];exact (List.getElem?_eq_some_iff.1 hj).1
 have hk:j / 3<done.length:=by omega
 have hd:done[j / 3]?=some done[j / 3]:=List.getElem?_eq_getElem hk;generalize done[j / 3]=a at hd;have hb:bs[j / 3]?=some (bs[j / 3]'(by rw[h.len];exact hk)):=List.getElem?_eq_getElem _
 generalize bs[j / 3]'(by rw[h.len];exact hk)=p at hb
 obtain⟨h1,h2,h3,h4⟩:=h.cell _ a p hd hb;have hr:=h.row _ a p hd hb;have hg:=Fd hd (j:=j % 3) (by omega)
 rw[show j / 3*3+j % 3=j by omega,List.getD_eq_getElem?_getD,hj] at hg
 simp only[Option.getD_some] at hg;rw[B8,Cn];have hm:j % 3=0∨j % 3=1∨j % 3=2:=by omega
 rcases hm with hm|hm|hm<;>rw[hm] at hg
 ·rw[show j=j / 3*3 by omega]
  exact⟨_,h1,rfl,by rw[hg];exact .sc _⟩
 ·rw[show j=j / 3*3+1 by omega]
  exact⟨_,h2,rfl,by rw[hg];exact .sc _⟩
 ·rw[show j=j / 3*3+2 by omega]
  refine⟨_,h3,rfl,?_⟩;rw[hg];exact (hr.rd.weak fun x _ y=>.inr (.inr (hx x y))).tree rfl hr.lt (nY _ (h.blk p (List.mem_of_getElem? hb)).1) h4
end
end
section
open Go.Proofs.Try (prog)
open Go.IntKind (wrap)
open Go.RowKit Go.Lib
def GA:Glo:=⟨fun _=>False,fun _=>True,fun _ _ _ _=>trivial⟩
def noZ:FuncId->Option (List PV->Option A2):=fun _=>none
theorem Aqr:ExtOk GA prog (CX noZ):=by
 intro f g args res h _;have h':(bif Wh.any (Nat.beq f) then none else (none:Option (List PV->Option A2)))=some g:=h;cases hb:Wh.any (Nat.beq f)<;>rw[hb] at h'<;>cases h'
theorem ngA:NoNG prog:=by
 have h:(prog.funcs.toList.all fun fn=> !(fn.name == "runtime.NumGoroutine"))=true:=by kernel_rfl
 intro f fn hf;have:=List.all_eq_true.1 h fn (Array.mem_toList_iff.2 (Array.mem_of_getElem? hf))
 simpa using this
theorem mxA:prog.follows .mixedOrders=true:=by kernel_rfl
theorem HS {f:FuncId}{args:List PV}{res:A2}{fu d:Nat}(hq:Ag (CX noZ) prog fu d f args=some res) {S:Nat->Prop}{W:World}{us:List Value}(hS:∀x,S x->x<W.heap.size)(h:Ba (Ke W S) args us):
  Calls prog f us.toArray W fun e W'=>∃vs own,e=.returned (Eo vs)∧VY W W' S Nv args own res vs:=
 (S8 ngA mxA Aqr d f args res hq).2 W S Nv us (CE hS h) trivial fun _ hb=>hb.elim
theorem Qq {w:World}{S:Nat->Prop}{z:Bool}{es n:Nat}{c:List PV}{v:Value}(h:As w S (.lst z es n c) v):∃p k,v=.slice p n k:=by
 cases h<;>exact⟨_,_,rfl⟩
theorem Wu {w:World}{S:Nat->Prop}{z:Bool}{es n:Nat}{c:List PV}{v:Value}(h:As w S (.lst z es n c) v) (hn:0<n):∃b o k,v=.slice (some ⟨b,o,none⟩) n k∧n<=k∧b<w.heap.size∧¬S b∧Wv w S ⟨b,o,none⟩ c:=by
 cases h with
 |lnil=>omega
 |lemp=>omega
 |lst _ _ _ a cap f hs hb hA hn' hc h1 hr=>
  obtain⟨b,o,s⟩:=a;cases hs;exact⟨b,o,cap,rfl,hn',hb,hA,fun j c hj=>⟨_,hc j c hj,h1 j c hj,hr j c hj⟩⟩
structure FL (w:World) (S:Nat->Prop) (c:Sd) (p0:Option Addr) (k0:Nat) (p7:Option Addr) (k7:Nat):Prop where
 t0:As w S (.lst false 1 c.id.length (Am .u8 c.id)) (.slice p0 c.id.length k0)
 t7:As w S (.lst false 2 c.rg.length (H7 c.rg)) (.slice p7 c.rg.length k7)
def Si (c:Sd)(p0:Option Addr)(k0:Nat)(p7:Option Addr)(k7:Nat):List Value:=[.slice p0 c.id.length k0,.int .i64 c.ht,.int .u64 c.root,.int .u64 c.model,.int .i64 c.fmt,.bool c.sh,.int .u64 c.used,.slice p7 c.rg.length k7,.bool c.sus,.int .i64 c.since,.int .i64 c.last]
theorem FL.adv {w w':World}{S S' E:Nat->Prop}{c:Sd}{p0 p7:Option Addr}{k0 k7:Nat}(h:FL w S c p0 k0 p7 k7)(g:Ce E w w')(hE:∀x,x<w.heap.size->E x->S x)(hS:∀x,x<w.heap.size->S' x->S x):FL w' S' c p0 k0 p7 k7:=
 ⟨h.t0.step (g.st.weaken hE) hS,h.t7.step (g.st.weaken hE) hS⟩
theorem V8 {w:World}{S:Nat->Prop}{c:Sd}{p0 p7:Option Addr}{k0 k7:Nat}(h:FL w S c p0 k0 p7 k7):Ba (fun p v=>M0 p∧As w S p v) c.cells (Si c p0 k0 p7 k7):=
 ⟨⟨trivial,h.t0⟩,⟨trivial,.sc _⟩,⟨trivial,.sc _⟩,⟨trivial,.sc _⟩,⟨trivial,.sc _⟩,⟨trivial,.sc _⟩,⟨trivial,.sc _⟩,⟨trivial,h.t7⟩,⟨trivial,.sc _⟩,⟨trivial,.sc _⟩,⟨trivial,.sc _⟩,trivial⟩
theorem Rf (c:Sd)(p0 p7:Option Addr)(k0 k7:Nat):∀v∈Si c p0 k0 p7 k7,v.oneCell'=true:=by
 intro v hv;simp only[Si,List.mem_cons,List.not_mem_nil,or_false] at hv;rcases hv with rfl|rfl|rfl|rfl|rfl|rfl|rfl|rfl|rfl|rfl|rfl<;>rfl
theorem KB {w:World}{S:Nat->Prop}{c:Sd}{vs:List Value}(h:Ba (fun p v=>M0 p∧As w S p v) c.cells vs):∃p0 k0 p7 k7,vs=Si c p0 k0 p7 k7∧FL w S c p0 k0 p7 k7:=by
 match vs,h with
 |[v0,v1,v2,v3,v4,v5,v6,v7,v8,v9,v10],h=>
  obtain⟨h0,h1,h2,h3,h4,h5,h6,h7,h8,h9,h10,_⟩:=h;obtain⟨p0,k0,rfl⟩:=Qq h0.2;obtain⟨p7,k7,rfl⟩:=Qq h7.2;rw[h1.2.val,h2.2.val,h3.2.val,h4.2.val,h5.2.val,h6.2.val,h8.2.val,h9.2.val,h10.2.val];exact⟨p0,k0,p7,k7,rfl,h0.2,h7.2⟩
theorem Ri {S:Nat->Prop}{W:World}{c:Sd}{p0 p7:Option Addr}{k0 k7:Nat}(hS:∀x,S x->x<W.heap.size)(h1:c.id.length<=1000000)(h2:c.rg.length<=1000000)(hu:FL W S c p0 k0 p7 k7):
  Calls prog 31 #[.agg ⟨Si c p0 k0 p7 k7⟩] W fun e W'=>∃q0 l0 q7 l7,e=.returned (.agg ⟨Si c q0 l0 q7 l7⟩)∧Ce (fun _=>False) W W'∧FL W' S c q0 l0 q7 l7:=by
 have hq:Ag (CX noZ) prog 1000 2 31 [.agg c.cells]=_:=Ur (xs:=noZ) (fu:=1000) (d:=0) (c:=c) h1 h2;refine (HS hq (us:=[.agg ⟨Si c p0 k0 p7 k7⟩]) hS ⟨⟨_,rfl,V8 hu⟩,trivial⟩).mono ?_
 rintro e W' ⟨vs,own,rfl,ho⟩
 match vs,ho.vals,ho with
 |[u],hv,ho=>
  obtain⟨vs,rfl,hc⟩:=hv.1
  have cell:∀{es n:Nat} {cc:List PV} {j:Nat} {v:Value},Fz W' (Nn Nv own S) (own j) (.own es n cc) v->M0 (.lst false es n cc)∧As W' S (.lst false es n cc) v:=by
   intro es n cc j v h;refine⟨trivial,(UM h (fun x _ hx=>.inr (.inr hx)) fun b o hb hs=>?_).1⟩
   have f:=(ho.fresh j b o hb).2 (hS b hs);obtain⟨i,k,o',hf⟩:=f.1;cases hf
  match vs,hc with
  |[v0,v1,v2,v3,v4,v5,v6,v7,v8,v9,v10],hc=>
   obtain⟨c0,c1,c2,c3,c4,c5,c6,c7,c8,c9,c10,_⟩:=hc;have sc:∀{x u:Value},As W' (Nn Nv own S) (.sc x) u->M0 (.sc x)∧As W' S (.sc x) u:=fun {x u} h=>by rw[h.val];exact⟨trivial,.sc _⟩
   obtain⟨q0,l0,q7,l7,e,hV⟩:=KB (w:=W') (S:=S) (c:=c) (vs:=[v0,v1,v2,v3,v4,v5,v6,v7,v8,v9,v10]) ⟨cell c0,sc c1,sc c2,sc c3,sc c4,sc c5,sc c6,cell c7,sc c8,sc c9,sc c10,trivial⟩;exact⟨q0,l0,q7,l7,by rw[e];rfl,Ce.out ho,hV⟩
theorem Ajj {l:List Sd}{i:Nat}{c:Sd}(h:l[i]?=some c) {j:Nat}{p:PV}(hj:c.cells[j]?=some p):(Cf l)[i*11+j]?=some p:=by
 have hl:j<11:=(List.getElem?_eq_some_iff.1 hj).1;have hi:=(List.getElem?_eq_some_iff.1 h).1;have g:=Cy h hl;have Bp:i*11+j<(Cf l).length:=by rw[G7];omega
 rw[List.getD_eq_getElem?_getD,List.getD_eq_getElem?_getD,hj,List.getElem?_eq_getElem Bp] at g;rw[List.getElem?_eq_getElem Bp];exact congrArg some g
theorem DK {l:List Cw}{i:Nat}{c:Cw}(h:l[i]?=some c) {j:Nat}{p:PV}(hj:c.cells[j]?=some p):(Az l)[i*3+j]?=some p:=by
 have hl:j<3:=(List.getElem?_eq_some_iff.1 hj).1;have hi:=(List.getElem?_eq_some_iff.1 h).1;have g:=Fd h hl;have Bp:i*3+j<(Az l).length:=by rw[Ky];omega
 rw[List.getD_eq_getElem?_getD,List.getD_eq_getElem?_getD,hj,List.getElem?_eq_getElem Bp] at g;rw[List.getElem?_eq_getElem Bp];exact congrArg some g
theorem QA {w:World}{S:Nat->Prop}{b o:Nat}{l:List Sd}(h:Wv w S ⟨b,o,none⟩ (Cf l)) {i:Nat}{c:Sd}(hi:l[i]?=some c):∃p0 k0 p7 k7,(∀j v,(Si c p0 k0 p7 k7)[j]?=some v->w.cell? ⟨b,o+i*11+j,none⟩=some v)∧FL w S c p0 k0 p7 k7:=by
 have at_:∀(j:Nat) (hj:j<11),∃v,w.cell? ⟨b,o+i*11+j,none⟩=some v∧As w S (c.cells[j]'(by exact hj)) v:=by
  intro j hj;obtain⟨v,h1,_,h2⟩:=h (i*11+j) (c.cells[j]'(by exact hj)) (Ajj hi (List.getElem?_eq_getElem hj))
  rw[B8,←Nat.add_assoc] at h1;exact⟨v,h1,h2⟩
 obtain⟨v0,a0,t0⟩:=at_ 0 (by omega)
 obtain⟨v1,a1,t1⟩:=at_ 1 (by omega)
 obtain⟨v2,a2,t2⟩:=at_ 2 (by omega)
 obtain⟨v3,a3,t3⟩:=at_ 3 (by omega)
 obtain⟨v4,a4,t4⟩:=at_ 4 (by omega)
 obtain⟨v5,a5,t5⟩:=at_ 5 (by omega)
 obtain⟨v6,a6,t6⟩:=at_ 6 (by omega)
 obtain⟨v7,a7,t7⟩:=at_ 7 (by omega)
 obtain⟨v8,a8,t8⟩:=at_ 8 (by omega)
 obtain⟨v9,a9,t9⟩:=at_ 9 (by omega)
 obtain⟨v10,a10,t10⟩:=at_ 10 (by omega)
 obtain⟨p0,k0,p7,k7,e,hV⟩:=KB (w:=w) (S:=S) (c:=c) (vs:=[v0,v1,v2,v3,v4,v5,v6,v7,v8,v9,v10]) ⟨⟨trivial,t0⟩,⟨trivial,t1⟩,⟨trivial,t2⟩,⟨trivial,t3⟩,⟨trivial,t4⟩,⟨trivial,t5⟩,⟨trivial,t6⟩,⟨trivial,t7⟩,⟨trivial,t8⟩,⟨trivial,t9⟩,⟨trivial,t10⟩,trivial⟩;refine⟨p0,k0,p7,k7,?_,hV⟩;rw[←e];intro j v hj
 match j,hj with
 |0,hj=>cases hj;exact a0
 |1,hj=>cases hj;exact a1
 |2,hj=>cases hj;exact a2
 |3,hj=>cases hj;exact a3
 |4,hj=>cases hj;exact a4
 |5,hj=>cases hj;exact a5
 |6,hj=>cases hj;exact a6
 |7,hj=>cases hj;exact a7
 |8,hj=>cases hj;exact a8
 |9,hj=>cases hj;exact a9
 |10,hj=>cases hj;exact a10
 |_+11,hj=>cases hj
theorem Za {w:World}{S:Nat->Prop}{b o:Nat}{l:List Cw}(h:Wv w S ⟨b,o,none⟩ (Az l)) {i:Nat}{a:Cw}(hi:l[i]?=some a):w.cell? ⟨b,o+i*3,none⟩=some (.string a.nm)∧w.cell? ⟨b,o+i*3+1,none⟩=some (.string a.us) ∧
  ∃p k,w.cell? ⟨b,o+i*3+2,none⟩=some (.slice p a.cr.length k)∧As w S (.lst false 11 a.cr.length (Cf a.cr)) (.slice p a.cr.length k):=by
 obtain⟨v0,h0,_,t0⟩:=h (i*3) _ (DK hi (j:=0) rfl);obtain⟨v1,h1,_,t1⟩:=h (i*3+1) _ (DK hi (j:=1) rfl);obtain⟨v2,h2,_,t2⟩:=h (i*3+2) _ (DK hi (j:=2) rfl);rw[B8] at h0;rw[B8,←Nat.add_assoc] at h1 h2;rw[t0.val] at h0;rw[t1.val] at h1;obtain⟨p,k,rfl⟩:=Qq t2;exact⟨h0,h1,p,k,h2,t2⟩
end
section
open Go.Proofs.Try (prog)
open Go.IntKind (wrap)
open Go.RowKit Go.Lib
theorem XD:(prog.info? 48).map (fun i=>(i.zero,i.size,i.bytes))=some (some (.agg #[.string ⟨#[]⟩,.string ⟨#[]⟩,.slice none 0 0]),3,56):=by kernel_rfl
theorem KJ:prog.underlying 27=some (.slice 48):=by kernel_rfl
abbrev Yr:Array Value:= #[.slice none 0 0,.int .i64 0,.int .u64 0,.int .u64 0,.int .i64 0,.bool false,.int .u64 0,.slice none 0 0,.bool false,.int .i64 0,.int .i64 0]
theorem DM:(prog.info? 33).map (fun i=>(i.zero,i.size,i.bytes))=some (some (.agg Yr),11,120):=by kernel_rfl
theorem Sb:prog.underlying 46=some (.slice 33):=by kernel_rfl
theorem Anm (n:Nat)(hn:n<=1000)(w:World):Sem.run prog (Instr.makeSlice 27 (.int .i64 0) (.int .i64 ((n:Int)+1))) w=.ok (.slice (some ⟨w.heap.size,0,none⟩) 0 (n+1)) (w.alloc (.cells (madeCells #[.string ⟨#[]⟩,.string ⟨#[]⟩,.slice none 0 0] ((n+1)*3)) 48)):=by
 obtain⟨i0,T0,LZ,Nt,RW⟩:=info_parts XD;have h:=run_make (P:=prog) w 27 48 i0 _ KJ T0 LZ .i64 .i64 0 ((n:Int)+1) (by omega) (by omega) (by rw[RW];omega) (by omega)
 refine Eq.trans h ?_;rw[Nt];rfl
theorem Avt (n:Nat)(hn:n<=1000)(w:World):Sem.run prog (Instr.makeSlice 46 (.int .i64 0) (.int .i64 ((n:Int)+1))) w=.ok (.slice (some ⟨w.heap.size,0,none⟩) 0 (n+1)) (w.alloc (.cells (madeCells Yr ((n+1)*11)) 33)):=by
 obtain⟨i0,T0,LZ,Nt,RW⟩:=info_parts DM;have h:=run_make (P:=prog) w 46 33 i0 _ Sb T0 LZ .i64 .i64 0 ((n:Int)+1) (by omega) (by omega) (by rw[RW];omega) (by omega)
 refine Eq.trans h ?_;rw[Nt];rfl
theorem LP {w:World}{es vb vc:Nat}{vs:List Value}(Ls:vs.length=es)(Vy:0<es)(Fq:∀j v,vs[j]?=some v->w.cell? ⟨vb,j,none⟩=some v) (FN:∀v∈vs,v.oneCell'=true):
  Pv.Src prog w (fun _=>False) es (.slice (some ⟨vb,0,none⟩) 1 vc) 1 (vs.map .sc) vs where
 len:=fun w'=>by simp[Builtin.lenOf]
 cells:=fun w' hw=>by
  refine Pv.run_first_slice (w:=w') (.inr ⟨_,rfl,by omega,fun j v hj=>?_⟩)
  have hv:=Fq j v hj;rw[Addr.add_lit,Cn,World.cell?_of_block (w:=w) (hw vb (block_lt_of_cell hv))];exact hv
 part:=fun k hk=>by
  refine run_firstCells_some w es k ⟨vb,0,none⟩ 1 vc _ (by rw[List.length_take,Ls];exact Nat.min_eq_left (Nat.le_trans (Nat.mul_le_mul_right es hk) (by omega))) fun j v hj=>?_
  rw[List.getElem?_take] at hj;split at hj
  ·rw[Addr.add_lit,Cn];exact Fq j v hj
  ·cases hj
 one:=FN
 rep:=by
  clear Fq FN Ls
  induction vs with
  |nil=>trivial
  |cons v vs ih=>exact⟨.sc v,ih⟩
theorem Aen {W:World}{κ q cap vb vc:Nat}{vs:List Value}(Ls:vs.length=11)(FN:∀v∈vs,v.oneCell'=true)(Fq:∀j v,vs[j]?=some v->W.cell? ⟨vb,j,none⟩=some v)
  (hc:∀j,j<cap*11->(W.cell? ⟨κ,j,none⟩).isSome=true) (hf:∀j,W.frozen? ⟨κ,j,none⟩=false)(hq:q<cap)(ty:TypeId):
  (Builtin.append_ #[46,46] ty #[.slice (some ⟨κ,0,none⟩) q cap,.slice (some ⟨vb,0,none⟩) 1 vc]).run prog W=.ok (.slice (some ⟨κ,0,none⟩) (q+1) cap) (W.setCells κ (q*11) vs):=by
 obtain⟨i0,T0,LZ,Nt,RW⟩:=info_parts DM;have hs:=LP (vc:=vc) Ls (by omega) Fq FN
 have h:=Pv.append_room_run (P:=prog) (w:=W) (t:=46) (tx:=46) (ty:=ty) (ts:=[]) (b:=κ) (ob:=0) (n:=q) (cap:=cap) Sb Sb (fun k=>by simp) T0 (by rw[Nt];exact hs) (by rw[Ls,Nt])
  (fun k hk=>by rw[Nt];exact hc _ (by omega)) (fun k hk=>hf _) (by omega)
 rw[Nt,Cn] at h;exact h
theorem WC {W:World}{κ q cap vb vc:Nat}{vs:List Value}(Ls:vs.length=3)(FN:∀v∈vs,v.oneCell'=true)(Fq:∀j v,vs[j]?=some v->W.cell? ⟨vb,j,none⟩=some v)
  (hc:∀j,j<cap*3->(W.cell? ⟨κ,j,none⟩).isSome=true) (hf:∀j,W.frozen? ⟨κ,j,none⟩=false)(hq:q<cap)(ty:TypeId):
  (Builtin.append_ #[27,27] ty #[.slice (some ⟨κ,0,none⟩) q cap,.slice (some ⟨vb,0,none⟩) 1 vc]).run prog W=.ok (.slice (some ⟨κ,0,none⟩) (q+1) cap) (W.setCells κ (q*3) vs):=by
 obtain⟨i0,T0,LZ,Nt,RW⟩:=info_parts XD;have hs:=LP (vc:=vc) Ls (by omega) Fq FN
 have h:=Pv.append_room_run (P:=prog) (w:=W) (t:=27) (tx:=27) (ty:=ty) (ts:=[]) (b:=κ) (ob:=0) (n:=q) (cap:=cap) KJ KJ (fun k=>by simp) T0 (by rw[Nt];exact hs) (by rw[Ls,Nt])
  (fun k hk=>by rw[Nt];exact hc _ (by omega)) (fun k hk=>hf _) (by omega)
 rw[Nt,Cn] at h;exact h
structure LS (w wi:World) (Y:Nat->Prop) (X κ B cap:Nat) (done:List Cw) (bs:List (Nat × Nat)) (a:Cw) (q:Nat) (p2:Option Addr) (k2:Nat):Prop where
 cop:X4 w wi (fun x=>x=X∨x=κ∨Y x) B cap done bs
 row:Nu wi (Js B bs (fun x=>x=X∨x=κ∨Y x)) κ ((a.cr.length+1)*11) (Cf (a.cr.take q))
 x0:wi.cell? ⟨X,0,none⟩=some (.string a.nm)
 x1:wi.cell? ⟨X,1,none⟩=some (.string a.us)
 x2:wi.cell? ⟨X,2,none⟩=some (.slice p2 a.cr.length k2)
 xf:∀j,wi.frozen? ⟨X,j,none⟩=false
 xw:w.heap.size<=X
 xk:X≠κ
 kw:w.heap.size<=κ
 xl:X<wi.heap.size
theorem LS.next {w wi W:World}{Y:Nat->Prop}{X κ B cap q k2:Nat}{done:List Cw}{bs:List (Nat × Nat)} {a:Cw}{p2:Option Addr}{x:Sd}{p0 p7:Option Addr}{k0 k7:Nat}(h:LS w wi Y X κ B cap done bs a q p2 k2)(g:Ce (fun _=>False) wi W) (hx:a.cr[q]?=some x)
  (hV:FL W (Js B bs (fun x=>x=X∨x=κ∨Y x)) x p0 k0 p7 k7):LS w (W.setCells κ (q*11) (Si x p0 k0 p7 k7)) Y X κ B cap done bs a (q+1) p2 k2:=by
 have hq:=(List.getElem?_eq_some_iff.1 hx).1;have g3:Ce (fun y=>y=κ) wi (W.setCells κ (q*11) (Si x p0 k0 p7 k7)):=(g.weak (E':=fun y=>y=κ) fun _ _ h=>h.elim).trans (Ce.wrote (Bf.setCells _ _ _ _)) fun _ _ h=>h
 have row2:=h.row.adv g (fun h=>h) (fun _ _ h=>h.elim) (fun _ _ h=>h)
 have lq:(Cf (a.cr.take q)).length=q*11:=by rw[G7,List.length_take];omega
 have row3:=row2.app lq (.inr (.inr (.inr (.inl rfl)))) (V8 hV) (Rf _ _ _ _ _) (by show q*11+11<=_;omega)
 have e:Cf (a.cr.take (q+1))=Cf (a.cr.take q)++x.cells:=by
  rw[List.take_add_one,hx];unfold Cf;rw[List.flatMap_append];simp
 refine⟨h.cop.adv g3 (fun y _ e=>⟨.inr (.inl e),e ▸ h.kw⟩) (fun _ _ h=>h),by rw[e];exact row3,?_,?_,?_,fun j=>?_,h.xw,h.xk,h.kw,Nat.lt_of_lt_of_le h.xl g3.size⟩
 ·rw[g3.cell h.xl h.xk];exact h.x0
 ·rw[g3.cell h.xl h.xk];exact h.x1
 ·rw[g3.cell h.xl h.xk];exact h.x2
 ·rw[g3.frz h.xl h.xk];exact h.xf j
theorem Agl (z:Array Value)(n:Nat):(madeCells z n).size=n:=size_madeCells ..
theorem LS.start {w wr:World}{Y:Nat->Prop}{B cap k2:Nat}{done:List Cw}{bs:List (Nat × Nat)} {a:Cw}{p2:Option Addr}(h:X4 w wr Y B cap done bs)(t1 t2:TypeId):
  LS w ((wr.alloc (.cells #[.string a.nm,.string a.us,.slice p2 a.cr.length k2] t1)).alloc (.cells (madeCells Yr ((a.cr.length+1)*11)) t2)) Y wr.heap.size (wr.heap.size+1) B cap done bs a 0 p2 k2:=by
 have gA:=Dl.alloc wr #[.string a.nm,.string a.us,.slice p2 a.cr.length k2] t1;have nA:=E1.alloc wr #[.string a.nm,.string a.us,.slice p2 a.cr.length k2] t1;obtain⟨W,hW⟩:∃W,W=wr.alloc (.cells #[.string a.nm,.string a.us,.slice p2 a.cr.length k2] t1):=⟨_,rfl⟩;rw[←hW] at gA nA ⊢;have gB:=Dl.alloc W (madeCells Yr ((a.cr.length+1)*11)) t2;have nB:=E1.alloc W (madeCells Yr ((a.cr.length+1)*11)) t2;have hs:=nA.size;have hB:=Ce.new nB;have g:=(Ce.new nA).trans hB fun _ _ h=>h
 have hk:=h.kept.size;have nf:¬((fun _:Nat=>False) wr.heap.size):=fun h=>h
 have hB0:bsz (W.alloc (.cells (madeCells Yr ((a.cr.length+1)*11)) t2)) (wr.heap.size+1)=(a.cr.length+1)*11:=by rw[←hs,gB.bsz,Agl]
 have hB1:∀j,(W.alloc (.cells (madeCells Yr ((a.cr.length+1)*11)) t2)).frozen? ⟨wr.heap.size+1,j,none⟩=false:=by rw[←hs];exact nB.frz
 refine⟨h.adv g (fun _ _ h=>h.elim) fun b hb e=>?_,⟨by rw[nB.size,hs];omega,hB0,hB1,?_⟩,?_,?_,?_,fun j=>?_,hk,by omega,by omega,by rw[nB.size];omega⟩
 ·rcases e with e|e|e
  ·omega
  ·omega
  ·exact e
 ·intro j c hj;rw[List.take_zero] at hj;cases hj
 ·rw[hB.cell (by omega) nf,gA.cell];rfl
 ·rw[hB.cell (by omega) nf,gA.cell];rfl
 ·rw[hB.cell (by omega) nf,gA.cell];rfl
 ·rw[hB.frz (by omega) nf];exact nA.frz j
theorem LS.done {w wi:World}{Y:Nat->Prop}{X κ B cap k2:Nat}{done:List Cw}{bs:List (Nat × Nat)} {a:Cw}{p2:Option Addr}{v:Value}{t:TypeId}(h:LS w wi Y X κ B cap done bs a a.cr.length p2 k2)(hY:∀x,Y x->x<w.heap.size)(hl:done.length<cap)
  {vs:List Value} (Fq:vs=[.string a.nm,.string a.us,.slice (some ⟨κ,0,none⟩) a.cr.length (a.cr.length+1)]):
  X4 w (((wi.setCell ⟨X,2,none⟩ v).alloc (.cells ⟨vs⟩ t)).setCells B (done.length*3) vs) Y B cap (done++[a]) (bs++[(κ,a.cr.length+1)]):=by
 have row:=h.row;rw[List.take_length] at row;have gs:Ce (fun y=>y=X) wi (wi.setCell ⟨X,2,none⟩ v):=Ce.wrote (Bf.setCell _ _ _ _)
 obtain⟨W,hW⟩:∃W,W=(wi.setCell ⟨X,2,none⟩ v).alloc (.cells ⟨vs⟩ t):=⟨_,rfl⟩;have hnw:=E1.alloc (wi.setCell ⟨X,2,none⟩ v) ⟨vs⟩ t;rw[←hW] at hnw ⊢;have g2:Ce (fun y=>y=X) wi W:=gs.trans (Ce.new hnw) (fun _ _ h=>h.elim)
 have hXB:¬B=X:=fun e=>(h.cop.exq X (.inl rfl)).1 e.symm
 have hκB:¬κ=B:=(h.cop.exq κ (.inr (.inl rfl))).1;have hκX:¬κ=X:=fun e=>h.xk e.symm
 have YA:=h.cop.adv g2 (fun b _ e=>⟨.inl e,e ▸ h.xw⟩) (fun _ _ h=>h)
 have row2:=row.adv g2 hκX (fun x _ e=>.inr (.inr (.inl e))) (fun _ _ h=>h)
 have hw:=Bf.setCells B vs (done.length*3) W;have gw:=Ce.wrote hw;have Ls:vs.length=3:=by rw[Fq];rfl
 have cin:=fun j (hj:j<vs.length)=>World.cell?_setCells_in B vs (done.length*3) W (fun t ht=>F4 (by rw[YA.szB];omega)) j hj
 refine YA.push gw h.kw (.inl (.inr (.inl rfl))) (by omega) (hw.bs.trans YA.szB) (fun j=>(hw.frz j).trans (YA.fzB j)) (fun j hj=>World.cell?_setCells_out B _ _ _ ⟨B,j,none⟩ (fun _ _=>.inl hj)) ?_ ?_ ?_ ?_ fun b hb=>⟨.inr (.inr hb),?_⟩
 ·have:=cin 0 (by omega)
  rw[Nat.add_zero] at this;rw[this];subst Fq;rfl
 ·rw[cin 1 (by omega)];subst Fq;rfl
 ·rw[cin 2 (by omega)];subst Fq;rfl
 ·refine row2.adv gw hκB (fun x _ e=>.inl e) fun x _ e=>?_
  rcases e with e|⟨p,hp,rfl⟩|e
  ·exact .inl e
  ·rcases List.mem_append.1 hp with hp|hp
   ·exact .inr (.inl ⟨p,hp,rfl⟩)
   ·rw[List.mem_singleton] at hp;subst hp;exact .inr (.inr (.inr (.inl rfl)))
  ·exact .inr (.inr (.inr (.inr e)))
 ·have:=hY b hb;have:=h.kw;omega
set_option maxHeartbeats 1000000 in
set_option maxRecDepth 100000 in
theorem SJ {w:World}{Y:Nat->Prop}{ls:List Cw}{base:Option Addr}{n c:Nat}(CZ:ls.length=n)(hls:∀a∈ls,a.sm)(hn:n<=1000)(hT:As w Y (.lst false 3 n (Az ls)) (.slice base n c)) (hY:∀x,Y x->x<w.heap.size):
  Calls prog 30 #[.slice base n c] w fun e w'=>∃bs,e=.returned (.slice (some ⟨w.heap.size,0,none⟩) n (n+1))∧X4 w w' Y w.heap.size (n+1) ls bs∧∀(k:Nat) (a:Cw) (p:Nat × Nat),ls[k]?=some a->bs[k]?=some p->p.2=a.cr.length+1:=by
 have mixed:prog.follows Departure.mixedOrders=true:=by kernel_rfl
 have mk:=Anm n hn w
 go_enter Try.func30,Try.ntmps30
 go_wp2
 go_loopw [3,15] (fun nx i wr=>∃(k:Nat) (bs:List (Nat × Nat)),k<=n∧i=.int .i64 k∧nx=.slice (some ⟨w.heap.size,0,none⟩) k (n+1)∧X4 w wr Y w.heap.size (n+1) (ls.take k) bs∧∀(k:Nat) (a:Cw) (p:Nat × Nat),ls[k]?=some a->bs[k]?=some p->p.2=a.cr.length+1) (fun _ i _=>n-(Go.RowKit.intOf i).toNat)
 case atStart=>
  refine⟨0,[],Nat.zero_le _,rfl,rfl,?_,fun k a p _ h=>by cases h⟩
  have hg:=Dl.alloc w (madeCells #[Value.string ⟨#[]⟩,.string ⟨#[]⟩,.slice none 0 0] ((n+1)*3)) 48;have hN:=E1.alloc w (madeCells #[Value.string ⟨#[]⟩,.string ⟨#[]⟩,.slice none 0 0] ((n+1)*3)) 48;refine⟨Ce.new hN,Nat.le_refl _,by rw[hN.size];omega,by rw[hg.bsz,size_madeCells],hN.frz,rfl,fun p hp=>(by cases hp),by simp,fun k a p h=>(by cases h),fun k a p h=>(by cases h),fun b hb=>⟨fun e=>?_,fun p hp=>(by cases hp)⟩⟩
  have:=hY b hb;omega
 case round=>
  obtain⟨k,bs,hk,rfl,rfl,hC,Lf⟩:=hrel;obtain⟨w1,hw1⟩:∃w1,w1=wr:=⟨_,rfl⟩;subst hw1;by_cases hkn:k<n
  ·have Bcz:(k:Int)<(n:Int):=by omega
   obtain⟨b,o,c',hv,hnc,hb,hYb,hR⟩:=Wu hT (by omega)
   cases hv;have hka:ls[k]?=some (ls[k]'(by omega)):=List.getElem?_eq_getElem _
   obtain⟨a,ha⟩:∃a,ls[k]'(by omega)=a:=⟨_,rfl⟩
   rw[ha] at hka;have ham:=hls a (List.mem_of_getElem? hka);have hm:a.cr.length<=1000:=ham.1;obtain⟨c0,c1,p2,k2,c2,t2⟩:=Za hR hka;rw[←hC.kept.cell hb (fun h=>h)] at c0 c1 c2
   have mk2:=Avt a.cr.length ham.1;clear hR hT
   go_wp2
   go_loopw [6,27] (fun kp i wi=>∃q:Nat,q<=a.cr.length∧i=.int .i64 q∧kp=.slice (some ⟨w1.heap.size+1,0,none⟩) q (a.cr.length+1)∧LS w wi Y w1.heap.size (w1.heap.size+1) w.heap.size (n+1) (ls.take k) bs a q p2 k2) (fun _ i _=>a.cr.length-(Go.RowKit.intOf i).toNat)
   case atStart=>
    exact⟨0,Nat.zero_le _,rfl,rfl,LS.start hC _ _⟩
   case round=>
    obtain⟨q,hq,rfl,rfl,hI⟩:=hrel;have x0:=hI.x0;have x1:=hI.x1;have x2:=hI.x2;have xf:=hI.xf;by_cases hqm:q<a.cr.length
    ·have Bma:(q:Int)<(a.cr.length:Int):=by omega
     obtain⟨b2,o2,k2',hv2,hmc,Kw,Byi,hR2⟩:=Wu t2 (by omega)
     cases hv2;have hxa:a.cr[q]?=some (a.cr[q]'(by omega)):=List.getElem?_eq_getElem _
     obtain⟨x,hx⟩:∃x,a.cr[q]'(by omega)=x:=⟨_,rfl⟩
     rw[hx] at hxa;have BD:=ham.2 x (List.mem_of_getElem? hxa);obtain⟨p0,k0,p7,k7,hd,hV⟩:=QA hR2 hxa;have dd:∀j v,(Si x p0 k0 p7 k7)[j]?=some v->wr.cell? ⟨b2,o2+q*11+j,none⟩=some v:=fun j v hj=>by rw[hI.cop.kept.cell Kw (fun h=>h)];exact hd j v hj
     have d0:wr.cell? ⟨b2,o2+q*11,none⟩=some (.slice p0 x.id.length k0):=dd 0 _ rfl;have d1:=dd 1 _ rfl;have d2:=dd 2 _ rfl;have d3:=dd 3 _ rfl;have d4:=dd 4 _ rfl;have d5:=dd 5 _ rfl;have d6:=dd 6 _ rfl;have d7:=dd 7 _ rfl;have d8:=dd 8 _ rfl;have d9:=dd 9 _ rfl;have d10:=dd 10 _ rfl;clear dd
     have hYS:∀y,y<w.heap.size->Js w.heap.size bs (fun x=>x=w1.heap.size∨x=w1.heap.size+1∨Y x) y->Y y:=by
      rintro y hy (e|⟨p,hp,e⟩|e|e|e)
      ·omega
      ·have:=(hI.cop.blk p hp).1;omega
      ·have:=hI.xw;omega
      ·have:=hI.kw;omega
      ·exact e
     have hSW:∀y,Js w.heap.size bs (fun x=>x=w1.heap.size∨x=w1.heap.size+1∨Y x) y->y<wr.heap.size:=by
      rintro y (e|⟨p,hp,rfl⟩|e|e|e)
      ·rw[e];exact hI.cop.lt
      ·exact hI.cop.blkLt hp
      ·rw[e];exact hI.xl
      ·rw[e];exact hI.row.lt
      ·exact Nat.lt_of_lt_of_le (hY y e) hI.cop.kept.size
     have hcp:∀W,Ce (fun _=>False) wr W->Calls prog 31 #[.agg #[.slice p0 x.id.length k0,.int .i64 x.ht,.int .u64 x.root,.int .u64 x.model,.int .i64 x.fmt,.bool x.sh,.int .u64 x.used,.slice p7 x.rg.length k7,.bool x.sus,.int .i64 x.since,.int .i64 x.last]] W fun e W'=>∃q0 l0 q7 l7,e=.returned (.agg #[.slice q0 x.id.length l0,.int .i64 x.ht,.int .u64 x.root,.int .u64 x.model,.int .i64 x.fmt,.bool x.sh,.int .u64 x.used,.slice q7 x.rg.length l7,.bool x.sus,.int .i64 x.since,.int .i64 x.last])∧Ce (fun _=>False) W W'∧FL W' (Js w.heap.size bs (fun x=>x=w1.heap.size∨x=w1.heap.size+1∨Y x)) x q0 l0 q7 l7:=fun W hW=>
      Ri (fun y hy=>Nat.lt_of_lt_of_le (hSW y hy) hW.size) BD.1 (Nat.le_trans BD.2 (by omega)) (hV.adv (hI.cop.kept.trans hW fun _ _ h=>h) (fun _ _ h=>h.elim) hYS)
     go_wp2_with (go_at_call 31;refine (hcp _ (Ce.new (E1.alloc _ _ _))).mono ?_)
     intro e W1 q0 l0 q7 l7 he Yl hV1;subst he;dsimp only;have g1:Ce (fun _=>False) wr W1:=(Ce.new (E1.alloc wr _ _)).trans Yl (fun _ _ h=>h)
     have g2:=g1.trans (Ce.new (E1.alloc W1 #[Value.slice q0 x.id.length l0,.int .i64 x.ht,.int .u64 x.root,.int .u64 x.model,.int .i64 x.fmt,.bool x.sh,.int .u64 x.used,.slice q7 x.rg.length l7,.bool x.sus,.int .i64 x.since,.int .i64 x.last] 33)) (fun _ _ h=>h)
     have hgw:=Dl.alloc W1 #[Value.slice q0 x.id.length l0,.int .i64 x.ht,.int .u64 x.root,.int .u64 x.model,.int .i64 x.fmt,.bool x.sh,.int .u64 x.used,.slice q7 x.rg.length l7,.bool x.sus,.int .i64 x.since,.int .i64 x.last] 33;have row2:=hI.row.adv g2 (fun h=>h) (fun _ _ h=>h.elim) (fun _ _ h=>h)
     have Ll:=Aen (vb:=W1.heap.size) (vc:=1) (vs:=Si x q0 l0 q7 l7) rfl (Rf _ _ _ _ _) (fun j v hj=>by rw[hgw.cell j,List.getElem?_toArray];exact hj) (fun j hj=>row2.cellAt hj) row2.fz (by omega:q<a.cr.length+1)
     go_wp2_with (at_builtin;refine Lib.wpList_append_run _ rfl _ _ _ _ rfl _ _ rfl rfl _ _ (Ll _) ?_)
     refine⟨⟨q+1,by omega,rfl,rfl,hI.next g2 hxa (hV1.adv (Ce.new (E1.alloc _ _ _)) (fun _ _ h=>h.elim) (fun _ _ h=>h))⟩,?_⟩
     simp only[Go.RowKit.intOf];omega
    ·have Bma:¬(q:Int)<(a.cr.length:Int):=by omega
     obtain rfl:q=a.cr.length:=by omega
     have row:=hI.row;rw[List.take_length] at row;have gs:Ce (fun y=>y=w1.heap.size) wr (wr.setCell ⟨w1.heap.size,2,none⟩ (.slice (some ⟨w1.heap.size+1,0,none⟩) a.cr.length (a.cr.length+1))):=Ce.wrote (Bf.setCell _ _ _ _)
     have hgw:=Dl.alloc (wr.setCell ⟨w1.heap.size,2,none⟩ (.slice (some ⟨w1.heap.size+1,0,none⟩) a.cr.length (a.cr.length+1))) #[Value.string a.nm,.string a.us,.slice (some ⟨w1.heap.size+1,0,none⟩) a.cr.length (a.cr.length+1)] 48;have hnw:=E1.alloc (wr.setCell ⟨w1.heap.size,2,none⟩ (.slice (some ⟨w1.heap.size+1,0,none⟩) a.cr.length (a.cr.length+1))) #[Value.string a.nm,.string a.us,.slice (some ⟨w1.heap.size+1,0,none⟩) a.cr.length (a.cr.length+1)] 48;have g2:=gs.trans (Ce.new hnw) (fun _ _ h=>h.elim)
     have hBX:¬w.heap.size=w1.heap.size:=fun e=>(hI.cop.exq _ (.inl rfl)).1 e.symm
     have Ll:=WC (W:=(wr.setCell ⟨w1.heap.size,2,none⟩ (.slice (some ⟨w1.heap.size+1,0,none⟩) a.cr.length (a.cr.length+1))).alloc (.cells #[Value.string a.nm,.string a.us,.slice (some ⟨w1.heap.size+1,0,none⟩) a.cr.length (a.cr.length+1)] 48)) (κ:=w.heap.size) (q:=k) (cap:=n+1) (vb:=wr.heap.size) (vc:=1) (vs:=[Value.string a.nm,.string a.us,.slice (some ⟨w1.heap.size+1,0,none⟩) a.cr.length (a.cr.length+1)]) rfl (by
       intro v hv;simp only[List.mem_cons,List.not_mem_nil,or_false] at hv
       rcases hv with rfl|rfl|rfl<;>rfl) (fun j v hj=>by
        have:=hgw.cell j;rw[World.size_setCell] at this;rw[this,List.getElem?_toArray];exact hj) (fun j hj=>by rw[g2.cell hI.cop.lt hBX];exact F4 (by rw[hI.cop.szB];exact hj)) (fun j=>by rw[g2.frz hI.cop.lt hBX];exact hI.cop.fzB j) (by omega)
     go_wp2_with (at_builtin;refine Lib.wpList_append_run _ rfl _ _ _ _ rfl _ _ rfl rfl _ _ (Ll _) ?_)
     have Bp:(ls.take k).length=k:=by rw[List.length_take];omega
     have hD:=hI.done (v:=.slice (some ⟨w1.heap.size+1,0,none⟩) a.cr.length (a.cr.length+1)) (t:=48) hY (by omega) rfl
     rw[Bp] at hD;have etk:ls.take (k+1)=ls.take k++[a]:=by rw[List.take_add_one,hka];rfl
     refine⟨⟨k+1,bs++[(w1.heap.size+1,a.cr.length+1)],by omega,rfl,rfl,by rw[etk];exact hD,?_⟩,?_⟩
     ·intro k' a' p Jo hp;have Vq:=hI.cop.len;by_cases MB:k'<bs.length
      ·rw[List.getElem?_append_left MB] at hp;exact Lf k' a' p Jo hp
      ·have:=(List.getElem?_eq_some_iff.1 hp).1;have ek:k'=k:=by simp at this;omega
       subst ek;rw[List.getElem?_append_right (by omega),Vq,Bp,Nat.sub_self] at hp
       cases hp;rw[hka] at Jo;cases Jo;rfl
     ·simp only[Go.RowKit.intOf];omega
  ·have Bcz:¬(k:Int)<(n:Int):=by omega
   obtain rfl:k=n:=by omega
   rw[G9 (by omega)] at hC
   go_wp2
   go_ret
   exact⟨rfl,bs,hC,fun k a p q h1 h2=>Lf k a (p,q) h1 h2⟩
end
section
open Go.Proofs.Try (prog)
open Go.IntKind (wrap)
open Go.RowKit Go.Lib
theorem MO {f:FuncId}{args:List PV}{vs:List Value}{fu d:Nat}(hq:Ag (CX noZ) prog fu d f args=some ⟨vs.map .sc,[]⟩) {S:Nat->Prop}{W:World}{us:List Value}(hS:∀x,S x->x<W.heap.size)(h:Ba (Ke W S) args us):
  Calls prog f us.toArray W fun e W'=>e=.returned (Eo vs)∧Ce (fun _=>False) W W':=by
 refine (HS hq hS h).mono ?_
 rintro e W' ⟨xs,own,rfl,ho⟩
 refine⟨?_,Ce.out ho⟩
 have key:∀(vs xs:List Value) (j:Nat),NS W' (Nn Nv own S) own W.heap.size j (vs.map .sc) xs->xs=vs:=by
  intro vs
  induction vs with
  |nil=>intro xs j h;cases xs with|nil=>rfl|cons _ _=>exact h.elim
  |cons v vs ih=>
   intro xs j h;cases xs with
   |nil=>exact h.elim
   |cons x xs=>
    have h1:As W' (Nn Nv own S) (.sc v) x:=h.1;rw[h1.val,ih xs _ h.2]
 rw[key vs xs 0 ho.vals]
theorem S3 {w:World}{S:Nat->Prop}{z:Bool}{es n:Nat}{c:List PV}{v:Value}(h:As w S (.lst z es n c) v):Ke w S (.lst z es n c) v:=⟨trivial,h⟩
theorem WA {w:World}{S:Nat->Prop}(v:Value):Ke w S (.sc v) v:=⟨trivial,.sc v⟩
theorem Rh {P:Program}{ops:Array Oper}{o:Oper}{a:Act}{w:World}{K:Act->World->Prop}{Q:Exit->Act->World->Prop}{E:Prop}(hg:o.guard=none){c:Call}{f:FuncId}(ho:o.op=.call c)(hc:c.callee=.value (.func f)) (J1:NoNG P){fn:Func}(hf:P.funcs[f]?=some fn) (hb:fn.body.isSome=true)
  {us:Array Value} (WW:c.args.map a.eval=us) {post:Ending->World->Prop} (h:Calls P f us w post) (hk:∀e w',post e w'->∃v,e=.returned v∧K (a.put o.dst v) w'):
  if Region.wanted o (yielded ops a.tmps)=true then Oper.wp P o a w K Q else E:=by
 have hw:Region.wanted o (yielded ops a.tmps)=true:=by simp[Region.wanted,hg]
 rw[J8 hw];unfold Oper.wp;rw[DV ho hc J1 hf hb,WW];refine h.mono ?_;intro e w' hp;obtain⟨v,rfl,hK⟩:=hk e w' hp;exact hK
theorem Ks {P:Program}{ops:Array Oper}{o:Oper}{a:Act}{w:World}{K:Act->World->Prop}{Q:Exit->Act->World->Prop}{E:Prop}
  (hg:o.guard=none)(d x:Operand)(dT sT:TypeId)(XE:o.op=Op.call { callee:=Callee.builtin Builtin.append,args:= #[d,x],argTypes:= #[dT,sT] })
  (v u:Value)(hd:a.eval d=v)(hx:a.eval x=u){v':Value}{w':World}(hr:(Builtin.append_ #[dT,sT] o.type #[v,u]).run P w=.ok v' w') (hK:K (a.put o.dst v') w'):
  if Region.wanted o (yielded ops a.tmps)=true then Oper.wp P o a w K Q else E:=by
 have hw:Region.wanted o (yielded ops a.tmps)=true:=by simp[Region.wanted,hg]
 rw[J8 hw];unfold Oper.wp;simp[execOp,XE,resolve,invoke,builtin,hd,hx,hr,Result.andThen];exact hK
structure RY (w:World) (Y:Nat->Prop) (ls:List Cw) (n c:Nat) (base:Option Addr):Prop where
 nl:ls.length=n
 sm:∀a∈ls,a.sm
 n1:n<=1000
 tr:As w Y (.lst false 3 n (Az ls)) (.slice base n c)
 y:∀x,Y x->x<w.heap.size
theorem RY.adv {w w':World}{Y:Nat->Prop}{ls:List Cw}{n c:Nat}{base:Option Addr}(h:RY w Y ls n c base)(g:Ce (fun _=>False) w w'):RY w' Y ls n c base:=
 ⟨h.nl,h.sm,h.n1,h.tr.step (g.st.weaken fun _ _ h=>h.elim) fun _ _ h=>h,fun x hx=>Nat.lt_of_lt_of_le (h.y x hx) g.size⟩
structure Bb4 (w wr:World) (Y:Nat->Prop) (n:Nat) (ls:List Cw) (bs:List (Nat × Nat)):Prop where
 cop:X4 w wr Y w.heap.size (n+1) ls bs
 room:∀(k:Nat) (a:Cw) (p:Nat × Nat),ls[k]?=some a->bs[k]?=some p->p.2=a.cr.length+1
theorem RY.copy {w:World}{Y:Nat->Prop}{ls:List Cw}{n c:Nat}{base:Option Addr}(h:RY w Y ls n c base):
  Calls prog 30 #[.slice base n c] w fun e w'=>∃bs,e=.returned (.slice (some ⟨w.heap.size,0,none⟩) n (n+1))∧Bb4 w w' Y n ls bs:=by
 refine (SJ h.nl h.sm h.n1 h.tr h.y).mono ?_
 rintro e w' ⟨bs,h1,h2,h3⟩
 exact⟨bs,h1,h2,h3⟩
def Par (W:World)(X:Nat)(vs:List Value):Prop:=X<W.heap.size∧∀j v,vs[j]?=some v->W.cell? ⟨X,j,none⟩=some v
theorem Par.adv {W W':World}{X:Nat}{vs:List Value}{E:Nat->Prop}(h:Par W X vs)(g:Ce E W W')(hE:¬E X):Par W' X vs:=⟨Nat.lt_of_lt_of_le h.1 g.size,fun j v hj=>by rw[g.cell h.1 hE];exact h.2 j v hj⟩
theorem Par.new (w:World)(vs:List Value)(t:TypeId):Par (w.alloc (.cells ⟨vs⟩ t)) w.heap.size vs:=by
 have g:=Dl.alloc w ⟨vs⟩ t;exact⟨by rw[g.size];omega,fun j v hj=>by rw[g.cell];simpa using hj⟩
theorem X4.grow {w W:World}{Y:Nat->Prop}{B cap i:Nat}{ls:List Cw}{bs:List (Nat × Nat)} {a:Cw}{bp:Nat × Nat}{x:Sd}{p0 p7:Option Addr}{k0 k7:Nat}(h:X4 w W Y B cap ls bs)(hi:ls[i]?=some a) (hb:bs[i]?=some bp) (hm:a.cr.length<bp.2)(hil:i<cap)
  (hV:FL W (Js B bs Y) x p0 k0 p7 k7):X4 w ((W.setCells bp.1 (a.cr.length*11) (Si x p0 k0 p7 k7)).setCell ⟨B,i*3+2,none⟩ (.slice (some ⟨bp.1,0,none⟩) (a.cr.length+1) bp.2)) Y B cap (ls.set i { a with cr:=a.cr++[x] }) bs:=by
 have hbm:=List.mem_of_getElem? hb;have Hu:bp.1≠B:=(h.blk bp hbm).2;have GU:¬B=bp.1:=fun e=>Hu e.symm
 have Z8:Js B bs Y bp.1:=.inr (.inl ⟨bp,hbm,rfl⟩);have row6:=(h.row i a bp hi hb).app (G7 _) Z8 (V8 hV) (Rf _ _ _ _ _) (by show a.cr.length*11+11<=_;omega)
 have g1:=Bf.setCells bp.1 (Si x p0 k0 p7 k7) (a.cr.length*11) W;obtain⟨W6,hW6⟩:∃W6,W6=W.setCells bp.1 (a.cr.length*11) (Si x p0 k0 p7 k7):=⟨_,rfl⟩;rw[←hW6] at row6 g1 ⊢;have a1:=Ce.wrote g1;have l6:B<W6.heap.size:=Nat.lt_of_lt_of_le h.lt a1.size;have g2:=Bf.setCell B (i*3+2) (.slice (some ⟨bp.1,0,none⟩) (a.cr.length+1) bp.2) W6
 have e:Cf (a.cr++[x])=Cf a.cr++x.cells:=by
  unfold Cf;rw[List.flatMap_append];simp
 have s6:bsz W6 B=cap*3:=(a1.bs h.lt GU).trans h.szB;refine h.set (a':={ a with cr:=a.cr++[x] }) hi hb rfl rfl (by show (a.cr++[x]).length<=_;simp;omega) ((a1.weak (E':=fun y=>y=B∨y=bp.1) fun y _ e=>.inr e).trans (Ce.wrote g2) fun y _ e=>.inl e) (g2.bs.trans s6) (fun j=>(g2.frz j).trans ((a1.frz h.lt GU).trans (h.fzB j))) (fun j hj=>?_) ?_ ?_
 ·rw[World.cell?_setCell_other _ _ _ _ (by intro e;simp only[Addr.mk.injEq] at e;omega)]
  exact a1.cell h.lt GU
 ·obtain⟨v,hv⟩:=Option.isSome_iff_exists.1 (F4 (w:=W6) (b:=B) (j:=i*3+2) (by omega))
  rw[World.cell?_setCell_same _ _ _ hv];simp
 ·show Nu _ _ _ _ (Cf (a.cr++[x]));rw[e];exact row6.adv (Ce.wrote g2) Hu (fun y _ e=>.inl e) (fun _ _ h=>h)
set_option maxHeartbeats 1000000 in
set_option maxRecDepth 100000 in
theorem ZF {w:World}{Y:Nat->Prop}{ls:List Cw}{base:Option Addr}{n c i:Nat}{a:Cw}{x:Sd}{nm us:ByteArray}{p0 p7:Option Addr}{k0 k7:Nat}(hB:RY w Y ls n c base)(hV:FL w Y x p0 k0 p7 k7)(hx:x.sm)(CR:1<=nm.size)(RX:nm.size<=32)(Bb:x.id.length=176)
  (GM:∀W,Ce (fun _=>False) w W->Calls prog 23 #[.slice base n c,.slice p0 176 k0] W fun e W'=>e=.returned (.tuple #[.int .i64 0,.int .i64 0,.bool false])∧Ce (fun _=>False) W W')
  (NW:∀W,Ce (fun _=>False) w W->Calls prog 14 #[.slice base n c,.string nm] W fun e W'=>e=.returned (.tuple #[.int .i64 i,.bool true])∧Ce (fun _=>False) W W')
  (hi:ls[i]?=some a) (hk:a.cr.length<4):
  Calls prog 11 #[.slice base n c,.string nm,.string us,.agg #[.slice p0 x.id.length k0,.int .i64 x.ht,.int .u64 x.root,.int .u64 x.model,.int .i64 x.fmt,.bool x.sh,.int .u64 x.used,.slice p7 x.rg.length k7,.bool x.sus,.int .i64 x.since,.int .i64 x.last]] w
   fun e w'=>∃u,e=.returned (.tuple #[u,.int .i64 0])∧Ce (fun _=>False) w w'∧As w' Y (.lst false 3 n (Az (ls.set i { a with cr:=a.cr++[x] }))) u:=by
 have mixed:prog.follows Departure.mixedOrders=true:=by kernel_rfl
 rw[Bb];have U0:=(List.getElem?_eq_some_iff.1 hi).1;have CZ:=hB.nl;obtain⟨b,o,c',hv,hnc,hb,hYb,hR⟩:=Wu hB.tr (by omega)
 cases hv;obtain⟨c0,c1,p2,k2,c2,t2⟩:=Za hR hi;have hzn:¬((nm.size:Int)<1):=by omega
 have Bi0:¬((32:Int)<(nm.size:Int)):=by omega
 go_enter Try.func11,Try.ntmps11
 go_wp2_with (go_at_call 23;refine (GM _ ?hO).mono ?_)
 case hO=>exact Ce.new (E1.alloc _ _ _)
 have pr0:=Par.new w [Value.slice p0 176 k0,.int .i64 x.ht,.int .u64 x.root,.int .u64 x.model,.int .i64 x.fmt,.bool x.sh,.int .u64 x.used,.slice p7 x.rg.length k7,.bool x.sus,.int .i64 x.since,.int .i64 x.last] 33;intro e W1 he Yl;subst he;dsimp only;have g1:=(Ce.new (E1.alloc w _ _)).trans Yl fun _ _ h=>h
 have pr1:=pr0.adv Yl fun h=>h
 go_wp2_with (go_at_call 14;refine (NW _ ?hF).mono ?_)
 case hF=>exact g1
 rintro e W2 ⟨he,hA2⟩
 subst he;dsimp only;have g2:=g1.trans hA2 fun _ _ h=>h
 have pr2:=pr1.adv hA2 fun h=>h
 have c22:=c2;rw[←g2.cell hb fun h=>h] at c22
 have TF:=hB.adv g2;have T0:(i:Int)<(n:Int):=by omega
 have Yq:¬((4:Int)<=(a.cr.length:Int)):=by omega
 go_wp2_with (go_at_call 30;refine TF.copy.mono ?_)
 intro e W3 he bs hC3;subst he;dsimp only;have hC:=hC3.cop;have pr3:=pr2.adv hC.kept fun h=>h
 have ebi:bs[i]?=some (bs[i]'(by rw[hC.len];exact U0)):=List.getElem?_eq_getElem _
 obtain⟨bp,hbp⟩:∃bp,bs[i]'(by rw[hC.len];exact U0)=bp:=⟨_,rfl⟩
 rw[hbp] at ebi;obtain⟨_,_,d2,d3⟩:=hC.cell i a bp hi ebi;obtain⟨κ,kc⟩:=bp;obtain rfl:kc=a.cr.length+1:=hC3.room i a _ hi ebi;clear hbp;dsimp only at d2;have fB:=hC.fzB
 have hS3:∀y,Js W2.heap.size bs Y y->y<W3.heap.size:=by
  rintro y (e|⟨p,hp,rfl⟩|e)
  ·rw[e];exact hC.lt
  ·exact hC.blkLt hp
  ·exact Nat.lt_of_lt_of_le (TF.y y e) hC.kept.size
 have hV3:FL W3 (Js W2.heap.size bs Y) x p0 k0 p7 k7:=(hV.adv g2 (fun _ _ h=>h.elim) (fun _ _ h=>h)).adv hC.kept (fun _ _ h=>h.elim) (by
  rintro y hy (e|⟨p,hp,e⟩|e)
  ·omega
  ·have:=(hC.blk p hp).1;omega
  ·exact e)
 have hcp:∀W,Ce (fun _=>False) W3 W->Calls prog 31 #[.agg #[.slice p0 176 k0,.int .i64 x.ht,.int .u64 x.root,.int .u64 x.model,.int .i64 x.fmt,.bool x.sh,.int .u64 x.used,.slice p7 x.rg.length k7,.bool x.sus,.int .i64 x.since,.int .i64 x.last]] W fun e W'=>∃q0 l0 q7 l7,e=.returned (.agg #[.slice q0 176 l0,.int .i64 x.ht,.int .u64 x.root,.int .u64 x.model,.int .i64 x.fmt,.bool x.sh,.int .u64 x.used,.slice q7 x.rg.length l7,.bool x.sus,.int .i64 x.since,.int .i64 x.last])∧Ce (fun _=>False) W W'∧FL W' (Js W2.heap.size bs Y) x q0 l0 q7 l7:=fun W hW=>by
  have h:=Ri (fun y hy=>Nat.lt_of_lt_of_le (hS3 y hy) hW.size) hx.1 (Nat.le_trans hx.2 (by omega)) (hV3.adv hW (fun _ _ h=>h.elim) (fun _ _ h=>h))
  simp only[Si,Bb] at h;exact h
 have p00:=pr3.2 0 _ rfl;have p01:=pr3.2 1 _ rfl;have p02:=pr3.2 2 _ rfl;have p03:=pr3.2 3 _ rfl;have p04:=pr3.2 4 _ rfl;have p05:=pr3.2 5 _ rfl;have p06:=pr3.2 6 _ rfl;have p07:=pr3.2 7 _ rfl;have p08:=pr3.2 8 _ rfl;have p09:=pr3.2 9 _ rfl;have p10:=pr3.2 10 _ rfl
 go_wp2
 go_region_law_o (first|(refine Rh rfl rfl rfl ngA Try.func31 rfl (by simp[Act.eval,Act.put]) (hcp _ ?hW) ?_;(case hW=>exact Ce.drew W3);rintro e W4 ⟨q0,l0,q7,l7,he4,hA4,hV4⟩;refine⟨_,he4,?_⟩;have gA4:Ce (fun _=>False) W3 W4:=(Ce.drew W3).trans hA4 (fun _ _ h=>h);have d24:=d2;rw[←gA4.cell hC.lt (fun h=>h)] at d24;have Bk1:W2.heap.size<W4.heap.size:=Nat.lt_of_lt_of_le hC.lt gA4.size)|(have gn:=Ce.new (E1.alloc W4 #[Value.slice q0 176 l0,.int .i64 x.ht,.int .u64 x.root,.int .u64 x.model,.int .i64 x.fmt,.bool x.sh,.int .u64 x.used,.slice q7 x.rg.length l7,.bool x.sus,.int .i64 x.since,.int .i64 x.last] 33);have hgw:=Dl.alloc W4 #[Value.slice q0 176 l0,.int .i64 x.ht,.int .u64 x.root,.int .u64 x.model,.int .i64 x.fmt,.bool x.sh,.int .u64 x.used,.slice q7 x.rg.length l7,.bool x.sus,.int .i64 x.since,.int .i64 x.last] 33;have hC5:=(hC.adv gA4 (fun _ _ h=>h.elim) (fun _ _ h=>h)).adv gn (fun _ _ h=>h.elim) (fun _ _ h=>h);have row5:=hC5.row i a _ hi ebi;have Ll:=Aen (vb:=W4.heap.size) (vc:=1) (vs:=Si x q0 l0 q7 l7) rfl (Rf _ _ _ _ _) (fun j v hj=>by rw[hgw.cell j,List.getElem?_toArray];rw[Si,Bb] at hj;exact hj) (fun j hj=>row5.cellAt hj) row5.fz (by omega:a.cr.length<a.cr.length+1);have hG:=hC5.grow hi ebi (Nat.lt_succ_self _) (by omega) (hV4.adv gn (fun _ _ h=>h.elim) (fun _ _ h=>h));have a6:=Ce.wrote (Bf.setCells κ (Si x q0 l0 q7 l7) (a.cr.length*11) (W4.alloc (.cells #[Value.slice q0 176 l0,.int .i64 x.ht,.int .u64 x.root,.int .u64 x.model,.int .i64 x.fmt,.bool x.sh,.int .u64 x.used,.slice q7 x.rg.length l7,.bool x.sus,.int .i64 x.since,.int .i64 x.last] 33)));have hnb:¬W2.heap.size=κ:=fun e=>(hC.blk _ (List.mem_of_getElem? ebi)).2 e.symm;have d26:=d24;rw[←gn.cell (Nat.lt_of_lt_of_le hC.lt gA4.size) (fun h=>h),←a6.cell hC5.lt hnb] at d26;have f26:=hC5.fzB (i*3+2);rw[←a6.frz hC5.lt hnb] at f26;refine Ks rfl _ _ 46 46 rfl _ _ (by simp[Act.eval,Act.put]) (by simp[Act.eval,Act.put]) (Ll _) ?_))
 all_goals go_wp2
 all_goals go_ret2
 all_goals
  have ht:=hG.tree (Y:=Y) TF.y (by rw[List.length_set];omega) (fun _ h=>h)
  rw[List.length_set,CZ] at ht;exact⟨_,rfl,g2.trans hG.kept (fun _ _ h=>h),ht⟩
end
section
open Go.Proofs.Try (prog)
open Go.IntKind (wrap)
open Go.RowKit Go.Lib
theorem Ai7 {W:World}{vb vc:Nat}{vs:List Value}(Ls:vs.length=11)(FN:∀v∈vs,v.oneCell'=true)(Fq:∀j v,vs[j]?=some v->W.cell? ⟨vb,j,none⟩=some v) (ty:TypeId):
  (Builtin.append_ #[46,46] ty #[.slice none 0 0,.slice (some ⟨vb,0,none⟩) 1 vc]).run prog W=.ok (.slice (some ⟨W.heap.size,0,none⟩) 1 (grownCap W 1 0 33)) (W.drew.alloc (.cells (vs.toArray++Builtin.zeroCells Yr (grownCap W 1 0 33-1)) 33)):=by
 obtain⟨i0,T0,LZ,Nt,RW⟩:=info_parts DM;have hs:=LP (vc:=vc) Ls (by omega) Fq FN
 have h:=Pv.append_grow_run (P:=prog) (w:=W) (t:=46) (tx:=46) (ty:=ty) (ts:=[]) (ad:=none) (n:=0) (cap:=0) (olds:=[]) Sb Sb (fun k=>by simp) T0 LZ (by rw[Nt];exact hs) (.inl ⟨rfl,rfl⟩) (by omega) (by rw[RW];omega) (by omega)
 rw[show (Value.agg Yr).cells=Yr from rfl] at h
 simpa using h
theorem X4.fresh {w W W7:World}{Y:Nat->Prop}{B cap κ G:Nat}{done:List Cw}{bs:List (Nat × Nat)} {a:Cw}(h:X4 w W Y B cap done bs)(hl:done.length<cap)(g:Ce (fun x=>x=B) W W7) (hs:bsz W7 B=cap*3)(hf:∀j,W7.frozen? ⟨B,j,none⟩=false)
  (hold:∀j,j<done.length*3->W7.cell? ⟨B,j,none⟩=W.cell? ⟨B,j,none⟩)(c0:W7.cell? ⟨B,done.length*3,none⟩=some (.string a.nm)) (c1:W7.cell? ⟨B,done.length*3+1,none⟩=some (.string a.us)) (hκ:W.heap.size<=κ)(hG:a.cr.length<=G)
  (hr:Nu W7 (Js B (bs++[(κ,G)]) Y) κ (G*11) (Cf a.cr)) (hY:∀x,Y x->x<w.heap.size):X4 w (W7.setCell ⟨B,done.length*3+2,none⟩ (.slice (some ⟨κ,0,none⟩) a.cr.length G)) Y B cap (done++[a]) (bs++[(κ,G)]):=by
 have gw:=Bf.setCell B (done.length*3+2) (.slice (some ⟨κ,0,none⟩) a.cr.length G) W7;have ga:=Ce.wrote gw;have other:∀j,j≠done.length*3+2->(W7.setCell ⟨B,done.length*3+2,none⟩ (.slice (some ⟨κ,0,none⟩) a.cr.length G)).cell? ⟨B,j,none⟩=W7.cell? ⟨B,j,none⟩:=fun j hj=>World.cell?_setCell_other _ _ _ _ (by intro e;simp only[Addr.mk.injEq] at e;omega)
 have hBκ:¬κ=B:=by
  rintro rfl
  have:=h.lt;omega
 refine h.push (g.trans ga fun _ _ h=>h) (Nat.le_trans h.kept.size hκ) (.inr hκ) hG (gw.bs.trans hs) (fun j=>(gw.frz j).trans (hf j)) (fun j hj=>(other j (by omega)).trans (hold j hj)) ((other _ (by omega)).trans c0) ((other _ (by omega)).trans c1) ?_ (hr.adv ga hBκ (fun x _ e=>.inl e) (fun _ _ h=>h)) fun b hb=>⟨hb,?_⟩
 ·obtain⟨v,hv⟩:=Option.isSome_iff_exists.1 (F4 (w:=W7) (b:=B) (j:=done.length*3+2) (by omega))
  exact World.cell?_setCell_same _ _ _ hv
 ·have:=hY b hb;have:=h.kept.size;omega
theorem Ai3 {W:World}{S S':Nat->Prop}{x:Sd}{p0 p7:Option Addr}{k0 k7 G:Nat}{T:TypeId}(hV:FL W S x p0 k0 p7 k7)(hG:1<=G)(hS:∀y,y<W.heap.size->S' y->S y):
  Nu (W.drew.alloc (.cells ((Si x p0 k0 p7 k7).toArray++Builtin.zeroCells Yr (G-1)) T)) S' W.heap.size (G*11) (Cf [x]):=by
 have hn:=E1.allocD W ((Si x p0 k0 p7 k7).toArray++Builtin.zeroCells Yr (G-1)) T;have hg:=Dl.alloc W.drew ((Si x p0 k0 p7 k7).toArray++Builtin.zeroCells Yr (G-1)) T;have ha:=Ce.new hn;refine⟨by rw[hn.size];omega,?_,hn.frz,fun j c hj=>?_⟩
 ·have:=hg.bsz;refine Eq.trans this ?_;simp[Builtin.zeroCells,Si];omega
 ·have L7:=V8 hV;have e:Cf [x]=x.cells:=by simp[Cf]
  rw[e] at hj;have hjl:=(List.getElem?_eq_some_iff.1 hj).1;have Ls:j<(Si x p0 k0 p7 k7).length:=hjl;have hvj:(Si x p0 k0 p7 k7)[j]?=some ((Si x p0 k0 p7 k7)[j]'(by omega)):=List.getElem?_eq_getElem _
  refine⟨_,?_,Rf _ _ _ _ _ _ (List.mem_of_getElem? hvj),(L7.at_ hj hvj).2.step (ha.st.weaken fun _ _ h=>h.elim) hS⟩
  rw[B8,Cn];refine (hg.cell j).trans ?_;rw[Array.getElem?_append_left (by simpa using Ls)]
  simp
theorem Ab1 {B z G:Nat}{bs:List (Nat × Nat)} {Y:Nat->Prop}{y:Nat}(hy:y<z)(h:Js B (bs++[(z,G)]) Y y):Js B bs Y y:=by
 rcases h with e|⟨p,hp,e⟩|e
 ·exact .inl e
 ·rcases List.mem_append.1 hp with hp|hp
  ·exact .inr (.inl ⟨p,hp,e⟩)
  ·rw[List.mem_singleton] at hp;subst hp;exact absurd hy (by rw[←e];exact Nat.lt_irrefl _)
 ·exact .inr (.inr e)
set_option maxHeartbeats 1000000 in
set_option maxRecDepth 100000 in
theorem Ajw {w:World}{Y:Nat->Prop}{ls:List Cw}{base:Option Addr}{n c:Nat}{x:Sd}{nm us:ByteArray}{p0 p7:Option Addr}{k0 k7:Nat}(hB:RY w Y ls n c base)(hV:FL w Y x p0 k0 p7 k7)(hx:x.sm)(CR:1<=nm.size)(RX:nm.size<=32)(Bb:x.id.length=176)
  (GM:∀W,Ce (fun _=>False) w W->Calls prog 23 #[.slice base n c,.slice p0 176 k0] W fun e W'=>e=.returned (.tuple #[.int .i64 0,.int .i64 0,.bool false])∧Ce (fun _=>False) W W')
  (NW:∀W,Ce (fun _=>False) w W->Calls prog 14 #[.slice base n c,.string nm] W fun e W'=>e=.returned (.tuple #[.int .i64 0,.bool false])∧Ce (fun _=>False) W W')
  (hk:n<16):
  Calls prog 11 #[.slice base n c,.string nm,.string us,.agg #[.slice p0 x.id.length k0,.int .i64 x.ht,.int .u64 x.root,.int .u64 x.model,.int .i64 x.fmt,.bool x.sh,.int .u64 x.used,.slice p7 x.rg.length k7,.bool x.sus,.int .i64 x.since,.int .i64 x.last]] w
   fun e w'=>∃u,e=.returned (.tuple #[u,.int .i64 0])∧Ce (fun _=>False) w w'∧As w' Y (.lst false 3 (n+1) (Az (ls++[⟨nm,us,[x]⟩]))) u:=by
 have mixed:prog.follows Departure.mixedOrders=true:=by kernel_rfl
 rw[Bb];have CZ:=hB.nl;have hzn:¬((nm.size:Int)<1):=by omega
 have Bi0:¬((32:Int)<(nm.size:Int)):=by omega
 go_enter Try.func11,Try.ntmps11
 go_wp2_with (go_at_call 23;refine (GM _ ?hO).mono ?_)
 case hO=>exact Ce.new (E1.alloc _ _ _)
 have pr0:=Par.new w [Value.slice p0 176 k0,.int .i64 x.ht,.int .u64 x.root,.int .u64 x.model,.int .i64 x.fmt,.bool x.sh,.int .u64 x.used,.slice p7 x.rg.length k7,.bool x.sus,.int .i64 x.since,.int .i64 x.last] 33;intro e W1 he Yl;subst he;dsimp only;have g1:=(Ce.new (E1.alloc w _ _)).trans Yl fun _ _ h=>h
 have pr1:=pr0.adv Yl fun h=>h
 go_wp2_with (go_at_call 14;refine (NW _ ?hF).mono ?_)
 case hF=>exact g1
 rintro e W2 ⟨he,hA2⟩
 subst he;dsimp only;have g2:=g1.trans hA2 fun _ _ h=>h
 have pr2:=pr1.adv hA2 fun h=>h
 have TF:=hB.adv g2;have Yq:¬((16:Int)<=(n:Int)):=by omega
 go_wp2_with (go_at_call 30;refine TF.copy.mono ?_)
 intro e W3 he bs hC3;subst he;dsimp only;have hC:=hC3.cop;have pr3:=pr2.adv hC.kept fun h=>h
 have nA:=E1.alloc W3 #[Value.string nm,.string us,.slice none 0 0] 48;have gA:=Dl.alloc W3 #[Value.string nm,.string us,.slice none 0 0] 48;have gn:=Ce.new nA
 have Ll:=WC (W:=W3.alloc (.cells #[Value.string nm,.string us,.slice none 0 0] 48)) (κ:=W2.heap.size) (q:=n) (cap:=n+1) (vb:=W3.heap.size) (vc:=1) (vs:=[Value.string nm,.string us,.slice none 0 0]) rfl (by
  intro v hv;simp only[List.mem_cons,List.not_mem_nil,or_false] at hv;rcases hv with rfl|rfl|rfl<;>rfl) (fun j v hj=>by rw[gA.cell j,List.getElem?_toArray];exact hj) (fun j hj=>by rw[gn.cell hC.lt (fun h=>h)];exact F4 (by rw[hC.szB];exact hj)) (fun j=>by rw[gn.frz hC.lt (fun h=>h)];exact hC.fzB j) (by omega)
 have gw:=Bf.setCells W2.heap.size [Value.string nm,.string us,.slice none 0 0] (n*3) (W3.alloc (.cells #[Value.string nm,.string us,.slice none 0 0] 48));have cin:=fun j (hj:j<3)=>World.cell?_setCells_in W2.heap.size [Value.string nm,.string us,.slice none 0 0] (n*3) (W3.alloc (.cells #[Value.string nm,.string us,.slice none 0 0] 48)) (fun t ht=>by rw[gn.cell hC.lt (fun h=>h)];exact F4 (by rw[hC.szB];simp at ht;omega)) j hj
 have cout:∀j,j<n*3->((W3.alloc (.cells #[Value.string nm,.string us,.slice none 0 0] 48)).setCells W2.heap.size (n*3) [Value.string nm,.string us,.slice none 0 0]).cell? ⟨W2.heap.size,j,none⟩=W3.cell? ⟨W2.heap.size,j,none⟩:=fun j hj=>by
  rw[World.cell?_setCells_out _ _ _ _ ⟨W2.heap.size,j,none⟩ (fun _ _=>.inl hj)]
  exact gn.cell hC.lt (fun h=>h)
 go_wp2_with (at_builtin;refine Lib.wpList_append_run _ rfl _ _ _ _ rfl _ _ rfl rfl _ _ (Ll _) ?_)
 obtain⟨W6,hW6⟩:∃W6,W6=(W3.alloc (.cells #[Value.string nm,.string us,.slice none 0 0] 48)).setCells W2.heap.size (n*3) [Value.string nm,.string us,.slice none 0 0]:=⟨_,rfl⟩;rw[←hW6] at gw cin cout ⊢;have e0:=cin 0 (by omega)
 have e1:=cin 1 (by omega)
 have e2:=cin 2 (by omega)
 rw[Nat.add_zero] at e0;have a6:Ce (fun x=>x=W2.heap.size) W3 W6:=(gn.weak (E':=fun x=>x=W2.heap.size) fun _ _ h=>h.elim).trans (Ce.wrote gw) fun _ _ h=>h
 have l6:W2.heap.size<W6.heap.size:=Nat.lt_of_lt_of_le hC.lt a6.size;have s6:bsz W6 W2.heap.size=(n+1)*3:=gw.bs.trans ((gn.bs hC.lt (fun h=>h)).trans hC.szB)
 have f6:∀j,W6.frozen? ⟨W2.heap.size,j,none⟩=false:=fun j=>(gw.frz j).trans ((gn.frz hC.lt (fun h=>h)).trans (hC.fzB j))
 have hwX:¬w.heap.size=W2.heap.size:=by
  have h1:=Yl.size;have h2:=hA2.size;rw[(E1.alloc w _ _).size] at h1;omega
 have pr6:=pr3.adv a6 hwX;have p00:=pr6.2 0 _ rfl;have p01:=pr6.2 1 _ rfl;have p02:=pr6.2 2 _ rfl;have p03:=pr6.2 3 _ rfl;have p04:=pr6.2 4 _ rfl;have p05:=pr6.2 5 _ rfl;have p06:=pr6.2 6 _ rfl;have p07:=pr6.2 7 _ rfl;have p08:=pr6.2 8 _ rfl;have p09:=pr6.2 9 _ rfl;have p10:=pr6.2 10 _ rfl
 have hS6:∀y,Js W2.heap.size bs Y y->y<W6.heap.size:=by
  rintro y (e|⟨p,hp,rfl⟩|e)
  ·rw[e];exact l6
  ·exact Nat.lt_of_lt_of_le (hC.blkLt hp) a6.size
  ·exact Nat.lt_of_lt_of_le (TF.y y e) (Nat.le_trans hC.kept.size a6.size)
 have hV6:FL W6 (Js W2.heap.size bs Y) x p0 k0 p7 k7:=((hV.adv g2 (fun _ _ h=>h.elim) (fun _ _ h=>h)).adv hC.kept (S':=Js W2.heap.size bs Y) (fun _ _ h=>h.elim) (by
  rintro y hy (e|⟨p,hp,e⟩|e)
  ·omega
  ·have:=(hC.blk p hp).1;omega
  ·exact e)).adv a6 (fun _ _ e=>.inl e) (fun _ _ h=>h)
 have hcp:∀W,Ce (fun _=>False) W6 W->Calls prog 31 #[.agg #[.slice p0 176 k0,.int .i64 x.ht,.int .u64 x.root,.int .u64 x.model,.int .i64 x.fmt,.bool x.sh,.int .u64 x.used,.slice p7 x.rg.length k7,.bool x.sus,.int .i64 x.since,.int .i64 x.last]] W fun e W'=>∃q0 l0 q7 l7,e=.returned (.agg #[.slice q0 176 l0,.int .i64 x.ht,.int .u64 x.root,.int .u64 x.model,.int .i64 x.fmt,.bool x.sh,.int .u64 x.used,.slice q7 x.rg.length l7,.bool x.sus,.int .i64 x.since,.int .i64 x.last])∧Ce (fun _=>False) W W'∧FL W' (Js W2.heap.size bs Y) x q0 l0 q7 l7:=fun W hW=>by
  have h:=Ri (fun y hy=>Nat.lt_of_lt_of_le (hS6 y hy) hW.size) hx.1 (Nat.le_trans hx.2 (by omega)) (hV6.adv hW (fun _ _ h=>h.elim) (fun _ _ h=>h))
  simp only[Si,Bb] at h;exact h
 clear hW6 Ll gA nA hC3 GM NW;have Dy:(n:Int)<(n:Int)+1:=by omega
 go_wp2
 go_region_law_o (first|(refine Rh rfl rfl rfl ngA Try.func31 rfl (by simp[Act.eval,Act.put]) (hcp _ ?hW) ?_;(case hW=>exact Ce.drew W6);rintro e W4 ⟨q0,l0,q7,l7,he4,hA4,hV4⟩;refine⟨_,he4,?_⟩;have gA4:Ce (fun _=>False) W6 W4:=(Ce.drew W6).trans hA4 (fun _ _ h=>h);have d24:=e2;rw[←gA4.cell l6 (fun h=>h)] at d24;have Bk1:W2.heap.size<W4.heap.size:=Nat.lt_of_lt_of_le l6 gA4.size)|(have gn4:=Ce.new (E1.alloc W4 #[Value.slice q0 176 l0,.int .i64 x.ht,.int .u64 x.root,.int .u64 x.model,.int .i64 x.fmt,.bool x.sh,.int .u64 x.used,.slice q7 x.rg.length l7,.bool x.sus,.int .i64 x.since,.int .i64 x.last] 33);have hgw:=Dl.alloc W4 #[Value.slice q0 176 l0,.int .i64 x.ht,.int .u64 x.root,.int .u64 x.model,.int .i64 x.fmt,.bool x.sh,.int .u64 x.used,.slice q7 x.rg.length l7,.bool x.sus,.int .i64 x.since,.int .i64 x.last] 33;have Ll:=Ai7 (vb:=W4.heap.size) (vc:=1) (vs:=Si x q0 l0 q7 l7) rfl (Rf _ _ _ _ _) (fun j v hj=>by rw[hgw.cell j,List.getElem?_toArray];rw[Si,Bb] at hj;exact hj);have hV5:=hV4.adv gn4 (fun _ _ h=>h.elim) (fun _ _ h=>h);have g5:=gA4.trans gn4 fun _ _ h=>h;obtain⟨W5,hW5⟩:∃W5,W5=W4.alloc (.cells #[Value.slice q0 176 l0,.int .i64 x.ht,.int .u64 x.root,.int .u64 x.model,.int .i64 x.fmt,.bool x.sh,.int .u64 x.used,.slice q7 x.rg.length l7,.bool x.sus,.int .i64 x.since,.int .i64 x.last] 33):=⟨_,rfl⟩;rw[←hW5] at Ll hV5 g5 ⊢;obtain⟨G,hG⟩:∃G,G=grownCap W5 1 0 33:=⟨_,rfl⟩;have hG1:1<=G:=(by rw[hG];exact grownCap_ge W5 _ _ _);rw[←hG] at Ll;have row7:=Ai3 (S':=Js W2.heap.size (bs++[(W5.heap.size,G)]) Y) (T:=33) hV5 hG1 (fun y hy e=>Ab1 hy e);have g7:=g5.trans (Ce.new (E1.allocD W5 ((Si x q0 l0 q7 l7).toArray++Builtin.zeroCells Yr (G-1)) 33)) fun _ _ h=>h;obtain⟨W7,hW7⟩:∃W7,W7=W5.drew.alloc (.cells ((Si x q0 l0 q7 l7).toArray++Builtin.zeroCells Yr (G-1)) 33):=⟨_,rfl⟩;rw[←hW7] at Ll row7 g7;have d27:=e2;rw[←g7.cell l6 (fun h=>h)] at d27;have f27:=f6 (n*3+2);rw[←g7.frz l6 (fun h=>h)] at f27;have hF:=hC.fresh (W7:=W7) (a:=⟨nm,us,[x]⟩) (κ:=W5.heap.size) (G:=G) (by omega) ((a6.trans g7 fun _ _ h=>h.elim)) ((g7.bs l6 (fun h=>h)).trans s6) (fun j=>(g7.frz l6 (fun h=>h)).trans (f6 j)) (fun j hj=>by rw[g7.cell l6 (fun h=>h)];exact cout j (by omega)) (by rw[g7.cell l6 (fun h=>h),CZ];exact e0) (by rw[g7.cell l6 (fun h=>h),CZ];exact e1) (Nat.le_trans a6.size g5.size) hG1 row7 TF.y;rw[CZ] at hF;clear hW5 hW7 row7 hG;refine Ks rfl _ _ 46 46 rfl _ _ (by simp[Act.eval,Act.put]) (by simp[Act.eval,Act.put]) (Ll _) ?_))
 all_goals go_wp2
 all_goals go_ret2
 all_goals
  have ht:=hF.tree (Y:=Y) TF.y (by simp;omega) (fun _ h=>h)
  have ea:Az (ls++[⟨nm,us,[x]⟩])=List.flatMap Cw.cells ls++Cw.cells ⟨nm,us,[x]⟩:=by unfold Az;rw[List.flatMap_append];simp
  rw[AV,CZ,ea] at ht;exact⟨_,rfl,g2.trans hF.kept (fun _ _ h=>h),ht⟩
end
section
open Go.Proofs.Try (prog)
open Go.IntKind (wrap)
open Go.RowKit Go.Lib
theorem Nu.put {w:World}{S:Nat->Prop}{b sz o:Nat}{cells cells' ps:List PV}{vs:List Value}(h:Nu w S b sz cells)(hS:S b)(hv:Ba (fun p v=>M0 p∧As w S p v) ps vs) (h1:∀v∈vs,v.oneCell'=true)(Aji:o+ps.length<=sz)
  (Agb:∀(j:Nat) c,j<o->cells'[j]?=some c->cells[j]?=some c) (Bdc:∀j,j<ps.length->cells'[o+j]?=ps[j]?) (A9i:∀(j:Nat) c,o+ps.length<=j->cells'[j]?=some c->cells[j]?=some c):Nu (w.setCells b o vs) S b sz cells':=by
 have g:=Bf.setCells b vs o w;have ga:=(Ce.wrote g).weak (E':=S) fun x _ e=>e ▸ hS
 have hl:=hv.len;refine⟨by rw[g.size];exact h.lt,g.bs.trans h.sz,fun j=>(g.frz j).trans (h.fz j),fun j c hj=>?_⟩
 rw[B8,Cn];by_cases Tj:j<o
 ·obtain⟨v,a1,a2,a3⟩:=h.rd j c (Agb j c Tj hj);rw[B8,Cn] at a1;refine⟨v,?_,a2,a3.step ga.st fun _ _ x=>x⟩
  rw[World.cell?_setCells_out b _ _ _ ⟨b,j,none⟩ (fun _ _=>.inl Tj)]
  exact a1
 ·by_cases RP:j<o+ps.length
  ·have hm:=Bdc (j-o) (by omega)
   rw[show o+(j-o)=j by omega,hj] at hm
   have hvj:vs[j-o]?=some (vs[j-o]'(by omega)):=List.getElem?_eq_getElem _
   have:=World.cell?_setCells_in b vs o w (fun t ht=>h.cellAt (by omega)) (j-o) (by omega)
   rw[show o+(j-o)=j by omega] at this
   exact⟨_,this,h1 _ (List.mem_of_getElem? hvj),(hv.at_ hm.symm hvj).2.step ga.st fun _ _ x=>x⟩
  ·obtain⟨v,a1,a2,a3⟩:=h.rd j c (A9i j c (by omega) hj)
   rw[B8,Cn] at a1;refine⟨v,?_,a2,a3.step ga.st fun _ _ x=>x⟩
   rw[World.cell?_setCells_out b _ _ _ ⟨b,j,none⟩ (fun _ _=>.inr (by show o+vs.length<=j;omega))]
   exact a1
theorem NZ {l:List Sd}{k:Nat}{x:Sd}(hk:k<l.length){j:Nat}:(j<k*11∨k*11+11<=j->(Cf (l.set k x))[j]?=(Cf l)[j]?)∧(∀t,t<11->(Cf (l.set k x))[k*11+t]?=x.cells[t]?):=by
 have e1:Cf l=Cf (l.take k)++(Cf [l[k]]++Cf (l.drop (k+1))):=by
  unfold Cf;rw[←List.flatMap_append,←List.flatMap_append,List.singleton_append,List.getElem_cons_drop,List.take_append_drop]
 have e2:Cf (l.set k x)=Cf (l.take k)++(Cf [x]++Cf (l.drop (k+1))):=by
  rw[List.set_eq_take_append_cons_drop,J8 hk];unfold Cf;rw[List.flatMap_append,List.flatMap_cons];simp
 have l1:(Cf (l.take k)).length=k*11:=by rw[G7,List.length_take];omega
 have l2:∀y:Sd,(Cf [y]).length=11:=fun y=>G7 [y]
 rw[e1,e2];refine⟨fun h=>?_,fun t ht=>?_⟩
 ·by_cases hj:j<k*11
  ·rw[List.getElem?_append_left (by omega),List.getElem?_append_left (by omega)]
  ·have lx:=l2 x;have lk:=l2 l[k];rw[List.getElem?_append_right (by omega),List.getElem?_append_right (by omega),List.getElem?_append_right (by omega),List.getElem?_append_right (by omega),l2,l2]
 ·rw[List.getElem?_append_right (by omega),List.getElem?_append_left (by rw[l2];omega),l1,Nat.add_sub_cancel_left]
  have:Cf [x]=x.cells:=by simp[Cf]
  rw[this]
theorem X4.repl {w W:World}{Y:Nat->Prop}{B cap i k:Nat}{ls:List Cw}{bs:List (Nat × Nat)} {a:Cw}{bp:Nat × Nat}{x:Sd}{p0 p7:Option Addr}{k0 k7:Nat}(h:X4 w W Y B cap ls bs)(hi:ls[i]?=some a) (hb:bs[i]?=some bp) (hk:k<a.cr.length)
  (hV:FL W (Js B bs Y) x p0 k0 p7 k7):X4 w (W.setCells bp.1 (k*11) (Si x p0 k0 p7 k7)) Y B cap (ls.set i { a with cr:=a.cr.set k x }) bs:=by
 have hbm:=List.mem_of_getElem? hb;have GU:¬B=bp.1:=fun e=>(h.blk bp hbm).2 e.symm
 have Z8:Js B bs Y bp.1:=.inr (.inl ⟨bp,hbm,rfl⟩);obtain⟨_,_,d2,d3⟩:=h.cell i a bp hi hb;have row:=h.row i a bp hi hb;have sg:=fun j=>NZ (l:=a.cr) (x:=x) hk (j:=j)
 have row6:=row.put (cells':=Cf (a.cr.set k x)) (o:=k*11) Z8 (V8 hV) (Rf _ _ _ _ _) (by show k*11+11<=_;omega) (fun j c hj hc=>by rw[←(sg j).1 (.inl hj)];exact hc) (fun j hj=>(sg j).2 j hj) (fun j c hj hc=>by rw[←(sg j).1 (.inr hj)];exact hc)
 have g1:=Bf.setCells bp.1 (Si x p0 k0 p7 k7) (k*11) W;have a1:=Ce.wrote g1;refine h.set (a':={ a with cr:=a.cr.set k x }) hi hb rfl rfl (by show (a.cr.set k x).length<=_;rw[List.length_set];exact d3) (a1.weak (E':=fun y=>y=B∨y=bp.1) fun y _ e=>.inr e) ((a1.bs h.lt GU).trans h.szB) (fun j=>(a1.frz h.lt GU).trans (h.fzB j)) (fun j hj=>a1.cell h.lt GU) ?_ row6
 rw[a1.cell h.lt GU,d2];show _=some (Value.slice _ (a.cr.set k x).length _);rw[List.length_set]
set_option maxHeartbeats 1000000 in
set_option maxRecDepth 100000 in
theorem Ads {w:World}{Y:Nat->Prop}{ls:List Cw}{base:Option Addr}{n c i k:Nat}{a:Cw}{x:Sd}{nm:ByteArray}{p0 p7:Option Addr}{k0 k7:Nat}(hB:RY w Y ls n c base)(hV:FL w Y x p0 k0 p7 k7)(hx:x.sm)
  (JV:∀W,Ce (fun _=>False) w W->Calls prog 37 #[.slice base n c,.string nm,.slice p0 x.id.length k0] W fun e W'=>e=.returned (.tuple #[.int .i64 i,.int .i64 k,.bool true])∧Ce (fun _=>False) W W')
  (hi:ls[i]?=some a) (hk:k<a.cr.length):
  Calls prog 18 #[.slice base n c,.string nm,.agg #[.slice p0 x.id.length k0,.int .i64 x.ht,.int .u64 x.root,.int .u64 x.model,.int .i64 x.fmt,.bool x.sh,.int .u64 x.used,.slice p7 x.rg.length k7,.bool x.sus,.int .i64 x.since,.int .i64 x.last]] w
   fun e w'=>∃u,e=.returned (.tuple #[u,.int .i64 0])∧Ce (fun _=>False) w w'∧As w' Y (.lst false 3 n (Az (ls.set i { a with cr:=a.cr.set k x }))) u:=by
 have mixed:prog.follows Departure.mixedOrders=true:=by kernel_rfl
 have U0:=(List.getElem?_eq_some_iff.1 hi).1;have CZ:=hB.nl;have T0:(i:Int)<(n:Int):=by omega
 have hk0:(k:Int)<(a.cr.length:Int):=by omega
 go_enter Try.func18,Try.ntmps18
 go_wp2_with (go_at_call 37;refine (JV _ ?hO).mono ?_)
 case hO=>exact Ce.new (E1.alloc _ _ _)
 have pr0:=Par.new w [Value.slice p0 x.id.length k0,.int .i64 x.ht,.int .u64 x.root,.int .u64 x.model,.int .i64 x.fmt,.bool x.sh,.int .u64 x.used,.slice p7 x.rg.length k7,.bool x.sus,.int .i64 x.since,.int .i64 x.last] 33;intro e W1 he Yl;subst he;dsimp only;have g1:=(Ce.new (E1.alloc w _ _)).trans Yl fun _ _ h=>h
 have pr1:=pr0.adv Yl fun h=>h
 have TF:=hB.adv g1
 go_wp2_with (go_at_call 30;refine TF.copy.mono ?_)
 rintro e W3 ⟨bs,he,hC3⟩
 subst he;dsimp only;have hC:=hC3.cop;have pr3:=pr1.adv hC.kept fun h=>h
 have ebi:bs[i]?=some (bs[i]'(by rw[hC.len];exact U0)):=List.getElem?_eq_getElem _
 obtain⟨bp,hbp⟩:∃bp,bs[i]'(by rw[hC.len];exact U0)=bp:=⟨_,rfl⟩
 rw[hbp] at ebi;obtain⟨_,_,d2,d3⟩:=hC.cell i a bp hi ebi;obtain⟨κ,kc⟩:=bp;obtain rfl:kc=a.cr.length+1:=hC3.room i a _ hi ebi;clear hbp;dsimp only at d2
 have hS3:∀y,Js W1.heap.size bs Y y->y<W3.heap.size:=by
  rintro y (e|⟨p,hp,rfl⟩|e)
  ·rw[e];exact hC.lt
  ·exact hC.blkLt hp
  ·exact Nat.lt_of_lt_of_le (TF.y y e) hC.kept.size
 have hV3:FL W3 (Js W1.heap.size bs Y) x p0 k0 p7 k7:=(hV.adv g1 (fun _ _ h=>h.elim) (fun _ _ h=>h)).adv hC.kept (fun _ _ h=>h.elim) (by
  rintro y hy (e|⟨p,hp,e⟩|e)
  ·omega
  ·have:=(hC.blk p hp).1;omega
  ·exact e)
 have hcp:∀W,Ce (fun _=>False) W3 W->Calls prog 31 #[.agg #[.slice p0 x.id.length k0,.int .i64 x.ht,.int .u64 x.root,.int .u64 x.model,.int .i64 x.fmt,.bool x.sh,.int .u64 x.used,.slice p7 x.rg.length k7,.bool x.sus,.int .i64 x.since,.int .i64 x.last]] W fun e W'=>∃q0 l0 q7 l7,e=.returned (.agg #[.slice q0 x.id.length l0,.int .i64 x.ht,.int .u64 x.root,.int .u64 x.model,.int .i64 x.fmt,.bool x.sh,.int .u64 x.used,.slice q7 x.rg.length l7,.bool x.sus,.int .i64 x.since,.int .i64 x.last])∧Ce (fun _=>False) W W'∧FL W' (Js W1.heap.size bs Y) x q0 l0 q7 l7:=fun W hW=>
  Ri (fun y hy=>Nat.lt_of_lt_of_le (hS3 y hy) hW.size) hx.1 (Nat.le_trans hx.2 (by omega)) (hV3.adv hW (fun _ _ h=>h.elim) (fun _ _ h=>h))
 have p00:=pr3.2 0 _ rfl;have p01:=pr3.2 1 _ rfl;have p02:=pr3.2 2 _ rfl;have p03:=pr3.2 3 _ rfl;have p04:=pr3.2 4 _ rfl;have p05:=pr3.2 5 _ rfl;have p06:=pr3.2 6 _ rfl;have p07:=pr3.2 7 _ rfl;have p08:=pr3.2 8 _ rfl;have p09:=pr3.2 9 _ rfl;have p10:=pr3.2 10 _ rfl;have row3:=hC.row i a _ hi ebi;dsimp only at row3;have hyk:a.cr[k]?=some a.cr[k]:=List.getElem?_eq_getElem hk;obtain⟨y0,yk0,y7,yk7,hcy,_⟩:=QA row3.rd hyk;simp only[Cn] at hcy;clear JV hC3
 go_wp2
 go_region_law_o (refine Rh rfl rfl rfl ngA Try.func31 rfl (by simp[Act.eval,Act.put]) (hcp _ ?hW) ?_;(case hW=>exact Ce.drew W3);rintro e W4 ⟨q0,l0,q7,l7,he4,hA4,hV4⟩;refine⟨_,he4,?_⟩;have gA4:Ce (fun _=>False) W3 W4:=(Ce.drew W3).trans hA4 (fun _ _ h=>h);have d24:=d2;rw[←gA4.cell hC.lt (fun h=>h)] at d24;have hC4:=hC.adv gA4 (ex':=Y) (fun _ _ h=>h.elim) (fun _ _ h=>h);have hR:=hC4.repl hi ebi hk hV4;have f4:=(hC4.row i a _ hi ebi).fz;have AY:∀j v,(Si a.cr[k] y0 yk0 y7 yk7)[j]?=some v->W4.cell? ⟨κ,k*11+j,none⟩=some v:=fun j v hj=>(by rw[gA4.cell row3.lt (fun h=>h)];exact hcy j v hj);have y00:W4.cell? ⟨κ,k*11,none⟩=_:=AY 0 _ rfl;have y01:=AY 1 _ rfl;have y02:=AY 2 _ rfl;have y03:=AY 3 _ rfl;have y04:=AY 4 _ rfl;have y05:=AY 5 _ rfl;have y06:=AY 6 _ rfl;have y07:=AY 7 _ rfl;have y08:=AY 8 _ rfl;have y09:=AY 9 _ rfl;have Fi:=AY 10 _ rfl;clear AY)
 all_goals go_wp2
 all_goals go_ret2
 all_goals
  simp only[Si,World.setCells,Nat.add_assoc,Nat.reduceAdd] at hR;have ht:=hR.tree (Y:=Y) TF.y (by rw[List.length_set];omega) (fun _ h=>h)
  rw[List.length_set,CZ] at ht;exact⟨_,rfl,g1.trans hR.kept (fun _ _ h=>h),ht⟩
end
end Go.Proofs.Ytcgfahlefkfghaa.Pv
