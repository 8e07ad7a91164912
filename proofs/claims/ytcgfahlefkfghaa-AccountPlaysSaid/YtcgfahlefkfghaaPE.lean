/-
  The proof of AccountPlays, part 5.
-/
import Derived.Test.YtcgfahlefkfghaaPD
import Derived.Test.YtcgfahlefkfghaaRows
import Derived.Lib.BytesEntry
import Derived.Lib.Bytealg
import Derived.Lib.Walk
import Derived.WalkKit
import Derived.WalkMore
import Derived.Shelf.RegionOpenPlain
import Derived.Lib.Overlaps
import Derived.Lib.AppendZerosOnto
import Derived.Lib.SliceRun
import Derived.Laws.Externs
import Derived.Laws.IdiomCopy
import Derived.Laws.NewBlocks
import Derived.Laws.MakeOwn
set_option linter.unusedSimpArgs false
set_option linter.unusedVariables false
namespace Go.Proofs.Ytcgfahlefkfghaa.Pv
section
open Go.Proofs.Try (prog)
open Go.IntKind (wrap)
set_option maxRecDepth 100000
abbrev Gl:FuncId:=4
noncomputable def Bm (fu:Nat)(call:Ai)(Ap:Nat)(a0:List PV)(a1:Int)(nn:Nat)(y0:Int)(y1 y2:Nat)(y3:Int)(y4:Nat)(y5:List PV)(y6:Int)(y7 y8:List PV):Option A2:=Cu CB prog fu call 4 Try.f4 (Bw Try.f4) [.lst false 1 Ap a0,.sc (.int .u64 a1)] [.r,.r,.r,.l,.r,.l] nn ⟨lk [(1,(.sc (.int .u64 y0))),(5,(.ptr 5 0)),(6,(.view 6 3 0 y1)),(7,(.view 7 3 0 y2)),(8,(.sc (.int .i64 y3)))],Fx [(5,(.st [(.lst false 1 y4 y5),(.sc (.int .i64 y6))])),(6,(.ar false y7)),(7,(.ar false y8))]⟩
noncomputable def Au (fu:Nat)(call:Ai)(Ap:Nat)(a0:List PV)(a1:Int)(m0 nn:Nat)(y0:Int)(y1 y2:Nat)(y3:Int)(y4:ByteArray)(y5:Nat)(y6:List PV)(y7:Nat)(y8:List PV)(y9 Fi:Int)(Gi:Nat)(Ek:List PV)(Gg:Int)(Fu G5:List PV)(Ex:Nat)(Gq:List PV)(N9 Nz:Int)(N5 N2:Int)(Oh:Bool)(Oc:Int)(Oj:Nat)(Oa:List PV)(N1:Bool)(Oo I3:Int):Option A2:=Cu CB prog fu call 4 Try.f4 (Bw Try.f4) [.lst false 1 Ap a0,.sc (.int .u64 a1)] [.r,.r,.r,.l,.r,.l,.i m0,.r,.l,.l,.r,.r,.r,.r,.r,.r] nn ⟨lk [(1,(.sc (.int .u64 y0))),(5,(.ptr 5 0)),(6,(.view 6 3 0 y1)),(7,(.view 7 3 0 y2)),(8,(.sc (.int .i64 y3))),(9,(.sc (.string y4))),(10,(.ptr 10 0)),(11,(.lst false 3 y5 y6)),(12,(.lst false 3 y7 y8)),(13,(.sc (.int .i64 y9))),(14,(.sc (.int .i64 Fi)))],Fx [(5,(.st [(.lst false 1 Gi Ek),(.sc (.int .i64 Gg))])),(6,(.ar true Fu)),(7,(.ar true G5)),(10,(.st [(.lst false 1 Ex Gq),(.sc (.int .i64 N9)),(.sc (.int .u64 Nz)),(.sc (.int .u64 N5)),(.sc (.int .i64 N2)),(.sc (.bool Oh)),(.sc (.int .u64 Oc)),(.lst false 2 Oj Oa),(.sc (.bool N1)),(.sc (.int .i64 Oo)),(.sc (.int .i64 I3))]))]⟩
noncomputable def B0 (fu:Nat)(call:Ai)(Ap:Nat)(a0:List PV)(a1:Int)(m0 nn:Nat)(y0:Int)(y1 y2:Nat)(y3:Int)(y4:ByteArray)(y5:Nat)(y6:List PV)(y7:Nat)(y8:List PV)(y9 Fi:Int)(Gi:Nat)(Ek:List PV)(Gg:Int)(Fu G5:List PV)(Ex:Nat)(Gq N9:Int)(Nz N5:Int)(N2:Bool)(Oh:Int)(Oc:Nat)(Oj:List PV)(Oa:Bool)(N1 Oo:Int)(I3:List PV):Option A2:=Cu CB prog fu call 4 Try.f4 (Bw Try.f4) [.lst false 1 Ap a0,.sc (.int .u64 a1)] [.r,.r,.r,.l,.r,.l,.i m0,.r,.l,.l,.r,.r,.r,.r,.r,.r] nn ⟨lk [(1,(.sc (.int .u64 y0))),(5,(.ptr 5 0)),(6,(.view 6 3 0 y1)),(7,(.view 7 3 0 y2)),(8,(.sc (.int .i64 y3))),(9,(.sc (.string y4))),(10,(.ptr 10 0)),(11,(.lst false 3 y5 y6)),(12,(.lst false 3 y7 y8)),(13,(.sc (.int .i64 y9))),(14,(.sc (.int .i64 Fi)))],Fx [(5,(.st [(.lst false 1 Gi Ek),(.sc (.int .i64 Gg))])),(6,(.ar true Fu)),(7,(.ar true G5)),(10,(.st [(.view 200 1 0 Ex),(.sc (.int .i64 Gq)),(.sc (.int .u64 N9)),(.sc (.int .u64 Nz)),(.sc (.int .i64 N5)),(.sc (.bool N2)),(.sc (.int .u64 Oh)),(.lst false 2 Oc Oj),(.sc (.bool Oa)),(.sc (.int .i64 N1)),(.sc (.int .i64 Oo))])),(200,(.ar true I3))]⟩
noncomputable def Ak (fu:Nat)(call:Ai)(Ap:Nat)(a0:List PV)(a1:Int)(nn:Nat)(y0:Int)(y1:Nat)(y2:List PV)(y3:Nat)(y4:List PV)(y5:Int)(y6:Nat)(y7:List PV)(y8:Int):Option A2:=Cu CB prog fu call 4 Try.f4 (Bw Try.f4) [.lst false 1 Ap a0,.sc (.int .u64 a1)] [.r,.r,.r,.l,.r,.l] nn ⟨lk [(1,(.sc (.int .u64 y0))),(5,(.ptr 5 0)),(6,(.lst false 3 y1 y2)),(7,(.lst false 3 y3 y4)),(8,(.sc (.int .i64 y5)))],Fx [(5,(.st [(.lst false 1 y6 y7),(.sc (.int .i64 y8))]))]⟩
noncomputable def A1 (fu:Nat)(call:Ai)(Ap:Nat)(a0:List PV)(a1:Int)(nn:Nat)(y0:Int)(y1 y2:Nat)(y3:Int)(y4:Nat)(y5:List PV)(y6:Int)(y7 y8:List PV):Option A2:=Cu CB prog fu call 4 Try.f4 (Bw Try.f4) [.lst false 1 Ap a0,.sc (.int .u64 a1)] [.r,.r,.r,.l,.r,.l] nn ⟨lk [(1,(.sc (.int .u64 y0))),(5,(.ptr 5 0)),(6,(.view 6 3 0 y1)),(7,(.view 7 3 0 y2)),(8,(.sc (.int .i64 y3)))],Fx [(5,(.st [(.lst false 1 y4 y5),(.sc (.int .i64 y6))])),(6,(.ar true y7)),(7,(.ar true y8))]⟩
noncomputable def Bc (fu:Nat)(call:Ai)(Ap:Nat)(a0:List PV)(a1:Int)(m0 nn:Nat)(y0:Int)(y1:Nat)(y2:List PV)(y3:Nat)(y4:List PV)(y5:Int)(y6:ByteArray)(y7:Nat)(y8:List PV)(y9:Nat)(Fi:List PV)(Gi Ek:Int)(Gg:Nat)(Fu:List PV)(G5:Int)(Ex:Nat)(Gq:List PV)(N9 Nz:Int)(N5 N2:Int)(Oh:Bool)(Oc:Int)(Oj:Nat)(Oa:List PV)(N1:Bool)(Oo I3:Int):Option A2:=Cu CB prog fu call 4 Try.f4 (Bw Try.f4) [.lst false 1 Ap a0,.sc (.int .u64 a1)] [.r,.r,.r,.l,.r,.l,.i m0,.r,.l,.l,.r,.r,.r,.r,.r,.r] nn ⟨lk [(1,(.sc (.int .u64 y0))),(5,(.ptr 5 0)),(6,(.lst false 3 y1 y2)),(7,(.lst false 3 y3 y4)),(8,(.sc (.int .i64 y5))),(9,(.sc (.string y6))),(10,(.ptr 10 0)),(11,(.lst false 3 y7 y8)),(12,(.lst false 3 y9 Fi)),(13,(.sc (.int .i64 Gi))),(14,(.sc (.int .i64 Ek)))],Fx [(5,(.st [(.lst false 1 Gg Fu),(.sc (.int .i64 G5))])),(10,(.st [(.lst false 1 Ex Gq),(.sc (.int .i64 N9)),(.sc (.int .u64 Nz)),(.sc (.int .u64 N5)),(.sc (.int .i64 N2)),(.sc (.bool Oh)),(.sc (.int .u64 Oc)),(.lst false 2 Oj Oa),(.sc (.bool N1)),(.sc (.int .i64 Oo)),(.sc (.int .i64 I3))]))]⟩
noncomputable def Cr (fu:Nat)(call:Ai)(Ap:Nat)(a0:List PV)(a1:Int)(m0 nn:Nat)(y0:Int)(y1:Nat)(y2:List PV)(y3:Nat)(y4:List PV)(y5:Int)(y6:ByteArray)(y7:Nat)(y8:List PV)(y9:Nat)(Fi:List PV)(Gi Ek:Int)(Gg:Nat)(Fu:List PV)(G5:Int)(Ex:Nat)(Gq N9:Int)(Nz N5:Int)(N2:Bool)(Oh:Int)(Oc:Nat)(Oj:List PV)(Oa:Bool)(N1 Oo:Int)(I3:List PV):Option A2:=Cu CB prog fu call 4 Try.f4 (Bw Try.f4) [.lst false 1 Ap a0,.sc (.int .u64 a1)] [.r,.r,.r,.l,.r,.l,.i m0,.r,.l,.l,.r,.r,.r,.r,.r,.r] nn ⟨lk [(1,(.sc (.int .u64 y0))),(5,(.ptr 5 0)),(6,(.lst false 3 y1 y2)),(7,(.lst false 3 y3 y4)),(8,(.sc (.int .i64 y5))),(9,(.sc (.string y6))),(10,(.ptr 10 0)),(11,(.lst false 3 y7 y8)),(12,(.lst false 3 y9 Fi)),(13,(.sc (.int .i64 Gi))),(14,(.sc (.int .i64 Ek)))],Fx [(5,(.st [(.lst false 1 Gg Fu),(.sc (.int .i64 G5))])),(10,(.st [(.view 200 1 0 Ex),(.sc (.int .i64 Gq)),(.sc (.int .u64 N9)),(.sc (.int .u64 Nz)),(.sc (.int .i64 N5)),(.sc (.bool N2)),(.sc (.int .u64 Oh)),(.lst false 2 Oc Oj),(.sc (.bool Oa)),(.sc (.int .i64 N1)),(.sc (.int .i64 Oo))])),(200,(.ar true I3))]⟩
theorem Fl (fu:Nat)(call:Ai)(Ap:Nat)(a0:List PV)(a1:Int)(nn:Nat)(y0:Int)(y1 y2:Nat)(y3:Int)(y4:Nat)(y5:List PV)(y6:Int)(y7 y8:List PV):Bm fu call Ap a0 a1 (nn+1) y0 y1 y2 y3 y4 y5 y6 y7 y8=(Bd (decide (y3<60)) (Af (call 7 [.pbox [.lst false 1 y4 y5,.sc (.int .i64 y6)]]) fun La K9=>Aa La fun Nk Pu=>Av Nk fun Mz=>Ac Pu<|Aa K9 fun H2 Mt=>Aa H2 fun Mf Qg=>Ca 1 Mf fun Rh Ph Zd=>Aa Qg fun X5 Ub=>Ae .i64 X5 fun DM=>Ac Ub<|Ac Mt<|Bd Mz (Af (call 10 [.pbox [.lst false 1 Ph Zd,.sc (.int .i64 DM)],.sc (.int .i64 20)]) fun Ui O1=>Aa Ui fun Sb Z4=>Ae .i64 Sb fun Wx=>Ac Z4<|Aa O1 fun X8 CA=>Aa X8 fun AW Yb=>Ca 1 AW fun HN MA BO=>Aa Yb fun NF PA=>Ae .i64 NF fun BK=>Ac PA<|Ac CA<|An (decide (0<=Wx)&&decide (Wx<20))<|E2 (List.getD [.sc (.string (ByteArray.mk #[97])),.sc (.string (ByteArray.mk #[98])),.sc (.string (ByteArray.mk #[99])),.sc (.string (ByteArray.mk #[100])),.sc (.string (ByteArray.mk #[101])),.sc (.string (ByteArray.mk #[102])),.sc (.string (ByteArray.mk #[103])),.sc (.string (ByteArray.mk #[104])),.sc (.string (ByteArray.mk #[105])),.sc (.string (ByteArray.mk #[106])),.sc (.string (ByteArray.mk #[107])),.sc (.string (ByteArray.mk #[108])),.sc (.string (ByteArray.mk #[109])),.sc (.string (ByteArray.mk #[110])),.sc (.string (ByteArray.mk #[111])),.sc (.string (ByteArray.mk #[112])),.sc (.string (ByteArray.mk #[113])),.sc (.string (ByteArray.mk #[114])),.sc (.string (ByteArray.mk #[])),.sc (.string (ByteArray.mk #[48,49,50,51,52,53,54,55,56,57,48,49,50,51,52,53,54,55,56,57,48,49,50,51,52,53,54,55,56,57,48,49,50,51]))] (0+Int.toNat Wx*1) .top) fun Oy=>Af (call 10 [.pbox [.lst false 1 MA BO,.sc (.int .i64 BK)],.sc (.int .i64 12)]) fun KC NC=>Aa KC fun QA OV=>Ae .i64 QA fun QR=>Ac OV<|Aa NC fun DY PO=>Aa DY fun RQ NJ=>Ca 1 RQ fun X3 FX RT=>Aa NJ fun BU GU=>Ae .i64 BU fun LO=>Ac GU<|Ac PO<|Af (call 8 [.sc (.int .i64 QR),.sc (.int .i64 1)]) fun ND FQ=>Ac FQ<|Aa ND fun JF XC=>Ge JF fun JA=>Aa JA fun TW UB=>Ca 1 TW fun WO Zy FG=>Aa UB fun x70 GZ=>Ae .i64 x70 fun Tu=>Aa GZ fun XQ QT=>Ae .u64 XQ fun Tp=>Aa QT fun x76 x77=>Ae .u64 x76 fun U6=>Aa x77 fun x79 x80=>Ae .i64 x79 fun X4=>Aa x80 fun x82 x83=>Av x82 fun Zq=>Aa x83 fun x85 x86=>Ae .u64 x85 fun AM=>Aa x86 fun x88 x89=>Ca 2 x88 fun x90 Zw Yi=>Aa x89 fun x93 x94=>Av x93 fun x95=>Aa x94 fun x96 x97=>Ae .i64 x96 fun BF=>Aa x97 fun x99 Agc=>Ae .i64 x99 fun Ml=>Ac Agc<|Ac XC<|Af (call 10 [.pbox [.lst false 1 FX RT,.sc (.int .i64 LO)],.sc (.int .i64 3)]) fun Aco Aev=>Aa Aco fun Aea GJ=>Ae .i64 Aea fun Mm=>Ac GJ<|Aa Aev fun Aex Agy=>Aa Aex fun Adb Afm=>Ca 1 Adb fun Aiw Acp Adi=>Aa Afm fun Afw Adx=>Ae .i64 Afw fun Ag9=>Ac Adx<|Ac Agy<|Af (call 10 [.pbox [.lst false 1 Acp Adi,.sc (.int .i64 Ag9)],.sc (.int .i64 20)]) fun Adu Aix=>Aa Adu fun Ab5 Ace=>Ae .i64 Ab5 fun Ac7=>Ac Ace<|Aa Aix fun Adg Ag8=>Aa Adg fun Aft Afl=>Ca 1 Aft fun Ajy Aat YN=>Aa Afl fun Acy Ab2=>Ae .i64 Acy fun Aaj=>Ac Ab2<|Ac Ag8<|Bd (Ac7==19) (Af (call 10 [.pbox [.lst false 1 Aat YN,.sc (.int .i64 Aaj)],.sc (.int .i64 176)]) fun Ad3 Ab8=>Aa Ad3 fun Adp Adh=>Ae .i64 Adp fun SF=>Ac Adh<|Aa Ab8 fun Agb Acz=>Aa Agb fun Adl Ajf=>Ca 1 Adl fun Ahz Ada Ae4=>Aa Ajf fun UC Afg=>Ae .i64 UC fun Aeg=>Ac Afg<|Ac Acz<|An (decide (0<=SF))<|An (decide (Int.toNat SF<=Zy))<|Ab (Int.toNat SF-0) fun Xe=>Ab (List.take (Xe*1) (List.drop 0 FG)) fun Ys=>Af (call 10 [.pbox [.lst false 1 Ada Ae4,.sc (.int .i64 Aeg)],.sc (.int .i64 5)]) fun Amy Apc=>Aa Amy fun Aq0 Ap0=>Ae .i64 Aq0 fun Ajq=>Ac Ap0<|Aa Apc fun Apv Amv=>Aa Apv fun Ao7 Amq=>Ca 1 Ao7 fun As1 Afn Ae1=>Aa Amq fun Aoj Ams=>Ae .i64 Aoj fun Ai0=>Ac Ams<|Ac Amv<|Bd (Ajq==0) (An (decide (0+y1*3<=y7.length))<|Af (call 16 [.lst false 3 y1 (List.take (y1*3) (List.drop 0 y7)),.sc (.string Oy),.lst false 1 Xe Ys]) fun Apf Ao8=>Ac Ao8<|Aa Apf fun An3 Am5=>Ca 3 An3 fun Avi Anl Aq1=>Aa Am5 fun Aqh Apz=>Ae .i64 Aqh fun Anv=>Ac Apz<|An (decide (0+y2*3<=y8.length))<|Af (call 17 [.lst false 3 y2 (List.take (y2*3) (List.drop 0 y8)),.sc (.string Oy),.lst false 1 Xe Ys]) fun Apr An2=>Ac An2<|Aa Apr fun Aoq Apu=>Ca 3 Aoq fun Av6 Am2 Aqb=>Aa Apu fun Amo Ao4=>Ae .i64 Amo fun Ao3=>Ac Ao4<|Au fu call Ap a0 a1 nn (fu) (y0) (y1) (y2) (y3) Oy Anl Aq1 Am2 Aqb Anv Ao3 Afn Ae1 Ai0 (y7) (y8) Xe Ys Tu Tp U6 X4 Zq AM Zw Yi (Mm==2) BF Ml) (Bd (Ajq==1) (An (decide (0+y1*3<=y7.length))<|Af (call 18 [.lst false 3 y1 (List.take (y1*3) (List.drop 0 y7)),.sc (.string Oy),.agg [.lst false 1 Xe Ys,.sc (.int .i64 Tu),.sc (.int .u64 Tp),.sc (.int .u64 U6),.sc (.int .i64 X4),.sc (.bool Zq),.sc (.int .u64 AM),.lst false 2 Zw Yi,.sc (.bool (Mm==2)),.sc (.int .i64 BF),.sc (.int .i64 Ml)]]) fun An9 A31=>Ac A31<|Aa An9 fun Apx Ane=>Ca 3 Apx fun Auk Aoy Amj=>Aa Ane fun Aqj Aq2=>Ae .i64 Aqj fun Aqy=>Ac Aq2<|An (decide (0+y2*3<=y8.length))<|Af (call 19 [.lst false 3 y2 (List.take (y2*3) (List.drop 0 y8)),.sc (.string Oy),.agg [.lst false 1 Xe Ys,.sc (.int .i64 Tu),.sc (.int .u64 Tp),.sc (.int .u64 U6),.sc (.int .i64 X4),.sc (.bool Zq),.sc (.int .u64 AM),.lst false 2 Zw Yi,.sc (.bool (Mm==2)),.sc (.int .i64 BF),.sc (.int .i64 Ml)]]) fun Am9 Aqw=>Ac Aqw<|Aa Am9 fun Amt Anz=>Ca 3 Amt fun Awy Ao1 Aql=>Aa Anz fun Aqd Apq=>Ae .i64 Aqd fun Aqo=>Ac Apq<|Au fu call Ap a0 a1 nn (fu) (y0) (y1) (y2) (y3) Oy Aoy Amj Ao1 Aql Aqy Aqo Afn Ae1 Ai0 (y7) (y8) Xe Ys Tu Tp U6 X4 Zq AM Zw Yi (Mm==2) BF Ml) (Af (call 10 [.pbox [.lst false 1 Afn Ae1,.sc (.int .i64 Ai0)],.sc (.int .i64 2)]) fun Ap6 Anj=>Aa Ap6 fun App Ap3=>Ae .i64 App fun A4r=>Ac Ap3<|Aa Anj fun Aqx Apw=>Aa Aqx fun Am0 Aoc=>Ca 1 Am0 fun A9k Aie Aju=>Aa Aoc fun Aoz Ap8=>Ae .i64 Aoz fun Air=>Ac Ap8<|Ac Apw<|Bd (A4r==1) (Ab (wrap .i64 (900+y3)) fun Anx=>Af (call 9 [.sc (.int .i64 Anx),.sc (.int .i64 176)]) fun Aqp Aow=>Ac Aow<|Aa Aqp fun Amz Aoi=>Kc 1 Amz fun LL SN=>Ac Aoi<|An (decide (0+y1*3<=y7.length))<|An (decide (0+LL*1<=SN.length))<|Af (call 11 [.lst false 3 y1 (List.take (y1*3) (List.drop 0 y7)),.sc (.string Oy),.sc (.string (ByteArray.mk #[117,115,101,114])),.agg [.lst false 1 LL (List.take (LL*1) (List.drop 0 SN)),.sc (.int .i64 Tu),.sc (.int .u64 Tp),.sc (.int .u64 U6),.sc (.int .i64 X4),.sc (.bool Zq),.sc (.int .u64 AM),.lst false 2 Zw Yi,.sc (.bool (Mm==2)),.sc (.int .i64 BF),.sc (.int .i64 Ml)]]) fun Aqa A2a=>Ac A2a<|Aa Aqa fun Ant Ao5=>Ca 3 Ant fun A06 Amk Ap9=>Aa Ao5 fun Apb Anr=>Ae .i64 Apb fun Ao2=>Ac Anr<|An (decide (0+y2*3<=y8.length))<|An (decide (0+LL*1<=SN.length))<|Af (call 20 [.lst false 3 y2 (List.take (y2*3) (List.drop 0 y8)),.sc (.string Oy),.sc (.string (ByteArray.mk #[117,115,101,114])),.agg [.lst false 1 LL (List.take (LL*1) (List.drop 0 SN)),.sc (.int .i64 Tu),.sc (.int .u64 Tp),.sc (.int .u64 U6),.sc (.int .i64 X4),.sc (.bool Zq),.sc (.int .u64 AM),.lst false 2 Zw Yi,.sc (.bool (Mm==2)),.sc (.int .i64 BF),.sc (.int .i64 Ml)]]) fun Aps Apo=>Ac Apo<|Aa Aps fun Am3 Ann=>Ca 3 Am3 fun A4m Aqc Anh=>Aa Ann fun Ao6 An0=>Ae .i64 Ao6 fun Apn=>Ac An0<|B0 fu call Ap a0 a1 nn (fu) (y0) (y1) (y2) (y3) Oy Amk Ap9 Aqc Anh Ao2 Apn Aie Aju Air (y7) (y8) LL Tu Tp U6 X4 Zq AM Zw Yi (Mm==2) BF Ml SN) (An (decide (0+y1*3<=y7.length))<|Af (call 11 [.lst false 3 y1 (List.take (y1*3) (List.drop 0 y7)),.sc (.string Oy),.sc (.string (ByteArray.mk #[117,115,101,114])),.agg [.lst false 1 Xe Ys,.sc (.int .i64 Tu),.sc (.int .u64 Tp),.sc (.int .u64 U6),.sc (.int .i64 X4),.sc (.bool Zq),.sc (.int .u64 AM),.lst false 2 Zw Yi,.sc (.bool (Mm==2)),.sc (.int .i64 BF),.sc (.int .i64 Ml)]]) fun Ayu Bjc=>Ac Bjc<|Aa Ayu fun Bto Bgs=>Ca 3 Bto fun Bzb Bp4 Bi7=>Aa Bgs fun Bff Br0=>Ae .i64 Bff fun Bmj=>Ac Br0<|An (decide (0+y2*3<=y8.length))<|Af (call 20 [.lst false 3 y2 (List.take (y2*3) (List.drop 0 y8)),.sc (.string Oy),.sc (.string (ByteArray.mk #[117,115,101,114])),.agg [.lst false 1 Xe Ys,.sc (.int .i64 Tu),.sc (.int .u64 Tp),.sc (.int .u64 U6),.sc (.int .i64 X4),.sc (.bool Zq),.sc (.int .u64 AM),.lst false 2 Zw Yi,.sc (.bool (Mm==2)),.sc (.int .i64 BF),.sc (.int .i64 Ml)]]) fun Bsm Bj2=>Ac Bj2<|Aa Bsm fun Bgu Bcn=>Ca 3 Bgu fun Bzh Bpk Bsj=>Aa Bcn fun Bqf Bkx=>Ae .i64 Bqf fun Bsw=>Ac Bkx<|Au fu call Ap a0 a1 nn (fu) (y0) (y1) (y2) (y3) Oy Bp4 Bi7 Bpk Bsj Bmj Bsw Aie Aju Air (y7) (y8) Xe Ys Tu Tp U6 X4 Zq AM Zw Yi (Mm==2) BF Ml)))) (Af (call 10 [.pbox [.lst false 1 Aat YN,.sc (.int .i64 Aaj)],.sc (.int .i64 5)]) fun Bn0 Bq5=>Aa Bn0 fun Bd3 Bge=>Ae .i64 Bd3 fun A0p=>Ac Bge<|Aa Bq5 fun Brs Bdq=>Aa Brs fun Bq3 Bqk=>Ca 1 Bq3 fun B0y Apm Ape=>Aa Bqk fun Bc7 Bko=>Ae .i64 Bc7 fun Aml=>Ac Bko<|Ac Bdq<|Bd (A0p==0) (An (decide (0+y1*3<=y7.length))<|Af (call 16 [.lst false 3 y1 (List.take (y1*3) (List.drop 0 y7)),.sc (.string Oy),.lst false 1 Zy FG]) fun Bg8 Buc=>Ac Buc<|Aa Bg8 fun Bhd Bb0=>Ca 3 Bhd fun B0n Bno Bfx=>Aa Bb0 fun Blk Bni=>Ae .i64 Blk fun Bm5=>Ac Bni<|An (decide (0+y2*3<=y8.length))<|Af (call 17 [.lst false 3 y2 (List.take (y2*3) (List.drop 0 y8)),.sc (.string Oy),.lst false 1 Zy FG]) fun Bkr Br6=>Ac Br6<|Aa Bkr fun Bpx Bnm=>Ca 3 Bpx fun Bze Bsu Btz=>Aa Bnm fun Bvo Bg5=>Ae .i64 Bvo fun Bhv=>Ac Bg5<|Au fu call Ap a0 a1 nn (fu) (y0) (y1) (y2) (y3) Oy Bno Bfx Bsu Btz Bm5 Bhv Apm Ape Aml (y7) (y8) Zy FG Tu Tp U6 X4 Zq AM Zw Yi (Mm==2) BF Ml) (Bd (A0p==1) (An (decide (0+y1*3<=y7.length))<|Af (call 18 [.lst false 3 y1 (List.take (y1*3) (List.drop 0 y7)),.sc (.string Oy),.agg [.lst false 1 Zy FG,.sc (.int .i64 Tu),.sc (.int .u64 Tp),.sc (.int .u64 U6),.sc (.int .i64 X4),.sc (.bool Zq),.sc (.int .u64 AM),.lst false 2 Zw Yi,.sc (.bool (Mm==2)),.sc (.int .i64 BF),.sc (.int .i64 Ml)]]) fun Bfc Bg4=>Ac Bg4<|Aa Bfc fun Bvp Be0=>Ca 3 Bvp fun B0o Bmk Buy=>Aa Be0 fun Bo8 Bj3=>Ae .i64 Bo8 fun Bid=>Ac Bj3<|An (decide (0+y2*3<=y8.length))<|Af (call 19 [.lst false 3 y2 (List.take (y2*3) (List.drop 0 y8)),.sc (.string Oy),.agg [.lst false 1 Zy FG,.sc (.int .i64 Tu),.sc (.int .u64 Tp),.sc (.int .u64 U6),.sc (.int .i64 X4),.sc (.bool Zq),.sc (.int .u64 AM),.lst false 2 Zw Yi,.sc (.bool (Mm==2)),.sc (.int .i64 BF),.sc (.int .i64 Ml)]]) fun Bvm Bck=>Ac Bck<|Aa Bvm fun Bvw Bnn=>Ca 3 Bvw fun B0x Bf3 Bec=>Aa Bnn fun Bhk Bja=>Ae .i64 Bhk fun Bur=>Ac Bja<|Au fu call Ap a0 a1 nn (fu) (y0) (y1) (y2) (y3) Oy Bmk Buy Bf3 Bec Bid Bur Apm Ape Aml (y7) (y8) Zy FG Tu Tp U6 X4 Zq AM Zw Yi (Mm==2) BF Ml) (Af (call 10 [.pbox [.lst false 1 Apm Ape,.sc (.int .i64 Aml)],.sc (.int .i64 2)]) fun Bgv Bk3=>Aa Bgv fun Bn8 Bgf=>Ae .i64 Bn8 fun Bde=>Ac Bgf<|Aa Bk3 fun Bmb Bkf=>Aa Bmb fun Bmf Bfz=>Ca 1 Bmf fun B0j A9h A2o=>Aa Bfz fun Bek Bmy=>Ae .i64 Bek fun A9n=>Ac Bmy<|Ac Bkf<|Bd (Bde==1) (Ab (wrap .i64 (900+y3)) fun Bhn=>Af (call 9 [.sc (.int .i64 Bhn),.sc (.int .i64 176)]) fun Bgp Bf0=>Ac Bf0<|Aa Bgp fun Bod Buk=>Kc 1 Bod fun UZ Aen=>Ac Buk<|An (decide (0+y1*3<=y7.length))<|An (decide (0+UZ*1<=Aen.length))<|Af (call 11 [.lst false 3 y1 (List.take (y1*3) (List.drop 0 y7)),.sc (.string Oy),.sc (.string (ByteArray.mk #[117,115,101,114])),.agg [.lst false 1 UZ (List.take (UZ*1) (List.drop 0 Aen)),.sc (.int .i64 Tu),.sc (.int .u64 Tp),.sc (.int .u64 U6),.sc (.int .i64 X4),.sc (.bool Zq),.sc (.int .u64 AM),.lst false 2 Zw Yi,.sc (.bool (Mm==2)),.sc (.int .i64 BF),.sc (.int .i64 Ml)]]) fun Bp9 Bix=>Ac Bix<|Aa Bp9 fun Bjn Bs9=>Ca 3 Bjn fun Byz Bpm Bf6=>Aa Bs9 fun Bcf Bp3=>Ae .i64 Bcf fun Bqi=>Ac Bp3<|An (decide (0+y2*3<=y8.length))<|An (decide (0+UZ*1<=Aen.length))<|Af (call 20 [.lst false 3 y2 (List.take (y2*3) (List.drop 0 y8)),.sc (.string Oy),.sc (.string (ByteArray.mk #[117,115,101,114])),.agg [.lst false 1 UZ (List.take (UZ*1) (List.drop 0 Aen)),.sc (.int .i64 Tu),.sc (.int .u64 Tp),.sc (.int .u64 U6),.sc (.int .i64 X4),.sc (.bool Zq),.sc (.int .u64 AM),.lst false 2 Zw Yi,.sc (.bool (Mm==2)),.sc (.int .i64 BF),.sc (.int .i64 Ml)]]) fun Bu5 Bnl=>Ac Bnl<|Aa Bu5 fun Bow Blt=>Ca 3 Bow fun Byq Bu3 Btq=>Aa Blt fun Bvq Bs6=>Ae .i64 Bvq fun Bga=>Ac Bs6<|B0 fu call Ap a0 a1 nn (fu) (y0) (y1) (y2) (y3) Oy Bpm Bf6 Bu3 Btq Bqi Bga A9h A2o A9n (y7) (y8) UZ Tu Tp U6 X4 Zq AM Zw Yi (Mm==2) BF Ml Aen) (An (decide (0+y1*3<=y7.length))<|Af (call 11 [.lst false 3 y1 (List.take (y1*3) (List.drop 0 y7)),.sc (.string Oy),.sc (.string (ByteArray.mk #[117,115,101,114])),.agg [.lst false 1 Zy FG,.sc (.int .i64 Tu),.sc (.int .u64 Tp),.sc (.int .u64 U6),.sc (.int .i64 X4),.sc (.bool Zq),.sc (.int .u64 AM),.lst false 2 Zw Yi,.sc (.bool (Mm==2)),.sc (.int .i64 BF),.sc (.int .i64 Ml)]]) fun Bte Bbu=>Ac Bbu<|Aa Bte fun Bqt Bfb=>Ca 3 Bqt fun Bzj Bm6 Bpz=>Aa Bfb fun Ble Bll=>Ae .i64 Ble fun Bhg=>Ac Bll<|An (decide (0+y2*3<=y8.length))<|Af (call 20 [.lst false 3 y2 (List.take (y2*3) (List.drop 0 y8)),.sc (.string Oy),.sc (.string (ByteArray.mk #[117,115,101,114])),.agg [.lst false 1 Zy FG,.sc (.int .i64 Tu),.sc (.int .u64 Tp),.sc (.int .u64 U6),.sc (.int .i64 X4),.sc (.bool Zq),.sc (.int .u64 AM),.lst false 2 Zw Yi,.sc (.bool (Mm==2)),.sc (.int .i64 BF),.sc (.int .i64 Ml)]]) fun Bq4 Bhb=>Ac Bhb<|Aa Bq4 fun Bcj Bip=>Ca 3 Bcj fun B1r Bbk Biv=>Aa Bip fun Bt4 Bt7=>Ae .i64 Bt4 fun Bvk=>Ac Bt7<|Au fu call Ap a0 a1 nn (fu) (y0) (y1) (y2) (y3) Oy Bm6 Bpz Bbk Biv Bhg Bvk A9h A2o A9n (y7) (y8) Zy FG Tu Tp U6 X4 Zq AM Zw Yi (Mm==2) BF Ml))))) (Af (call 5 []) fun Bfd Bd8=>Ac Bd8<|Aa Bfd fun Bm3 Bhy=>Av Bm3 fun Bgm=>Ac Bhy<|some (A2.mk [.sc (.bool Bgm)] []))) (Af (call 5 []) fun Bqc Bgy=>Ac Bgy<|Aa Bqc fun Bch Blw=>Av Bch fun Bp6=>Ac Blw<|some (A2.mk [.sc (.bool Bp6)] []))):=by kernel_rfl
theorem Kf (fu:Nat)(call:Ai)(Ap:Nat)(a0:List PV)(a1:Int)(m0 nn:Nat)(Dy:0<nn)(y0:Int)(y1 y2:Nat)(y3:Int)(y4:ByteArray)(y5:Nat)(y6:List PV)(y7:Nat)(y8:List PV)(y9 Fi:Int)(Gi:Nat)(Ek:List PV)(Gg:Int)(Fu G5:List PV)(Ex:Nat)(Gq:List PV)(N9 Nz:Int)(N5 N2:Int)(Oh:Bool)(Oc:Int)(Oj:Nat)(Oa:List PV)(N1:Bool)(Oo I3:Int):Au fu call Ap a0 a1 m0 nn y0 y1 y2 y3 y4 y5 y6 y7 y8 y9 Fi Gi Ek Gg Fu G5 Ex Gq N9 Nz N5 N2 Oh Oc Oj Oa N1 Oo I3=(Bd (y9 != Fi) (some (A2.mk [.sc (.bool false)] [])) (Af (call 21 [.lst false 3 y5 y6,.lst false 3 y7 y8]) fun Ben Btx=>Ac Btx<|Aa Ben fun Bbo Bh8=>Av Bbo fun Bpb=>Ac Bh8<|Bd (!Bpb) (some (A2.mk [.sc (.bool false)] [])) (Bd (y9==0) (Af (call 14 [.lst false 3 y5 y6,.sc (.string y4)]) fun Bdj Bji=>Ac Bji<|Aa Bdj fun Bfu Bmc=>Ae .i64 Bfu fun Biw=>Aa Bmc fun Bl1 Bsi=>Av Bl1 fun Boe=>Ac Bsi<|Af (call 22 [.lst false 3 y7 y8,.sc (.string y4)]) fun Bh2 Bkl=>Ac Bkl<|Aa Bh2 fun Bpv Bli=>Ae .i64 Bpv fun Bqx=>Aa Bli fun Bn4 Bq6=>Av Bn4 fun Bmd=>Ac Bq6<|Af (call 23 [.lst false 3 y5 y6,.lst false 1 Ex Gq]) fun Bce Bmq=>Ac Bmq<|Aa Bce fun Bjf Bu4=>Ae .i64 Bjf fun Bi8=>Aa Bu4 fun Bmp Bh1=>Ae .i64 Bmp fun Bt5=>Aa Bh1 fun Bf4 Btj=>Av Bf4 fun Bre=>Ac Btj<|Af (call 24 [.lst false 3 y7 y8,.lst false 1 Ex Gq]) fun Bpr Blg=>Ac Blg<|Aa Bpr fun Bev Bq8=>Ae .i64 Bev fun Bvn=>Aa Bq8 fun Bhh Bh3=>Ae .i64 Bhh fun Bu1=>Aa Bh3 fun Bnf Brl=>Av Bnf fun Bm7=>Ac Brl<|Bd (Biw != Bqx) (some (A2.mk [.sc (.bool false)] [])) (Bd (!Boe==Bmd) (some (A2.mk [.sc (.bool false)] [])) (Bd (Bi8 != Bvn) (some (A2.mk [.sc (.bool false)] [])) (Bd (Bt5 != Bu1) (some (A2.mk [.sc (.bool false)] [])) (Bd (!Bre==Bm7) (some (A2.mk [.sc (.bool false)] [])) (Af (call 13 [.lst false 3 y5 y6,.sc (.int .u64 y0),.sc (.string y4)]) fun Bhz Bnb=>Ac Bnb<|Aa Bhz fun Bd9 Bo4=>Kc 1 Bd9 fun An6 A2v=>Ac Bo4<|Af (call 26 [.lst false 3 y7 y8,.sc (.int .u64 y0),.sc (.string y4)]) fun Bqn Bdl=>Ac Bdl<|Aa Bqn fun Bqb Bly=>Kc 1 Bqb fun Aom Av2=>Ac Bly<|An (decide (0+An6*1<=A2v.length))<|An (decide (0+Aom*1<=Av2.length))<|Af (call 25 [.lst false 1 An6 (List.take (An6*1) (List.drop 0 A2v)),.lst false 1 Aom (List.take (Aom*1) (List.drop 0 Av2))]) fun Bl0 Bvg=>Ac Bvg<|Aa Bl0 fun Bpp Bh6=>Av Bpp fun Bfo=>Ac Bh6<|Bd (!Bfo) (some (A2.mk [.sc (.bool false)] [])) (Ab (wrap .i64 (y3+1)) fun Bor=>Ak fu call Ap a0 a1 (m0) (y0) (y5) (y6) (y7) (y8) Bor (Gi) (Ek) (Gg)))))))) (An (decide (0+y1*3<=Fu.length))<|Af (call 14 [.lst false 3 y1 (List.take (y1*3) (List.drop 0 Fu)),.sc (.string y4)]) fun Bnq Buo=>Ac Buo<|Aa Bnq fun Bb6 Bgx=>Ae .i64 Bb6 fun Be7=>Aa Bgx fun Bjq Bvt=>Av Bjq fun Boz=>Ac Bvt<|An (decide (0+y2*3<=G5.length))<|Af (call 22 [.lst false 3 y2 (List.take (y2*3) (List.drop 0 G5)),.sc (.string y4)]) fun Bs1 Bsc=>Ac Bsc<|Aa Bs1 fun Bmt Bcb=>Ae .i64 Bmt fun Brm=>Aa Bcb fun Br2 Bi3=>Av Br2 fun Bkk=>Ac Bi3<|An (decide (0+y1*3<=Fu.length))<|Af (call 23 [.lst false 3 y1 (List.take (y1*3) (List.drop 0 Fu)),.lst false 1 Ex Gq]) fun Bp2 Bhf=>Ac Bhf<|Aa Bp2 fun Buv Bhw=>Ae .i64 Buv fun Brc=>Aa Bhw fun Bns Bj4=>Ae .i64 Bns fun Bg9=>Aa Bj4 fun Bt8 Bim=>Av Bt8 fun Bsq=>Ac Bim<|An (decide (0+y2*3<=G5.length))<|Af (call 24 [.lst false 3 y2 (List.take (y2*3) (List.drop 0 G5)),.lst false 1 Ex Gq]) fun Bgz Bun=>Ac Bun<|Aa Bgz fun Btr Bul=>Ae .i64 Btr fun Bbe=>Aa Bul fun Bsa Bku=>Ae .i64 Bsa fun Bpg=>Aa Bku fun Bkd Bts=>Av Bkd fun Bov=>Ac Bts<|Bd (Be7 != Brm) (some (A2.mk [.sc (.bool false)] [])) (Bd (!Boz==Bkk) (some (A2.mk [.sc (.bool false)] [])) (Bd (Brc != Bbe) (some (A2.mk [.sc (.bool false)] [])) (Bd (Bg9 != Bpg) (some (A2.mk [.sc (.bool false)] [])) (Bd (!Bsq==Bov) (some (A2.mk [.sc (.bool false)] [])) (An (decide (0+y1*3<=Fu.length))<|Af (call 13 [.lst false 3 y1 (List.take (y1*3) (List.drop 0 Fu)),.sc (.int .u64 y0),.sc (.string y4)]) fun Bjh Bgh=>Ac Bgh<|Aa Bjh fun Bco Bky=>Kc 1 Bco fun Aol A2m=>Ac Bky<|An (decide (0+y2*3<=G5.length))<|Af (call 26 [.lst false 3 y2 (List.take (y2*3) (List.drop 0 G5)),.sc (.int .u64 y0),.sc (.string y4)]) fun Bug Bi6=>Ac Bi6<|Aa Bug fun Bic Bj9=>Kc 1 Bic fun Anw A8g=>Ac Bj9<|An (decide (0+Aol*1<=A2m.length))<|An (decide (0+Anw*1<=A8g.length))<|Af (call 25 [.lst false 1 Aol (List.take (Aol*1) (List.drop 0 A2m)),.lst false 1 Anw (List.take (Anw*1) (List.drop 0 A8g))]) fun Btg Bma=>Ac Bma<|Aa Btg fun Bcx Bmw=>Av Bcx fun Bgd=>Ac Bmw<|Bd (!Bgd) (some (A2.mk [.sc (.bool false)] [])) (Ab (wrap .i64 (y3+1)) fun Bmz=>A1 fu call Ap a0 a1 (m0) (y0) (y1) (y2) Bmz (Gi) (Ek) (Gg) (Fu) (G5))))))))))):=by cases nn with|zero=>exact absurd Dy (Nat.lt_irrefl 0)|succ nn=>kernel_rfl
theorem Jr (fu:Nat)(call:Ai)(Ap:Nat)(a0:List PV)(a1:Int)(m0 nn:Nat)(Dy:0<nn)(y0:Int)(y1 y2:Nat)(y3:Int)(y4:ByteArray)(y5:Nat)(y6:List PV)(y7:Nat)(y8:List PV)(y9 Fi:Int)(Gi:Nat)(Ek:List PV)(Gg:Int)(Fu G5:List PV)(Ex:Nat)(Gq N9:Int)(Nz N5:Int)(N2:Bool)(Oh:Int)(Oc:Nat)(Oj:List PV)(Oa:Bool)(N1 Oo:Int)(I3:List PV):B0 fu call Ap a0 a1 m0 nn y0 y1 y2 y3 y4 y5 y6 y7 y8 y9 Fi Gi Ek Gg Fu G5 Ex Gq N9 Nz N5 N2 Oh Oc Oj Oa N1 Oo I3=(Bd (y9 != Fi) (some (A2.mk [.sc (.bool false)] [])) (Af (call 21 [.lst false 3 y5 y6,.lst false 3 y7 y8]) fun Bqr Bci=>Ac Bci<|Aa Bqr fun Be5 Bgn=>Av Be5 fun Bd5=>Ac Bgn<|Bd (!Bd5) (some (A2.mk [.sc (.bool false)] [])) (Bd (y9==0) (Af (call 14 [.lst false 3 y5 y6,.sc (.string y4)]) fun Bcz Bhq=>Ac Bhq<|Aa Bcz fun Bb1 Bl8=>Ae .i64 Bb1 fun Bi2=>Aa Bl8 fun Bk2 Bpw=>Av Bk2 fun Btp=>Ac Bpw<|Af (call 22 [.lst false 3 y7 y8,.sc (.string y4)]) fun Bvc Bt9=>Ac Bt9<|Aa Bvc fun Bfm Bb2=>Ae .i64 Bfm fun Bj0=>Aa Bb2 fun Bjr Bn3=>Av Bjr fun Bnh=>Ac Bn3<|An (decide (0+Ex*1<=I3.length))<|Af (call 23 [.lst false 3 y5 y6,.lst false 1 Ex (List.take (Ex*1) (List.drop 0 I3))]) fun Bth Bin=>Ac Bin<|Aa Bth fun Bii Bcw=>Ae .i64 Bii fun Bva=>Aa Bcw fun Bfl Bir=>Ae .i64 Bfl fun Bkh=>Aa Bir fun Bpd Bkj=>Av Bpd fun Bsv=>Ac Bkj<|An (decide (0+Ex*1<=I3.length))<|Af (call 24 [.lst false 3 y7 y8,.lst false 1 Ex (List.take (Ex*1) (List.drop 0 I3))]) fun Bjz Bus=>Ac Bus<|Aa Bjz fun Bm1 Bbi=>Ae .i64 Bm1 fun Bgg=>Aa Bbi fun Bif Bnz=>Ae .i64 Bif fun Bnr=>Aa Bnz fun Bdu Bm9=>Av Bdu fun Bj6=>Ac Bm9<|Bd (Bi2 != Bj0) (some (A2.mk [.sc (.bool false)] [])) (Bd (!Btp==Bnh) (some (A2.mk [.sc (.bool false)] [])) (Bd (Bva != Bgg) (some (A2.mk [.sc (.bool false)] [])) (Bd (Bkh != Bnr) (some (A2.mk [.sc (.bool false)] [])) (Bd (!Bsv==Bj6) (some (A2.mk [.sc (.bool false)] [])) (Af (call 13 [.lst false 3 y5 y6,.sc (.int .u64 y0),.sc (.string y4)]) fun Bpq Bjw=>Ac Bjw<|Aa Bpq fun Bhu Bgl=>Kc 1 Bhu fun Ao0 Azl=>Ac Bgl<|Af (call 26 [.lst false 3 y7 y8,.sc (.int .u64 y0),.sc (.string y4)]) fun Bud Bo6=>Ac Bo6<|Aa Bud fun Bp7 Ber=>Kc 1 Bp7 fun Anp Az9=>Ac Ber<|An (decide (0+Ao0*1<=Azl.length))<|An (decide (0+Anp*1<=Az9.length))<|Af (call 25 [.lst false 1 Ao0 (List.take (Ao0*1) (List.drop 0 Azl)),.lst false 1 Anp (List.take (Anp*1) (List.drop 0 Az9))]) fun Bex Bbj=>Ac Bbj<|Aa Bex fun Btm Bop=>Av Btm fun Bqz=>Ac Bop<|Bd (!Bqz) (some (A2.mk [.sc (.bool false)] [])) (Ab (wrap .i64 (y3+1)) fun Bty=>Ak fu call Ap a0 a1 (m0) (y0) (y5) (y6) (y7) (y8) Bty (Gi) (Ek) (Gg)))))))) (An (decide (0+y1*3<=Fu.length))<|Af (call 14 [.lst false 3 y1 (List.take (y1*3) (List.drop 0 Fu)),.sc (.string y4)]) fun Bi1 Bel=>Ac Bel<|Aa Bi1 fun Bsk Btk=>Ae .i64 Bsk fun Bbs=>Aa Btk fun Bme Br7=>Av Bme fun Bq1=>Ac Br7<|An (decide (0+y2*3<=G5.length))<|Af (call 22 [.lst false 3 y2 (List.take (y2*3) (List.drop 0 G5)),.sc (.string y4)]) fun Bb4 Bmu=>Ac Bmu<|Aa Bb4 fun Blb Bh7=>Ae .i64 Blb fun Bhj=>Aa Bh7 fun Beh Bri=>Av Beh fun Bg1=>Ac Bri<|An (decide (0+y1*3<=Fu.length))<|An (decide (0+Ex*1<=I3.length))<|Af (call 23 [.lst false 3 y1 (List.take (y1*3) (List.drop 0 Fu)),.lst false 1 Ex (List.take (Ex*1) (List.drop 0 I3))]) fun Bq2 Bhp=>Ac Bhp<|Aa Bq2 fun Bf7 Bm4=>Ae .i64 Bf7 fun Bkm=>Aa Bm4 fun Bom Bct=>Ae .i64 Bom fun Bfn=>Aa Bct fun Bf9 Boj=>Av Bf9 fun Bk7=>Ac Boj<|An (decide (0+y2*3<=G5.length))<|An (decide (0+Ex*1<=I3.length))<|Af (call 24 [.lst false 3 y2 (List.take (y2*3) (List.drop 0 G5)),.lst false 1 Ex (List.take (Ex*1) (List.drop 0 I3))]) fun Bgw Bsy=>Ac Bsy<|Aa Bgw fun Bog Bby=>Ae .i64 Bog fun Bgb=>Aa Bby fun Bhx Bdz=>Ae .i64 Bhx fun Bpn=>Aa Bdz fun Bbx Bq7=>Av Bbx fun Bfp=>Ac Bq7<|Bd (Bbs != Bhj) (some (A2.mk [.sc (.bool false)] [])) (Bd (!Bq1==Bg1) (some (A2.mk [.sc (.bool false)] [])) (Bd (Bkm != Bgb) (some (A2.mk [.sc (.bool false)] [])) (Bd (Bfn != Bpn) (some (A2.mk [.sc (.bool false)] [])) (Bd (!Bk7==Bfp) (some (A2.mk [.sc (.bool false)] [])) (An (decide (0+y1*3<=Fu.length))<|Af (call 13 [.lst false 3 y1 (List.take (y1*3) (List.drop 0 Fu)),.sc (.int .u64 y0),.sc (.string y4)]) fun Bux Blq=>Ac Blq<|Aa Bux fun Bfg Bu6=>Kc 1 Bfg fun Aon A9r=>Ac Bu6<|An (decide (0+y2*3<=G5.length))<|Af (call 26 [.lst false 3 y2 (List.take (y2*3) (List.drop 0 G5)),.sc (.int .u64 y0),.sc (.string y4)]) fun Bho Bdo=>Ac Bdo<|Aa Bho fun Bm2 Bsz=>Kc 1 Bm2 fun Ang A94=>Ac Bsz<|An (decide (0+Aon*1<=A9r.length))<|An (decide (0+Ang*1<=A94.length))<|Af (call 25 [.lst false 1 Aon (List.take (Aon*1) (List.drop 0 A9r)),.lst false 1 Ang (List.take (Ang*1) (List.drop 0 A94))]) fun Bi4 Bjj=>Ac Bjj<|Aa Bi4 fun Bpe Bnx=>Av Bpe fun Blz=>Ac Bnx<|Bd (!Blz) (some (A2.mk [.sc (.bool false)] [])) (Ab (wrap .i64 (y3+1)) fun Bbz=>A1 fu call Ap a0 a1 (m0) (y0) (y1) (y2) Bbz (Gi) (Ek) (Gg) (Fu) (G5))))))))))):=by cases nn with|zero=>exact absurd Dy (Nat.lt_irrefl 0)|succ nn=>kernel_rfl
theorem Fg (fu:Nat)(call:Ai)(Ap:Nat)(a0:List PV)(a1:Int)(nn:Nat)(y0:Int)(y1:Nat)(y2:List PV)(y3:Nat)(y4:List PV)(y5:Int)(y6:Nat)(y7:List PV)(y8:Int):Ak fu call Ap a0 a1 (nn+1) y0 y1 y2 y3 y4 y5 y6 y7 y8=(Bd (decide (y5<60)) (Af (call 7 [.pbox [.lst false 1 y6 y7,.sc (.int .i64 y8)]]) fun Be2 Bs2=>Aa Be2 fun Bea Bg2=>Av Bea fun Boa=>Ac Bg2<|Aa Bs2 fun Boh Bol=>Aa Boh fun Bld Bdm=>Ca 1 Bld fun B1c Bmn Br1=>Aa Bdm fun Bra Blf=>Ae .i64 Bra fun Bu0=>Ac Blf<|Ac Bol<|Bd Boa (Af (call 10 [.pbox [.lst false 1 Bmn Br1,.sc (.int .i64 Bu0)],.sc (.int .i64 20)]) fun Bbc Bb9=>Aa Bbc fun Bkp Bkb=>Ae .i64 Bkp fun Any=>Ac Bkb<|Aa Bb9 fun Bc2 Bjx=>Aa Bc2 fun Bum Bfs=>Ca 1 Bum fun B0r Bcc Bla=>Aa Bfs fun Bp1 Bok=>Ae .i64 Bp1 fun Bbb=>Ac Bok<|Ac Bjx<|An (decide (0<=Any)&&decide (Any<20))<|E2 (List.getD [.sc (.string (ByteArray.mk #[97])),.sc (.string (ByteArray.mk #[98])),.sc (.string (ByteArray.mk #[99])),.sc (.string (ByteArray.mk #[100])),.sc (.string (ByteArray.mk #[101])),.sc (.string (ByteArray.mk #[102])),.sc (.string (ByteArray.mk #[103])),.sc (.string (ByteArray.mk #[104])),.sc (.string (ByteArray.mk #[105])),.sc (.string (ByteArray.mk #[106])),.sc (.string (ByteArray.mk #[107])),.sc (.string (ByteArray.mk #[108])),.sc (.string (ByteArray.mk #[109])),.sc (.string (ByteArray.mk #[110])),.sc (.string (ByteArray.mk #[111])),.sc (.string (ByteArray.mk #[112])),.sc (.string (ByteArray.mk #[113])),.sc (.string (ByteArray.mk #[114])),.sc (.string (ByteArray.mk #[])),.sc (.string (ByteArray.mk #[48,49,50,51,52,53,54,55,56,57,48,49,50,51,52,53,54,55,56,57,48,49,50,51,52,53,54,55,56,57,48,49,50,51]))] (0+Int.toNat Any*1) .top) fun Mi=>Af (call 10 [.pbox [.lst false 1 Bcc Bla,.sc (.int .i64 Bbb)],.sc (.int .i64 12)]) fun Bqv Brt=>Aa Bqv fun Bp5 Bmh=>Ae .i64 Bp5 fun Bdv=>Ac Bmh<|Aa Brt fun Bgr Bn1=>Aa Bgr fun Bpt Bso=>Ca 1 Bpt fun Bzf Bo2 Bmr=>Aa Bso fun Bp8 Beb=>Ae .i64 Bp8 fun Bgk=>Ac Beb<|Ac Bn1<|Af (call 8 [.sc (.int .i64 Bdv),.sc (.int .i64 1)]) fun Bt0 Brx=>Ac Brx<|Aa Bt0 fun Bqo Bcu=>Ge Bqo fun Btw=>Aa Btw fun Bcr Boi=>Ca 1 Bcr fun Bx9 GE GO=>Aa Boi fun Bf2 Bpf=>Ae .i64 Bf2 fun Po=>Aa Bpf fun Bf1 Brp=>Ae .u64 Bf1 fun Qe=>Aa Brp fun Bki Bj8=>Ae .u64 Bki fun O8=>Aa Bj8 fun Bsl Bnw=>Ae .i64 Bsl fun Pq=>Aa Bnw fun Be8 Bht=>Av Be8 fun Pg=>Aa Bht fun Bd0 Bs5=>Ae .u64 Bd0 fun Qd=>Aa Bs5 fun Bbp Bbm=>Ca 2 Bbp fun Bzn Ps P6=>Aa Bbm fun Bfk Bk6=>Av Bfk fun B02=>Aa Bk6 fun Bst Bjt=>Ae .i64 Bst fun O5=>Aa Bjt fun Blv Bvi=>Ae .i64 Blv fun P1=>Ac Bvi<|Ac Bcu<|Af (call 10 [.pbox [.lst false 1 Bo2 Bmr,.sc (.int .i64 Bgk)],.sc (.int .i64 3)]) fun Bvv Bmx=>Aa Bvv fun Bfa Beu=>Ae .i64 Bfa fun Pt=>Ac Beu<|Aa Bmx fun Bjy Bmo=>Aa Bjy fun Bhr Bsr=>Ca 1 Bhr fun Bzi Bjm Btt=>Aa Bsr fun Boy Bcg=>Ae .i64 Boy fun Bcy=>Ac Bcg<|Ac Bmo<|Af (call 10 [.pbox [.lst false 1 Bjm Btt,.sc (.int .i64 Bcy)],.sc (.int .i64 20)]) fun Biu Bru=>Aa Biu fun Bgq Bm8=>Ae .i64 Bgq fun Bqg=>Ac Bm8<|Aa Bru fun Blu Bbr=>Aa Blu fun Bdx Bdd=>Ca 1 Bdx fun Bzx A6p A43=>Aa Bdd fun Bi5 Bny=>Ae .i64 Bi5 fun Azf=>Ac Bny<|Ac Bbr<|Bd (Bqg==19) (Af (call 10 [.pbox [.lst false 1 A6p A43,.sc (.int .i64 Azf)],.sc (.int .i64 176)]) fun Bd1 Bb7=>Aa Bd1 fun Bt1 Bqu=>Ae .i64 Bt1 fun Apy=>Ac Bqu<|Aa Bb7 fun Bc9 Brf=>Aa Bc9 fun Bnj Bl5=>Ca 1 Bnj fun Bzu Bk4 Bsh=>Aa Bl5 fun Bd2 Bdh=>Ae .i64 Bd2 fun Bsp=>Ac Bdh<|Ac Brf<|An (decide (0<=Apy))<|An (decide (Int.toNat Apy<=GE))<|Ab (Int.toNat Apy-0) fun GH=>Ab (List.take (GH*1) (List.drop 0 GO)) fun JM=>Af (call 10 [.pbox [.lst false 1 Bk4 Bsh,.sc (.int .i64 Bsp)],.sc (.int .i64 5)]) fun Bet Bdt=>Aa Bet fun Bcv Buz=>Ae .i64 Bcv fun A7e=>Ac Buz<|Aa Bdt fun Bc6 Bdw=>Aa Bc6 fun Bfy Br3=>Ca 1 Bfy fun B0v Aoh Ap1=>Aa Br3 fun Bg6 Bs3=>Ae .i64 Bg6 fun Aqf=>Ac Bs3<|Ac Bdw<|Bd (A7e==0) (Af (call 16 [.lst false 3 y1 y2,.sc (.string Mi),.lst false 1 GH JM]) fun Bg0 Bdf=>Ac Bdf<|Aa Bg0 fun Bl2 Bcq=>Ca 3 Bl2 fun B08 Bn7 Bcl=>Aa Bcq fun Blm Bsf=>Ae .i64 Blm fun Bn2=>Ac Bsf<|Af (call 17 [.lst false 3 y3 y4,.sc (.string Mi),.lst false 1 GH JM]) fun Bfw Bof=>Ac Bof<|Aa Bfw fun Boc Bo5=>Ca 3 Boc fun Bz4 Bqp Bbd=>Aa Bo5 fun Bng Brj=>Ae .i64 Bng fun Bke=>Ac Brj<|Bc fu call Ap a0 a1 nn (fu) (y0) (y1) (y2) (y3) (y4) (y5) Mi Bn7 Bcl Bqp Bbd Bn2 Bke Aoh Ap1 Aqf GH JM Po Qe O8 Pq Pg Qd Ps P6 (Pt==2) O5 P1) (Bd (A7e==1) (Af (call 18 [.lst false 3 y1 y2,.sc (.string Mi),.agg [.lst false 1 GH JM,.sc (.int .i64 Po),.sc (.int .u64 Qe),.sc (.int .u64 O8),.sc (.int .i64 Pq),.sc (.bool Pg),.sc (.int .u64 Qd),.lst false 2 Ps P6,.sc (.bool (Pt==2)),.sc (.int .i64 O5),.sc (.int .i64 P1)]]) fun Bks Bh5=>Ac Bh5<|Aa Bks fun Bl3 Bpy=>Ca 3 Bl3 fun Byc Bb5 Be6=>Aa Bpy fun Brg Bik=>Ae .i64 Brg fun Btf=>Ac Bik<|Af (call 19 [.lst false 3 y3 y4,.sc (.string Mi),.agg [.lst false 1 GH JM,.sc (.int .i64 Po),.sc (.int .u64 Qe),.sc (.int .u64 O8),.sc (.int .i64 Pq),.sc (.bool Pg),.sc (.int .u64 Qd),.lst false 2 Ps P6,.sc (.bool (Pt==2)),.sc (.int .i64 O5),.sc (.int .i64 P1)]]) fun Bhm Bqe=>Ac Bqe<|Aa Bhm fun Bbn Bpj=>Ca 3 Bbn fun B09 Brr Bmm=>Aa Bpj fun Bob Bvb=>Ae .i64 Bob fun Boq=>Ac Bvb<|Bc fu call Ap a0 a1 nn (fu) (y0) (y1) (y2) (y3) (y4) (y5) Mi Bb5 Be6 Brr Bmm Btf Boq Aoh Ap1 Aqf GH JM Po Qe O8 Pq Pg Qd Ps P6 (Pt==2) O5 P1) (Af (call 10 [.pbox [.lst false 1 Aoh Ap1,.sc (.int .i64 Aqf)],.sc (.int .i64 2)]) fun Blj Biz=>Aa Blj fun Big Bee=>Ae .i64 Big fun Bkz=>Ac Bee<|Aa Biz fun Bgt Bhe=>Aa Bgt fun Bub Bna=>Ca 1 Bub fun B1f A76 A5m=>Aa Bna fun Bbv Bk9=>Ae .i64 Bbv fun A00=>Ac Bk9<|Ac Bhe<|Bd (Bkz==1) (Ab (wrap .i64 (900+y5)) fun Bo3=>Af (call 9 [.sc (.int .i64 Bo3),.sc (.int .i64 176)]) fun Bti Bnd=>Ac Bnd<|Aa Bti fun Bbl Bpi=>Kc 1 Bbl fun UD Agk=>Ac Bpi<|An (decide (0+UD*1<=Agk.length))<|Af (call 11 [.lst false 3 y1 y2,.sc (.string Mi),.sc (.string (ByteArray.mk #[117,115,101,114])),.agg [.lst false 1 UD (List.take (UD*1) (List.drop 0 Agk)),.sc (.int .i64 Po),.sc (.int .u64 Qe),.sc (.int .u64 O8),.sc (.int .i64 Pq),.sc (.bool Pg),.sc (.int .u64 Qd),.lst false 2 Ps P6,.sc (.bool (Pt==2)),.sc (.int .i64 O5),.sc (.int .i64 P1)]]) fun Bg7 Bo0=>Ac Bo0<|Aa Bg7 fun Bl7 Buh=>Ca 3 Bl7 fun B1e Bkn Bm0=>Aa Buh fun Brn Bkw=>Ae .i64 Brn fun Bbw=>Ac Bkw<|An (decide (0+UD*1<=Agk.length))<|Af (call 20 [.lst false 3 y3 y4,.sc (.string Mi),.sc (.string (ByteArray.mk #[117,115,101,114])),.agg [.lst false 1 UD (List.take (UD*1) (List.drop 0 Agk)),.sc (.int .i64 Po),.sc (.int .u64 Qe),.sc (.int .u64 O8),.sc (.int .i64 Pq),.sc (.bool Pg),.sc (.int .u64 Qd),.lst false 2 Ps P6,.sc (.bool (Pt==2)),.sc (.int .i64 O5),.sc (.int .i64 P1)]]) fun Brw Brq=>Ac Brq<|Aa Brw fun Bpo Bo7=>Ca 3 Bpo fun B01 Bup Bjp=>Aa Bo7 fun Bej Bnt=>Ae .i64 Bej fun Bn5=>Ac Bnt<|Cr fu call Ap a0 a1 nn (fu) (y0) (y1) (y2) (y3) (y4) (y5) Mi Bkn Bm0 Bup Bjp Bbw Bn5 A76 A5m A00 UD Po Qe O8 Pq Pg Qd Ps P6 (Pt==2) O5 P1 Agk) (Af (call 11 [.lst false 3 y1 y2,.sc (.string Mi),.sc (.string (ByteArray.mk #[117,115,101,114])),.agg [.lst false 1 GH JM,.sc (.int .i64 Po),.sc (.int .u64 Qe),.sc (.int .u64 O8),.sc (.int .i64 Pq),.sc (.bool Pg),.sc (.int .u64 Qd),.lst false 2 Ps P6,.sc (.bool (Pt==2)),.sc (.int .i64 O5),.sc (.int .i64 P1)]]) fun Buq Bnc=>Ac Bnc<|Aa Buq fun Bl4 Blc=>Ca 3 Bl4 fun By4 Brd Bk1=>Aa Blc fun Bsd Bje=>Ae .i64 Bsd fun Bl6=>Ac Bje<|Af (call 20 [.lst false 3 y3 y4,.sc (.string Mi),.sc (.string (ByteArray.mk #[117,115,101,114])),.agg [.lst false 1 GH JM,.sc (.int .i64 Po),.sc (.int .u64 Qe),.sc (.int .u64 O8),.sc (.int .i64 Pq),.sc (.bool Pg),.sc (.int .u64 Qd),.lst false 2 Ps P6,.sc (.bool (Pt==2)),.sc (.int .i64 O5),.sc (.int .i64 P1)]]) fun Bdc Bi0=>Ac Bi0<|Aa Bdc fun Bgo Bqq=>Ca 3 Bgo fun Bys Blx Buw=>Aa Bqq fun Bei Bju=>Ae .i64 Bei fun Beq=>Ac Bju<|Bc fu call Ap a0 a1 nn (fu) (y0) (y1) (y2) (y3) (y4) (y5) Mi Brd Bk1 Blx Buw Bl6 Beq A76 A5m A00 GH JM Po Qe O8 Pq Pg Qd Ps P6 (Pt==2) O5 P1)))) (Af (call 10 [.pbox [.lst false 1 A6p A43,.sc (.int .i64 Azf)],.sc (.int .i64 5)]) fun Bca Bc4=>Aa Bca fun Bkc Bh9=>Ae .i64 Bkc fun Az5=>Ac Bh9<|Aa Bc4 fun Brb Bd7=>Aa Brb fun Bkv Bda=>Ca 1 Bkv fun B1i Ana Apd=>Aa Bda fun Boo Bo1=>Ae .i64 Boo fun An8=>Ac Bo1<|Ac Bd7<|Bd (Az5==0) (Af (call 16 [.lst false 3 y1 y2,.sc (.string Mi),.lst false 1 GE GO]) fun Bss Bey=>Ac Bey<|Aa Bss fun Bon Bdr=>Ca 3 Bon fun Byh Bt3 Bc8=>Aa Bdr fun Btd Bjs=>Ae .i64 Btd fun Bgj=>Ac Bjs<|Af (call 17 [.lst false 3 y3 y4,.sc (.string Mi),.lst false 1 GE GO]) fun Bk5 Bro=>Ac Bro<|Aa Bk5 fun Bib Bsg=>Ca 3 Bib fun B1h Be9 Bjb=>Aa Bsg fun Bvf Bcs=>Ae .i64 Bvf fun Bjv=>Ac Bcs<|Bc fu call Ap a0 a1 nn (fu) (y0) (y1) (y2) (y3) (y4) (y5) Mi Bt3 Bc8 Be9 Bjb Bgj Bjv Ana Apd An8 GE GO Po Qe O8 Pq Pg Qd Ps P6 (Pt==2) O5 P1) (Bd (Az5==1) (Af (call 18 [.lst false 3 y1 y2,.sc (.string Mi),.agg [.lst false 1 GE GO,.sc (.int .i64 Po),.sc (.int .u64 Qe),.sc (.int .u64 O8),.sc (.int .i64 Pq),.sc (.bool Pg),.sc (.int .u64 Qd),.lst false 2 Ps P6,.sc (.bool (Pt==2)),.sc (.int .i64 O5),.sc (.int .i64 P1)]]) fun Btl Bqy=>Ac Bqy<|Aa Btl fun Bsn Br5=>Ca 3 Bsn fun By0 Btv Bmg=>Aa Br5 fun Bdn Bvu=>Ae .i64 Bdn fun Bew=>Ac Bvu<|Af (call 19 [.lst false 3 y3 y4,.sc (.string Mi),.agg [.lst false 1 GE GO,.sc (.int .i64 Po),.sc (.int .u64 Qe),.sc (.int .u64 O8),.sc (.int .i64 Pq),.sc (.bool Pg),.sc (.int .u64 Qd),.lst false 2 Ps P6,.sc (.bool (Pt==2)),.sc (.int .i64 O5),.sc (.int .i64 P1)]]) fun Bs0 Bln=>Ac Bln<|Aa Bs0 fun Bjk Bmi=>Ca 3 Bjk fun Bzw Bkt Bta=>Aa Bmi fun Blr Bgc=>Ae .i64 Blr fun Bou=>Ac Bgc<|Bc fu call Ap a0 a1 nn (fu) (y0) (y1) (y2) (y3) (y4) (y5) Mi Btv Bmg Bkt Bta Bew Bou Ana Apd An8 GE GO Po Qe O8 Pq Pg Qd Ps P6 (Pt==2) O5 P1) (Af (call 10 [.pbox [.lst false 1 Ana Apd,.sc (.int .i64 An8)],.sc (.int .i64 2)]) fun Bmv Bcp=>Aa Bmv fun Bjg Bes=>Ae .i64 Bjg fun Bc1=>Ac Bes<|Aa Bcp fun Bk0 Bvj=>Aa Bk0 fun Bms Bq9=>Ca 1 Bms fun Bzy Atk A6i=>Aa Bq9 fun Be4 Bil=>Ae .i64 Be4 fun Aso=>Ac Bil<|Ac Bvj<|Bd (Bc1==1) (Ab (wrap .i64 (900+y5)) fun Be1=>Af (call 9 [.sc (.int .i64 Be1),.sc (.int .i64 176)]) fun Bie Btb=>Ac Btb<|Aa Bie fun Bds Bgi=>Kc 1 Bds fun SM Aec=>Ac Bgi<|An (decide (0+SM*1<=Aec.length))<|Af (call 11 [.lst false 3 y1 y2,.sc (.string Mi),.sc (.string (ByteArray.mk #[117,115,101,114])),.agg [.lst false 1 SM (List.take (SM*1) (List.drop 0 Aec)),.sc (.int .i64 Po),.sc (.int .u64 Qe),.sc (.int .u64 O8),.sc (.int .i64 Pq),.sc (.bool Pg),.sc (.int .u64 Qd),.lst false 2 Ps P6,.sc (.bool (Pt==2)),.sc (.int .i64 O5),.sc (.int .i64 P1)]]) fun Bed Beo=>Ac Beo<|Aa Bed fun Bo9 Bih=>Ca 3 Bo9 fun By1 Bqa Bui=>Aa Bih fun Btu Bvl=>Ae .i64 Btu fun Bit=>Ac Bvl<|An (decide (0+SM*1<=Aec.length))<|Af (call 20 [.lst false 3 y3 y4,.sc (.string Mi),.sc (.string (ByteArray.mk #[117,115,101,114])),.agg [.lst false 1 SM (List.take (SM*1) (List.drop 0 Aec)),.sc (.int .i64 Po),.sc (.int .u64 Qe),.sc (.int .u64 O8),.sc (.int .i64 Pq),.sc (.bool Pg),.sc (.int .u64 Qd),.lst false 2 Ps P6,.sc (.bool (Pt==2)),.sc (.int .i64 O5),.sc (.int .i64 P1)]]) fun Bh0 Biq=>Ac Biq<|Aa Bh0 fun Bot Br8=>Ca 3 Bot fun Byk Bvd Bqm=>Aa Br8 fun Buf Blh=>Ae .i64 Buf fun Bd6=>Ac Blh<|Cr fu call Ap a0 a1 nn (fu) (y0) (y1) (y2) (y3) (y4) (y5) Mi Bqa Bui Bvd Bqm Bit Bd6 Atk A6i Aso SM Po Qe O8 Pq Pg Qd Ps P6 (Pt==2) O5 P1 Aec) (Af (call 11 [.lst false 3 y1 y2,.sc (.string Mi),.sc (.string (ByteArray.mk #[117,115,101,114])),.agg [.lst false 1 GE GO,.sc (.int .i64 Po),.sc (.int .u64 Qe),.sc (.int .u64 O8),.sc (.int .i64 Pq),.sc (.bool Pg),.sc (.int .u64 Qd),.lst false 2 Ps P6,.sc (.bool (Pt==2)),.sc (.int .i64 O5),.sc (.int .i64 P1)]]) fun Bvs Bj5=>Ac Bj5<|Aa Bvs fun Buu Bjl=>Ca 3 Buu fun B0f Bdg Bq0=>Aa Bjl fun Bvx Bls=>Ae .i64 Bvx fun Biy=>Ac Bls<|Af (call 20 [.lst false 3 y3 y4,.sc (.string Mi),.sc (.string (ByteArray.mk #[117,115,101,114])),.agg [.lst false 1 GE GO,.sc (.int .i64 Po),.sc (.int .u64 Qe),.sc (.int .u64 O8),.sc (.int .i64 Pq),.sc (.bool Pg),.sc (.int .u64 Qd),.lst false 2 Ps P6,.sc (.bool (Pt==2)),.sc (.int .i64 O5),.sc (.int .i64 P1)]]) fun Bp0 But=>Ac But<|Aa Bp0 fun Bft Bnp=>Ca 3 Bft fun Bx7 Bql Br4=>Aa Bnp fun Bdy Bbq=>Ae .i64 Bdy fun Bk8=>Ac Bbq<|Bc fu call Ap a0 a1 nn (fu) (y0) (y1) (y2) (y3) (y4) (y5) Mi Bdg Bq0 Bql Br4 Biy Bk8 Atk A6i Aso GE GO Po Qe O8 Pq Pg Qd Ps P6 (Pt==2) O5 P1))))) (Af (call 5 []) fun Bhs Buj=>Ac Buj<|Aa Bhs fun Bml Bkq=>Av Bml fun A53=>Ac Bkq<|some (A2.mk [.sc (.bool A53)] []))) (Af (call 5 []) fun Awh A4b=>Ac A4b<|Aa Awh fun A86 Aw7=>Av A86 fun Avw=>Ac Aw7<|some (A2.mk [.sc (.bool Avw)] []))):=by kernel_rfl
theorem Fa (fu:Nat)(call:Ai)(Ap:Nat)(a0:List PV)(a1:Int)(nn:Nat)(y0:Int)(y1 y2:Nat)(y3:Int)(y4:Nat)(y5:List PV)(y6:Int)(y7 y8:List PV):A1 fu call Ap a0 a1 (nn+1) y0 y1 y2 y3 y4 y5 y6 y7 y8=(Bd (decide (y3<60)) (Af (call 7 [.pbox [.lst false 1 y4 y5,.sc (.int .i64 y6)]]) fun A9o Azr=>Aa A9o fun A9j Ast=>Av A9j fun Ayf=>Ac Ast<|Aa Azr fun A40 Atu=>Aa A40 fun A80 A3n=>Ca 1 A80 fun Bwk Aud A6s=>Aa A3n fun Awj Ayn=>Ae .i64 Awj fun A0e=>Ac Ayn<|Ac Atu<|Bd Ayf (Af (call 10 [.pbox [.lst false 1 Aud A6s,.sc (.int .i64 A0e)],.sc (.int .i64 20)]) fun Axr Ayl=>Aa Axr fun A23 A25=>Ae .i64 A23 fun Ad0=>Ac A25<|Aa Ayl fun Atw Au2=>Aa Atw fun Ar0 A2n=>Ca 1 Ar0 fun Bwd Ave A46=>Aa A2n fun A2s A17=>Ae .i64 A2s fun A5p=>Ac A17<|Ac Au2<|An (decide (0<=Ad0)&&decide (Ad0<20))<|E2 (List.getD [.sc (.string (ByteArray.mk #[97])),.sc (.string (ByteArray.mk #[98])),.sc (.string (ByteArray.mk #[99])),.sc (.string (ByteArray.mk #[100])),.sc (.string (ByteArray.mk #[101])),.sc (.string (ByteArray.mk #[102])),.sc (.string (ByteArray.mk #[103])),.sc (.string (ByteArray.mk #[104])),.sc (.string (ByteArray.mk #[105])),.sc (.string (ByteArray.mk #[106])),.sc (.string (ByteArray.mk #[107])),.sc (.string (ByteArray.mk #[108])),.sc (.string (ByteArray.mk #[109])),.sc (.string (ByteArray.mk #[110])),.sc (.string (ByteArray.mk #[111])),.sc (.string (ByteArray.mk #[112])),.sc (.string (ByteArray.mk #[113])),.sc (.string (ByteArray.mk #[114])),.sc (.string (ByteArray.mk #[])),.sc (.string (ByteArray.mk #[48,49,50,51,52,53,54,55,56,57,48,49,50,51,52,53,54,55,56,57,48,49,50,51,52,53,54,55,56,57,48,49,50,51]))] (0+Int.toNat Ad0*1) .top) fun Gn=>Af (call 10 [.pbox [.lst false 1 Ave A46,.sc (.int .i64 A5p)],.sc (.int .i64 12)]) fun Av4 Awl=>Aa Av4 fun A6q Avr=>Ae .i64 A6q fun A2w=>Ac Avr<|Aa Awl fun A4o Axw=>Aa A4o fun Baa A2x=>Ca 1 Baa fun Bw9 Az3 A93=>Aa A2x fun A99 Awx=>Ae .i64 A99 fun Awf=>Ac Awx<|Ac Axw<|Af (call 8 [.sc (.int .i64 A2w),.sc (.int .i64 1)]) fun Awd A1c=>Ac A1c<|Aa Awd fun Azk A4e=>Ge Azk fun Bab=>Aa Bab fun A2r Azj=>Ca 1 A2r fun Bxm Um U0=>Aa Azj fun Ay0 A0t=>Ae .i64 Ay0 fun Iq=>Aa A0t fun Ar1 Aue=>Ae .u64 Ar1 fun Ic=>Aa Aue fun A7f Aum=>Ae .u64 A7f fun It=>Aa Aum fun A4i Av7=>Ae .i64 A4i fun Iw=>Aa Av7 fun A0q Awo=>Av A0q fun Ix=>Aa Awo fun Atf Avq=>Ae .u64 Atf fun Ir=>Aa Avq fun Azp Avl=>Ca 2 Azp fun Bwl Id Iv=>Aa Avl fun A54 A7j=>Av A54 fun Bxy=>Aa A7j fun A1m A18=>Ae .i64 A1m fun Ij=>Aa A18 fun A2p A1n=>Ae .i64 A2p fun In=>Ac A1n<|Ac A4e<|Af (call 10 [.pbox [.lst false 1 Az3 A93,.sc (.int .i64 Awf)],.sc (.int .i64 3)]) fun As5 Avf=>Aa As5 fun Azc Axm=>Ae .i64 Azc fun Ig=>Ac Axm<|Aa Avf fun A44 Au0=>Aa A44 fun Ay8 Awn=>Ca 1 Ay8 fun Bwx At1 Ax2=>Aa Awn fun A0o Avg=>Ae .i64 A0o fun A38=>Ac Avg<|Ac Au0<|Af (call 10 [.pbox [.lst false 1 At1 Ax2,.sc (.int .i64 A38)],.sc (.int .i64 20)]) fun A5r Awz=>Aa A5r fun A8p At5=>Ae .i64 A8p fun A6x=>Ac At5<|Aa Awz fun Asm Ayk=>Aa Asm fun Au3 A0d=>Ca 1 Au3 fun Bwb Alj Al5=>Aa A0d fun Au6 A5g=>Ae .i64 Au6 fun Akx=>Ac A5g<|Ac Ayk<|Bd (A6x==19) (Af (call 10 [.pbox [.lst false 1 Alj Al5,.sc (.int .i64 Akx)],.sc (.int .i64 176)]) fun Awm Aus=>Aa Awm fun A8u Arz=>Ae .i64 A8u fun Agv=>Ac Arz<|Aa Aus fun Az6 A4f=>Aa Az6 fun A4t A5c=>Ca 1 A4t fun Bwy A2g A6h=>Aa A5c fun Ath A8c=>Ae .i64 Ath fun Ar9=>Ac A8c<|Ac A4f<|An (decide (0<=Agv))<|An (decide (Int.toNat Agv<=Um))<|Ab (Int.toNat Agv-0) fun Uz=>Ab (List.take (Uz*1) (List.drop 0 U0)) fun Xk=>Af (call 10 [.pbox [.lst false 1 A2g A6h,.sc (.int .i64 Ar9)],.sc (.int .i64 5)]) fun A6r Auu=>Aa A6r fun A4s Ay5=>Ae .i64 A4s fun All=>Ac Ay5<|Aa Auu fun Auy A1j=>Aa Auy fun A55 A91=>Ca 1 A55 fun Bw2 Aeq Agj=>Aa A91 fun A41 Ax8=>Ae .i64 A41 fun Acb=>Ac Ax8<|Ac A1j<|Bd (All==0) (An (decide (0+y1*3<=y7.length))<|Af (call 16 [.lst false 3 y1 (List.take (y1*3) (List.drop 0 y7)),.sc (.string Gn),.lst false 1 Uz Xk]) fun Atq A2h=>Ac A2h<|Aa Atq fun Avm A61=>Ca 3 Avm fun Bxo A16 Axq=>Aa A61 fun Axy Ayr=>Ae .i64 Axy fun A1v=>Ac Ayr<|An (decide (0+y2*3<=y8.length))<|Af (call 17 [.lst false 3 y2 (List.take (y2*3) (List.drop 0 y8)),.sc (.string Gn),.lst false 1 Uz Xk]) fun A13 Axc=>Ac Axc<|Aa A13 fun Aze A8t=>Ca 3 Aze fun Bvy A3c A78=>Aa A8t fun A9l Axe=>Ae .i64 A9l fun Ash=>Ac Axe<|Au fu call Ap a0 a1 nn (fu) (y0) (y1) (y2) (y3) Gn A16 Axq A3c A78 A1v Ash Aeq Agj Acb (y7) (y8) Uz Xk Iq Ic It Iw Ix Ir Id Iv (Ig==2) Ij In) (Bd (All==1) (An (decide (0+y1*3<=y7.length))<|Af (call 18 [.lst false 3 y1 (List.take (y1*3) (List.drop 0 y7)),.sc (.string Gn),.agg [.lst false 1 Uz Xk,.sc (.int .i64 Iq),.sc (.int .u64 Ic),.sc (.int .u64 It),.sc (.int .i64 Iw),.sc (.bool Ix),.sc (.int .u64 Ir),.lst false 2 Id Iv,.sc (.bool (Ig==2)),.sc (.int .i64 Ij),.sc (.int .i64 In)]]) fun A3q A97=>Ac A97<|Aa A3q fun Avt A0r=>Ca 3 Avt fun Bxr A7l Ata=>Aa A0r fun A8h Atj=>Ae .i64 A8h fun A3d=>Ac Atj<|An (decide (0+y2*3<=y8.length))<|Af (call 19 [.lst false 3 y2 (List.take (y2*3) (List.drop 0 y8)),.sc (.string Gn),.agg [.lst false 1 Uz Xk,.sc (.int .i64 Iq),.sc (.int .u64 Ic),.sc (.int .u64 It),.sc (.int .i64 Iw),.sc (.bool Ix),.sc (.int .u64 Ir),.lst false 2 Id Iv,.sc (.bool (Ig==2)),.sc (.int .i64 Ij),.sc (.int .i64 In)]]) fun Asn Avz=>Ac Avz<|Aa Asn fun A8a A7h=>Ca 3 A8a fun Bwz A8v A0f=>Aa A7h fun A5s A77=>Ae .i64 A5s fun A1y=>Ac A77<|Au fu call Ap a0 a1 nn (fu) (y0) (y1) (y2) (y3) Gn A7l Ata A8v A0f A3d A1y Aeq Agj Acb (y7) (y8) Uz Xk Iq Ic It Iw Ix Ir Id Iv (Ig==2) Ij In) (Af (call 10 [.pbox [.lst false 1 Aeq Agj,.sc (.int .i64 Acb)],.sc (.int .i64 2)]) fun Axf A4k=>Aa Axf fun A1w Avd=>Ae .i64 A1w fun A33=>Ac Avd<|Aa A4k fun A02 Aw0=>Aa A02 fun Ar5 Avv=>Ca 1 Ar5 fun Bwi Akn Alw=>Aa Avv fun Axi Axo=>Ae .i64 Axi fun Ako=>Ac Axo<|Ac Aw0<|Bd (A33==1) (Ab (wrap .i64 (900+y3)) fun A8m=>Af (call 9 [.sc (.int .i64 A8m),.sc (.int .i64 176)]) fun A8j Auw=>Ac Auw<|Aa A8j fun Av8 A7d=>Kc 1 Av8 fun DO RH=>Ac A7d<|An (decide (0+y1*3<=y7.length))<|An (decide (0+DO*1<=RH.length))<|Af (call 11 [.lst false 3 y1 (List.take (y1*3) (List.drop 0 y7)),.sc (.string Gn),.sc (.string (ByteArray.mk #[117,115,101,114])),.agg [.lst false 1 DO (List.take (DO*1) (List.drop 0 RH)),.sc (.int .i64 Iq),.sc (.int .u64 Ic),.sc (.int .u64 It),.sc (.int .i64 Iw),.sc (.bool Ix),.sc (.int .u64 Ir),.lst false 2 Id Iv,.sc (.bool (Ig==2)),.sc (.int .i64 Ij),.sc (.int .i64 In)]]) fun Ays A6l=>Ac A6l<|Aa Ays fun Ax5 A2l=>Ca 3 Ax5 fun Bxb A9b A4a=>Aa A2l fun A0g Ax1=>Ae .i64 A0g fun Asq=>Ac Ax1<|An (decide (0+y2*3<=y8.length))<|An (decide (0+DO*1<=RH.length))<|Af (call 20 [.lst false 3 y2 (List.take (y2*3) (List.drop 0 y8)),.sc (.string Gn),.sc (.string (ByteArray.mk #[117,115,101,114])),.agg [.lst false 1 DO (List.take (DO*1) (List.drop 0 RH)),.sc (.int .i64 Iq),.sc (.int .u64 Ic),.sc (.int .u64 It),.sc (.int .i64 Iw),.sc (.bool Ix),.sc (.int .u64 Ir),.lst false 2 Id Iv,.sc (.bool (Ig==2)),.sc (.int .i64 Ij),.sc (.int .i64 In)]]) fun Ay1 Axk=>Ac Axk<|Aa Ay1 fun Axn A5f=>Ca 3 Axn fun Bv0 A45 Auv=>Aa A5f fun A52 A3m=>Ae .i64 A52 fun A26=>Ac A3m<|B0 fu call Ap a0 a1 nn (fu) (y0) (y1) (y2) (y3) Gn A9b A4a A45 Auv Asq A26 Akn Alw Ako (y7) (y8) DO Iq Ic It Iw Ix Ir Id Iv (Ig==2) Ij In RH) (An (decide (0+y1*3<=y7.length))<|Af (call 11 [.lst false 3 y1 (List.take (y1*3) (List.drop 0 y7)),.sc (.string Gn),.sc (.string (ByteArray.mk #[117,115,101,114])),.agg [.lst false 1 Uz Xk,.sc (.int .i64 Iq),.sc (.int .u64 Ic),.sc (.int .u64 It),.sc (.int .i64 Iw),.sc (.bool Ix),.sc (.int .u64 Ir),.lst false 2 Id Iv,.sc (.bool (Ig==2)),.sc (.int .i64 Ij),.sc (.int .i64 In)]]) fun Awk A6b=>Ac A6b<|Aa Awk fun A0k Ase=>Ca 3 A0k fun Bxd At6 A7x=>Aa Ase fun A36 A6v=>Ae .i64 A36 fun A3g=>Ac A6v<|An (decide (0+y2*3<=y8.length))<|Af (call 20 [.lst false 3 y2 (List.take (y2*3) (List.drop 0 y8)),.sc (.string Gn),.sc (.string (ByteArray.mk #[117,115,101,114])),.agg [.lst false 1 Uz Xk,.sc (.int .i64 Iq),.sc (.int .u64 Ic),.sc (.int .u64 It),.sc (.int .i64 Iw),.sc (.bool Ix),.sc (.int .u64 Ir),.lst false 2 Id Iv,.sc (.bool (Ig==2)),.sc (.int .i64 Ij),.sc (.int .i64 In)]]) fun Axb Avy=>Ac Avy<|Aa Axb fun Bac A72=>Ca 3 Bac fun Bxl A6c Aws=>Aa A72 fun A68 Avx=>Ae .i64 A68 fun Ayb=>Ac Avx<|Au fu call Ap a0 a1 nn (fu) (y0) (y1) (y2) (y3) Gn At6 A7x A6c Aws A3g Ayb Akn Alw Ako (y7) (y8) Uz Xk Iq Ic It Iw Ix Ir Id Iv (Ig==2) Ij In)))) (Af (call 10 [.pbox [.lst false 1 Alj Al5,.sc (.int .i64 Akx)],.sc (.int .i64 5)]) fun A14 Azg=>Aa A14 fun As3 A9w=>Ae .i64 As3 fun Ama=>Ac A9w<|Aa Azg fun A4p Ar6=>Aa A4p fun Atl A8x=>Ca 1 Atl fun Bxa Ad4 Aew=>Aa A8x fun Axh Axv=>Ae .i64 Axh fun Af3=>Ac Axv<|Ac Ar6<|Bd (Ama==0) (An (decide (0+y1*3<=y7.length))<|Af (call 16 [.lst false 3 y1 (List.take (y1*3) (List.drop 0 y7)),.sc (.string Gn),.lst false 1 Um U0]) fun A2i Au1=>Ac Au1<|Aa A2i fun A3h Ato=>Ca 3 A3h fun Bvz Axu A03=>Aa Ato fun A5u Aui=>Ae .i64 A5u fun A71=>Ac Aui<|An (decide (0+y2*3<=y8.length))<|Af (call 17 [.lst false 3 y2 (List.take (y2*3) (List.drop 0 y8)),.sc (.string Gn),.lst false 1 Um U0]) fun A6e A66=>Ac A66<|Aa A6e fun A6f Aup=>Ca 3 A6f fun Bv6 A3y A1h=>Aa Aup fun A6o Bae=>Ae .i64 A6o fun A9i=>Ac Bae<|Au fu call Ap a0 a1 nn (fu) (y0) (y1) (y2) (y3) Gn Axu A03 A3y A1h A71 A9i Ad4 Aew Af3 (y7) (y8) Um U0 Iq Ic It Iw Ix Ir Id Iv (Ig==2) Ij In) (Bd (Ama==1) (An (decide (0+y1*3<=y7.length))<|Af (call 18 [.lst false 3 y1 (List.take (y1*3) (List.drop 0 y7)),.sc (.string Gn),.agg [.lst false 1 Um U0,.sc (.int .i64 Iq),.sc (.int .u64 Ic),.sc (.int .u64 It),.sc (.int .i64 Iw),.sc (.bool Ix),.sc (.int .u64 Ir),.lst false 2 Id Iv,.sc (.bool (Ig==2)),.sc (.int .i64 Ij),.sc (.int .i64 In)]]) fun A4u A07=>Ac A07<|Aa A4u fun A6u Avs=>Ca 3 A6u fun Bwn A8w Az1=>Aa Avs fun A9u A59=>Ae .i64 A9u fun Ax3=>Ac A59<|An (decide (0+y2*3<=y8.length))<|Af (call 19 [.lst false 3 y2 (List.take (y2*3) (List.drop 0 y8)),.sc (.string Gn),.agg [.lst false 1 Um U0,.sc (.int .i64 Iq),.sc (.int .u64 Ic),.sc (.int .u64 It),.sc (.int .i64 Iw),.sc (.bool Ix),.sc (.int .u64 Ir),.lst false 2 Id Iv,.sc (.bool (Ig==2)),.sc (.int .i64 Ij),.sc (.int .i64 In)]]) fun Azn Ayd=>Ac Ayd<|Aa Azn fun Asj A7k=>Ca 3 Asj fun Bw4 A69 Axl=>Aa A7k fun Ats Aun=>Ae .i64 Ats fun Auq=>Ac Aun<|Au fu call Ap a0 a1 nn (fu) (y0) (y1) (y2) (y3) Gn A8w Az1 A69 Axl Ax3 Auq Ad4 Aew Af3 (y7) (y8) Um U0 Iq Ic It Iw Ix Ir Id Iv (Ig==2) Ij In) (Af (call 10 [.pbox [.lst false 1 Ad4 Aew,.sc (.int .i64 Af3)],.sc (.int .i64 2)]) fun Aya Av1=>Aa Aya fun A6k A27=>Ae .i64 A6k fun Art=>Ac A27<|Aa Av1 fun Azh A9t=>Aa Azh fun A95 A7y=>Ca 1 A95 fun Bw7 Alm Akz=>Aa A7y fun Aw3 Awc=>Ae .i64 Aw3 fun Al6=>Ac Awc<|Ac A9t<|Bd (Art==1) (Ab (wrap .i64 (900+y3)) fun Ax4=>Af (call 9 [.sc (.int .i64 Ax4),.sc (.int .i64 176)]) fun A8l Au8=>Ac Au8<|Aa A8l fun A3b A0s=>Kc 1 A3b fun ES OE=>Ac A0s<|An (decide (0+y1*3<=y7.length))<|An (decide (0+ES*1<=OE.length))<|Af (call 11 [.lst false 3 y1 (List.take (y1*3) (List.drop 0 y7)),.sc (.string Gn),.sc (.string (ByteArray.mk #[117,115,101,114])),.agg [.lst false 1 ES (List.take (ES*1) (List.drop 0 OE)),.sc (.int .i64 Iq),.sc (.int .u64 Ic),.sc (.int .u64 It),.sc (.int .i64 Iw),.sc (.bool Ix),.sc (.int .u64 Ir),.lst false 2 Id Iv,.sc (.bool (Ig==2)),.sc (.int .i64 Ij),.sc (.int .i64 In)]]) fun Au4 A3v=>Ac A3v<|Aa Au4 fun Azx A9v=>Ca 3 Azx fun Bwm A3j A9a=>Aa A9v fun Axd A5b=>Ae .i64 Axd fun A2c=>Ac A5b<|An (decide (0+y2*3<=y8.length))<|An (decide (0+ES*1<=OE.length))<|Af (call 20 [.lst false 3 y2 (List.take (y2*3) (List.drop 0 y8)),.sc (.string Gn),.sc (.string (ByteArray.mk #[117,115,101,114])),.agg [.lst false 1 ES (List.take (ES*1) (List.drop 0 OE)),.sc (.int .i64 Iq),.sc (.int .u64 Ic),.sc (.int .u64 It),.sc (.int .i64 Iw),.sc (.bool Ix),.sc (.int .u64 Ir),.lst false 2 Id Iv,.sc (.bool (Ig==2)),.sc (.int .i64 Ij),.sc (.int .i64 In)]]) fun A11 A3p=>Ac A3p<|Aa A11 fun A1f Asv=>Ca 3 A1f fun Bv2 A1q A5i=>Aa Asv fun Ay3 Atn=>Ae .i64 Ay3 fun A89=>Ac Atn<|B0 fu call Ap a0 a1 nn (fu) (y0) (y1) (y2) (y3) Gn A3j A9a A1q A5i A2c A89 Alm Akz Al6 (y7) (y8) ES Iq Ic It Iw Ix Ir Id Iv (Ig==2) Ij In OE) (An (decide (0+y1*3<=y7.length))<|Af (call 11 [.lst false 3 y1 (List.take (y1*3) (List.drop 0 y7)),.sc (.string Gn),.sc (.string (ByteArray.mk #[117,115,101,114])),.agg [.lst false 1 Um U0,.sc (.int .i64 Iq),.sc (.int .u64 Ic),.sc (.int .u64 It),.sc (.int .i64 Iw),.sc (.bool Ix),.sc (.int .u64 Ir),.lst false 2 Id Iv,.sc (.bool (Ig==2)),.sc (.int .i64 Ij),.sc (.int .i64 In)]]) fun Aul A5q=>Ac A5q<|Aa Aul fun A2j As4=>Ca 3 A2j fun Bw0 Aux Auj=>Aa As4 fun Awa Aza=>Ae .i64 Awa fun Asb=>Ac Aza<|An (decide (0+y2*3<=y8.length))<|Af (call 20 [.lst false 3 y2 (List.take (y2*3) (List.drop 0 y8)),.sc (.string Gn),.sc (.string (ByteArray.mk #[117,115,101,114])),.agg [.lst false 1 Um U0,.sc (.int .i64 Iq),.sc (.int .u64 Ic),.sc (.int .u64 It),.sc (.int .i64 Iw),.sc (.bool Ix),.sc (.int .u64 Ir),.lst false 2 Id Iv,.sc (.bool (Ig==2)),.sc (.int .i64 Ij),.sc (.int .i64 In)]]) fun Asz A9p=>Ac A9p<|Aa Asz fun Az0 A79=>Ca 3 Az0 fun Bxs A21 A1z=>Aa A79 fun A0x Atm=>Ae .i64 A0x fun A64=>Ac Atm<|Au fu call Ap a0 a1 nn (fu) (y0) (y1) (y2) (y3) Gn Aux Auj A21 A1z Asb A64 Alm Akz Al6 (y7) (y8) Um U0 Iq Ic It Iw Ix Ir Id Iv (Ig==2) Ij In))))) (Af (call 5 []) fun A35 Ax6=>Ac Ax6<|Aa A35 fun Atd A2f=>Av Atd fun Ar2=>Ac A2f<|some (A2.mk [.sc (.bool Ar2)] []))) (Af (call 5 []) fun A3z Bad=>Ac Bad<|Aa A3z fun A7q Asr=>Av A7q fun Ayx=>Ac Asr<|some (A2.mk [.sc (.bool Ayx)] []))):=by kernel_rfl
theorem I8 (fu:Nat)(call:Ai)(Ap:Nat)(a0:List PV)(a1:Int)(m0 nn:Nat)(Dy:0<nn)(y0:Int)(y1:Nat)(y2:List PV)(y3:Nat)(y4:List PV)(y5:Int)(y6:ByteArray)(y7:Nat)(y8:List PV)(y9:Nat)(Fi:List PV)(Gi Ek:Int)(Gg:Nat)(Fu:List PV)(G5:Int)(Ex:Nat)(Gq:List PV)(N9 Nz:Int)(N5 N2:Int)(Oh:Bool)(Oc:Int)(Oj:Nat)(Oa:List PV)(N1:Bool)(Oo I3:Int):Bc fu call Ap a0 a1 m0 nn y0 y1 y2 y3 y4 y5 y6 y7 y8 y9 Fi Gi Ek Gg Fu G5 Ex Gq N9 Nz N5 N2 Oh Oc Oj Oa N1 Oo I3=(Bd (Gi != Ek) (some (A2.mk [.sc (.bool false)] [])) (Af (call 21 [.lst false 3 y7 y8,.lst false 3 y9 Fi]) fun Arv Avb=>Ac Avb<|Aa Arv fun Asl Aw6=>Av Asl fun Azs=>Ac Aw6<|Bd (!Azs) (some (A2.mk [.sc (.bool false)] [])) (Bd (Gi==0) (Af (call 14 [.lst false 3 y7 y8,.sc (.string y6)]) fun Ayg Atb=>Ac Atb<|Aa Ayg fun A2y A32=>Ae .i64 A2y fun A4g=>Aa A32 fun A75 A0h=>Av A75 fun A3s=>Ac A0h<|Af (call 22 [.lst false 3 y9 Fi,.sc (.string y6)]) fun A9c A0l=>Ac A0l<|Aa A9c fun Auo A5o=>Ae .i64 Auo fun Aua=>Aa A5o fun A3e A8n=>Av A3e fun Axz=>Ac A8n<|Af (call 23 [.lst false 3 y7 y8,.lst false 1 Ex Gq]) fun A96 A9m=>Ac A9m<|Aa A96 fun A5t A9y=>Ae .i64 A5t fun A0u=>Aa A9y fun Au7 Atx=>Ae .i64 Au7 fun A6j=>Aa Atx fun Ayo A1i=>Av Ayo fun Avh=>Ac A1i<|Af (call 24 [.lst false 3 y9 Fi,.lst false 1 Ex Gq]) fun Aw4 Aty=>Ac Aty<|Aa Aw4 fun A3l Az4=>Ae .i64 A3l fun Aw8=>Aa Az4 fun A50 A84=>Ae .i64 A50 fun Au5=>Aa A84 fun Azo A34=>Av Azo fun A4j=>Ac A34<|Bd (A4g != Aua) (some (A2.mk [.sc (.bool false)] [])) (Bd (!A3s==Axz) (some (A2.mk [.sc (.bool false)] [])) (Bd (A0u != Aw8) (some (A2.mk [.sc (.bool false)] [])) (Bd (A6j != Au5) (some (A2.mk [.sc (.bool false)] [])) (Bd (!Avh==A4j) (some (A2.mk [.sc (.bool false)] [])) (Af (call 13 [.lst false 3 y7 y8,.sc (.int .u64 y0),.sc (.string y6)]) fun A47 A2z=>Ac A2z<|Aa A47 fun Awr A5n=>Kc 1 Awr fun Ae9 Al7=>Ac A5n<|Af (call 26 [.lst false 3 y9 Fi,.sc (.int .u64 y0),.sc (.string y6)]) fun A1l A7c=>Ac A7c<|Aa A1l fun A8f Aug=>Kc 1 A8f fun Aer Ak8=>Ac Aug<|An (decide (0+Ae9*1<=Al7.length))<|An (decide (0+Aer*1<=Ak8.length))<|Af (call 25 [.lst false 1 Ae9 (List.take (Ae9*1) (List.drop 0 Al7)),.lst false 1 Aer (List.take (Aer*1) (List.drop 0 Ak8))]) fun A2k Avk=>Ac Avk<|Aa A2k fun A8z A4z=>Av A8z fun A2q=>Ac A4z<|Bd (!A2q) (some (A2.mk [.sc (.bool false)] [])) (Ab (wrap .i64 (y5+1)) fun Aw1=>Ak fu call Ap a0 a1 (m0) (y0) (y7) (y8) (y9) (Fi) Aw1 (Gg) (Fu) (G5)))))))) (Af (call 14 [.lst false 3 y1 y2,.sc (.string y6)]) fun A9f A87=>Ac A87<|Aa A9f fun A3u A92=>Ae .i64 A3u fun A9d=>Aa A92 fun Ayq Auh=>Av Ayq fun A5v=>Ac Auh<|Af (call 22 [.lst false 3 y3 y4,.sc (.string y6)]) fun A8s A0n=>Ac A0n<|Aa A8s fun A3t As2=>Ae .i64 A3t fun Ayt=>Aa As2 fun Ar3 A8k=>Av Ar3 fun A37=>Ac A8k<|Af (call 23 [.lst false 3 y1 y2,.lst false 1 Ex Gq]) fun Azu A0w=>Ac A0w<|Aa Azu fun Ary Ay9=>Ae .i64 Ary fun A2d=>Aa Ay9 fun Ay4 A0a=>Ae .i64 Ay4 fun A8b=>Aa A0a fun Atg Atr=>Av Atg fun A5l=>Ac Atr<|Af (call 24 [.lst false 3 y3 y4,.lst false 1 Ex Gq]) fun A6a A10=>Ac A10<|Aa A6a fun A7m A7p=>Ae .i64 A7m fun A7a=>Aa A7p fun Ava A6n=>Ae .i64 Ava fun A5k=>Aa A6n fun A5a A42=>Av A5a fun A7v=>Ac A42<|Bd (A9d != Ayt) (some (A2.mk [.sc (.bool false)] [])) (Bd (!A5v==A37) (some (A2.mk [.sc (.bool false)] [])) (Bd (A2d != A7a) (some (A2.mk [.sc (.bool false)] [])) (Bd (A8b != A5k) (some (A2.mk [.sc (.bool false)] [])) (Bd (!A5l==A7v) (some (A2.mk [.sc (.bool false)] [])) (Af (call 13 [.lst false 3 y1 y2,.sc (.int .u64 y0),.sc (.string y6)]) fun A56 Auf=>Ac Auf<|Aa A56 fun Awp A7t=>Kc 1 Awp fun Aeu Aky=>Ac A7t<|Af (call 26 [.lst false 3 y3 y4,.sc (.int .u64 y0),.sc (.string y6)]) fun A48 Avu=>Ac Avu<|Aa A48 fun A6y Asa=>Kc 1 A6y fun Aey Alx=>Ac Asa<|An (decide (0+Aeu*1<=Aky.length))<|An (decide (0+Aey*1<=Alx.length))<|Af (call 25 [.lst false 1 Aeu (List.take (Aeu*1) (List.drop 0 Aky)),.lst false 1 Aey (List.take (Aey*1) (List.drop 0 Alx))]) fun Awb A4y=>Ac A4y<|Aa Awb fun A7b Axs=>Av A7b fun A88=>Ac Axs<|Bd (!A88) (some (A2.mk [.sc (.bool false)] [])) (Ab (wrap .i64 (y5+1)) fun Asf=>Ak fu call Ap a0 a1 (m0) (y0) (y1) (y2) (y3) (y4) Asf (Gg) (Fu) (G5))))))))))):=by cases nn with|zero=>exact absurd Dy (Nat.lt_irrefl 0)|succ nn=>kernel_rfl
theorem I0 (fu:Nat)(call:Ai)(Ap:Nat)(a0:List PV)(a1:Int)(m0 nn:Nat)(Dy:0<nn)(y0:Int)(y1:Nat)(y2:List PV)(y3:Nat)(y4:List PV)(y5:Int)(y6:ByteArray)(y7:Nat)(y8:List PV)(y9:Nat)(Fi:List PV)(Gi Ek:Int)(Gg:Nat)(Fu:List PV)(G5:Int)(Ex:Nat)(Gq N9:Int)(Nz N5:Int)(N2:Bool)(Oh:Int)(Oc:Nat)(Oj:List PV)(Oa:Bool)(N1 Oo:Int)(I3:List PV):Cr fu call Ap a0 a1 m0 nn y0 y1 y2 y3 y4 y5 y6 y7 y8 y9 Fi Gi Ek Gg Fu G5 Ex Gq N9 Nz N5 N2 Oh Oc Oj Oa N1 Oo I3=(Bd (Gi != Ek) (some (A2.mk [.sc (.bool false)] [])) (Af (call 21 [.lst false 3 y7 y8,.lst false 3 y9 Fi]) fun Asd A30=>Ac A30<|Aa Asd fun Awe A49=>Av Awe fun Ask=>Ac A49<|Bd (!Ask) (some (A2.mk [.sc (.bool false)] [])) (Bd (Gi==0) (Af (call 14 [.lst false 3 y7 y8,.sc (.string y6)]) fun Ay7 A8y=>Ac A8y<|Aa Ay7 fun Awt Az2=>Ae .i64 Awt fun A05=>Aa Az2 fun Awq Asi=>Av Awq fun Azw=>Ac Asi<|Af (call 22 [.lst false 3 y9 Fi,.sc (.string y6)]) fun Az7 A90=>Ac A90<|Aa Az7 fun A2e A0v=>Ae .i64 A2e fun A0z=>Aa A0v fun Asw A7o=>Av Asw fun A3o=>Ac A7o<|An (decide (0+Ex*1<=I3.length))<|Af (call 23 [.lst false 3 y7 y8,.lst false 1 Ex (List.take (Ex*1) (List.drop 0 I3))]) fun Av5 A9s=>Ac A9s<|Aa Av5 fun A1u Aut=>Ae .i64 A1u fun Az8=>Aa Aut fun A19 A3r=>Ae .i64 A19 fun A9x=>Aa A3r fun Ax0 Arw=>Av Ax0 fun Aru=>Ac Arw<|An (decide (0+Ex*1<=I3.length))<|Af (call 24 [.lst false 3 y9 Fi,.lst false 1 Ex (List.take (Ex*1) (List.drop 0 I3))]) fun A8e A29=>Ac A29<|Aa A8e fun A81 A3a=>Ae .i64 A81 fun Azq=>Aa A3a fun A9g A0j=>Ae .i64 A9g fun At8=>Aa A0j fun Asu A57=>Av Asu fun Ayc=>Ac A57<|Bd (A05 != A0z) (some (A2.mk [.sc (.bool false)] [])) (Bd (!Azw==A3o) (some (A2.mk [.sc (.bool false)] [])) (Bd (Az8 != Azq) (some (A2.mk [.sc (.bool false)] [])) (Bd (A9x != At8) (some (A2.mk [.sc (.bool false)] [])) (Bd (!Aru==Ayc) (some (A2.mk [.sc (.bool false)] [])) (Af (call 13 [.lst false 3 y7 y8,.sc (.int .u64 y0),.sc (.string y6)]) fun Axx A5d=>Ac A5d<|Aa Axx fun Atc Ayh=>Kc 1 Atc fun Ad2 Al4=>Ac Ayh<|Af (call 26 [.lst false 3 y9 Fi,.sc (.int .u64 y0),.sc (.string y6)]) fun Avc A22=>Ac A22<|Aa Avc fun A15 A1d=>Kc 1 A15 fun Agw Ak2=>Ac A1d<|An (decide (0+Ad2*1<=Al4.length))<|An (decide (0+Agw*1<=Ak2.length))<|Af (call 25 [.lst false 1 Ad2 (List.take (Ad2*1) (List.drop 0 Al4)),.lst false 1 Agw (List.take (Agw*1) (List.drop 0 Ak2))]) fun A9q Awu=>Ac Awu<|Aa A9q fun Av9 A6d=>Av Av9 fun Axt=>Ac A6d<|Bd (!Axt) (some (A2.mk [.sc (.bool false)] [])) (Ab (wrap .i64 (y5+1)) fun A08=>Ak fu call Ap a0 a1 (m0) (y0) (y7) (y8) (y9) (Fi) A08 (Gg) (Fu) (G5)))))))) (Af (call 14 [.lst false 3 y1 y2,.sc (.string y6)]) fun A5j A1t=>Ac A1t<|Aa A5j fun A3w Aym=>Ae .i64 A3w fun Awi=>Aa Aym fun Aye A4h=>Av Aye fun A2t=>Ac A4h<|Af (call 22 [.lst false 3 y3 y4,.sc (.string y6)]) fun Azb Azy=>Ac Azy<|Aa Azb fun Aur A09=>Ae .i64 Aur fun A74=>Aa A09 fun As0 A0m=>Av As0 fun Ar4=>Ac A0m<|An (decide (0+Ex*1<=I3.length))<|Af (call 23 [.lst false 3 y1 y2,.lst false 1 Ex (List.take (Ex*1) (List.drop 0 I3))]) fun As7 A4v=>Ac A4v<|Aa As7 fun Ay2 A3x=>Ae .i64 Ay2 fun A4x=>Aa A3x fun Ate A58=>Ae .i64 Ate fun A67=>Aa A58 fun As8 Axa=>Av As8 fun Aww=>Ac Axa<|An (decide (0+Ex*1<=I3.length))<|Af (call 24 [.lst false 3 y3 y4,.lst false 1 Ex (List.take (Ex*1) (List.drop 0 I3))]) fun A63 Avj=>Ac Avj<|Aa A63 fun Ax9 Avn=>Ae .i64 Ax9 fun A7z=>Aa Avn fun At0 Azz=>Ae .i64 At0 fun Arx=>Aa Azz fun Axj A8d=>Av Axj fun Au9=>Ac A8d<|Bd (Awi != A74) (some (A2.mk [.sc (.bool false)] [])) (Bd (!A2t==Ar4) (some (A2.mk [.sc (.bool false)] [])) (Bd (A4x != A7z) (some (A2.mk [.sc (.bool false)] [])) (Bd (A67 != Arx) (some (A2.mk [.sc (.bool false)] [])) (Bd (!Aww==Au9) (some (A2.mk [.sc (.bool false)] [])) (Af (call 13 [.lst false 3 y1 y2,.sc (.int .u64 y0),.sc (.string y6)]) fun A24 A2b=>Ac A2b<|Aa A24 fun A5w A0b=>Kc 1 A5w fun Aga Alc=>Ac A0b<|Af (call 26 [.lst false 3 y3 y4,.sc (.int .u64 y0),.sc (.string y6)]) fun A5e Avp=>Ac Avp<|Aa A5e fun Ayj A6z=>Kc 1 Ayj fun Ab4 Ame=>Ac A6z<|An (decide (0+Aga*1<=Alc.length))<|An (decide (0+Ab4*1<=Ame.length))<|Af (call 25 [.lst false 1 Aga (List.take (Aga*1) (List.drop 0 Alc)),.lst false 1 Ab4 (List.take (Ab4*1) (List.drop 0 Ame))]) fun A1p Awv=>Ac Awv<|Aa A1p fun Ass A60=>Av Ass fun As6=>Ac A60<|Bd (!As6) (some (A2.mk [.sc (.bool false)] [])) (Ab (wrap .i64 (y5+1)) fun Azd=>Ak fu call Ap a0 a1 (m0) (y0) (y1) (y2) (y3) (y4) Azd (Gg) (Fu) (G5))))))))))):=by cases nn with|zero=>exact absurd Dy (Nat.lt_irrefl 0)|succ nn=>kernel_rfl
theorem Mj (fu d Ap:Nat)(a0:List PV)(a1:Int):Ag C0 prog fu (d+1) Gl [.lst false 1 Ap a0,.sc (.int .u64 a1)]=(fun (call:Ai)=>Af (call 6 [.lst false 1 Ap a0]) fun x1 x2=>Ac x2<|Aa x1 fun x3 x4=>Ux x3 fun x5=>Aa x5 fun x6 x7=>Ca 1 x6 fun x8 x9 Ia=>Aa x7 fun H6 H7=>Ae .i64 H6 fun L8=>Ac H7<|Ac x4<|Bm fu call Ap a0 a1 (fu) (a1) 0 0 0 x9 Ia L8 ([]) ([])) (Ag C0 prog fu d):=by kernel_rfl
end
section
open Go.Proofs.Try (prog)
open Go.IntKind (wrap)
set_option maxRecDepth 100000
theorem Aj4 (o:Option Nat):∃(j:Int)(b:Bool),Gs o=[.sc (.int .i64 j),.sc (.bool b)]:=by
 cases o with
 |none=>exact⟨_,_,rfl⟩
 |some i=>exact⟨_,_,rfl⟩
theorem Ahu (o:Option (Nat × Nat)):∃(j k:Int)(b:Bool),JK o=[.sc (.int .i64 j),.sc (.int .i64 k),.sc (.bool b)]:=by
 cases o with
 |none=>exact⟨_,_,_,rfl⟩
 |some i=>exact⟨_,_,_,rfl⟩
structure Kh (l:List Cw):Prop where
 len:l.length<=16
 ok:∀a∈l,a.ok
theorem Kh.nil:Kh []:=⟨by simp,fun a h=>by cases h⟩
theorem Kh.set {l:List Cw}(h:Kh l){i:Nat}{a:Cw}(ha:a.ok):Kh (l.set i a):=⟨by rw[List.length_set];exact h.len,fun x hx=>by
 rcases List.mem_or_eq_of_mem_set hx with hx|rfl
 ·exact h.ok x hx
 ·exact ha⟩
theorem Akj {l:List Cw}{nm us:ByteArray}{c:Sd}(h:Kh l)(hc:c.ok):Kh (AL l nm us c).1:=by
 unfold AL;split
 ·exact Kh.nil
 split
 ·exact Kh.nil
 split
 ·exact Kh.nil
 split
 ·split
  ·rename_i a ha;split
   ·exact Kh.nil
   ·have hk:=h.ok a (List.mem_of_getElem? ha);refine h.set ⟨?_,fun x hx=>?_⟩
    ·show (a.cr++[c]).length<=_;simp;omega
    ·rcases List.mem_append.1 hx with hx|hx
     ·exact hk.cs x hx
     ·rw[List.mem_singleton] at hx;subst hx;exact hc
  ·exact Kh.nil
 ·split
  ·exact Kh.nil
  ·refine⟨by simp;omega,fun x hx=>?_⟩
   rcases List.mem_append.1 hx with hx|hx
   ·exact h.ok x hx
   ·rw[List.mem_singleton] at hx;subst hx
    exact⟨by simp,fun y hy=>by
     rw[List.mem_singleton] at hy;subst hy;exact hc⟩
theorem WD {l:List Cw}{nm:ByteArray}{id:List Int}{i k:Nat}{a:Cw}(h:MX l nm id=some (i,k,a)):l[i]?=some a:=by
 unfold MX at h;cases h1:X9 nm 0 l with
 |none=>rw[h1] at h;cases h
 |some i'=>
  rw[h1] at h;dsimp only at h;cases h2:l[i']? with
  |none=>rw[h2] at h;cases h
  |some a'=>
   rw[h2] at h;dsimp only at h;cases h3:KO id 0 a'.cr with
   |none=>rw[h3] at h;cases h
   |some k'=>
    rw[h3] at h;cases h;exact h2
theorem Ah4 {l:List Cw}{nm:ByteArray}{c:Sd}(h:Kh l)(hc:c.ok):Kh (FZ l nm c).1:=by
 unfold FZ;split
 ·rename_i i k a hl;have hk:=h.ok a (List.mem_of_getElem? (WD hl));refine h.set ⟨?_,fun x hx=>?_⟩
  ·show (a.cr.set k c).length<=_;rw[List.length_set];exact hk.cn
  ·rcases List.mem_or_eq_of_mem_set hx with hx|rfl
   ·exact hk.cs x hx
   ·exact hc
 ·exact Kh.nil
theorem Aib {l:List Cw}{nm:ByteArray}{id:List Int}(h:Kh l):Kh (FS l nm id).1:=by
 unfold FS;split
 ·rename_i i k a hl;have hk:=h.ok a (List.mem_of_getElem? (WD hl));refine h.set ⟨?_,fun x hx=>?_⟩
  ·show (a.cr.eraseIdx k).length<=_;rw[List.length_eraseIdx];have:=hk.cn;split<;>omega
  ·exact hk.cs x (List.mem_of_mem_eraseIdx hx)
 ·exact Kh.nil
section
variable {fu d:Nat}
theorem AO (B2:2000<=fu){l:List Cw}(h:Kh l){nm:ByteArray}(Hl:nm.size<=500)(secret:Int)(id:List Int):∃(j j1 j2:Int)(b b1:Bool)(A:List (List Int)),A.length=4 ∧
  Ag C0 prog fu (d+8) 14 [.lst false 3 l.length (Az l),.sc (.string nm)]=some ⟨[.sc (.int .i64 j),.sc (.bool b)],[]⟩ ∧
  Ag C0 prog fu (d+8) 22 [.lst false 3 l.length (Az l),.sc (.string nm)]=some ⟨[.sc (.int .i64 j),.sc (.bool b)],[]⟩ ∧
  Ag C0 prog fu (d+8) 23 [.lst false 3 l.length (Az l),.lst false 1 id.length (Am .u8 id)]=some ⟨[.sc (.int .i64 j1),.sc (.int .i64 j2),.sc (.bool b1)],[]⟩ ∧
  Ag C0 prog fu (d+8) 24 [.lst false 3 l.length (Az l),.lst false 1 id.length (Am .u8 id)]=some ⟨[.sc (.int .i64 j1),.sc (.int .i64 j2),.sc (.bool b1)],[]⟩ ∧
  Ag C0 prog fu (d+8) 13 [.lst false 3 l.length (Az l),.sc (.int .u64 secret),.sc (.string nm)]=some ⟨[.own 1 4 (Cp A)],[]⟩ ∧
  Ag C0 prog fu (d+8) 26 [.lst false 3 l.length (Az l),.sc (.int .u64 secret),.sc (.string nm)]=some ⟨[.own 1 4 (Cp A)],[]⟩ ∧
  Ag C0 prog fu (d+8) 25 [.lst false 1 4 (Cp A),.lst false 1 4 (Cp A)]=some ⟨[.sc (.bool true)],[]⟩ ∧
  Ag C0 prog fu (d+8) 21 [.lst false 3 l.length (Az l),.lst false 3 l.length (Az l)]=some ⟨[.sc (.bool true)],[]⟩:=by
 have hl:=h.len;have hs:∀a∈l,a.cr.length<=1000:=fun a ha=>(h.ok a ha).cn
 obtain⟨j,b,e1⟩:=Aj4 (X9 nm 0 l);obtain⟨j1,j2,b1,e2⟩:=Ahu (X1 id 0 l)
 have lA:(MN l secret nm).length=4:=by
  unfold MN;rw[Pc,Adr (Ae3 _ _)];rfl
 have f1:=Ww (xs:=Ie) (fu:=fu) (d:=d+7) (l:=l) (nm:=nm) (by omega) (by omega)
 have f2:=S8 (fu:=fu) (d:=d+7) (l:=l) (nm:=nm) (by omega) (by omega)
 have o1:=Age (xs:=Ie) (fu:=fu) (d:=d+5) (id:=id) (l:=l) (by omega) hs B2
 have o2:=XD (fu:=fu) (d:=d+6) (id:=id) (l:=l) (by omega) hs B2
 have a1:=EF (fu:=fu) (d:=d+1) B2 (l:=l) (by omega) h.ok secret Hl
 have a2:=QL (fu:=fu) (d:=d+2) B2 (l:=l) (by omega) h.ok secret Hl
 have sl:=Aha (fu:=fu) (d:=d+7) (L:=MN l secret nm) (by omega) (by omega)
 rw[e1] at f1 f2;rw[e2] at o1 o2;rw[lA] at sl;exact⟨j,j1,j2,b,b1,MN l secret nm,lA,f1,f2,o1,o2,a1,a2,sl,Aaq (fu:=fu) (d:=d+4) (by omega) h.ok B2⟩
theorem H1 (B2:2000<=fu){Ap m0 i p:Nat}{a0:List PV}{a1 secret:Int}{nm:ByteArray}{X:List Cw}{z:Int}{dl:List Int}{c:Sd}(hX:Kh X)(Hl:nm.size<=500)(hi:i<=100)
  (h1:z=0->Ak fu (Ag C0 prog fu (d+8)) Ap a0 a1 m0 secret X.length (Az X) X.length (Az X) ((i+1:Nat):Int) dl.length (Am .i64 dl) (p:Int)=some ⟨[.sc (.bool true)],[]⟩)
  (h2:z≠0->A1 fu (Ag C0 prog fu (d+8)) Ap a0 a1 m0 secret 0 0 ((i+1:Nat):Int) dl.length (Am .i64 dl) (p:Int) [] []=some ⟨[.sc (.bool true)],[]⟩):
  Au fu (Ag C0 prog fu (d+8)) Ap a0 a1 m0 fu secret 0 0 (i:Int) nm X.length (Az X) X.length (Az X) z z dl.length (Am .i64 dl) (p:Int) [] [] c.id.length (Am .u8 c.id) c.ht c.root c.model c.fmt c.sh c.used c.rg.length (H5 c.rg) c.sus c.since c.last=some ⟨[.sc (.bool true)],[]⟩:=by
 rw[Kf (Dy:=by omega)]
 obtain⟨_,_,_,_,_,_,_,_,_,_,_,_,_,_,sA⟩:=AO (fu:=fu) (d:=d) B2 hX Hl secret c.id;have bI:∀x:Int,(x != x)=false:=fun x=>by simp
 have bB:∀x:Bool,(!(x==x))=false:=fun x=>by simp
 have bt:(!true)=false:=rfl;have w1:wrap .i64 ((i:Int)+1)=((i+1:Nat):Int):=by rw[wrap_i64 (by omega) (by omega)];omega
 have LI:=A0 .u8 c.id;have tI:List.take c.id.length (Am .u8 c.id)=Am .u8 c.id:=Ha (by omega)
 by_cases hz:z=0
 ·have h1:=h1 hz;obtain⟨j,j1,j2,b,b1,A,lA,f1,f2,o1,o2,a1,a2,sl,_⟩:=AO (fu:=fu) (d:=d) B2 hX Hl secret c.id;have lR:=Eg A;have tR:List.take 4 (Cp A)=Cp A:=Ha (by omega)
  rw[lA] at lR;have bz:(z==0)=true:=by simp[hz]
  try unfold Ab
  repeat first
   |((with_reducible first|apply A8|apply Aw|apply A5|apply Ay|apply B5|apply Ax|apply A9|apply A7);· first|with_reducible rfl|(simp (disch:=omega) only[gT,sA,bz,f1,f2,o1,o2,a1,a2,sl,h1,bI,bB,w1,Cm,Ch,Nat.zero_mul,Cl,List.take_nil,Dg,tI,LI,lR,tR,bt]<;>first|with_reducible rfl|omega)|omega)
   |(with_reducible apply A6;· first|with_reducible rfl|(simp (disch:=omega) only[gF,sA,bz,f1,f2,o1,o2,a1,a2,sl,h1,bI,bB,w1,Cm,Ch,Nat.zero_mul,Cl,List.take_nil,Dg,tI,LI,lR,tR,bt]<;>omega))
  try simp (disch:=omega) only[sA,bz,f1,f2,o1,o2,a1,a2,sl,h1,bI,bB,w1,Cm,Ch,Nat.zero_mul,Cl,List.take_nil,Dg,tI,LI,lR,tR,bt]
 ·have h2:=h2 hz;obtain⟨j,j1,j2,b,b1,A,lA,f1,f2,o1,o2,a1,a2,sl,_⟩:=AO (fu:=fu) (d:=d) B2 Kh.nil Hl secret c.id;have lR:=Eg A;have tR:List.take 4 (Cp A)=Cp A:=Ha (by omega)
  rw[lA] at lR;have bz:(z==0)=false:=by simp[hz]
  simp only[Dg,Az,List.flatMap_nil] at f1 f2 o1 o2 a1 a2
  try unfold Ab
  repeat first
   |((with_reducible first|apply A8|apply Aw|apply A5|apply Ay|apply B5|apply Ax|apply A9|apply A7);· first|with_reducible rfl|(simp (disch:=omega) only[gT,sA,bz,f1,f2,o1,o2,a1,a2,sl,h2,bI,bB,w1,Cm,Ch,Nat.zero_mul,Cl,List.take_nil,Dg,tI,LI,lR,tR,bt]<;>first|with_reducible rfl|omega)|omega)
   |(with_reducible apply A6;· first|with_reducible rfl|(simp (disch:=omega) only[gF,sA,bz,f1,f2,o1,o2,a1,a2,sl,h2,bI,bB,w1,Cm,Ch,Nat.zero_mul,Cl,List.take_nil,Dg,tI,LI,lR,tR,bt]<;>omega))
  try simp (disch:=omega) only[sA,bz,f1,f2,o1,o2,a1,a2,sl,h2,bI,bB,w1,Cm,Ch,Nat.zero_mul,Cl,List.take_nil,Dg,tI,LI,lR,tR,bt]
theorem Wk (B2:2000<=fu){Ap m0 i p:Nat}{a0:List PV}{a1 secret:Int}{nm:ByteArray}{X:List Cw}{z:Int}{dl:List Int}{c:Sd}(hX:Kh X)(Hl:nm.size<=500)(hi:i<=100)
  (h1:z=0->Ak fu (Ag C0 prog fu (d+8)) Ap a0 a1 m0 secret X.length (Az X) X.length (Az X) ((i+1:Nat):Int) dl.length (Am .i64 dl) (p:Int)=some ⟨[.sc (.bool true)],[]⟩)
  (h2:z≠0->A1 fu (Ag C0 prog fu (d+8)) Ap a0 a1 m0 secret 0 0 ((i+1:Nat):Int) dl.length (Am .i64 dl) (p:Int) [] []=some ⟨[.sc (.bool true)],[]⟩):
  B0 fu (Ag C0 prog fu (d+8)) Ap a0 a1 m0 fu secret 0 0 (i:Int) nm X.length (Az X) X.length (Az X) z z dl.length (Am .i64 dl) (p:Int) [] [] c.id.length c.ht c.root c.model c.fmt c.sh c.used c.rg.length (H5 c.rg) c.sus c.since c.last (Am .u8 c.id)=some ⟨[.sc (.bool true)],[]⟩:=by
 rw[Jr (Dy:=by omega)]
 obtain⟨_,_,_,_,_,_,_,_,_,_,_,_,_,_,sA⟩:=AO (fu:=fu) (d:=d) B2 hX Hl secret c.id;have bI:∀x:Int,(x != x)=false:=fun x=>by simp
 have bB:∀x:Bool,(!(x==x))=false:=fun x=>by simp
 have bt:(!true)=false:=rfl;have w1:wrap .i64 ((i:Int)+1)=((i+1:Nat):Int):=by rw[wrap_i64 (by omega) (by omega)];omega
 have LI:=A0 .u8 c.id;have tI:List.take c.id.length (Am .u8 c.id)=Am .u8 c.id:=Ha (by omega)
 by_cases hz:z=0
 ·have h1:=h1 hz;obtain⟨j,j1,j2,b,b1,A,lA,f1,f2,o1,o2,a1,a2,sl,_⟩:=AO (fu:=fu) (d:=d) B2 hX Hl secret c.id;have lR:=Eg A;have tR:List.take 4 (Cp A)=Cp A:=Ha (by omega)
  rw[lA] at lR;have bz:(z==0)=true:=by simp[hz]
  try unfold Ab
  repeat first
   |((with_reducible first|apply A8|apply Aw|apply A5|apply Ay|apply B5|apply Ax|apply A9|apply A7);· first|with_reducible rfl|(simp (disch:=omega) only[gT,sA,bz,f1,f2,o1,o2,a1,a2,sl,h1,bI,bB,w1,Cm,Ch,Nat.zero_mul,Cl,List.take_nil,Dg,tI,LI,lR,tR,bt]<;>first|with_reducible rfl|omega)|omega)
   |(with_reducible apply A6;· first|with_reducible rfl|(simp (disch:=omega) only[gF,sA,bz,f1,f2,o1,o2,a1,a2,sl,h1,bI,bB,w1,Cm,Ch,Nat.zero_mul,Cl,List.take_nil,Dg,tI,LI,lR,tR,bt]<;>omega))
  try simp (disch:=omega) only[sA,bz,f1,f2,o1,o2,a1,a2,sl,h1,bI,bB,w1,Cm,Ch,Nat.zero_mul,Cl,List.take_nil,Dg,tI,LI,lR,tR,bt]
 ·have h2:=h2 hz;obtain⟨j,j1,j2,b,b1,A,lA,f1,f2,o1,o2,a1,a2,sl,_⟩:=AO (fu:=fu) (d:=d) B2 Kh.nil Hl secret c.id;have lR:=Eg A;have tR:List.take 4 (Cp A)=Cp A:=Ha (by omega)
  rw[lA] at lR;have bz:(z==0)=false:=by simp[hz]
  simp only[Dg,Az,List.flatMap_nil] at f1 f2 o1 o2 a1 a2
  try unfold Ab
  repeat first
   |((with_reducible first|apply A8|apply Aw|apply A5|apply Ay|apply B5|apply Ax|apply A9|apply A7);· first|with_reducible rfl|(simp (disch:=omega) only[gT,sA,bz,f1,f2,o1,o2,a1,a2,sl,h2,bI,bB,w1,Cm,Ch,Nat.zero_mul,Cl,List.take_nil,Dg,tI,LI,lR,tR,bt]<;>first|with_reducible rfl|omega)|omega)
   |(with_reducible apply A6;· first|with_reducible rfl|(simp (disch:=omega) only[gF,sA,bz,f1,f2,o1,o2,a1,a2,sl,h2,bI,bB,w1,Cm,Ch,Nat.zero_mul,Cl,List.take_nil,Dg,tI,LI,lR,tR,bt]<;>omega))
  try simp (disch:=omega) only[sA,bz,f1,f2,o1,o2,a1,a2,sl,h2,bI,bB,w1,Cm,Ch,Nat.zero_mul,Cl,List.take_nil,Dg,tI,LI,lR,tR,bt]
theorem Mu (B2:2000<=fu){Ap m0 i p:Nat}{a0:List PV}{a1 secret:Int}{nm:ByteArray}{l X:List Cw}{z:Int}{dl:List Int}{c:Sd}(hl:Kh l)(hX:Kh X)(Hl:nm.size<=500)(hi:i<=100)
  (h1:z=0->Ak fu (Ag C0 prog fu (d+8)) Ap a0 a1 m0 secret X.length (Az X) X.length (Az X) ((i+1:Nat):Int) dl.length (Am .i64 dl) (p:Int)=some ⟨[.sc (.bool true)],[]⟩)
  (h2:z≠0->Ak fu (Ag C0 prog fu (d+8)) Ap a0 a1 m0 secret l.length (Az l) l.length (Az l) ((i+1:Nat):Int) dl.length (Am .i64 dl) (p:Int)=some ⟨[.sc (.bool true)],[]⟩):
  Bc fu (Ag C0 prog fu (d+8)) Ap a0 a1 m0 fu secret l.length (Az l) l.length (Az l) (i:Int) nm X.length (Az X) X.length (Az X) z z dl.length (Am .i64 dl) (p:Int) c.id.length (Am .u8 c.id) c.ht c.root c.model c.fmt c.sh c.used c.rg.length (H5 c.rg) c.sus c.since c.last=some ⟨[.sc (.bool true)],[]⟩:=by
 rw[I8 (Dy:=by omega)]
 obtain⟨_,_,_,_,_,_,_,_,_,_,_,_,_,_,sA⟩:=AO (fu:=fu) (d:=d) B2 hX Hl secret c.id;have bI:∀x:Int,(x != x)=false:=fun x=>by simp
 have bB:∀x:Bool,(!(x==x))=false:=fun x=>by simp
 have bt:(!true)=false:=rfl;have w1:wrap .i64 ((i:Int)+1)=((i+1:Nat):Int):=by rw[wrap_i64 (by omega) (by omega)];omega
 have LI:=A0 .u8 c.id;have tI:List.take c.id.length (Am .u8 c.id)=Am .u8 c.id:=Ha (by omega)
 by_cases hz:z=0
 ·have h1:=h1 hz;obtain⟨j,j1,j2,b,b1,A,lA,f1,f2,o1,o2,a1,a2,sl,_⟩:=AO (fu:=fu) (d:=d) B2 hX Hl secret c.id;have lR:=Eg A;have tR:List.take 4 (Cp A)=Cp A:=Ha (by omega)
  rw[lA] at lR;have bz:(z==0)=true:=by simp[hz]
  try unfold Ab
  repeat first
   |((with_reducible first|apply A8|apply Aw|apply A5|apply Ay|apply B5|apply Ax|apply A9|apply A7);· first|with_reducible rfl|(simp (disch:=omega) only[gT,sA,bz,f1,f2,o1,o2,a1,a2,sl,h1,bI,bB,w1,Cm,Ch,Nat.zero_mul,Cl,List.take_nil,Dg,tI,LI,lR,tR,bt]<;>first|with_reducible rfl|omega)|omega)
   |(with_reducible apply A6;· first|with_reducible rfl|(simp (disch:=omega) only[gF,sA,bz,f1,f2,o1,o2,a1,a2,sl,h1,bI,bB,w1,Cm,Ch,Nat.zero_mul,Cl,List.take_nil,Dg,tI,LI,lR,tR,bt]<;>omega))
  try simp (disch:=omega) only[sA,bz,f1,f2,o1,o2,a1,a2,sl,h1,bI,bB,w1,Cm,Ch,Nat.zero_mul,Cl,List.take_nil,Dg,tI,LI,lR,tR,bt]
 ·have h2:=h2 hz;obtain⟨j,j1,j2,b,b1,A,lA,f1,f2,o1,o2,a1,a2,sl,_⟩:=AO (fu:=fu) (d:=d) B2 hl Hl secret c.id;have lR:=Eg A;have tR:List.take 4 (Cp A)=Cp A:=Ha (by omega)
  rw[lA] at lR;have bz:(z==0)=false:=by simp[hz]
  try unfold Ab
  repeat first
   |((with_reducible first|apply A8|apply Aw|apply A5|apply Ay|apply B5|apply Ax|apply A9|apply A7);· first|with_reducible rfl|(simp (disch:=omega) only[gT,sA,bz,f1,f2,o1,o2,a1,a2,sl,h2,bI,bB,w1,Cm,Ch,Nat.zero_mul,Cl,List.take_nil,Dg,tI,LI,lR,tR,bt]<;>first|with_reducible rfl|omega)|omega)
   |(with_reducible apply A6;· first|with_reducible rfl|(simp (disch:=omega) only[gF,sA,bz,f1,f2,o1,o2,a1,a2,sl,h2,bI,bB,w1,Cm,Ch,Nat.zero_mul,Cl,List.take_nil,Dg,tI,LI,lR,tR,bt]<;>omega))
  try simp (disch:=omega) only[sA,bz,f1,f2,o1,o2,a1,a2,sl,h2,bI,bB,w1,Cm,Ch,Nat.zero_mul,Cl,List.take_nil,Dg,tI,LI,lR,tR,bt]
theorem CO (B2:2000<=fu){Ap m0 i p:Nat}{a0:List PV}{a1 secret:Int}{nm:ByteArray}{l X:List Cw}{z:Int}{dl:List Int}{c:Sd}(hl:Kh l)(hX:Kh X)(Hl:nm.size<=500)(hi:i<=100)
  (h1:z=0->Ak fu (Ag C0 prog fu (d+8)) Ap a0 a1 m0 secret X.length (Az X) X.length (Az X) ((i+1:Nat):Int) dl.length (Am .i64 dl) (p:Int)=some ⟨[.sc (.bool true)],[]⟩)
  (h2:z≠0->Ak fu (Ag C0 prog fu (d+8)) Ap a0 a1 m0 secret l.length (Az l) l.length (Az l) ((i+1:Nat):Int) dl.length (Am .i64 dl) (p:Int)=some ⟨[.sc (.bool true)],[]⟩):
  Cr fu (Ag C0 prog fu (d+8)) Ap a0 a1 m0 fu secret l.length (Az l) l.length (Az l) (i:Int) nm X.length (Az X) X.length (Az X) z z dl.length (Am .i64 dl) (p:Int) c.id.length c.ht c.root c.model c.fmt c.sh c.used c.rg.length (H5 c.rg) c.sus c.since c.last (Am .u8 c.id)=some ⟨[.sc (.bool true)],[]⟩:=by
 rw[I0 (Dy:=by omega)]
 obtain⟨_,_,_,_,_,_,_,_,_,_,_,_,_,_,sA⟩:=AO (fu:=fu) (d:=d) B2 hX Hl secret c.id;have bI:∀x:Int,(x != x)=false:=fun x=>by simp
 have bB:∀x:Bool,(!(x==x))=false:=fun x=>by simp
 have bt:(!true)=false:=rfl;have w1:wrap .i64 ((i:Int)+1)=((i+1:Nat):Int):=by rw[wrap_i64 (by omega) (by omega)];omega
 have LI:=A0 .u8 c.id;have tI:List.take c.id.length (Am .u8 c.id)=Am .u8 c.id:=Ha (by omega)
 by_cases hz:z=0
 ·have h1:=h1 hz;obtain⟨j,j1,j2,b,b1,A,lA,f1,f2,o1,o2,a1,a2,sl,_⟩:=AO (fu:=fu) (d:=d) B2 hX Hl secret c.id;have lR:=Eg A;have tR:List.take 4 (Cp A)=Cp A:=Ha (by omega)
  rw[lA] at lR;have bz:(z==0)=true:=by simp[hz]
  try unfold Ab
  repeat first
   |((with_reducible first|apply A8|apply Aw|apply A5|apply Ay|apply B5|apply Ax|apply A9|apply A7);· first|with_reducible rfl|(simp (disch:=omega) only[gT,sA,bz,f1,f2,o1,o2,a1,a2,sl,h1,bI,bB,w1,Cm,Ch,Nat.zero_mul,Cl,List.take_nil,Dg,tI,LI,lR,tR,bt]<;>first|with_reducible rfl|omega)|omega)
   |(with_reducible apply A6;· first|with_reducible rfl|(simp (disch:=omega) only[gF,sA,bz,f1,f2,o1,o2,a1,a2,sl,h1,bI,bB,w1,Cm,Ch,Nat.zero_mul,Cl,List.take_nil,Dg,tI,LI,lR,tR,bt]<;>omega))
  try simp (disch:=omega) only[sA,bz,f1,f2,o1,o2,a1,a2,sl,h1,bI,bB,w1,Cm,Ch,Nat.zero_mul,Cl,List.take_nil,Dg,tI,LI,lR,tR,bt]
 ·have h2:=h2 hz;obtain⟨j,j1,j2,b,b1,A,lA,f1,f2,o1,o2,a1,a2,sl,_⟩:=AO (fu:=fu) (d:=d) B2 hl Hl secret c.id;have lR:=Eg A;have tR:List.take 4 (Cp A)=Cp A:=Ha (by omega)
  rw[lA] at lR;have bz:(z==0)=false:=by simp[hz]
  try unfold Ab
  repeat first
   |((with_reducible first|apply A8|apply Aw|apply A5|apply Ay|apply B5|apply Ax|apply A9|apply A7);· first|with_reducible rfl|(simp (disch:=omega) only[gT,sA,bz,f1,f2,o1,o2,a1,a2,sl,h2,bI,bB,w1,Cm,Ch,Nat.zero_mul,Cl,List.take_nil,Dg,tI,LI,lR,tR,bt]<;>first|with_reducible rfl|omega)|omega)
   |(with_reducible apply A6;· first|with_reducible rfl|(simp (disch:=omega) only[gF,sA,bz,f1,f2,o1,o2,a1,a2,sl,h2,bI,bB,w1,Cm,Ch,Nat.zero_mul,Cl,List.take_nil,Dg,tI,LI,lR,tR,bt]<;>omega))
  try simp (disch:=omega) only[sA,bz,f1,f2,o1,o2,a1,a2,sl,h2,bI,bB,w1,Cm,Ch,Nat.zero_mul,Cl,List.take_nil,Dg,tI,LI,lR,tR,bt]
end
end
section
open Go.Proofs.Try (prog)
open Go.IntKind (wrap)
set_option maxRecDepth 100000
theorem SO {c:Sd}(h:c.ok)(k:Nat):Sd.ok { c with id:=c.id.take k }:=⟨fun x hx=>h.idB x (List.mem_of_mem_take hx),by show (c.id.take k).length<=_;have:=h.idL;rw[List.length_take];omega,h.u0,h.u1,h.asc,h.rgn⟩
theorem SS {c:Sd}(h:c.ok)(b:Bool):Sd.ok { c with sus:=b }:=⟨h.idB,h.idL,h.u0,h.u1,h.asc,h.rgn⟩
theorem Y3 {c:Sd}(h:c.ok)(k:Int):Sd.ok { c with id:=Dj k 176 }:=⟨UO _ _ _,by show (Na _ _ _).length<=_;rw[Gu];omega,h.u0,h.u1,h.asc,h.rgn⟩
theorem Et (k:Int)(n:Nat):(Dj k n).length=n:=Gu _ _ _
section
variable {fu d:Nat}
theorem MO {v:Int}(h0:0<=v)(h1:v<20):∃nm:ByteArray,nm.size<=500∧List.getD [PV.sc (Value.string (ByteArray.mk #[(97:UInt8)])),PV.sc (Value.string (ByteArray.mk #[(98:UInt8)])),PV.sc (Value.string (ByteArray.mk #[(99:UInt8)])),PV.sc (Value.string (ByteArray.mk #[(100:UInt8)])),PV.sc (Value.string (ByteArray.mk #[(101:UInt8)])),PV.sc (Value.string (ByteArray.mk #[(102:UInt8)])),PV.sc (Value.string (ByteArray.mk #[(103:UInt8)])),PV.sc (Value.string (ByteArray.mk #[(104:UInt8)])),PV.sc (Value.string (ByteArray.mk #[(105:UInt8)])),PV.sc (Value.string (ByteArray.mk #[(106:UInt8)])),PV.sc (Value.string (ByteArray.mk #[(107:UInt8)])),PV.sc (Value.string (ByteArray.mk #[(108:UInt8)])),PV.sc (Value.string (ByteArray.mk #[(109:UInt8)])),PV.sc (Value.string (ByteArray.mk #[(110:UInt8)])),PV.sc (Value.string (ByteArray.mk #[(111:UInt8)])),PV.sc (Value.string (ByteArray.mk #[(112:UInt8)])),PV.sc (Value.string (ByteArray.mk #[(113:UInt8)])),PV.sc (Value.string (ByteArray.mk #[(114:UInt8)])),PV.sc (Value.string (ByteArray.mk #[])),PV.sc (Value.string (ByteArray.mk #[(48:UInt8),(49:UInt8),(50:UInt8),(51:UInt8),(52:UInt8),(53:UInt8),(54:UInt8),(55:UInt8),(56:UInt8),(57:UInt8),(48:UInt8),(49:UInt8),(50:UInt8),(51:UInt8),(52:UInt8),(53:UInt8),(54:UInt8),(55:UInt8),(56:UInt8),(57:UInt8),(48:UInt8),(49:UInt8),(50:UInt8),(51:UInt8),(52:UInt8),(53:UInt8),(54:UInt8),(55:UInt8),(56:UInt8),(57:UInt8),(48:UInt8),(49:UInt8),(50:UInt8),(51:UInt8)]))] ((0:Nat)+Int.toNat v*(1:Nat)) PV.top=.sc (.string nm):=by
 have:v=0∨v=1∨v=2∨v=3∨v=4∨v=5∨v=6∨v=7∨v=8∨v=9∨v=10∨v=11∨v=12∨v=13∨v=14∨v=15∨v=16∨v=17∨v=18∨v=19:=by omega
 rcases this with rfl|rfl|rfl|rfl|rfl|rfl|rfl|rfl|rfl|rfl|rfl|rfl|rfl|rfl|rfl|rfl|rfl|rfl|rfl|rfl<;>exact⟨_,by decide,rfl⟩
theorem Pw {l:List Cw}(h:Kh l)(B2:2000<=fu)(nm:ByteArray){id:List Int}(Bb:id.length<=1000000):∃X z,Kh X ∧
  Ag C0 prog fu (d+8) 16 [.lst false 3 l.length (Az l),.sc (.string nm),.lst false 1 id.length (Am .u8 id)]=some ⟨[.lst false 3 X.length (Az X),.sc (.int .i64 z)],[]⟩ ∧
  Ag C0 prog fu (d+8) 17 [.lst false 3 l.length (Az l),.sc (.string nm),.lst false 1 id.length (Am .u8 id)]=some ⟨[.lst false 3 X.length (Az X),.sc (.int .i64 z)],[]⟩:=
 ⟨(FS l nm id).1,(FS l nm id).2,Aib h,Aqm (by have:=h.len;omega) (fun a ha=>(h.ok a ha).sm) Bb,Ah0 (fu:=fu) (d:=d+5) (by have:=h.len;omega) (fun a ha=>(h.ok a ha).cn) B2⟩
theorem Qf {l:List Cw}(h:Kh l)(B2:2000<=fu)(nm:ByteArray){c:Sd}(hc:c.ok):∃X z,Kh X ∧
  Ag C0 prog fu (d+8) 18 [.lst false 3 l.length (Az l),.sc (.string nm),.agg c.cells]=some ⟨[.lst false 3 X.length (Az X),.sc (.int .i64 z)],[]⟩ ∧
  Ag C0 prog fu (d+8) 19 [.lst false 3 l.length (Az l),.sc (.string nm),.agg c.cells]=some ⟨[.lst false 3 X.length (Az X),.sc (.int .i64 z)],[]⟩:=
 ⟨(FZ l nm c).1,(FZ l nm c).2,Ah4 h hc,Aq3 (by have:=h.len;omega) (fun a ha=>(h.ok a ha).sm) hc.sm,Ain (fu:=fu) (d:=d+5) (by have:=h.len;omega) (fun a ha=>(h.ok a ha).cn) B2⟩
theorem F8 {l:List Cw}(h:Kh l)(B2:2000<=fu)(nm us:ByteArray){c:Sd}(hc:c.ok):∃X z,Kh X ∧
  Ag C0 prog fu (d+8) 11 [.lst false 3 l.length (Az l),.sc (.string nm),.sc (.string us),.agg c.cells]=some ⟨[.lst false 3 X.length (Az X),.sc (.int .i64 z)],[]⟩ ∧
  Ag C0 prog fu (d+8) 20 [.lst false 3 l.length (Az l),.sc (.string nm),.sc (.string us),.agg c.cells]=some ⟨[.lst false 3 X.length (Az X),.sc (.int .i64 z)],[]⟩:=
 ⟨(AL l nm us c).1,(AL l nm us c).2,Akj h hc,Acd (by have:=h.len;omega) (fun a ha=>(h.ok a ha).sm) hc.sm,Ajr (fu:=fu) (d:=d+5) (by have:=h.len;omega) (fun a ha=>(h.ok a ha).cn) B2⟩
set_option maxHeartbeats 2000000 in
theorem Aad (B2:2000<=fu){dl:List Int}(OO:dl.length<=maxLen){Ap i nn p:Nat}{a0:List PV}{a1 secret:Int}(hi:i<60){l:List Cw}(hl:Kh l)
  (ih:(∀(l:List Cw)(p:Nat),Kh l->Ak fu (Ag C0 prog fu (d+8)) Ap a0 a1 nn secret l.length (Az l) l.length (Az l) ((i+1:Nat):Int) dl.length (Am .i64 dl) (p:Int)=some ⟨[.sc (.bool true)],[]⟩)∧(∀p:Nat,Bm fu (Ag C0 prog fu (d+8)) Ap a0 a1 nn secret 0 0 ((i+1:Nat):Int) dl.length (Am .i64 dl) (p:Int) [] []=some ⟨[.sc (.bool true)],[]⟩)∧(∀p:Nat,A1 fu (Ag C0 prog fu (d+8)) Ap a0 a1 nn secret 0 0 ((i+1:Nat):Int) dl.length (Am .i64 dl) (p:Int) [] []=some ⟨[.sc (.bool true)],[]⟩)):Ak fu (Ag C0 prog fu (d+8)) Ap a0 a1 (nn+1) secret l.length (Az l) l.length (Az l) (i:Int) dl.length (Am .i64 dl) (p:Int)=some ⟨[.sc (.bool true)],[]⟩:=by
 have aw:=Xx (fu:=fu) (d:=d) B2;have Jj:=OO;simp only[maxLen] at OO;rw[Fg];have lf:=MH (fu:=fu) (d:=d+7) dl p;by_cases hp:(p:Int)<(dl.length:Int)
 rotate_left
 ·rw[decide_eq_false hp] at lf;simp only[X6] at lf
  try unfold Ab
  repeat first
   |((with_reducible first|apply A8|apply Aw|apply A5|apply Ay|apply Bh|apply B5|apply B7|apply C6|apply Cf|apply Ax|apply A9|apply A7);· first|with_reducible rfl|(simp (disch:=omega) only[gT,lf,aw]<;>first|with_reducible rfl|omega)|omega)
   |(with_reducible apply A6;· first|with_reducible rfl|(simp (disch:=omega) only[gF,lf,aw]<;>omega))
  try simp (disch:=omega) only[lf,aw]
 rw[decide_eq_true hp] at lf;obtain⟨v1,p1,b1,c1,n1⟩:=Cz Jj p 20 (by omega) (by omega)
 obtain⟨v2,p2,b2,c2,n2⟩:=Cz Jj p1 12 (by omega) (by omega)
 obtain⟨v3,p3,b3,c3,n3⟩:=Cz Jj p2 3 (by omega) (by omega)
 obtain⟨v4,p4,b4,c4,n4⟩:=Cz Jj p3 20 (by omega) (by omega)
 have m1:=n1 (fu:=fu) (d:=d+6);have m2:=n2 (fu:=fu) (d:=d+6);have m3:=n3 (fu:=fu) (d:=d+6);have m4:=n4 (fu:=fu) (d:=d+6);clear n1 n2 n3 n4;obtain⟨nm,Hl,hN⟩:=MO b1 c1;have s:=To (fu:=fu) (d:=d+1) (by omega) (k:=v2) b2 c2 1
 have sk:=SS (S2 v2 1) (v3==2);have li:(ZX v2 1).id.length=176:=Et _ _;simp only[X6] at lf m1 m2 m3 m4;simp only[Sd.cells] at s;generalize ZX v2 1=s0 at s sk li;have LI:=A0 .u8 s0.id;by_cases h4:v4=19
 ·have e4:(v4==19)=true:=by simp[h4]
  obtain⟨v5,p5,b5,c5,n5⟩:=Cz Jj p4 176 (by omega) (by omega)
  have m5:=n5 (fu:=fu) (d:=d+6);clear n5;simp only[X6] at m5;have ck:=SO sk v5.toNat;obtain⟨ic,hic⟩:∃ic,ic=s0.id.take v5.toNat:=⟨_,rfl⟩;have Rs:v5.toNat-0=ic.length:=by rw[hic,List.length_take];omega
  have Ru:List.take ic.length (Am .u8 s0.id)=Am .u8 ic:=by
   rw[hic,List.length_take,Nat.min_eq_left (by omega),Gb]
  have hc5:v5.toNat<=s0.id.length:=by omega
  dsimp only at ck;rw[←hic] at ck;obtain⟨v6,p6,b6,c6,n6⟩:=Cz Jj p5 5 (by omega) (by omega)
  have m6:=n6 (fu:=fu) (d:=d+6);clear n6;simp only[X6] at m6;by_cases QC:v6=0
  ·have e60:(v6==0)=true:=by simp[QC]
   obtain⟨X,z,hX,r1,r2⟩:=Pw (fu:=fu) (d:=d) hl B2 nm (id:=ic) ck.idL;have q:=Mu (fu:=fu) (d:=d) B2 (Ap:=Ap) (a0:=a0) (a1:=a1) (m0:=nn) (i:=i) (p:=p6) (secret:=secret) (nm:=nm) (l:=l) (X:=X) (z:=z) (dl:=dl) (c:=(⟨ic,s0.ht,s0.root,s0.model,s0.fmt,s0.sh,s0.used,s0.rg,v3==2,s0.since,s0.last⟩:Sd)) hl hX Hl (by omega) (fun _=>ih.1 X p6 hX) (fun _=>ih.1 l p6 hl)
   simp only[Sd.cells] at r1 r2 q
   try unfold Ab
   repeat first
    |((with_reducible first|apply A8|apply Aw|apply A5|apply Ay|apply Bh|apply B5|apply B7|apply C6|apply Cf|apply Ax|apply A9|apply A7);· first|with_reducible rfl|(simp (disch:=omega) only[gT,lf,m1,hN,m2,s,m3,m4,e4,m5,Rs,Ru,LI,m6,e60,r1,r2,q,Cm,Ch,Nat.zero_mul,Cl,List.take_nil,Dg]<;>first|with_reducible rfl|omega)|omega)
    |(with_reducible apply A6;· first|with_reducible rfl|(simp (disch:=omega) only[gF,lf,m1,hN,m2,s,m3,m4,e4,m5,Rs,Ru,LI,m6,e60,r1,r2,q,Cm,Ch,Nat.zero_mul,Cl,List.take_nil,Dg]<;>omega))
   try simp (disch:=omega) only[lf,m1,hN,m2,s,m3,m4,e4,m5,Rs,Ru,LI,m6,e60,r1,r2,q,Cm,Ch,Nat.zero_mul,Cl,List.take_nil,Dg]
  have e60:(v6==0)=false:=by simp[QC]
  by_cases QZ:v6=1
  ·have e61:(v6==1)=true:=by simp[QZ]
   obtain⟨X,z,hX,r1,r2⟩:=Qf (fu:=fu) (d:=d) hl B2 nm (c:=(⟨ic,s0.ht,s0.root,s0.model,s0.fmt,s0.sh,s0.used,s0.rg,v3==2,s0.since,s0.last⟩:Sd)) ck;have q:=Mu (fu:=fu) (d:=d) B2 (Ap:=Ap) (a0:=a0) (a1:=a1) (m0:=nn) (i:=i) (p:=p6) (secret:=secret) (nm:=nm) (l:=l) (X:=X) (z:=z) (dl:=dl) (c:=(⟨ic,s0.ht,s0.root,s0.model,s0.fmt,s0.sh,s0.used,s0.rg,v3==2,s0.since,s0.last⟩:Sd)) hl hX Hl (by omega) (fun _=>ih.1 X p6 hX) (fun _=>ih.1 l p6 hl)
   simp only[Sd.cells] at r1 r2 q
   try unfold Ab
   repeat first
    |((with_reducible first|apply A8|apply Aw|apply A5|apply Ay|apply Bh|apply B5|apply B7|apply C6|apply Cf|apply Ax|apply A9|apply A7);· first|with_reducible rfl|(simp (disch:=omega) only[gT,lf,m1,hN,m2,s,m3,m4,e4,m5,Rs,Ru,LI,m6,e60,e61,r1,r2,q,Cm,Ch,Nat.zero_mul,Cl,List.take_nil,Dg]<;>first|with_reducible rfl|omega)|omega)
    |(with_reducible apply A6;· first|with_reducible rfl|(simp (disch:=omega) only[gF,lf,m1,hN,m2,s,m3,m4,e4,m5,Rs,Ru,LI,m6,e60,e61,r1,r2,q,Cm,Ch,Nat.zero_mul,Cl,List.take_nil,Dg]<;>omega))
   try simp (disch:=omega) only[lf,m1,hN,m2,s,m3,m4,e4,m5,Rs,Ru,LI,m6,e60,e61,r1,r2,q,Cm,Ch,Nat.zero_mul,Cl,List.take_nil,Dg]
  have e61:(v6==1)=false:=by simp[QZ]
  obtain⟨v7,p7,b7,c7,n7⟩:=Cz Jj p6 2 (by omega) (by omega)
  have m7:=n7 (fu:=fu) (d:=d+6);clear n7;simp only[X6] at m7;by_cases h7:v7=1
  ·have e7:(v7==1)=true:=by simp[h7]
   obtain⟨X,z,hX,r1,r2⟩:=F8 (fu:=fu) (d:=d) hl B2 nm (ByteArray.mk #[(117:UInt8),(115:UInt8),(101:UInt8),(114:UInt8)]) (c:=(⟨Dj (wrap .i64 (900+(i:Int))) 176,s0.ht,s0.root,s0.model,s0.fmt,s0.sh,s0.used,s0.rg,v3==2,s0.since,s0.last⟩:Sd)) (Y3 ck (wrap .i64 (900+(i:Int))));have q:=CO (fu:=fu) (d:=d) B2 (Ap:=Ap) (a0:=a0) (a1:=a1) (m0:=nn) (i:=i) (p:=p7) (secret:=secret) (nm:=nm) (l:=l) (X:=X) (z:=z) (dl:=dl) (c:=(⟨Dj (wrap .i64 (900+(i:Int))) 176,s0.ht,s0.root,s0.model,s0.fmt,s0.sh,s0.used,s0.rg,v3==2,s0.since,s0.last⟩:Sd)) hl hX Hl (by omega) (fun _=>ih.1 X p7 hX) (fun _=>ih.1 l p7 hl)
   have by1:=Mw (fu:=fu) (d:=d+2) (by omega) (wrap .i64 (900+(i:Int))) (n:=176) (by omega)
   have LB:(Am .u8 (Dj (wrap .i64 (900+(i:Int))) 176)).length=176:=by rw[A0,Et]
   have TB:List.take 176 (Am .u8 (Dj (wrap .i64 (900+(i:Int))) 176))=Am .u8 (Dj (wrap .i64 (900+(i:Int))) 176):=Ha (by omega)
   have lB:(Dj (wrap .i64 (900+(i:Int))) 176).length=176:=Et _ _;simp only[Sd.cells,lB] at r1 r2 q;generalize Dj (wrap .i64 (900+(i:Int))) 176=BB at *
   try unfold Ab
   repeat first
    |((with_reducible first|apply A8|apply Aw|apply A5|apply Ay|apply Bh|apply B5|apply B7|apply C6|apply Cf|apply Ax|apply A9|apply A7);· first|with_reducible rfl|(simp (disch:=omega) only[gT,lf,m1,hN,m2,s,m3,m4,e4,m5,Rs,Ru,LI,m6,e60,e61,m7,e7,by1,LB,TB,r1,r2,q,Cm,Ch,Nat.zero_mul,Cl,List.take_nil,Dg]<;>first|with_reducible rfl|omega)|omega)
    |(with_reducible apply A6;· first|with_reducible rfl|(simp (disch:=omega) only[gF,lf,m1,hN,m2,s,m3,m4,e4,m5,Rs,Ru,LI,m6,e60,e61,m7,e7,by1,LB,TB,r1,r2,q,Cm,Ch,Nat.zero_mul,Cl,List.take_nil,Dg]<;>omega))
   try simp (disch:=omega) only[lf,m1,hN,m2,s,m3,m4,e4,m5,Rs,Ru,LI,m6,e60,e61,m7,e7,by1,LB,TB,r1,r2,q,Cm,Ch,Nat.zero_mul,Cl,List.take_nil,Dg]
  ·have e7:(v7==1)=false:=by simp[h7]
   obtain⟨X,z,hX,r1,r2⟩:=F8 (fu:=fu) (d:=d) hl B2 nm (ByteArray.mk #[(117:UInt8),(115:UInt8),(101:UInt8),(114:UInt8)]) (c:=(⟨ic,s0.ht,s0.root,s0.model,s0.fmt,s0.sh,s0.used,s0.rg,v3==2,s0.since,s0.last⟩:Sd)) ck;have q:=Mu (fu:=fu) (d:=d) B2 (Ap:=Ap) (a0:=a0) (a1:=a1) (m0:=nn) (i:=i) (p:=p7) (secret:=secret) (nm:=nm) (l:=l) (X:=X) (z:=z) (dl:=dl) (c:=(⟨ic,s0.ht,s0.root,s0.model,s0.fmt,s0.sh,s0.used,s0.rg,v3==2,s0.since,s0.last⟩:Sd)) hl hX Hl (by omega) (fun _=>ih.1 X p7 hX) (fun _=>ih.1 l p7 hl)
   simp only[Sd.cells] at r1 r2 q
   try unfold Ab
   repeat first
    |((with_reducible first|apply A8|apply Aw|apply A5|apply Ay|apply Bh|apply B5|apply B7|apply C6|apply Cf|apply Ax|apply A9|apply A7);· first|with_reducible rfl|(simp (disch:=omega) only[gT,lf,m1,hN,m2,s,m3,m4,e4,m5,Rs,Ru,LI,m6,e60,e61,m7,e7,r1,r2,q,Cm,Ch,Nat.zero_mul,Cl,List.take_nil,Dg]<;>first|with_reducible rfl|omega)|omega)
    |(with_reducible apply A6;· first|with_reducible rfl|(simp (disch:=omega) only[gF,lf,m1,hN,m2,s,m3,m4,e4,m5,Rs,Ru,LI,m6,e60,e61,m7,e7,r1,r2,q,Cm,Ch,Nat.zero_mul,Cl,List.take_nil,Dg]<;>omega))
   try simp (disch:=omega) only[lf,m1,hN,m2,s,m3,m4,e4,m5,Rs,Ru,LI,m6,e60,e61,m7,e7,r1,r2,q,Cm,Ch,Nat.zero_mul,Cl,List.take_nil,Dg]
 ·have e4:(v4==19)=false:=by simp[h4]
  obtain⟨v6,p6,b6,c6,n6⟩:=Cz Jj p4 5 (by omega) (by omega)
  have m6:=n6 (fu:=fu) (d:=d+6);clear n6;simp only[X6] at m6;by_cases QC:v6=0
  ·have e60:(v6==0)=true:=by simp[QC]
   obtain⟨X,z,hX,r1,r2⟩:=Pw (fu:=fu) (d:=d) hl B2 nm (id:=s0.id) sk.idL;have q:=Mu (fu:=fu) (d:=d) B2 (Ap:=Ap) (a0:=a0) (a1:=a1) (m0:=nn) (i:=i) (p:=p6) (secret:=secret) (nm:=nm) (l:=l) (X:=X) (z:=z) (dl:=dl) (c:=(⟨s0.id,s0.ht,s0.root,s0.model,s0.fmt,s0.sh,s0.used,s0.rg,v3==2,s0.since,s0.last⟩:Sd)) hl hX Hl (by omega) (fun _=>ih.1 X p6 hX) (fun _=>ih.1 l p6 hl)
   simp only[Sd.cells] at r1 r2 q
   try unfold Ab
   repeat first
    |((with_reducible first|apply A8|apply Aw|apply A5|apply Ay|apply Bh|apply B5|apply B7|apply C6|apply Cf|apply Ax|apply A9|apply A7);· first|with_reducible rfl|(simp (disch:=omega) only[gT,lf,m1,hN,m2,s,m3,m4,e4,m6,e60,r1,r2,q,Cm,Ch,Nat.zero_mul,Cl,List.take_nil,Dg]<;>first|with_reducible rfl|omega)|omega)
    |(with_reducible apply A6;· first|with_reducible rfl|(simp (disch:=omega) only[gF,lf,m1,hN,m2,s,m3,m4,e4,m6,e60,r1,r2,q,Cm,Ch,Nat.zero_mul,Cl,List.take_nil,Dg]<;>omega))
   try simp (disch:=omega) only[lf,m1,hN,m2,s,m3,m4,e4,m6,e60,r1,r2,q,Cm,Ch,Nat.zero_mul,Cl,List.take_nil,Dg]
  have e60:(v6==0)=false:=by simp[QC]
  by_cases QZ:v6=1
  ·have e61:(v6==1)=true:=by simp[QZ]
   obtain⟨X,z,hX,r1,r2⟩:=Qf (fu:=fu) (d:=d) hl B2 nm (c:=(⟨s0.id,s0.ht,s0.root,s0.model,s0.fmt,s0.sh,s0.used,s0.rg,v3==2,s0.since,s0.last⟩:Sd)) sk;have q:=Mu (fu:=fu) (d:=d) B2 (Ap:=Ap) (a0:=a0) (a1:=a1) (m0:=nn) (i:=i) (p:=p6) (secret:=secret) (nm:=nm) (l:=l) (X:=X) (z:=z) (dl:=dl) (c:=(⟨s0.id,s0.ht,s0.root,s0.model,s0.fmt,s0.sh,s0.used,s0.rg,v3==2,s0.since,s0.last⟩:Sd)) hl hX Hl (by omega) (fun _=>ih.1 X p6 hX) (fun _=>ih.1 l p6 hl)
   simp only[Sd.cells] at r1 r2 q
   try unfold Ab
   repeat first
    |((with_reducible first|apply A8|apply Aw|apply A5|apply Ay|apply Bh|apply B5|apply B7|apply C6|apply Cf|apply Ax|apply A9|apply A7);· first|with_reducible rfl|(simp (disch:=omega) only[gT,lf,m1,hN,m2,s,m3,m4,e4,m6,e60,e61,r1,r2,q,Cm,Ch,Nat.zero_mul,Cl,List.take_nil,Dg]<;>first|with_reducible rfl|omega)|omega)
    |(with_reducible apply A6;· first|with_reducible rfl|(simp (disch:=omega) only[gF,lf,m1,hN,m2,s,m3,m4,e4,m6,e60,e61,r1,r2,q,Cm,Ch,Nat.zero_mul,Cl,List.take_nil,Dg]<;>omega))
   try simp (disch:=omega) only[lf,m1,hN,m2,s,m3,m4,e4,m6,e60,e61,r1,r2,q,Cm,Ch,Nat.zero_mul,Cl,List.take_nil,Dg]
  have e61:(v6==1)=false:=by simp[QZ]
  obtain⟨v7,p7,b7,c7,n7⟩:=Cz Jj p6 2 (by omega) (by omega)
  have m7:=n7 (fu:=fu) (d:=d+6);clear n7;simp only[X6] at m7;by_cases h7:v7=1
  ·have e7:(v7==1)=true:=by simp[h7]
   obtain⟨X,z,hX,r1,r2⟩:=F8 (fu:=fu) (d:=d) hl B2 nm (ByteArray.mk #[(117:UInt8),(115:UInt8),(101:UInt8),(114:UInt8)]) (c:=(⟨Dj (wrap .i64 (900+(i:Int))) 176,s0.ht,s0.root,s0.model,s0.fmt,s0.sh,s0.used,s0.rg,v3==2,s0.since,s0.last⟩:Sd)) (Y3 sk (wrap .i64 (900+(i:Int))));have q:=CO (fu:=fu) (d:=d) B2 (Ap:=Ap) (a0:=a0) (a1:=a1) (m0:=nn) (i:=i) (p:=p7) (secret:=secret) (nm:=nm) (l:=l) (X:=X) (z:=z) (dl:=dl) (c:=(⟨Dj (wrap .i64 (900+(i:Int))) 176,s0.ht,s0.root,s0.model,s0.fmt,s0.sh,s0.used,s0.rg,v3==2,s0.since,s0.last⟩:Sd)) hl hX Hl (by omega) (fun _=>ih.1 X p7 hX) (fun _=>ih.1 l p7 hl)
   have by1:=Mw (fu:=fu) (d:=d+2) (by omega) (wrap .i64 (900+(i:Int))) (n:=176) (by omega)
   have LB:(Am .u8 (Dj (wrap .i64 (900+(i:Int))) 176)).length=176:=by rw[A0,Et]
   have TB:List.take 176 (Am .u8 (Dj (wrap .i64 (900+(i:Int))) 176))=Am .u8 (Dj (wrap .i64 (900+(i:Int))) 176):=Ha (by omega)
   have lB:(Dj (wrap .i64 (900+(i:Int))) 176).length=176:=Et _ _;simp only[Sd.cells,lB] at r1 r2 q;generalize Dj (wrap .i64 (900+(i:Int))) 176=BB at *
   try unfold Ab
   repeat first
    |((with_reducible first|apply A8|apply Aw|apply A5|apply Ay|apply Bh|apply B5|apply B7|apply C6|apply Cf|apply Ax|apply A9|apply A7);· first|with_reducible rfl|(simp (disch:=omega) only[gT,lf,m1,hN,m2,s,m3,m4,e4,m6,e60,e61,m7,e7,by1,LB,TB,r1,r2,q,Cm,Ch,Nat.zero_mul,Cl,List.take_nil,Dg]<;>first|with_reducible rfl|omega)|omega)
    |(with_reducible apply A6;· first|with_reducible rfl|(simp (disch:=omega) only[gF,lf,m1,hN,m2,s,m3,m4,e4,m6,e60,e61,m7,e7,by1,LB,TB,r1,r2,q,Cm,Ch,Nat.zero_mul,Cl,List.take_nil,Dg]<;>omega))
   try simp (disch:=omega) only[lf,m1,hN,m2,s,m3,m4,e4,m6,e60,e61,m7,e7,by1,LB,TB,r1,r2,q,Cm,Ch,Nat.zero_mul,Cl,List.take_nil,Dg]
  ·have e7:(v7==1)=false:=by simp[h7]
   obtain⟨X,z,hX,r1,r2⟩:=F8 (fu:=fu) (d:=d) hl B2 nm (ByteArray.mk #[(117:UInt8),(115:UInt8),(101:UInt8),(114:UInt8)]) (c:=(⟨s0.id,s0.ht,s0.root,s0.model,s0.fmt,s0.sh,s0.used,s0.rg,v3==2,s0.since,s0.last⟩:Sd)) sk;have q:=Mu (fu:=fu) (d:=d) B2 (Ap:=Ap) (a0:=a0) (a1:=a1) (m0:=nn) (i:=i) (p:=p7) (secret:=secret) (nm:=nm) (l:=l) (X:=X) (z:=z) (dl:=dl) (c:=(⟨s0.id,s0.ht,s0.root,s0.model,s0.fmt,s0.sh,s0.used,s0.rg,v3==2,s0.since,s0.last⟩:Sd)) hl hX Hl (by omega) (fun _=>ih.1 X p7 hX) (fun _=>ih.1 l p7 hl)
   simp only[Sd.cells] at r1 r2 q
   try unfold Ab
   repeat first
    |((with_reducible first|apply A8|apply Aw|apply A5|apply Ay|apply Bh|apply B5|apply B7|apply C6|apply Cf|apply Ax|apply A9|apply A7);· first|with_reducible rfl|(simp (disch:=omega) only[gT,lf,m1,hN,m2,s,m3,m4,e4,m6,e60,e61,m7,e7,r1,r2,q,Cm,Ch,Nat.zero_mul,Cl,List.take_nil,Dg]<;>first|with_reducible rfl|omega)|omega)
    |(with_reducible apply A6;· first|with_reducible rfl|(simp (disch:=omega) only[gF,lf,m1,hN,m2,s,m3,m4,e4,m6,e60,e61,m7,e7,r1,r2,q,Cm,Ch,Nat.zero_mul,Cl,List.take_nil,Dg]<;>omega))
   try simp (disch:=omega) only[lf,m1,hN,m2,s,m3,m4,e4,m6,e60,e61,m7,e7,r1,r2,q,Cm,Ch,Nat.zero_mul,Cl,List.take_nil,Dg]
set_option maxHeartbeats 2000000 in
theorem Agu (B2:2000<=fu){dl:List Int}(OO:dl.length<=maxLen){Ap i nn p:Nat}{a0:List PV}{a1 secret:Int}(hi:i<60)
  (ih:(∀(l:List Cw)(p:Nat),Kh l->Ak fu (Ag C0 prog fu (d+8)) Ap a0 a1 nn secret l.length (Az l) l.length (Az l) ((i+1:Nat):Int) dl.length (Am .i64 dl) (p:Int)=some ⟨[.sc (.bool true)],[]⟩)∧(∀p:Nat,Bm fu (Ag C0 prog fu (d+8)) Ap a0 a1 nn secret 0 0 ((i+1:Nat):Int) dl.length (Am .i64 dl) (p:Int) [] []=some ⟨[.sc (.bool true)],[]⟩)∧(∀p:Nat,A1 fu (Ag C0 prog fu (d+8)) Ap a0 a1 nn secret 0 0 ((i+1:Nat):Int) dl.length (Am .i64 dl) (p:Int) [] []=some ⟨[.sc (.bool true)],[]⟩)):Bm fu (Ag C0 prog fu (d+8)) Ap a0 a1 (nn+1) secret 0 0 (i:Int) dl.length (Am .i64 dl) (p:Int) [] []=some ⟨[.sc (.bool true)],[]⟩:=by
 have aw:=Xx (fu:=fu) (d:=d) B2;have Jj:=OO;simp only[maxLen] at OO;rw[Fl];have lf:=MH (fu:=fu) (d:=d+7) dl p;by_cases hp:(p:Int)<(dl.length:Int)
 rotate_left
 ·rw[decide_eq_false hp] at lf;simp only[X6] at lf
  try unfold Ab
  repeat first
   |((with_reducible first|apply A8|apply Aw|apply A5|apply Ay|apply Bh|apply B5|apply B7|apply C6|apply Cf|apply Ax|apply A9|apply A7);· first|with_reducible rfl|(simp (disch:=omega) only[gT,lf,aw]<;>first|with_reducible rfl|omega)|omega)
   |(with_reducible apply A6;· first|with_reducible rfl|(simp (disch:=omega) only[gF,lf,aw]<;>omega))
  try simp (disch:=omega) only[lf,aw]
 rw[decide_eq_true hp] at lf;obtain⟨v1,p1,b1,c1,n1⟩:=Cz Jj p 20 (by omega) (by omega)
 obtain⟨v2,p2,b2,c2,n2⟩:=Cz Jj p1 12 (by omega) (by omega)
 obtain⟨v3,p3,b3,c3,n3⟩:=Cz Jj p2 3 (by omega) (by omega)
 obtain⟨v4,p4,b4,c4,n4⟩:=Cz Jj p3 20 (by omega) (by omega)
 have m1:=n1 (fu:=fu) (d:=d+6);have m2:=n2 (fu:=fu) (d:=d+6);have m3:=n3 (fu:=fu) (d:=d+6);have m4:=n4 (fu:=fu) (d:=d+6);clear n1 n2 n3 n4;obtain⟨nm,Hl,hN⟩:=MO b1 c1;have s:=To (fu:=fu) (d:=d+1) (by omega) (k:=v2) b2 c2 1
 have sk:=SS (S2 v2 1) (v3==2);have li:(ZX v2 1).id.length=176:=Et _ _;simp only[X6] at lf m1 m2 m3 m4;simp only[Sd.cells] at s;generalize ZX v2 1=s0 at s sk li;have LI:=A0 .u8 s0.id;by_cases h4:v4=19
 ·have e4:(v4==19)=true:=by simp[h4]
  obtain⟨v5,p5,b5,c5,n5⟩:=Cz Jj p4 176 (by omega) (by omega)
  have m5:=n5 (fu:=fu) (d:=d+6);clear n5;simp only[X6] at m5;have ck:=SO sk v5.toNat;obtain⟨ic,hic⟩:∃ic,ic=s0.id.take v5.toNat:=⟨_,rfl⟩;have Rs:v5.toNat-0=ic.length:=by rw[hic,List.length_take];omega
  have Ru:List.take ic.length (Am .u8 s0.id)=Am .u8 ic:=by
   rw[hic,List.length_take,Nat.min_eq_left (by omega),Gb]
  have hc5:v5.toNat<=s0.id.length:=by omega
  dsimp only at ck;rw[←hic] at ck;obtain⟨v6,p6,b6,c6,n6⟩:=Cz Jj p5 5 (by omega) (by omega)
  have m6:=n6 (fu:=fu) (d:=d+6);clear n6;simp only[X6] at m6;by_cases QC:v6=0
  ·have e60:(v6==0)=true:=by simp[QC]
   obtain⟨X,z,hX,r1,r2⟩:=Pw (fu:=fu) (d:=d) Kh.nil B2 nm (id:=ic) ck.idL;have q:=H1 (fu:=fu) (d:=d) B2 (Ap:=Ap) (a0:=a0) (a1:=a1) (m0:=nn) (i:=i) (p:=p6) (secret:=secret) (nm:=nm) (X:=X) (z:=z) (dl:=dl) (c:=(⟨ic,s0.ht,s0.root,s0.model,s0.fmt,s0.sh,s0.used,s0.rg,v3==2,s0.since,s0.last⟩:Sd)) hX Hl (by omega) (fun _=>ih.1 X p6 hX) (fun _=>ih.2.2 p6)
   simp only[Sd.cells] at r1 r2 q;simp only[Dg,Az,List.flatMap_nil] at r1 r2
   try unfold Ab
   repeat first
    |((with_reducible first|apply A8|apply Aw|apply A5|apply Ay|apply Bh|apply B5|apply B7|apply C6|apply Cf|apply Ax|apply A9|apply A7);· first|with_reducible rfl|(simp (disch:=omega) only[gT,lf,m1,hN,m2,s,m3,m4,e4,m5,Rs,Ru,LI,m6,e60,r1,r2,q,Cm,Ch,Nat.zero_mul,Cl,List.take_nil,Dg]<;>first|with_reducible rfl|omega)|omega)
    |(with_reducible apply A6;· first|with_reducible rfl|(simp (disch:=omega) only[gF,lf,m1,hN,m2,s,m3,m4,e4,m5,Rs,Ru,LI,m6,e60,r1,r2,q,Cm,Ch,Nat.zero_mul,Cl,List.take_nil,Dg]<;>omega))
   try simp (disch:=omega) only[lf,m1,hN,m2,s,m3,m4,e4,m5,Rs,Ru,LI,m6,e60,r1,r2,q,Cm,Ch,Nat.zero_mul,Cl,List.take_nil,Dg]
  have e60:(v6==0)=false:=by simp[QC]
  by_cases QZ:v6=1
  ·have e61:(v6==1)=true:=by simp[QZ]
   obtain⟨X,z,hX,r1,r2⟩:=Qf (fu:=fu) (d:=d) Kh.nil B2 nm (c:=(⟨ic,s0.ht,s0.root,s0.model,s0.fmt,s0.sh,s0.used,s0.rg,v3==2,s0.since,s0.last⟩:Sd)) ck;have q:=H1 (fu:=fu) (d:=d) B2 (Ap:=Ap) (a0:=a0) (a1:=a1) (m0:=nn) (i:=i) (p:=p6) (secret:=secret) (nm:=nm) (X:=X) (z:=z) (dl:=dl) (c:=(⟨ic,s0.ht,s0.root,s0.model,s0.fmt,s0.sh,s0.used,s0.rg,v3==2,s0.since,s0.last⟩:Sd)) hX Hl (by omega) (fun _=>ih.1 X p6 hX) (fun _=>ih.2.2 p6)
   simp only[Sd.cells] at r1 r2 q;simp only[Dg,Az,List.flatMap_nil] at r1 r2
   try unfold Ab
   repeat first
    |((with_reducible first|apply A8|apply Aw|apply A5|apply Ay|apply Bh|apply B5|apply B7|apply C6|apply Cf|apply Ax|apply A9|apply A7);· first|with_reducible rfl|(simp (disch:=omega) only[gT,lf,m1,hN,m2,s,m3,m4,e4,m5,Rs,Ru,LI,m6,e60,e61,r1,r2,q,Cm,Ch,Nat.zero_mul,Cl,List.take_nil,Dg]<;>first|with_reducible rfl|omega)|omega)
    |(with_reducible apply A6;· first|with_reducible rfl|(simp (disch:=omega) only[gF,lf,m1,hN,m2,s,m3,m4,e4,m5,Rs,Ru,LI,m6,e60,e61,r1,r2,q,Cm,Ch,Nat.zero_mul,Cl,List.take_nil,Dg]<;>omega))
   try simp (disch:=omega) only[lf,m1,hN,m2,s,m3,m4,e4,m5,Rs,Ru,LI,m6,e60,e61,r1,r2,q,Cm,Ch,Nat.zero_mul,Cl,List.take_nil,Dg]
  have e61:(v6==1)=false:=by simp[QZ]
  obtain⟨v7,p7,b7,c7,n7⟩:=Cz Jj p6 2 (by omega) (by omega)
  have m7:=n7 (fu:=fu) (d:=d+6);clear n7;simp only[X6] at m7;by_cases h7:v7=1
  ·have e7:(v7==1)=true:=by simp[h7]
   obtain⟨X,z,hX,r1,r2⟩:=F8 (fu:=fu) (d:=d) Kh.nil B2 nm (ByteArray.mk #[(117:UInt8),(115:UInt8),(101:UInt8),(114:UInt8)]) (c:=(⟨Dj (wrap .i64 (900+(i:Int))) 176,s0.ht,s0.root,s0.model,s0.fmt,s0.sh,s0.used,s0.rg,v3==2,s0.since,s0.last⟩:Sd)) (Y3 ck (wrap .i64 (900+(i:Int))));have q:=Wk (fu:=fu) (d:=d) B2 (Ap:=Ap) (a0:=a0) (a1:=a1) (m0:=nn) (i:=i) (p:=p7) (secret:=secret) (nm:=nm) (X:=X) (z:=z) (dl:=dl) (c:=(⟨Dj (wrap .i64 (900+(i:Int))) 176,s0.ht,s0.root,s0.model,s0.fmt,s0.sh,s0.used,s0.rg,v3==2,s0.since,s0.last⟩:Sd)) hX Hl (by omega) (fun _=>ih.1 X p7 hX) (fun _=>ih.2.2 p7)
   have by1:=Mw (fu:=fu) (d:=d+2) (by omega) (wrap .i64 (900+(i:Int))) (n:=176) (by omega)
   have LB:(Am .u8 (Dj (wrap .i64 (900+(i:Int))) 176)).length=176:=by rw[A0,Et]
   have TB:List.take 176 (Am .u8 (Dj (wrap .i64 (900+(i:Int))) 176))=Am .u8 (Dj (wrap .i64 (900+(i:Int))) 176):=Ha (by omega)
   have lB:(Dj (wrap .i64 (900+(i:Int))) 176).length=176:=Et _ _;simp only[Sd.cells,lB] at r1 r2 q;simp only[Dg,Az,List.flatMap_nil] at r1 r2;generalize Dj (wrap .i64 (900+(i:Int))) 176=BB at *
   try unfold Ab
   repeat first
    |((with_reducible first|apply A8|apply Aw|apply A5|apply Ay|apply Bh|apply B5|apply B7|apply C6|apply Cf|apply Ax|apply A9|apply A7);· first|with_reducible rfl|(simp (disch:=omega) only[gT,lf,m1,hN,m2,s,m3,m4,e4,m5,Rs,Ru,LI,m6,e60,e61,m7,e7,by1,LB,TB,r1,r2,q,Cm,Ch,Nat.zero_mul,Cl,List.take_nil,Dg]<;>first|with_reducible rfl|omega)|omega)
    |(with_reducible apply A6;· first|with_reducible rfl|(simp (disch:=omega) only[gF,lf,m1,hN,m2,s,m3,m4,e4,m5,Rs,Ru,LI,m6,e60,e61,m7,e7,by1,LB,TB,r1,r2,q,Cm,Ch,Nat.zero_mul,Cl,List.take_nil,Dg]<;>omega))
   try simp (disch:=omega) only[lf,m1,hN,m2,s,m3,m4,e4,m5,Rs,Ru,LI,m6,e60,e61,m7,e7,by1,LB,TB,r1,r2,q,Cm,Ch,Nat.zero_mul,Cl,List.take_nil,Dg]
  ·have e7:(v7==1)=false:=by simp[h7]
   obtain⟨X,z,hX,r1,r2⟩:=F8 (fu:=fu) (d:=d) Kh.nil B2 nm (ByteArray.mk #[(117:UInt8),(115:UInt8),(101:UInt8),(114:UInt8)]) (c:=(⟨ic,s0.ht,s0.root,s0.model,s0.fmt,s0.sh,s0.used,s0.rg,v3==2,s0.since,s0.last⟩:Sd)) ck;have q:=H1 (fu:=fu) (d:=d) B2 (Ap:=Ap) (a0:=a0) (a1:=a1) (m0:=nn) (i:=i) (p:=p7) (secret:=secret) (nm:=nm) (X:=X) (z:=z) (dl:=dl) (c:=(⟨ic,s0.ht,s0.root,s0.model,s0.fmt,s0.sh,s0.used,s0.rg,v3==2,s0.since,s0.last⟩:Sd)) hX Hl (by omega) (fun _=>ih.1 X p7 hX) (fun _=>ih.2.2 p7)
   simp only[Sd.cells] at r1 r2 q;simp only[Dg,Az,List.flatMap_nil] at r1 r2
   try unfold Ab
   repeat first
    |((with_reducible first|apply A8|apply Aw|apply A5|apply Ay|apply Bh|apply B5|apply B7|apply C6|apply Cf|apply Ax|apply A9|apply A7);· first|with_reducible rfl|(simp (disch:=omega) only[gT,lf,m1,hN,m2,s,m3,m4,e4,m5,Rs,Ru,LI,m6,e60,e61,m7,e7,r1,r2,q,Cm,Ch,Nat.zero_mul,Cl,List.take_nil,Dg]<;>first|with_reducible rfl|omega)|omega)
    |(with_reducible apply A6;· first|with_reducible rfl|(simp (disch:=omega) only[gF,lf,m1,hN,m2,s,m3,m4,e4,m5,Rs,Ru,LI,m6,e60,e61,m7,e7,r1,r2,q,Cm,Ch,Nat.zero_mul,Cl,List.take_nil,Dg]<;>omega))
   try simp (disch:=omega) only[lf,m1,hN,m2,s,m3,m4,e4,m5,Rs,Ru,LI,m6,e60,e61,m7,e7,r1,r2,q,Cm,Ch,Nat.zero_mul,Cl,List.take_nil,Dg]
 ·have e4:(v4==19)=false:=by simp[h4]
  obtain⟨v6,p6,b6,c6,n6⟩:=Cz Jj p4 5 (by omega) (by omega)
  have m6:=n6 (fu:=fu) (d:=d+6);clear n6;simp only[X6] at m6;by_cases QC:v6=0
  ·have e60:(v6==0)=true:=by simp[QC]
   obtain⟨X,z,hX,r1,r2⟩:=Pw (fu:=fu) (d:=d) Kh.nil B2 nm (id:=s0.id) sk.idL;have q:=H1 (fu:=fu) (d:=d) B2 (Ap:=Ap) (a0:=a0) (a1:=a1) (m0:=nn) (i:=i) (p:=p6) (secret:=secret) (nm:=nm) (X:=X) (z:=z) (dl:=dl) (c:=(⟨s0.id,s0.ht,s0.root,s0.model,s0.fmt,s0.sh,s0.used,s0.rg,v3==2,s0.since,s0.last⟩:Sd)) hX Hl (by omega) (fun _=>ih.1 X p6 hX) (fun _=>ih.2.2 p6)
   simp only[Sd.cells] at r1 r2 q;simp only[Dg,Az,List.flatMap_nil] at r1 r2
   try unfold Ab
   repeat first
    |((with_reducible first|apply A8|apply Aw|apply A5|apply Ay|apply Bh|apply B5|apply B7|apply C6|apply Cf|apply Ax|apply A9|apply A7);· first|with_reducible rfl|(simp (disch:=omega) only[gT,lf,m1,hN,m2,s,m3,m4,e4,m6,e60,r1,r2,q,Cm,Ch,Nat.zero_mul,Cl,List.take_nil,Dg]<;>first|with_reducible rfl|omega)|omega)
    |(with_reducible apply A6;· first|with_reducible rfl|(simp (disch:=omega) only[gF,lf,m1,hN,m2,s,m3,m4,e4,m6,e60,r1,r2,q,Cm,Ch,Nat.zero_mul,Cl,List.take_nil,Dg]<;>omega))
   try simp (disch:=omega) only[lf,m1,hN,m2,s,m3,m4,e4,m6,e60,r1,r2,q,Cm,Ch,Nat.zero_mul,Cl,List.take_nil,Dg]
  have e60:(v6==0)=false:=by simp[QC]
  by_cases QZ:v6=1
  ·have e61:(v6==1)=true:=by simp[QZ]
   obtain⟨X,z,hX,r1,r2⟩:=Qf (fu:=fu) (d:=d) Kh.nil B2 nm (c:=(⟨s0.id,s0.ht,s0.root,s0.model,s0.fmt,s0.sh,s0.used,s0.rg,v3==2,s0.since,s0.last⟩:Sd)) sk;have q:=H1 (fu:=fu) (d:=d) B2 (Ap:=Ap) (a0:=a0) (a1:=a1) (m0:=nn) (i:=i) (p:=p6) (secret:=secret) (nm:=nm) (X:=X) (z:=z) (dl:=dl) (c:=(⟨s0.id,s0.ht,s0.root,s0.model,s0.fmt,s0.sh,s0.used,s0.rg,v3==2,s0.since,s0.last⟩:Sd)) hX Hl (by omega) (fun _=>ih.1 X p6 hX) (fun _=>ih.2.2 p6)
   simp only[Sd.cells] at r1 r2 q;simp only[Dg,Az,List.flatMap_nil] at r1 r2
   try unfold Ab
   repeat first
    |((with_reducible first|apply A8|apply Aw|apply A5|apply Ay|apply Bh|apply B5|apply B7|apply C6|apply Cf|apply Ax|apply A9|apply A7);· first|with_reducible rfl|(simp (disch:=omega) only[gT,lf,m1,hN,m2,s,m3,m4,e4,m6,e60,e61,r1,r2,q,Cm,Ch,Nat.zero_mul,Cl,List.take_nil,Dg]<;>first|with_reducible rfl|omega)|omega)
    |(with_reducible apply A6;· first|with_reducible rfl|(simp (disch:=omega) only[gF,lf,m1,hN,m2,s,m3,m4,e4,m6,e60,e61,r1,r2,q,Cm,Ch,Nat.zero_mul,Cl,List.take_nil,Dg]<;>omega))
   try simp (disch:=omega) only[lf,m1,hN,m2,s,m3,m4,e4,m6,e60,e61,r1,r2,q,Cm,Ch,Nat.zero_mul,Cl,List.take_nil,Dg]
  have e61:(v6==1)=false:=by simp[QZ]
  obtain⟨v7,p7,b7,c7,n7⟩:=Cz Jj p6 2 (by omega) (by omega)
  have m7:=n7 (fu:=fu) (d:=d+6);clear n7;simp only[X6] at m7;by_cases h7:v7=1
  ·have e7:(v7==1)=true:=by simp[h7]
   obtain⟨X,z,hX,r1,r2⟩:=F8 (fu:=fu) (d:=d) Kh.nil B2 nm (ByteArray.mk #[(117:UInt8),(115:UInt8),(101:UInt8),(114:UInt8)]) (c:=(⟨Dj (wrap .i64 (900+(i:Int))) 176,s0.ht,s0.root,s0.model,s0.fmt,s0.sh,s0.used,s0.rg,v3==2,s0.since,s0.last⟩:Sd)) (Y3 sk (wrap .i64 (900+(i:Int))));have q:=Wk (fu:=fu) (d:=d) B2 (Ap:=Ap) (a0:=a0) (a1:=a1) (m0:=nn) (i:=i) (p:=p7) (secret:=secret) (nm:=nm) (X:=X) (z:=z) (dl:=dl) (c:=(⟨Dj (wrap .i64 (900+(i:Int))) 176,s0.ht,s0.root,s0.model,s0.fmt,s0.sh,s0.used,s0.rg,v3==2,s0.since,s0.last⟩:Sd)) hX Hl (by omega) (fun _=>ih.1 X p7 hX) (fun _=>ih.2.2 p7)
   have by1:=Mw (fu:=fu) (d:=d+2) (by omega) (wrap .i64 (900+(i:Int))) (n:=176) (by omega)
   have LB:(Am .u8 (Dj (wrap .i64 (900+(i:Int))) 176)).length=176:=by rw[A0,Et]
   have TB:List.take 176 (Am .u8 (Dj (wrap .i64 (900+(i:Int))) 176))=Am .u8 (Dj (wrap .i64 (900+(i:Int))) 176):=Ha (by omega)
   have lB:(Dj (wrap .i64 (900+(i:Int))) 176).length=176:=Et _ _;simp only[Sd.cells,lB] at r1 r2 q;simp only[Dg,Az,List.flatMap_nil] at r1 r2;generalize Dj (wrap .i64 (900+(i:Int))) 176=BB at *
   try unfold Ab
   repeat first
    |((with_reducible first|apply A8|apply Aw|apply A5|apply Ay|apply Bh|apply B5|apply B7|apply C6|apply Cf|apply Ax|apply A9|apply A7);· first|with_reducible rfl|(simp (disch:=omega) only[gT,lf,m1,hN,m2,s,m3,m4,e4,m6,e60,e61,m7,e7,by1,LB,TB,r1,r2,q,Cm,Ch,Nat.zero_mul,Cl,List.take_nil,Dg]<;>first|with_reducible rfl|omega)|omega)
    |(with_reducible apply A6;· first|with_reducible rfl|(simp (disch:=omega) only[gF,lf,m1,hN,m2,s,m3,m4,e4,m6,e60,e61,m7,e7,by1,LB,TB,r1,r2,q,Cm,Ch,Nat.zero_mul,Cl,List.take_nil,Dg]<;>omega))
   try simp (disch:=omega) only[lf,m1,hN,m2,s,m3,m4,e4,m6,e60,e61,m7,e7,by1,LB,TB,r1,r2,q,Cm,Ch,Nat.zero_mul,Cl,List.take_nil,Dg]
  ·have e7:(v7==1)=false:=by simp[h7]
   obtain⟨X,z,hX,r1,r2⟩:=F8 (fu:=fu) (d:=d) Kh.nil B2 nm (ByteArray.mk #[(117:UInt8),(115:UInt8),(101:UInt8),(114:UInt8)]) (c:=(⟨s0.id,s0.ht,s0.root,s0.model,s0.fmt,s0.sh,s0.used,s0.rg,v3==2,s0.since,s0.last⟩:Sd)) sk;have q:=H1 (fu:=fu) (d:=d) B2 (Ap:=Ap) (a0:=a0) (a1:=a1) (m0:=nn) (i:=i) (p:=p7) (secret:=secret) (nm:=nm) (X:=X) (z:=z) (dl:=dl) (c:=(⟨s0.id,s0.ht,s0.root,s0.model,s0.fmt,s0.sh,s0.used,s0.rg,v3==2,s0.since,s0.last⟩:Sd)) hX Hl (by omega) (fun _=>ih.1 X p7 hX) (fun _=>ih.2.2 p7)
   simp only[Sd.cells] at r1 r2 q;simp only[Dg,Az,List.flatMap_nil] at r1 r2
   try unfold Ab
   repeat first
    |((with_reducible first|apply A8|apply Aw|apply A5|apply Ay|apply Bh|apply B5|apply B7|apply C6|apply Cf|apply Ax|apply A9|apply A7);· first|with_reducible rfl|(simp (disch:=omega) only[gT,lf,m1,hN,m2,s,m3,m4,e4,m6,e60,e61,m7,e7,r1,r2,q,Cm,Ch,Nat.zero_mul,Cl,List.take_nil,Dg]<;>first|with_reducible rfl|omega)|omega)
    |(with_reducible apply A6;· first|with_reducible rfl|(simp (disch:=omega) only[gF,lf,m1,hN,m2,s,m3,m4,e4,m6,e60,e61,m7,e7,r1,r2,q,Cm,Ch,Nat.zero_mul,Cl,List.take_nil,Dg]<;>omega))
   try simp (disch:=omega) only[lf,m1,hN,m2,s,m3,m4,e4,m6,e60,e61,m7,e7,r1,r2,q,Cm,Ch,Nat.zero_mul,Cl,List.take_nil,Dg]
set_option maxHeartbeats 2000000 in
theorem UW (B2:2000<=fu){dl:List Int}(OO:dl.length<=maxLen){Ap i nn p:Nat}{a0:List PV}{a1 secret:Int}(hi:i<60)
  (ih:(∀(l:List Cw)(p:Nat),Kh l->Ak fu (Ag C0 prog fu (d+8)) Ap a0 a1 nn secret l.length (Az l) l.length (Az l) ((i+1:Nat):Int) dl.length (Am .i64 dl) (p:Int)=some ⟨[.sc (.bool true)],[]⟩)∧(∀p:Nat,Bm fu (Ag C0 prog fu (d+8)) Ap a0 a1 nn secret 0 0 ((i+1:Nat):Int) dl.length (Am .i64 dl) (p:Int) [] []=some ⟨[.sc (.bool true)],[]⟩)∧(∀p:Nat,A1 fu (Ag C0 prog fu (d+8)) Ap a0 a1 nn secret 0 0 ((i+1:Nat):Int) dl.length (Am .i64 dl) (p:Int) [] []=some ⟨[.sc (.bool true)],[]⟩)):A1 fu (Ag C0 prog fu (d+8)) Ap a0 a1 (nn+1) secret 0 0 (i:Int) dl.length (Am .i64 dl) (p:Int) [] []=some ⟨[.sc (.bool true)],[]⟩:=by
 have aw:=Xx (fu:=fu) (d:=d) B2;have Jj:=OO;simp only[maxLen] at OO;rw[Fa];have lf:=MH (fu:=fu) (d:=d+7) dl p;by_cases hp:(p:Int)<(dl.length:Int)
 rotate_left
 ·rw[decide_eq_false hp] at lf;simp only[X6] at lf
  try unfold Ab
  repeat first
   |((with_reducible first|apply A8|apply Aw|apply A5|apply Ay|apply Bh|apply B5|apply B7|apply C6|apply Cf|apply Ax|apply A9|apply A7);· first|with_reducible rfl|(simp (disch:=omega) only[gT,lf,aw]<;>first|with_reducible rfl|omega)|omega)
   |(with_reducible apply A6;· first|with_reducible rfl|(simp (disch:=omega) only[gF,lf,aw]<;>omega))
  try simp (disch:=omega) only[lf,aw]
 rw[decide_eq_true hp] at lf;obtain⟨v1,p1,b1,c1,n1⟩:=Cz Jj p 20 (by omega) (by omega)
 obtain⟨v2,p2,b2,c2,n2⟩:=Cz Jj p1 12 (by omega) (by omega)
 obtain⟨v3,p3,b3,c3,n3⟩:=Cz Jj p2 3 (by omega) (by omega)
 obtain⟨v4,p4,b4,c4,n4⟩:=Cz Jj p3 20 (by omega) (by omega)
 have m1:=n1 (fu:=fu) (d:=d+6);have m2:=n2 (fu:=fu) (d:=d+6);have m3:=n3 (fu:=fu) (d:=d+6);have m4:=n4 (fu:=fu) (d:=d+6);clear n1 n2 n3 n4;obtain⟨nm,Hl,hN⟩:=MO b1 c1;have s:=To (fu:=fu) (d:=d+1) (by omega) (k:=v2) b2 c2 1
 have sk:=SS (S2 v2 1) (v3==2);have li:(ZX v2 1).id.length=176:=Et _ _;simp only[X6] at lf m1 m2 m3 m4;simp only[Sd.cells] at s;generalize ZX v2 1=s0 at s sk li;have LI:=A0 .u8 s0.id;by_cases h4:v4=19
 ·have e4:(v4==19)=true:=by simp[h4]
  obtain⟨v5,p5,b5,c5,n5⟩:=Cz Jj p4 176 (by omega) (by omega)
  have m5:=n5 (fu:=fu) (d:=d+6);clear n5;simp only[X6] at m5;have ck:=SO sk v5.toNat;obtain⟨ic,hic⟩:∃ic,ic=s0.id.take v5.toNat:=⟨_,rfl⟩;have Rs:v5.toNat-0=ic.length:=by rw[hic,List.length_take];omega
  have Ru:List.take ic.length (Am .u8 s0.id)=Am .u8 ic:=by
   rw[hic,List.length_take,Nat.min_eq_left (by omega),Gb]
  have hc5:v5.toNat<=s0.id.length:=by omega
  dsimp only at ck;rw[←hic] at ck;obtain⟨v6,p6,b6,c6,n6⟩:=Cz Jj p5 5 (by omega) (by omega)
  have m6:=n6 (fu:=fu) (d:=d+6);clear n6;simp only[X6] at m6;by_cases QC:v6=0
  ·have e60:(v6==0)=true:=by simp[QC]
   obtain⟨X,z,hX,r1,r2⟩:=Pw (fu:=fu) (d:=d) Kh.nil B2 nm (id:=ic) ck.idL;have q:=H1 (fu:=fu) (d:=d) B2 (Ap:=Ap) (a0:=a0) (a1:=a1) (m0:=nn) (i:=i) (p:=p6) (secret:=secret) (nm:=nm) (X:=X) (z:=z) (dl:=dl) (c:=(⟨ic,s0.ht,s0.root,s0.model,s0.fmt,s0.sh,s0.used,s0.rg,v3==2,s0.since,s0.last⟩:Sd)) hX Hl (by omega) (fun _=>ih.1 X p6 hX) (fun _=>ih.2.2 p6)
   simp only[Sd.cells] at r1 r2 q;simp only[Dg,Az,List.flatMap_nil] at r1 r2
   try unfold Ab
   repeat first
    |((with_reducible first|apply A8|apply Aw|apply A5|apply Ay|apply Bh|apply B5|apply B7|apply C6|apply Cf|apply Ax|apply A9|apply A7);· first|with_reducible rfl|(simp (disch:=omega) only[gT,lf,m1,hN,m2,s,m3,m4,e4,m5,Rs,Ru,LI,m6,e60,r1,r2,q,Cm,Ch,Nat.zero_mul,Cl,List.take_nil,Dg]<;>first|with_reducible rfl|omega)|omega)
    |(with_reducible apply A6;· first|with_reducible rfl|(simp (disch:=omega) only[gF,lf,m1,hN,m2,s,m3,m4,e4,m5,Rs,Ru,LI,m6,e60,r1,r2,q,Cm,Ch,Nat.zero_mul,Cl,List.take_nil,Dg]<;>omega))
   try simp (disch:=omega) only[lf,m1,hN,m2,s,m3,m4,e4,m5,Rs,Ru,LI,m6,e60,r1,r2,q,Cm,Ch,Nat.zero_mul,Cl,List.take_nil,Dg]
  have e60:(v6==0)=false:=by simp[QC]
  by_cases QZ:v6=1
  ·have e61:(v6==1)=true:=by simp[QZ]
   obtain⟨X,z,hX,r1,r2⟩:=Qf (fu:=fu) (d:=d) Kh.nil B2 nm (c:=(⟨ic,s0.ht,s0.root,s0.model,s0.fmt,s0.sh,s0.used,s0.rg,v3==2,s0.since,s0.last⟩:Sd)) ck;have q:=H1 (fu:=fu) (d:=d) B2 (Ap:=Ap) (a0:=a0) (a1:=a1) (m0:=nn) (i:=i) (p:=p6) (secret:=secret) (nm:=nm) (X:=X) (z:=z) (dl:=dl) (c:=(⟨ic,s0.ht,s0.root,s0.model,s0.fmt,s0.sh,s0.used,s0.rg,v3==2,s0.since,s0.last⟩:Sd)) hX Hl (by omega) (fun _=>ih.1 X p6 hX) (fun _=>ih.2.2 p6)
   simp only[Sd.cells] at r1 r2 q;simp only[Dg,Az,List.flatMap_nil] at r1 r2
   try unfold Ab
   repeat first
    |((with_reducible first|apply A8|apply Aw|apply A5|apply Ay|apply Bh|apply B5|apply B7|apply C6|apply Cf|apply Ax|apply A9|apply A7);· first|with_reducible rfl|(simp (disch:=omega) only[gT,lf,m1,hN,m2,s,m3,m4,e4,m5,Rs,Ru,LI,m6,e60,e61,r1,r2,q,Cm,Ch,Nat.zero_mul,Cl,List.take_nil,Dg]<;>first|with_reducible rfl|omega)|omega)
    |(with_reducible apply A6;· first|with_reducible rfl|(simp (disch:=omega) only[gF,lf,m1,hN,m2,s,m3,m4,e4,m5,Rs,Ru,LI,m6,e60,e61,r1,r2,q,Cm,Ch,Nat.zero_mul,Cl,List.take_nil,Dg]<;>omega))
   try simp (disch:=omega) only[lf,m1,hN,m2,s,m3,m4,e4,m5,Rs,Ru,LI,m6,e60,e61,r1,r2,q,Cm,Ch,Nat.zero_mul,Cl,List.take_nil,Dg]
  have e61:(v6==1)=false:=by simp[QZ]
  obtain⟨v7,p7,b7,c7,n7⟩:=Cz Jj p6 2 (by omega) (by omega)
  have m7:=n7 (fu:=fu) (d:=d+6);clear n7;simp only[X6] at m7;by_cases h7:v7=1
  ·have e7:(v7==1)=true:=by simp[h7]
   obtain⟨X,z,hX,r1,r2⟩:=F8 (fu:=fu) (d:=d) Kh.nil B2 nm (ByteArray.mk #[(117:UInt8),(115:UInt8),(101:UInt8),(114:UInt8)]) (c:=(⟨Dj (wrap .i64 (900+(i:Int))) 176,s0.ht,s0.root,s0.model,s0.fmt,s0.sh,s0.used,s0.rg,v3==2,s0.since,s0.last⟩:Sd)) (Y3 ck (wrap .i64 (900+(i:Int))));have q:=Wk (fu:=fu) (d:=d) B2 (Ap:=Ap) (a0:=a0) (a1:=a1) (m0:=nn) (i:=i) (p:=p7) (secret:=secret) (nm:=nm) (X:=X) (z:=z) (dl:=dl) (c:=(⟨Dj (wrap .i64 (900+(i:Int))) 176,s0.ht,s0.root,s0.model,s0.fmt,s0.sh,s0.used,s0.rg,v3==2,s0.since,s0.last⟩:Sd)) hX Hl (by omega) (fun _=>ih.1 X p7 hX) (fun _=>ih.2.2 p7)
   have by1:=Mw (fu:=fu) (d:=d+2) (by omega) (wrap .i64 (900+(i:Int))) (n:=176) (by omega)
   have LB:(Am .u8 (Dj (wrap .i64 (900+(i:Int))) 176)).length=176:=by rw[A0,Et]
   have TB:List.take 176 (Am .u8 (Dj (wrap .i64 (900+(i:Int))) 176))=Am .u8 (Dj (wrap .i64 (900+(i:Int))) 176):=Ha (by omega)
   have lB:(Dj (wrap .i64 (900+(i:Int))) 176).length=176:=Et _ _;simp only[Sd.cells,lB] at r1 r2 q;simp only[Dg,Az,List.flatMap_nil] at r1 r2;generalize Dj (wrap .i64 (900+(i:Int))) 176=BB at *
   try unfold Ab
   repeat first
    |((with_reducible first|apply A8|apply Aw|apply A5|apply Ay|apply Bh|apply B5|apply B7|apply C6|apply Cf|apply Ax|apply A9|apply A7);· first|with_reducible rfl|(simp (disch:=omega) only[gT,lf,m1,hN,m2,s,m3,m4,e4,m5,Rs,Ru,LI,m6,e60,e61,m7,e7,by1,LB,TB,r1,r2,q,Cm,Ch,Nat.zero_mul,Cl,List.take_nil,Dg]<;>first|with_reducible rfl|omega)|omega)
    |(with_reducible apply A6;· first|with_reducible rfl|(simp (disch:=omega) only[gF,lf,m1,hN,m2,s,m3,m4,e4,m5,Rs,Ru,LI,m6,e60,e61,m7,e7,by1,LB,TB,r1,r2,q,Cm,Ch,Nat.zero_mul,Cl,List.take_nil,Dg]<;>omega))
   try simp (disch:=omega) only[lf,m1,hN,m2,s,m3,m4,e4,m5,Rs,Ru,LI,m6,e60,e61,m7,e7,by1,LB,TB,r1,r2,q,Cm,Ch,Nat.zero_mul,Cl,List.take_nil,Dg]
  ·have e7:(v7==1)=false:=by simp[h7]
   obtain⟨X,z,hX,r1,r2⟩:=F8 (fu:=fu) (d:=d) Kh.nil B2 nm (ByteArray.mk #[(117:UInt8),(115:UInt8),(101:UInt8),(114:UInt8)]) (c:=(⟨ic,s0.ht,s0.root,s0.model,s0.fmt,s0.sh,s0.used,s0.rg,v3==2,s0.since,s0.last⟩:Sd)) ck;have q:=H1 (fu:=fu) (d:=d) B2 (Ap:=Ap) (a0:=a0) (a1:=a1) (m0:=nn) (i:=i) (p:=p7) (secret:=secret) (nm:=nm) (X:=X) (z:=z) (dl:=dl) (c:=(⟨ic,s0.ht,s0.root,s0.model,s0.fmt,s0.sh,s0.used,s0.rg,v3==2,s0.since,s0.last⟩:Sd)) hX Hl (by omega) (fun _=>ih.1 X p7 hX) (fun _=>ih.2.2 p7)
   simp only[Sd.cells] at r1 r2 q;simp only[Dg,Az,List.flatMap_nil] at r1 r2
   try unfold Ab
   repeat first
    |((with_reducible first|apply A8|apply Aw|apply A5|apply Ay|apply Bh|apply B5|apply B7|apply C6|apply Cf|apply Ax|apply A9|apply A7);· first|with_reducible rfl|(simp (disch:=omega) only[gT,lf,m1,hN,m2,s,m3,m4,e4,m5,Rs,Ru,LI,m6,e60,e61,m7,e7,r1,r2,q,Cm,Ch,Nat.zero_mul,Cl,List.take_nil,Dg]<;>first|with_reducible rfl|omega)|omega)
    |(with_reducible apply A6;· first|with_reducible rfl|(simp (disch:=omega) only[gF,lf,m1,hN,m2,s,m3,m4,e4,m5,Rs,Ru,LI,m6,e60,e61,m7,e7,r1,r2,q,Cm,Ch,Nat.zero_mul,Cl,List.take_nil,Dg]<;>omega))
   try simp (disch:=omega) only[lf,m1,hN,m2,s,m3,m4,e4,m5,Rs,Ru,LI,m6,e60,e61,m7,e7,r1,r2,q,Cm,Ch,Nat.zero_mul,Cl,List.take_nil,Dg]
 ·have e4:(v4==19)=false:=by simp[h4]
  obtain⟨v6,p6,b6,c6,n6⟩:=Cz Jj p4 5 (by omega) (by omega)
  have m6:=n6 (fu:=fu) (d:=d+6);clear n6;simp only[X6] at m6;by_cases QC:v6=0
  ·have e60:(v6==0)=true:=by simp[QC]
   obtain⟨X,z,hX,r1,r2⟩:=Pw (fu:=fu) (d:=d) Kh.nil B2 nm (id:=s0.id) sk.idL;have q:=H1 (fu:=fu) (d:=d) B2 (Ap:=Ap) (a0:=a0) (a1:=a1) (m0:=nn) (i:=i) (p:=p6) (secret:=secret) (nm:=nm) (X:=X) (z:=z) (dl:=dl) (c:=(⟨s0.id,s0.ht,s0.root,s0.model,s0.fmt,s0.sh,s0.used,s0.rg,v3==2,s0.since,s0.last⟩:Sd)) hX Hl (by omega) (fun _=>ih.1 X p6 hX) (fun _=>ih.2.2 p6)
   simp only[Sd.cells] at r1 r2 q;simp only[Dg,Az,List.flatMap_nil] at r1 r2
   try unfold Ab
   repeat first
    |((with_reducible first|apply A8|apply Aw|apply A5|apply Ay|apply Bh|apply B5|apply B7|apply C6|apply Cf|apply Ax|apply A9|apply A7);· first|with_reducible rfl|(simp (disch:=omega) only[gT,lf,m1,hN,m2,s,m3,m4,e4,m6,e60,r1,r2,q,Cm,Ch,Nat.zero_mul,Cl,List.take_nil,Dg]<;>first|with_reducible rfl|omega)|omega)
    |(with_reducible apply A6;· first|with_reducible rfl|(simp (disch:=omega) only[gF,lf,m1,hN,m2,s,m3,m4,e4,m6,e60,r1,r2,q,Cm,Ch,Nat.zero_mul,Cl,List.take_nil,Dg]<;>omega))
   try simp (disch:=omega) only[lf,m1,hN,m2,s,m3,m4,e4,m6,e60,r1,r2,q,Cm,Ch,Nat.zero_mul,Cl,List.take_nil,Dg]
  have e60:(v6==0)=false:=by simp[QC]
  by_cases QZ:v6=1
  ·have e61:(v6==1)=true:=by simp[QZ]
   obtain⟨X,z,hX,r1,r2⟩:=Qf (fu:=fu) (d:=d) Kh.nil B2 nm (c:=(⟨s0.id,s0.ht,s0.root,s0.model,s0.fmt,s0.sh,s0.used,s0.rg,v3==2,s0.since,s0.last⟩:Sd)) sk;have q:=H1 (fu:=fu) (d:=d) B2 (Ap:=Ap) (a0:=a0) (a1:=a1) (m0:=nn) (i:=i) (p:=p6) (secret:=secret) (nm:=nm) (X:=X) (z:=z) (dl:=dl) (c:=(⟨s0.id,s0.ht,s0.root,s0.model,s0.fmt,s0.sh,s0.used,s0.rg,v3==2,s0.since,s0.last⟩:Sd)) hX Hl (by omega) (fun _=>ih.1 X p6 hX) (fun _=>ih.2.2 p6)
   simp only[Sd.cells] at r1 r2 q;simp only[Dg,Az,List.flatMap_nil] at r1 r2
   try unfold Ab
   repeat first
    |((with_reducible first|apply A8|apply Aw|apply A5|apply Ay|apply Bh|apply B5|apply B7|apply C6|apply Cf|apply Ax|apply A9|apply A7);· first|with_reducible rfl|(simp (disch:=omega) only[gT,lf,m1,hN,m2,s,m3,m4,e4,m6,e60,e61,r1,r2,q,Cm,Ch,Nat.zero_mul,Cl,List.take_nil,Dg]<;>first|with_reducible rfl|omega)|omega)
    |(with_reducible apply A6;· first|with_reducible rfl|(simp (disch:=omega) only[gF,lf,m1,hN,m2,s,m3,m4,e4,m6,e60,e61,r1,r2,q,Cm,Ch,Nat.zero_mul,Cl,List.take_nil,Dg]<;>omega))
   try simp (disch:=omega) only[lf,m1,hN,m2,s,m3,m4,e4,m6,e60,e61,r1,r2,q,Cm,Ch,Nat.zero_mul,Cl,List.take_nil,Dg]
  have e61:(v6==1)=false:=by simp[QZ]
  obtain⟨v7,p7,b7,c7,n7⟩:=Cz Jj p6 2 (by omega) (by omega)
  have m7:=n7 (fu:=fu) (d:=d+6);clear n7;simp only[X6] at m7;by_cases h7:v7=1
  ·have e7:(v7==1)=true:=by simp[h7]
   obtain⟨X,z,hX,r1,r2⟩:=F8 (fu:=fu) (d:=d) Kh.nil B2 nm (ByteArray.mk #[(117:UInt8),(115:UInt8),(101:UInt8),(114:UInt8)]) (c:=(⟨Dj (wrap .i64 (900+(i:Int))) 176,s0.ht,s0.root,s0.model,s0.fmt,s0.sh,s0.used,s0.rg,v3==2,s0.since,s0.last⟩:Sd)) (Y3 sk (wrap .i64 (900+(i:Int))));have q:=Wk (fu:=fu) (d:=d) B2 (Ap:=Ap) (a0:=a0) (a1:=a1) (m0:=nn) (i:=i) (p:=p7) (secret:=secret) (nm:=nm) (X:=X) (z:=z) (dl:=dl) (c:=(⟨Dj (wrap .i64 (900+(i:Int))) 176,s0.ht,s0.root,s0.model,s0.fmt,s0.sh,s0.used,s0.rg,v3==2,s0.since,s0.last⟩:Sd)) hX Hl (by omega) (fun _=>ih.1 X p7 hX) (fun _=>ih.2.2 p7)
   have by1:=Mw (fu:=fu) (d:=d+2) (by omega) (wrap .i64 (900+(i:Int))) (n:=176) (by omega)
   have LB:(Am .u8 (Dj (wrap .i64 (900+(i:Int))) 176)).length=176:=by rw[A0,Et]
   have TB:List.take 176 (Am .u8 (Dj (wrap .i64 (900+(i:Int))) 176))=Am .u8 (Dj (wrap .i64 (900+(i:Int))) 176):=Ha (by omega)
   have lB:(Dj (wrap .i64 (900+(i:Int))) 176).length=176:=Et _ _;simp only[Sd.cells,lB] at r1 r2 q;simp only[Dg,Az,List.flatMap_nil] at r1 r2;generalize Dj (wrap .i64 (900+(i:Int))) 176=BB at *
   try unfold Ab
   repeat first
    |((with_reducible first|apply A8|apply Aw|apply A5|apply Ay|apply Bh|apply B5|apply B7|apply C6|apply Cf|apply Ax|apply A9|apply A7);· first|with_reducible rfl|(simp (disch:=omega) only[gT,lf,m1,hN,m2,s,m3,m4,e4,m6,e60,e61,m7,e7,by1,LB,TB,r1,r2,q,Cm,Ch,Nat.zero_mul,Cl,List.take_nil,Dg]<;>first|with_reducible rfl|omega)|omega)
    |(with_reducible apply A6;· first|with_reducible rfl|(simp (disch:=omega) only[gF,lf,m1,hN,m2,s,m3,m4,e4,m6,e60,e61,m7,e7,by1,LB,TB,r1,r2,q,Cm,Ch,Nat.zero_mul,Cl,List.take_nil,Dg]<;>omega))
   try simp (disch:=omega) only[lf,m1,hN,m2,s,m3,m4,e4,m6,e60,e61,m7,e7,by1,LB,TB,r1,r2,q,Cm,Ch,Nat.zero_mul,Cl,List.take_nil,Dg]
  ·have e7:(v7==1)=false:=by simp[h7]
   obtain⟨X,z,hX,r1,r2⟩:=F8 (fu:=fu) (d:=d) Kh.nil B2 nm (ByteArray.mk #[(117:UInt8),(115:UInt8),(101:UInt8),(114:UInt8)]) (c:=(⟨s0.id,s0.ht,s0.root,s0.model,s0.fmt,s0.sh,s0.used,s0.rg,v3==2,s0.since,s0.last⟩:Sd)) sk;have q:=H1 (fu:=fu) (d:=d) B2 (Ap:=Ap) (a0:=a0) (a1:=a1) (m0:=nn) (i:=i) (p:=p7) (secret:=secret) (nm:=nm) (X:=X) (z:=z) (dl:=dl) (c:=(⟨s0.id,s0.ht,s0.root,s0.model,s0.fmt,s0.sh,s0.used,s0.rg,v3==2,s0.since,s0.last⟩:Sd)) hX Hl (by omega) (fun _=>ih.1 X p7 hX) (fun _=>ih.2.2 p7)
   simp only[Sd.cells] at r1 r2 q;simp only[Dg,Az,List.flatMap_nil] at r1 r2
   try unfold Ab
   repeat first
    |((with_reducible first|apply A8|apply Aw|apply A5|apply Ay|apply Bh|apply B5|apply B7|apply C6|apply Cf|apply Ax|apply A9|apply A7);· first|with_reducible rfl|(simp (disch:=omega) only[gT,lf,m1,hN,m2,s,m3,m4,e4,m6,e60,e61,m7,e7,r1,r2,q,Cm,Ch,Nat.zero_mul,Cl,List.take_nil,Dg]<;>first|with_reducible rfl|omega)|omega)
    |(with_reducible apply A6;· first|with_reducible rfl|(simp (disch:=omega) only[gF,lf,m1,hN,m2,s,m3,m4,e4,m6,e60,e61,m7,e7,r1,r2,q,Cm,Ch,Nat.zero_mul,Cl,List.take_nil,Dg]<;>omega))
   try simp (disch:=omega) only[lf,m1,hN,m2,s,m3,m4,e4,m6,e60,e61,m7,e7,r1,r2,q,Cm,Ch,Nat.zero_mul,Cl,List.take_nil,Dg]
theorem VF (B2:2000<=fu){dl:List Int}(OO:dl.length<=maxLen){Ap:Nat}{a0:List PV}{a1 secret:Int}:∀(k i nn:Nat),i+k=60->k<nn ->
  (∀(l:List Cw)(p:Nat),Kh l->Ak fu (Ag C0 prog fu (d+8)) Ap a0 a1 nn secret l.length (Az l) l.length (Az l) (i:Int) dl.length (Am .i64 dl) (p:Int)=some ⟨[.sc (.bool true)],[]⟩)∧(∀p:Nat,Bm fu (Ag C0 prog fu (d+8)) Ap a0 a1 nn secret 0 0 (i:Int) dl.length (Am .i64 dl) (p:Int) [] []=some ⟨[.sc (.bool true)],[]⟩)∧(∀p:Nat,A1 fu (Ag C0 prog fu (d+8)) Ap a0 a1 nn secret 0 0 (i:Int) dl.length (Am .i64 dl) (p:Int) [] []=some ⟨[.sc (.bool true)],[]⟩):=by
 have aw:=Xx (fu:=fu) (d:=d) B2;intro k
 induction k with
 |zero=>
  intro i nn h1 h2;obtain⟨nn,rfl⟩:∃k,nn=k+1:=⟨nn-1,by omega⟩
  refine⟨fun l p hl=>?_,fun p=>?_,fun p=>?_⟩
  ·rw[Fg]
   try unfold Ab
   repeat first
    |((with_reducible first|apply A8|apply Aw|apply A5|apply Ay|apply Bh|apply B5|apply B7|apply C6|apply Cf|apply Ax|apply A9|apply A7);· first|with_reducible rfl|(simp (disch:=omega) only[gT,aw]<;>first|with_reducible rfl|omega)|omega)
    |(with_reducible apply A6;· first|with_reducible rfl|(simp (disch:=omega) only[gF,aw]<;>omega))
   try simp (disch:=omega) only[aw]
  ·rw[Fl]
   try unfold Ab
   repeat first
    |((with_reducible first|apply A8|apply Aw|apply A5|apply Ay|apply Bh|apply B5|apply B7|apply C6|apply Cf|apply Ax|apply A9|apply A7);· first|with_reducible rfl|(simp (disch:=omega) only[gT,aw]<;>first|with_reducible rfl|omega)|omega)
    |(with_reducible apply A6;· first|with_reducible rfl|(simp (disch:=omega) only[gF,aw]<;>omega))
   try simp (disch:=omega) only[aw]
  ·rw[Fa]
   try unfold Ab
   repeat first
    |((with_reducible first|apply A8|apply Aw|apply A5|apply Ay|apply Bh|apply B5|apply B7|apply C6|apply Cf|apply Ax|apply A9|apply A7);· first|with_reducible rfl|(simp (disch:=omega) only[gT,aw]<;>first|with_reducible rfl|omega)|omega)
    |(with_reducible apply A6;· first|with_reducible rfl|(simp (disch:=omega) only[gF,aw]<;>omega))
   try simp (disch:=omega) only[aw]
 |succ k ih=>
  intro i nn h1 h2;obtain⟨nn,rfl⟩:∃k,nn=k+1:=⟨nn-1,by omega⟩
  have ih:=ih (i+1) nn (by omega) (by omega)
  exact⟨fun l p hl=>Aad B2 OO (by omega) hl ih,fun p=>Agu B2 OO (by omega) ih,fun p=>UW B2 OO (by omega) ih⟩
end
theorem accountPlays_plain (qs:List PV)(h:Ba (WTv prog) [22,23] qs):∃fu d,Ag C0 prog fu d Gl qs=some ⟨[.sc (.bool true)],[]⟩:=by
 obtain⟨q0,_,rfl,h0,g⟩:=h.cons_inv;obtain⟨q1,_,rfl,h1,g⟩:=g.cons_inv;obtain rfl:=g.nil_inv;clear h g;obtain⟨l,rfl,OO,hlw⟩:=Afh (k:=.i64) (e:=3) (by kernel_rfl) (by kernel_rfl) (by kernel_rfl) (by kernel_rfl) h0
 obtain⟨secret,rfl,_⟩:=Akd (P:=prog) (k:=.u64) (by kernel_rfl) (by kernel_rfl) h1
 clear h0 h1 hlw;obtain⟨fu,Bz8⟩:∃fu,fu=2000:=⟨_,rfl⟩;have B2:2000<=fu:=by omega
 refine⟨fu,9,?_⟩;refine (Mj fu 8 l.length (Am .i64 l) secret).trans ?_;have nw:=Aqs (fu:=fu) (d:=7) (l:=l);have lp:=(VF (fu:=fu) (d:=0) B2 OO (Ap:=l.length) (a0:=Am .i64 l) (a1:=secret) (secret:=secret) 60 0 fu rfl (by omega)).2.1 0
 simp only[X6] at nw;have e0:((0:Nat):Int)=0:=rfl;rw[e0] at nw lp
 try unfold Ab
 repeat first
  |((with_reducible first|apply A8|apply Aw|apply A5|apply Ay|apply Bh|apply B5|apply B7|apply C6|apply Cf|apply Ax|apply A9|apply A7);· first|with_reducible rfl|(simp (disch:=omega) only[gT,nw,lp]<;>first|with_reducible rfl|omega)|omega)
  |(with_reducible apply A6;· first|with_reducible rfl|(simp (disch:=omega) only[gF,nw,lp]<;>omega))
 try simp (disch:=omega) only[nw,lp]
end
section
open Go.Proofs.Try (prog)
open Go.IntKind (wrap)
open Go.RowKit
theorem YT {w w':World}{Y:Nat->Prop}{bt:Xn}{args:List PV}{v:Value}(hb:Below w.heap.size w w')(ho:G4 w' (Ns bt (fun _=>none) Y) (fun _=>none) bt (Jk [.sc v]) 0 args []):
  VM w w' Y bt args (fun _=>none) ⟨[.sc v],[]⟩ [v] where
 os:=hb.os
 tape:=hb.tape
 output:=hb.output
 ext:=⟨hb.size,fun b h _=>hb.block b h,fun b h=>Hv.same (hb.block b h)⟩
 rng:=fun b j h _=>⟨by unfold World.cell?;simp only[hb.block b h],by unfold World.frozen?;simp only[hb.block b h]⟩
 vals:=⟨As.sc v,trivial⟩
 outs:=ho
 fresh:=fun j b o h=>by cases h
 inj:=fun j j' b o o' h=>by cases h
theorem Zz {P:Program}{w:World}{A:Nat->Prop}{bt:Bt}{z:Bool}{n:Nat}{c:List PV}{u:Value}{l:List UInt8}(h:GN w A bt (.lst z 1 n c) u) (hl:bytesOf c=some l)(hn:c.length=n):
  (Extern.Bytes.bytesOf u).run P w=.ok ⟨l.toArray⟩ w:=by
 obtain⟨ns,rfl,rfl⟩:=Se hl;have ht:As w A (.lst z 1 n (ns.map fun n=>.sc (.int .u8 n))) u:=h.2
 generalize hc:(ns.map fun n=>PV.sc (.int .u8 n))=c at ht
 cases ht with
 |lnil=>
  have:ns=[]:=by simpa using hc
  subst this;rfl
 |lemp=>
  have:ns=[]:=by simpa using hc
  subst this;rfl
 |lst _ _ _ a cap f hs hb hA hn' hcell h1 hr=>
  subst hc;rw[List.length_map] at hn;subst hn;show (Extern.Bytes.loadBytes a ns.length .empty).run P w=_;rw[Lib.run_loadBytesX w ns a .empty fun j x hj=>?_]
  ·simp[Lib.bytesOf,Nat.toUInt8]
  ·have e:(ns.map fun n=>PV.sc (.int .u8 n))[j]?=some (.sc (.int .u8 x)):=by rw[List.getElem?_map,hj];rfl
   rw[hcell j _ e,(hr j _ e).val]
set_option maxRecDepth 1000000 in
theorem KH (u1 u2:Value)(a b:List UInt8)(w:World)(h1:(Extern.Bytes.bytesOf u1).run prog w=.ok ⟨a.toArray⟩ w) (h2:(Extern.Bytes.bytesOf u2).run prog w=.ok ⟨b.toArray⟩ w):
  Calls prog 36 #[u1,u2] w fun e w'=>e=.returned (.int .i64 (Lib.compareBytes a b))∧w'=w:=by
 have hr:(Extern.BytealgCompare.compare #[u1,u2]).run prog w=.ok (.int .i64 (Lib.compareBytes a b)) w:=by
  change Sem.run prog (do pure (goInt (Extern.BytealgCompare.cmp (←Extern.Bytes.bytesOf u1) (←Extern.Bytes.bytesOf u2)))) w=_
  simp only[Sem.run_bind,Sem.run_pure,Result.andThen,h1,h2];rw[Lib.cmp_eq];rfl
 go_enter Try.func36,Try.ntmps36
 go_wp2
 rw[run_callFunc_extern Try.func53 (by kernel_rfl) (by kernel_rfl) (by kernel_rfl) (e:=Extern.BytealgCompare.compare) (by kernel_rfl),hr]
 simp only[Result.andThen];rw[Oper.upon_value]
 go_wp2
 go_ret
 exact⟨rfl,rfl⟩
theorem GQ (G:Glo)(args:List PV)(res:A2)(h:Sf args=some res):Dn G prog 36 args res:=by
 refine⟨⟨_,Try.func36,by kernel_rfl⟩,fun w Y bt us hi _ _=>?_⟩
 unfold Sf at h;split at h
 rotate_left
 ·cases h
 rename_i z n c z' m c';cases hq:(Nat.beq c.length n&&Nat.beq c'.length m)
 ·rw[hq] at h;cases h
 rw[hq] at h;simp only[Bool.and_eq_true] at hq;have hn:=Nat.eq_of_beq_eq_true hq.1;have hm:=Nat.eq_of_beq_eq_true hq.2;simp only[cond_true] at h;split at h
 rotate_left
 ·cases h
 rename_i a b ha hb;cases h;have ps:=hi.args
 match us,ps with
 |[u1,u2],ps=>
  refine (KH u1 u2 a b w (Zz ps.1 ha hn) (Zz ps.2.1 hb hm)).mono ?_
  rintro e w' ⟨rfl,rfl⟩
  exact⟨[.int .i64 (Lib.compareBytes a b)],fun _=>none,rfl,YT (Below.refl _ _) rfl⟩
 |[],ps=>exact ps.elim
 |[_],ps=>exact ps.2.elim
 |_::_::_::_,ps=>exact ps.2.2.elim
end
section
open Go.IntKind (wrap)
open Go.RowKit Go.Lib
section
variable {P:Program}
theorem Tt (w:World)(dT sT ty elem:TypeId)(i:TypeInfo)(b o dLen dCap:Nat)(a:Addr)(sLen sCap k:Nat)(cs:List Value)
  (hu:P.underlying dT=some (.slice elem)) (hq:P.info? elem=some i)(hk:k=Nat.min sLen dLen)(hn:cs.length=k*i.size)
  (Mv:∀j v,cs[j]?=some v->w.cell? (a.add j)=some v) (hc:∀j,j<cs.length->(w.cell? ⟨b,o+j,none⟩).isSome=true) (hf:∀j,j<cs.length->w.frozen? ⟨b,o+j,none⟩=false)(h1:∀v∈cs,v.oneCell'=true):
  (Builtin.copy_ #[dT,sT] ty #[.slice (some ⟨b,o,none⟩) dLen dCap,.slice (some a) sLen sCap]).run P w=.ok (goInt k) (w.setCells b o cs):=by
 have hl:=run_loadCells_list (P:=P) w a cs Mv;have Lu:=run_storeCells_cells (P:=P) b o cs 0 w (by simpa using hc) (by simpa using hf) h1
 simp[Builtin.copy_,run_underlying hu,Builtin.lenOf,Builtin.firstCells,sizeOf,typeInfo,hq,←hk,←hn,hl,Lu]
theorem Hx (b:Nat)(vs:List Value)(o:Nat)(w:World)(k:Nat)(hk:(w.cell? ⟨b,k,none⟩).isSome=true):((w.setCells b o vs).cell? ⟨b,k,none⟩).isSome=true:=by
 have h:=(Bf.setCells b vs o w).bs;obtain⟨v,hv⟩:=Option.isSome_iff_exists.1 hk;have h1:=Wa hv;exact F9 (by omega)
theorem LT (w:World){o:Oper}{a:Act}{K:Act->World->Prop}{Q:Exit->Act->World->Prop}(d s:Operand)(t t':TypeId)
  (ho:o.op=.call { callee:=.builtin .copy,args:= #[d,s],argTypes:= #[t,t'] }) (v u:Value)(hd:a.eval d=v)(hs:a.eval s=u){v':Value}{w':World}
  (hr:(Builtin.copy_ #[t,t'] o.type #[v,u]).run P w=.ok v' w') (h:K (a.put o.dst v') w'):o.wp P a w K Q:=by
 unfold Oper.wp execOp;simp only[ho,resolve,invoke,builtin,Sem.run_bind,Sem.run_pure,Result.andThen_ok,List.map_toArray,List.map_cons,List.map_nil,hd,hs,hr];exact h
theorem Kt (w:World){ops:Array Oper}{rest:List Oper}{o:Oper}{a:Act}{Q:Exit->Act->World->Prop}(hgd:o.guard=none)(d s:Operand)(t t':TypeId)
  (ho:o.op=.call { callee:=.builtin .copy,args:= #[d,s],argTypes:= #[t,t'] }) (v u:Value)(hd:a.eval d=v)(hs:a.eval s=u){v':Value}{w':World}
  (hr:(Builtin.copy_ #[t,t'] o.type #[v,u]).run P w=.ok v' w') (h:wpList P ops Q rest (a.put o.dst v') w'):wpList P ops Q (o::rest) a w:=
 wpList_plain hgd fun _ hK=>LT w d s t t' ho v u hd hs hr (hK _ _ h)
theorem Sv {ops:Array Oper}{o:Oper}{a:Act}{w:World}{K:Act->World->Prop}{Q:Exit->Act->World->Prop}{E:Prop}
  (hg:o.guard=none)(d x:Operand)(dT sT:TypeId)(XO:o.op=Op.call { callee:=Callee.builtin Builtin.copy,args:= #[d,x],argTypes:= #[dT,sT] })
  (v u:Value)(hd:a.eval d=v)(hx:a.eval x=u){v':Value}{w':World}(hr:(Builtin.copy_ #[dT,sT] o.type #[v,u]).run P w=.ok v' w') (hK:K (a.put o.dst v') w'):
  if Region.wanted o (yielded ops a.tmps)=true then Oper.wp P o a w K Q else E:=by
 have hw:Region.wanted o (yielded ops a.tmps)=true:=by simp[Region.wanted,hg]
 rw[J7 hw];unfold Oper.wp;simp[execOp,XO,resolve,invoke,builtin,hd,hx,hr,Result.andThen];exact hK
end
end
section
open Go.Proofs.Try (prog)
open Go.IntKind (wrap)
open Go.RowKit Go.Lib
theorem MF:(prog.info? 79).map (fun i=>(i.zero,i.size,i.bytes))=some (some (.agg #[.int .i64 0,.int .i64 0]),2,16):=by kernel_rfl
theorem Uo:prog.underlying 31=some (.slice 79):=by kernel_rfl
theorem Aqz:prog.underlying 3=some (.int .i64):=by kernel_rfl
set_option maxHeartbeats 4000000 in
set_option maxRecDepth 100000 in
theorem Aal (b off n c i vb voff vc:Nat)(cs vs:List Value)(w:World)(hi:i<n)(Ky:n+1<=c)(Att:n<=100000)(hvb:vb≠b)
  (On:cs.length=n*2)(Ll:vs.length=2)
  (Tn:∀j v,cs[j]?=some v->w.cell? ⟨b,off+j,none⟩=some v) (hsp:∀j,j<(n+1)*2->(w.cell? ⟨b,off+j,none⟩).isSome=true) (Ry:∀j,j<(n+1)*2->w.frozen? ⟨b,off+j,none⟩=false)
  (Fq:∀j v,vs[j]?=some v->w.cell? ⟨vb,voff+j,none⟩=some v) (h1c:∀v∈cs,v.oneCell'=true)(FO:∀v∈vs,v.oneCell'=true)
  (tA tB:TypeId)(kA kB:Nat)(hsa:w.shape? vb=some (tA,kA)) (hsb:w.shape? b=some (tB,kB)) (hkB:kB≠0)(hfa:w.frozen? ⟨vb,voff,none⟩=false)(hfe:w.frozen? ⟨vb,kA,none⟩=false):
  Calls prog 46 #[.slice (some ⟨b,off,none⟩) n c,.int .i64 i,.slice (some ⟨vb,voff,none⟩) 1 vc] w fun e w'=>
   e=.returned (.slice (some ⟨b,off,none⟩) (n+1) c)∧w'=(w.drew.setCells b (off+(i+1)*2) (cs.drop (i*2))).setCells b (off+i*2) vs:=by
 obtain⟨i0,Ud,KG,Nu,RR⟩:=info_parts MF;have hz2:¬((i:Int)=(n:Int)):=by omega
 have hov:∀lb cb,(callFunc 57 #[.slice (some ⟨vb,voff,none⟩) 1 vc,.slice (some ⟨b,off+(i+1)*2,none⟩) lb cb]).run prog w=.ok (.value (.bool false)) w:=fun lb cb=>by
  rw[run_callFunc_extern Try.func57 (by kernel_rfl) (by kernel_rfl) (by kernel_rfl) (e:=Extern.SlicesOverlaps.overlaps #[31,31] #[4]) (by kernel_rfl),
   Lib.run_overlaps_apart w 31 4 79 Uo 2 (fun w=>by simp[sizeOf,typeInfo,Ud,Nu]) ⟨vb,voff,none⟩ ⟨b,off+(i+1)*2,none⟩ 1 vc lb cb hvb tA tB kA kB hsa hsb hkB hfa hfe]
  rfl
 have SH:(cs.drop (i*2)).length=(n-i)*2:=by rw[List.length_drop,On];omega
 have hw1:IntKind.i64.wrap ((i:Int)+1)=(i:Int)+1:=by rw[IntKind.wrap_i64];omega
 have hw2:IntKind.i64.wrap ((n:Int)+1)=(n:Int)+1:=by rw[IntKind.wrap_i64];omega
 have mixed:prog.follows Departure.mixedOrders=true:=by kernel_rfl
 have Fk:(0:Int)<=(i:Int)+1:=by omega
 have Uq:i<=n:=by omega
 have htn:((i:Int)+1).toNat=i+1:=by omega
 have Kv:¬(c=i+1):=by omega
 have LJ:(i:Int)<=(n:Int)+1:=by omega
 have hb4:¬(c=i):=by omega
 have Ay6:∀ty dc sc,(Builtin.copy_ #[31,31] ty #[.slice (some ⟨b,off+(i+1)*2,none⟩) (n-i) dc,.slice (some ⟨b,off+i*2,none⟩) (n+1-i) sc]).run prog w.drew=.ok (goInt ((n-i:Nat):Int)) (w.drew.setCells b (off+(i+1)*2) (cs.drop (i*2))):=fun ty dc sc=>
  Tt w.drew _ _ ty 79 i0 b (off+(i+1)*2) (n-i) dc ⟨b,off+i*2,none⟩ (n+1-i) sc (n-i) (cs.drop (i*2)) Uo Ud (by simp only[Nat.min_def];split<;>omega) (by rw[Nu];exact SH)
   (fun j v hj=>by rw[Addr.add_lit,Nat.add_assoc];exact Tn (i*2+j) v (by rwa [List.getElem?_drop] at hj))
   (fun j hj=>by rw[Nat.add_assoc];exact hsp _ (by omega)) (fun j hj=>by rw[Nat.add_assoc];exact Ry _ (by omega)) (fun v hv=>h1c v (List.mem_of_mem_drop hv))
 obtain⟨W1,FI⟩:∃W1,W1=w.drew.setCells b (off+(i+1)*2) (cs.drop (i*2)):=⟨_,rfl⟩
 have Bhl:∀k,k<(n+1)*2->(W1.cell? ⟨b,off+k,none⟩).isSome=true:=fun k hk=>by
  rw[FI];exact Hx b _ _ _ _ (hsp k hk)
 have Bs8:∀(W:World),(∀x,W.cell? x=W1.cell? x)->(∀x,W.frozen? x=W1.frozen? x)->∀ty dc,(Builtin.copy_ #[31,31] ty #[.slice (some ⟨b,off+i*2,none⟩) (n+1-i) dc,.slice (some ⟨vb,voff,none⟩) 1 vc]).run prog W=.ok (goInt 1) (W.setCells b (off+i*2) vs):=fun W hWc hWf ty dc=>
  Tt W _ _ ty 79 i0 b (off+i*2) (n+1-i) dc ⟨vb,voff,none⟩ 1 vc 1 vs Uo Ud (by simp only[Nat.min_def];split<;>omega) (by rw[Ll,Nu])
   (fun j v hj=>by
    rw[Addr.add_lit,hWc,FI,World.cell?_setCells_out b _ _ _ _ (fun h _=>absurd h hvb)]
    exact Fq j v hj)
   (fun j hj=>by rw[hWc,Nat.add_assoc];exact Bhl _ (by omega)) (fun j hj=>by rw[hWf,FI,World.frozen?_setCells,Nat.add_assoc];exact Ry _ (by omega)) FO
 rw[←FI] at Ay6
 go_enter Try.func46,Try.ntmps46
 go_wp2_with (simp only[hov])
 go_region_law_o (refine Sv rfl _ _ 31 31 rfl _ _ (by simp[Act.eval,Act.put]) (by simp[Act.eval,Act.put]) (Ay6 _ _ _) ?_)
 go_wp2_with (at_builtin;refine Kt _ rfl _ _ 31 31 rfl _ _ rfl rfl (Bs8 _ (fun _=>rfl) (fun _=>rfl) _ _) ?_)
 go_ret
 first|exact⟨rfl,rfl⟩|exact⟨rfl,by rw[FI]⟩
theorem Acx {w:World}{vb voff vc:Nat}{vs:List Value}(Ll:vs.length=2)(Fq:∀j v,vs[j]?=some v->w.cell? ⟨vb,voff+j,none⟩=some v) (FO:∀v∈vs,v.oneCell'=true):
  Pv.Src prog w (fun _=>False) 2 (.slice (some ⟨vb,voff,none⟩) 1 vc) 1 (vs.map .sc) vs where
 len:=fun w'=>by simp[Builtin.lenOf]
 cells:=fun w' hw=>by
  refine Pv.run_first_slice (w:=w') (.inr ⟨_,rfl,by omega,fun j v hj=>?_⟩)
  have hv:=Fq j v hj;rw[Addr.add_lit,World.cell?_of_block (w:=w) (hw vb (block_lt_of_cell hv))];exact hv
 part:=fun k hk=>by
  refine run_firstCells_some w 2 k ⟨vb,voff,none⟩ 1 vc _ (by rw[List.length_take];omega) fun j v hj=>?_
  rw[List.getElem?_take] at hj;split at hj
  ·rw[Addr.add_lit];exact Fq j v hj
  ·cases hj
 one:=FO
 rep:=by
  clear Fq FO Ll
  induction vs with
  |nil=>trivial
  |cons v vs ih=>exact⟨.sc v,ih⟩
set_option maxHeartbeats 4000000 in
set_option maxRecDepth 100000 in
theorem ML (b off n c vb voff vc:Nat)(vs:List Value)(w:World)(Ky:n+1<=c)
  (Ll:vs.length=2)(hsp:∀j,j<2->(w.cell? ⟨b,off+n*2+j,none⟩).isSome=true) (Ry:∀j,j<2->w.frozen? ⟨b,off+n*2+j,none⟩=false)
  (Fq:∀j v,vs[j]?=some v->w.cell? ⟨vb,voff+j,none⟩=some v) (FO:∀v∈vs,v.oneCell'=true):
  Calls prog 46 #[.slice (some ⟨b,off,none⟩) n c,.int .i64 n,.slice (some ⟨vb,voff,none⟩) 1 vc] w fun e w'=>
   e=.returned (.slice (some ⟨b,off,none⟩) (n+1) c)∧w'=w.setCells b (off+n*2) vs:=by
 obtain⟨i0,Ud,KG,Nu,RR⟩:=info_parts MF;have Mv:=Acx (vc:=vc) Ll Fq FO;rw[←Nu] at Mv hsp Ry ⊢
 have hr:∀ty,(Builtin.append_ #[31,31] ty #[.slice (some ⟨b,off,none⟩) n c,.slice (some ⟨vb,voff,none⟩) 1 vc]).run prog w=_:=fun ty=>
  Pv.append_room_run (P:=prog) (w:=w) (t:=31) (tx:=31) (ty:=ty) (ts:=[]) (b:=b) (ob:=off) (n:=n) (cap:=c) Uo Uo (fun k=>by simp) Ud Mv (by rw[Ll,Nu]) (fun k hk=>hsp k (by rw[Nu];omega)) (fun k hk=>Ry k (by rw[Nu];omega)) Ky
 have mixed:prog.follows Departure.mixedOrders=true:=by kernel_rfl
 go_enter Try.func46,Try.ntmps46
 go_wp2_with (at_builtin;refine Lib.wpList_append_run _ rfl _ _ _ _ rfl _ _ rfl rfl _ _ (hr _) ?_)
 go_ret
 exact⟨rfl,by rw[Nu]⟩
set_option maxHeartbeats 4000000 in
set_option maxRecDepth 100000 in
theorem MW (base:Option Addr)(n c vb voff vc:Nat)(cs vs:List Value)(w:World)(hnc:n<=c)(Ky:c<n+1)(Att:n<=100000)
  (On:cs.length=n*2)(Ll:vs.length=2)(Tn:(base=none∧cs=[])∨∃p,base=some p∧∀j v,cs[j]?=some v->w.cell? (p.add j)=some v)
  (Fq:∀j v,vs[j]?=some v->w.cell? ⟨vb,voff+j,none⟩=some v) (FO:∀v∈vs,v.oneCell'=true):
  Calls prog 46 #[.slice base n c,.int .i64 n,.slice (some ⟨vb,voff,none⟩) 1 vc] w fun e w'=>
   e=.returned (.slice (some ⟨w.heap.size,0,none⟩) (n+1) (grownCap w (n+1) c 79)) ∧
   w'=w.drew.alloc (.cells (cs.toArray++vs.toArray++Builtin.zeroCells #[.int .i64 0,.int .i64 0] (grownCap w (n+1) c 79-(n+1))) 79):=by
 obtain⟨i0,Ud,KG,Nu,RR⟩:=info_parts MF;have Mv:=Acx (vc:=vc) Ll Fq FO;rw[←Nu] at Mv
 have hr:∀ty,(Builtin.append_ #[31,31] ty #[.slice base n c,.slice (some ⟨vb,voff,none⟩) 1 vc]).run prog w=_:=fun ty=>
  Pv.append_grow_run (P:=prog) (w:=w) (t:=31) (tx:=31) (ty:=ty) (ts:=[]) (ad:=base) (n:=n) (cap:=c) (olds:=cs) Uo Uo (fun k=>by simp) Ud KG Mv (by
   rcases Tn with h|⟨p,h,g⟩
   ·exact .inl h
   ·exact .inr ⟨p,h,by rw[Nu];exact On,g⟩) Ky (by rw[RR];omega) (by omega)
 have U9:base=none->n=0:=by
  rintro rfl
  rcases Tn with⟨_,rfl⟩|⟨p,h,_⟩
  ·simp at On;omega
  ·cases h
 have mixed:prog.follows Departure.mixedOrders=true:=by kernel_rfl
 clear Tn
 go_enter Try.func46,Try.ntmps46
 cases base with
 |none=>
  have h0:=U9 rfl;subst h0
  go_wp2_with (at_builtin;refine Lib.wpList_append_run _ rfl _ _ _ _ rfl _ _ rfl rfl _ _ (hr _) ?_)
  go_ret
  exact⟨rfl,rfl⟩
 |some a=>
  go_wp2_with (at_builtin;refine Lib.wpList_append_run _ rfl _ _ _ _ rfl _ _ rfl rfl _ _ (hr _) ?_)
  go_ret
  exact⟨rfl,rfl⟩
set_option maxHeartbeats 4000000 in
set_option maxRecDepth 100000 in
theorem Aes (b off n c i vb voff vc:Nat)(cs vs:List Value)(w:World)(hi:i<n)(hnc:n<=c)(Ky:c<n+1)(Att:n<=100000)
  (On:cs.length=n*2)(Ll:vs.length=2)
  (Tn:∀j v,cs[j]?=some v->w.cell? ⟨b,off+j,none⟩=some v)
  (Fq:∀j v,vs[j]?=some v->w.cell? ⟨vb,voff+j,none⟩=some v) (h1c:∀v∈cs,v.oneCell'=true)(FO:∀v∈vs,v.oneCell'=true):
  Calls prog 46 #[.slice (some ⟨b,off,none⟩) n c,.int .i64 i,.slice (some ⟨vb,voff,none⟩) 1 vc] w fun e w'=>
   e=.returned (.slice (some ⟨w.heap.size,0,none⟩) (n+1) (grownCap w (n+1) c 79)) ∧
   w'=(((w.alloc (.cells ((cs.take (i*2)).toArray++Builtin.zeroCells #[.int .i64 0,.int .i64 0] (n+1-i)++Builtin.zeroCells #[.int .i64 0,.int .i64 0] (grownCap w (n+1) c 79-(n+1))) 79)).drew.setCells w.heap.size (i*2) vs).drew).setCells w.heap.size ((i+1)*2) (cs.drop (i*2)):=by
 obtain⟨i0,Ud,KG,Nu,RR⟩:=info_parts MF;have hz2:¬((i:Int)=(n:Int)):=by omega
 have hz3:(c:Int)<(n:Int)+1:=by omega
 have hbw:b<w.heap.size:=block_lt_of_cell (Tn 0 _ (List.getElem?_eq_getElem (by omega)))
 have hvw:vb<w.heap.size:=block_lt_of_cell (Fq 0 _ (List.getElem?_eq_getElem (by omega)))
 have hkk:(n:Int)+1-(i:Int)=((n+1-i:Nat):Int):=by omega
 have hik:i+(n+1-i)=n+1:=by omega
 have hold:(Builtin.firstCells i0.size i (.slice (some ⟨b,off,none⟩) i c)).run prog w.drew=.ok (cs.take (i*2)).toArray w.drew:=by
  rw[Nu]
  exact run_firstCells_some w.drew 2 i ⟨b,off,none⟩ i c (cs.take (i*2)) (by rw[List.length_take];omega) (fun j v hj=>by
   rw[Addr.add_lit];rw[List.getElem?_take] at hj;split at hj
   ·exact Tn j v hj
   ·cases hj)
 have hrz:∀ty,(Builtin.append_ #[31,3] ty #[.slice (some ⟨b,off,none⟩) i c,.int .i64 ((n:Int)+1-(i:Int))]).run prog w =
   .ok (.slice (some ⟨w.heap.size,0,none⟩) (n+1) (grownCap w (n+1) c 79)) (w.drew.alloc (.cells ((cs.take (i*2)).toArray++Builtin.zeroCells #[.int .i64 0,.int .i64 0] (n+1-i)++Builtin.zeroCells #[.int .i64 0,.int .i64 0] (grownCap w (n+1) c 79-(n+1))) 79)):=fun ty=>by
  have h:=Lib.run_append_grow_zeros w 31 3 ty 79 i0 _ .i64 .i64 Uo Aqz Ud KG (some ⟨b,off,none⟩) i c (cs.take (i*2)) hold (n+1-i) (by omega) (by omega) (by omega) (by omega) (by rw[RR];omega) (by rw[RR,hik];exact growslice_fits Ky (by omega))
  rw[hik] at h;rw[hkk];exact h
 obtain⟨G,hG⟩:∃G,G=grownCap w (n+1) c 79:=⟨_,rfl⟩;obtain⟨ROW,RL⟩:∃ROW:Array Value,ROW=(cs.take (i*2)).toArray++Builtin.zeroCells #[.int .i64 0,.int .i64 0] (n+1-i)++Builtin.zeroCells #[.int .i64 0,.int .i64 0] (G-(n+1)):=⟨_,rfl⟩;rw[←hG] at hrz ⊢;rw[←RL] at hrz ⊢
 have hRl:(n+1)*2<=ROW.size:=by
  rw[RL];simp[Builtin.zeroCells];omega
 obtain⟨W1,FI⟩:∃W1,W1=w.drew.alloc (.cells ROW 79):=⟨_,rfl⟩;rw[←FI] at hrz
 have hN:∀j,j<(n+1)*2->(W1.cell? ⟨w.heap.size,j,none⟩).isSome=true:=fun j hj=>by
  rw[FI,World.cell?_alloc_at (w:=w.drew) ROW _ w.heap.size j rfl,Array.getElem?_eq_getElem (by omega)];rfl
 have hNf:∀j,W1.frozen? ⟨w.heap.size,j,none⟩=false:=fun j=>by rw[FI];exact World.frozen?_alloc_at (w:=w.drew) ROW _ w.heap.size j rfl
 have hOb:∀j v,w.cell? ⟨b,j,none⟩=some v->W1.cell? ⟨b,j,none⟩=some v:=fun j v h=>by rw[FI,World.cell?_alloc_past (w:=w.drew) _ b j hbw];exact h
 have hOv:∀j v,w.cell? ⟨vb,j,none⟩=some v->W1.cell? ⟨vb,j,none⟩=some v:=fun j v h=>by rw[FI,World.cell?_alloc_past (w:=w.drew) _ vb j hvw];exact h
 have Bhc:∀(W:World),(∀x,W.cell? x=W1.cell? x)->(∀x,W.frozen? x=W1.frozen? x)->∀ty dc,(Builtin.copy_ #[31,31] ty #[.slice (some ⟨w.heap.size,i*2,none⟩) (n+1-i) dc,.slice (some ⟨vb,voff,none⟩) 1 vc]).run prog W=.ok (goInt 1) (W.setCells w.heap.size (i*2) vs):=fun W hWc hWf ty dc=>
  Tt W _ _ ty 79 i0 w.heap.size (i*2) (n+1-i) dc ⟨vb,voff,none⟩ 1 vc 1 vs Uo Ud (by simp only[Nat.min_def];split<;>omega) (by rw[Ll,Nu])
   (fun j v hj=>by rw[Addr.add_lit,hWc];exact hOv _ v (Fq j v hj))
   (fun j hj=>by rw[hWc];exact hN _ (by omega)) (fun j hj=>by rw[hWf];exact hNf _) FO
 have hGn:n+1<=G:=by rw[hG];exact grownCap_ge w _ _ _
 have Bz0:G<=9223372036854775807:=by
  have:=grownCap_le_maxLen w (n+1) c 79 (by unfold maxLen;omega)
  rw[←hG] at this;unfold maxLen at this;omega
 have hGi:¬(G=i):=by omega
 have B0h:¬(G=i+1):=by omega
 have hci:¬(c=i):=by omega
 have hbN:b≠w.heap.size:=by omega
 have SH:(cs.drop (i*2)).length=(n-i)*2:=by rw[List.length_drop,On];omega
 have A5h:∀(W:World),(∀x,W.cell? x=(W1.setCells w.heap.size (i*2) vs).cell? x)->(∀x,W.frozen? x=(W1.setCells w.heap.size (i*2) vs).frozen? x)->∀ty dc sc,(Builtin.copy_ #[31,31] ty #[.slice (some ⟨w.heap.size,(i+1)*2,none⟩) (n-i) dc,.slice (some ⟨b,off+i*2,none⟩) (n-i) sc]).run prog W=.ok (goInt ((n-i:Nat):Int)) (W.setCells w.heap.size ((i+1)*2) (cs.drop (i*2))):=fun W hWc hWf ty dc sc=>
  Tt W _ _ ty 79 i0 w.heap.size ((i+1)*2) (n-i) dc ⟨b,off+i*2,none⟩ (n-i) sc (n-i) (cs.drop (i*2)) Uo Ud (by simp only[Nat.min_def];split<;>omega) (by rw[Nu];exact SH)
   (fun j v hj=>by
    rw[Addr.add_lit,hWc,World.cell?_setCells_out _ _ _ _ _ (fun h _=>absurd h hbN),Nat.add_assoc]
    exact hOb _ v (Tn (i*2+j) v (by rwa [List.getElem?_drop] at hj)))
   (fun j hj=>by rw[hWc];exact Hx _ _ _ _ _ (hN _ (by omega)))
   (fun j hj=>by rw[hWf,World.frozen?_setCells];exact hNf _) (fun v hv=>h1c v (List.mem_of_mem_drop hv))
 subst FI;have hE1:∀x,((w.alloc (.cells ROW 79)).drew).cell? x=(w.drew.alloc (.cells ROW 79)).cell? x:=fun x=>rfl
 have hE2:∀x,((w.alloc (.cells ROW 79)).drew).frozen? x=(w.drew.alloc (.cells ROW 79)).frozen? x:=fun x=>rfl
 have hF1:∀x,(((w.alloc (.cells ROW 79)).drew.setCells w.heap.size (i*2) vs).drew).cell? x=((w.drew.alloc (.cells ROW 79)).setCells w.heap.size (i*2) vs).cell? x:=fun x=>rfl
 have hF2:∀x,(((w.alloc (.cells ROW 79)).drew.setCells w.heap.size (i*2) vs).drew).frozen? x=((w.drew.alloc (.cells ROW 79)).setCells w.heap.size (i*2) vs).frozen? x:=fun x=>rfl
 have hw1:IntKind.i64.wrap ((i:Int)+1)=(i:Int)+1:=by rw[IntKind.wrap_i64];omega
 have hw2:IntKind.i64.wrap ((n:Int)+1)=(n:Int)+1:=by rw[IntKind.wrap_i64];omega
 have hw3:IntKind.i64.wrap ((n:Int)+1-(i:Int))=(n:Int)+1-(i:Int):=by rw[IntKind.wrap_i64];omega
 have Fk:(0:Int)<=(i:Int)+1:=by omega
 have Uq:i<=n:=by omega
 have htn:((i:Int)+1).toNat=i+1:=by omega
 have LJ:(i:Int)<=(n:Int):=by omega
 have mixed:prog.follows Departure.mixedOrders=true:=by kernel_rfl
 clear hkk hik hold RL hG hRl
 go_enter Try.func46,Try.ntmps46
 go_wp2_with (first
  |(at_builtin;refine Lib.wpList_append_run _ rfl _ _ _ _ rfl _ _ rfl rfl _ _ (hrz _) ?_)
  |(at_builtin;refine Kt _ rfl _ _ 31 31 rfl _ _ rfl rfl (Bhc _ hE1 hE2 _ _) ?_)
  |(at_builtin;refine Kt _ rfl _ _ 31 31 rfl _ _ rfl rfl (A5h _ (fun _=>rfl) (fun _=>rfl) _ _ _) ?_))
 go_region_law_o (refine Sv rfl _ _ 31 31 rfl (.slice (some ⟨w.heap.size,(i+1)*2,none⟩) (n-i) (G-(i+1))) (.slice (some ⟨b,off+i*2,none⟩) (n-i) (c-i)) (by simp[Act.eval,Act.put]) (by simp[Act.eval,Act.put]) (A5h _ hF1 hF2 3 (G-(i+1)) (c-i)) ?_)
 go_wp2
 go_ret
 exact⟨rfl,rfl⟩
end
section
open Go.Proofs.Try (prog)
open Go.IntKind (wrap)
open Go.RowKit Go.Lib
structure E1 (w w':World):Prop where
 os:w'.os=w.os
 tape:w'.tape=w.tape
 output:w'.output=w.output
 old:∀k,k<w.heap.size->w'.heap[k]?=w.heap[k]?
 size:w'.heap.size=w.heap.size+1
 frz:∀j,w'.frozen? ⟨w.heap.size,j,none⟩=false
theorem E1.alloc (w:World)(c:Array Value)(e:TypeId):E1 w (w.alloc (.cells c e)):=
 ⟨rfl,rfl,rfl,fun b hb=>Below.heap_alloc w _ b hb,by show (w.heap.push _).size=_;simp,fun j=>World.frozen?_alloc_at (w:=w) c e w.heap.size j rfl⟩
theorem E1.allocD (w:World)(c:Array Value)(e:TypeId):E1 w (w.drew.alloc (.cells c e)):=by
 have h:=E1.alloc w.drew c e;exact⟨h.os,h.tape,h.output,h.old,h.size,h.frz⟩
theorem E1.wrote {w w' w'':World}(h:E1 w w')(g:Bf w.heap.size w' w''):E1 w w'':=
 ⟨g.os.trans h.os,g.tape.trans h.tape,g.output.trans h.output,fun k hk=>(g.other k (by omega)).trans (h.old k hk),g.size.trans h.size,fun j=>(g.frz j).trans (h.frz j)⟩
theorem Bf.drew (b:Nat)(w:World):Bf b w w.drew:=⟨rfl,rfl,rfl,rfl,fun _ _=>rfl,rfl,fun _=>rfl⟩
theorem Aff {w:World}{A:Nat->Prop}{a:Addr}:∀{cs:List Value},V1 w A a (cs.map .sc)->∀j v,cs[j]?=some v->w.cell? (a.add j)=some v∧v.oneCell'=true:=by
 intro cs h j v hj;obtain⟨u,h1,h2,h3⟩:=h j (.sc v) (by rw[List.getElem?_map,hj];rfl)
 cases h3;exact⟨h1,h2⟩
theorem LU {w:World}{A:Nat->Prop}{a:Addr}{cs:List Value}(h:∀j v,cs[j]?=some v->w.cell? (a.add j)=some v) (h1:∀v∈cs,v.oneCell'=true):V1 w A a (cs.map .sc):=by
 intro j p hp;rw[List.getElem?_map] at hp;cases hv:cs[j]? with
 |none=>rw[hv] at hp;cases hp
 |some v=>
  rw[hv] at hp;cases hp;exact⟨v,h j v hv,h1 v (List.mem_of_getElem? hv),.sc v⟩
theorem XR:∀{c:List PV},c.all BX=true->∃cs:List Value,c=cs.map .sc
 |[],_=>⟨[],rfl⟩
 |p::c,h=>by
  simp only[List.all_cons,Bool.and_eq_true] at h;obtain⟨cs,rfl⟩:=XR h.2;have hp:=h.1;unfold BX at hp;split at hp
  ·exact⟨_::cs,rfl⟩
  ·cases hp
def V9 (q:Nat × Nat):Bt:=fun j=>match j with|0=>some q|_=>none
def Ua (i:Nat)(cs vs:List Value):List Value:=cs.take (i*2)++vs++cs.drop (i*2)
theorem PI {i n j:Nat}{cs vs:List Value}{v:Value}(hi:i<=n)(hc:cs.length=n*2)(hv:vs.length=2)(h:(Ua i cs vs)[j]?=some v):
  (j<i*2∧cs[j]?=some v)∨(i*2<=j∧j<i*2+2∧vs[j-i*2]?=some v)∨((i+1)*2<=j∧(cs.drop (i*2))[j-(i+1)*2]?=some v):=by
 unfold Ua at h;have lt:(cs.take (i*2)).length=i*2:=by rw[List.length_take];omega
 by_cases h1:j<i*2
 ·rw[Zzv,List.getElem?_append_left (by omega),List.getElem?_take,J7 h1] at h
  exact .inl ⟨h1,h⟩
 ·by_cases h2:j<i*2+2
  ·rw[Zzv,List.getElem?_append_right (by omega),lt,List.getElem?_append_left (by omega)] at h
   exact .inr (.inl ⟨by omega,h2,h⟩)
  ·rw[List.getElem?_append_right (by simp;omega)] at h
   refine .inr (.inr ⟨by omega,?_⟩)
   rw[AK,lt,hv] at h;rw[←h]
   congr 1
   omega
section
variable {w w':World} {Y:Nat->Prop} {bt:Xn} {args:List PV} {L vs:List Value} {n cap b o vb vo:Nat} {x1:PV} {x0:PV}
theorem ZE (hb:bt 0 1=some (b,o)) (hv:bt 2 0=some (vb,vo)) (Hr:vb≠b)(Vc:b<w.heap.size)(Ll:vb<w.heap.size)(hw:Bf b w w')
  (Acf:∀j,j<o->w'.cell? ⟨b,j,none⟩=w.cell? ⟨b,j,none⟩)(hn:n<=cap)(hF:Fit w 2 b (o+cap*2)) (Ry:∀j,o<=j->j<bsz w b->w.frozen? ⟨b,j,none⟩=false)
  (hL:∀j v,L[j]?=some v->w'.cell? ⟨b,o+j,none⟩=some v) (h1:∀v∈L,v.oneCell'=true)
  (Fq:∀j v,vs[j]?=some v->w.cell? ⟨vb,vo+j,none⟩=some v) (h2:∀v∈vs,v.oneCell'=true)(hvf:∀j,vo<=j->j<bsz w vb->w.frozen? ⟨vb,j,none⟩=false)
  (e0:∀ps,x0 ≠ .pbox ps)(e0':∀ps,x0 ≠ .tup ps)(e1:∀ps,x1 ≠ .pbox ps)(e1':∀ps,x1 ≠ .tup ps){q:List PV}:
  VM w w' Y bt [x0,x1,.tup q] (V9 (b,o)) ⟨[.own 2 n (L.map .sc)],[vs.map .sc]⟩ [.slice (some ⟨b,o,none⟩) n cap] where
 os:=hw.os
 tape:=hw.tape
 output:=hw.output
 ext:=⟨by rw[hw.size];exact Nat.le_refl _,fun k _ hk=>hw.other k (fun e=>hk (e ▸ ⟨0,1,o,hb⟩)),fun k _=>hw.grow k⟩
 rng:=fun k j hk hX=>by
  by_cases e:k=b
  ·subst e
   have hj:j<o:=by
    refine Nat.lt_of_not_le fun AC=>hX ⟨0,x0,rfl,Or.inl ⟨0,o,hb,AC⟩⟩
   exact⟨Acf j hj,hw.frz j⟩
  ·exact⟨by unfold World.cell?;simp only[hw.other k e],by unfold World.frozen?;simp only[hw.other k e]⟩
 vals:=⟨.inr ⟨b,o,cap,rfl,rfl,hn,hF.step (hw.grow b),by rw[hw.size];exact Vc,LU (fun j v hj=>by rw[B8];exact hL j v hj) h1,fun j hj Nj=>by rw[hw.frz];exact Ry j hj (by rw[hw.bs] at Nj;exact Nj)⟩,trivial⟩
 outs:=by
  have hbk:w'.heap[vb]?=w.heap[vb]?:=hw.other vb Hr;have AA:bsz w' vb=bsz w vb:=by unfold bsz;rw[hbk]
  have h:G4 w' (Ns bt (V9 (b,o)) Y) (V9 (b,o)) bt 1 2 [.tup q] [vs.map .sc]:=by
   refine⟨.inr ⟨vb,vo,hv,LU (fun j v hj=>?_) h2,fun j hj Nj=>?_⟩,rfl⟩
   ·rw[B8,World.cell?_of_block (w:=w) hbk];exact Fq j v hj
   ·rw[World.frozen?_of_block (w:=w) hbk];exact hvf j hj (by rw[AA] at Nj;exact Nj)
  have h':G4 w' (Ns bt (V9 (b,o)) Y) (V9 (b,o)) bt 1 1 [x1,.tup q] [vs.map .sc]:=by
   unfold G4;cases x1<;>first|exact h|exact absurd rfl (e1 _)|exact absurd rfl (e1' _)
  show G4 w' (Ns bt (V9 (b,o)) Y) (V9 (b,o)) bt 1 0 [x0,x1,.tup q] [vs.map .sc];unfold G4;cases x0<;>first|exact h'|exact absurd rfl (e0 _)|exact absurd rfl (e0' _)
 fresh:=fun j k y h=>by
  cases j with
  |zero=>
   cases h;refine⟨by rw[hw.size];exact Vc,fun _=>⟨⟨0,0,o,hb⟩,fun x hx=>⟨0,x0,rfl,Or.inl ⟨0,o,hb,hx⟩⟩⟩⟩
  |succ j=>cases h
 inj:=fun j j' k y y' h h'=>by
  cases j with
  |zero=>cases j' with
   |zero=>rfl
   |succ j'=>cases h'
  |succ j=>cases h
theorem Aio (hv:bt 2 0=some (vb,vo)) (Ll:vb<w.heap.size)(hw:E1 w w')
  (hn:n<=cap)(hF:cap*2<=bsz w' w.heap.size)
  (hL:∀j v,L[j]?=some v->w'.cell? ⟨w.heap.size,j,none⟩=some v) (h1:∀v∈L,v.oneCell'=true)
  (Fq:∀j v,vs[j]?=some v->w.cell? ⟨vb,vo+j,none⟩=some v) (h2:∀v∈vs,v.oneCell'=true)(hvf:∀j,vo<=j->j<bsz w vb->w.frozen? ⟨vb,j,none⟩=false)
  (e0:∀ps,x0 ≠ .pbox ps)(e0':∀ps,x0 ≠ .tup ps)(e1:∀ps,x1 ≠ .pbox ps)(e1':∀ps,x1 ≠ .tup ps){q:List PV}:
  VM w w' Y bt [x0,x1,.tup q] (V9 (w.heap.size,0)) ⟨[.own 2 n (L.map .sc)],[vs.map .sc]⟩ [.slice (some ⟨w.heap.size,0,none⟩) n cap] where
 os:=hw.os
 tape:=hw.tape
 output:=hw.output
 ext:=⟨by rw[hw.size];omega,fun k hk _=>hw.old k hk,fun k hk=>Hv.same (hw.old k hk)⟩
 rng:=fun k j hk _=>⟨by unfold World.cell?;simp only[hw.old k hk],by unfold World.frozen?;simp only[hw.old k hk]⟩
 vals:=⟨.inr ⟨w.heap.size,0,cap,rfl,rfl,hn,⟨by omega,.inr (hw.frz _)⟩,by rw[hw.size];omega,LU (fun j v hj=>by rw[B8,Cm];exact hL j v hj) h1,fun j _ _=>hw.frz j⟩,trivial⟩
 outs:=by
  have hbk:w'.heap[vb]?=w.heap[vb]?:=hw.old vb Ll;have AA:bsz w' vb=bsz w vb:=by unfold bsz;rw[hbk]
  have h:G4 w' (Ns bt (V9 (w.heap.size,0)) Y) (V9 (w.heap.size,0)) bt 1 2 [.tup q] [vs.map .sc]:=by
   refine⟨.inr ⟨vb,vo,hv,LU (fun j v hj=>?_) h2,fun j hj Nj=>?_⟩,rfl⟩
   ·rw[B8,World.cell?_of_block (w:=w) hbk];exact Fq j v hj
   ·rw[World.frozen?_of_block (w:=w) hbk];exact hvf j hj (by rw[AA] at Nj;exact Nj)
  have h':G4 w' (Ns bt (V9 (w.heap.size,0)) Y) (V9 (w.heap.size,0)) bt 1 1 [x1,.tup q] [vs.map .sc]:=by
   unfold G4;cases x1<;>first|exact h|exact absurd rfl (e1 _)|exact absurd rfl (e1' _)
  show G4 w' (Ns bt (V9 (w.heap.size,0)) Y) (V9 (w.heap.size,0)) bt 1 0 [x0,x1,.tup q] [vs.map .sc];unfold G4;cases x0<;>first|exact h'|exact absurd rfl (e0 _)|exact absurd rfl (e0' _)
 fresh:=fun j k y h=>by
  cases j with
  |zero=>cases h;exact⟨by rw[hw.size];omega,fun Bp=>absurd Bp (Nat.lt_irrefl _)⟩
  |succ j=>cases h
 inj:=fun j j' k y y' h h'=>by
  cases j with
  |zero=>cases j' with
   |zero=>rfl
   |succ j'=>cases h'
  |succ j=>cases h
end
theorem Abk (G:Glo)(args:List PV)(res:A2)(h:Agg args=some res):Dn G prog 46 args res:=by
 refine⟨⟨_,Try.func46,by kernel_rfl⟩,fun w Y bt us hi _ _=>?_⟩
 unfold Agg at h;split at h
 rotate_left
 ·cases h
 rename_i n c i f l;cases hq:(Nat.beq c.length (n*2)&&decide (0<=i)&&decide (i<=n)&&Nat.ble n 100000&&c.all BX)
 ·rw[hq] at h;cases h
 rw[hq] at h;simp only[Bool.and_eq_true,decide_eq_true_eq] at hq;obtain⟨⟨⟨⟨hc,h0⟩,h1⟩,hn⟩,L7⟩:=hq;have hc:=Nat.eq_of_beq_eq_true hc;have hn:=Nat.le_of_ble_eq_true hn;simp only[cond_true] at h;cases h;obtain⟨k,rfl⟩:=Int.eq_ofNat_of_zero_le h0;have hk:k<=n:=by omega
 obtain⟨cs,rfl⟩:=XR L7;rw[List.length_map] at hc
 have eL:List.take (Int.toNat (k:Int)*2) (cs.map PV.sc)++(PV.sc (.int .i64 f)::PV.sc (.int .i64 l)::List.drop (Int.toNat (k:Int)*2) (cs.map PV.sc))=(Ua k cs [.int .i64 f,.int .i64 l]).map .sc:=by
  unfold Ua;rw[Rq,List.map_append,List.map_append,List.map_take,List.map_drop,Zzv];rfl
 rw[eL];clear h0 h1 L7 eL;obtain⟨vs,Aj9⟩:∃vs:List Value,vs=[.int .i64 f,.int .i64 l]:=⟨_,rfl⟩;have Ll:vs.length=2:=by rw[Aj9];rfl
 have YC:∀v∈vs,v.oneCell'=true:=by
  intro v hv;rw[Aj9] at hv;rcases List.mem_cons.1 hv with rfl|hv
  ·rfl
  ·rw[List.mem_singleton] at hv;subst hv;rfl
 have evm:[PV.sc (.int .i64 f),PV.sc (.int .i64 l)]=vs.map .sc:=by rw[Aj9];rfl
 rw[←Aj9];have ps:=hi.args;rw[evm] at ps ⊢
 match us,ps with
 |[u0,u1,u2],ps=>
  obtain⟨⟨_,p0⟩,⟨_,p1⟩,⟨es2,n2,c2,e2,p2⟩,_⟩:=ps;simp only[List.cons.injEq,PV.own.injEq,and_true] at e2;obtain⟨rfl,rfl,rfl⟩:=e2;have hu1:u1=.int .i64 k:=As.val (show As w _ (.sc (.int .i64 k)) u1 from p1)
  subst hu1;rcases p2 with⟨_,hz,_⟩|⟨vb,vo,vc,hvb,rfl,hvn,hvF,Apg,hvR,hvf⟩
  ·cases hz
  have hvr:=Aff hvR
  have Fq:∀j v,vs[j]?=some v->w.cell? ⟨vb,vo+j,none⟩=some v:=fun j v hj=>by
   have:=(hvr j v hj).1
   rwa [B8] at this
  have fin_new:∀(u0:Value) (w':World) (cap:Nat),E1 w w'->n+1<=cap->cap*2<=bsz w' w.heap.size->(∀j v,(Ua k cs vs)[j]?=some v->w'.cell? ⟨w.heap.size,j,none⟩=some v)->(∀v∈Ua k cs vs,v.oneCell'=true) ->
    ∃us own,Ending.returned (Value.slice (some ⟨w.heap.size,0,none⟩) (n+1) cap)=.returned (En us)∧VM w w' Y bt [.own 2 n (cs.map .sc),.sc (.int .i64 k),.tup [.own 2 1 (vs.map .sc)]] own ⟨[.own 2 (n+1) ((Ua k cs vs).map .sc)],[vs.map .sc]⟩ us:=by
   intro u0 w' cap hw Ue hF hL h1;exact⟨_,_,rfl,Aio hvb Apg hw Ue hF hL h1 Fq YC hvf (by simp) (by simp) (by simp) (by simp)⟩
  have one:(∀v∈cs,v.oneCell'=true)->∀v∈Ua k cs vs,v.oneCell'=true:=by
   intro Z1 v hv;unfold Ua at hv;rcases List.mem_append.1 hv with hv|hv
   ·rcases List.mem_append.1 hv with hv|hv
    ·exact Z1 v (List.mem_of_mem_take hv)
    ·exact YC v hv
   ·exact Z1 v (List.mem_of_mem_drop hv)
  have grow_end:∀(base:Option Addr) (cap0:Nat),n<=cap0->cap0<n+1->k=n->((base=none∧cs=[])∨∃p,base=some p∧∀j v,cs[j]?=some v->w.cell? (p.add j)=some v)->(∀v∈cs,v.oneCell'=true) ->
    Calls prog 46 #[.slice base n cap0,.int .i64 k,.slice (some ⟨vb,vo,none⟩) 1 vc] w fun e w'=>
     ∃us own,e=.returned (En us)∧VM w w' Y bt [.own 2 n (cs.map .sc),.sc (.int .i64 k),.tup [.own 2 1 (vs.map .sc)]] own ⟨[.own 2 (n+1) ((Ua k cs vs).map .sc)],[vs.map .sc]⟩ us:=by
   intro base cap0 Z1 hc2 hkn hb TE;subst hkn;refine (MW base k cap0 vb vo vc cs vs w Z1 hc2 hn hc Ll hb Fq YC).mono ?_
   rintro e w' ⟨rfl,rfl⟩
   obtain⟨G,hG⟩:∃G,G=grownCap w (k+1) cap0 79:=⟨_,rfl⟩;rw[←hG];have hGn:k+1<=G:=by rw[hG];exact grownCap_ge w _ _ _
   have eI:Ua k cs vs=cs++vs:=by
    unfold Ua;rw[Ha (by omega),List.drop_of_length_le (by omega),List.append_nil]
   refine fin_new undef _ G (E1.allocD w _ _) hGn ?_ (fun j v hj=>?_) (one TE)
   ·have:bsz (w.drew.alloc (.cells (cs.toArray++vs.toArray++Builtin.zeroCells #[.int .i64 0,.int .i64 0] (G-(k+1))) 79)) w.heap.size=_:=(Dp.alloc w.drew _ _).bsz;rw[this];simp[Builtin.zeroCells];omega
   ·rw[eI] at hj;have Bp:=H4 hj;rw[World.cell?_alloc_at (w:=w.drew) _ _ w.heap.size j rfl,Array.getElem?_append_left (by simpa using Bp)]
    simpa using hj
  rcases p0 with⟨_,rfl,hc0,ad,rfl⟩|⟨b,o,cap,hb,rfl,VJ,hF,Adk,hR,Ry⟩
  ·have Tn:cs=[]:=by simpa using hc0
   subst Tn;have hk0:k=0:=by omega
   refine grow_end ad 0 (Nat.le_refl _) (by omega) hk0 ?_ (by simp)
   cases ad with
   |none=>exact .inl ⟨rfl,rfl⟩
   |some p=>exact .inr ⟨p,rfl,fun j v hj=>by cases hj⟩
  have hr:=Aff hR
  have Af7:∀j v,cs[j]?=some v->w.cell? ⟨b,o+j,none⟩=some v:=fun j v hj=>by
   have:=(hr j v hj).1
   rwa [B8] at this
  have Z1:∀v∈cs,v.oneCell'=true:=fun v hv=>by
   obtain⟨j,hj⟩:=List.mem_iff_getElem?.1 hv;exact (hr j v hj).2
  have Hr:vb≠b:=by
   rintro rfl
   have:=(hi.inj 0 1 2 0 vb o vo hb hvb).1;omega
  have Md:∀j,j<cap*2->(w.cell? ⟨b,o+j,none⟩).isSome=true:=fun j hj=>F9 (by have:=hF.1;omega)
  have hfr:∀j,j<cap*2->w.frozen? ⟨b,o+j,none⟩=false:=fun j hj=>Ry _ (by omega) (by have:=hF.1;omega)
  by_cases Ky:n+1<=cap
  ·-- in F4
   have hX:cap*2<=bsz w b:=by have:=hF.1;omega
   have hwB:∀w':World,Bf b w w'->(∀j,j<o->w'.cell? ⟨b,j,none⟩=w.cell? ⟨b,j,none⟩)->(∀j v,(Ua k cs vs)[j]?=some v->w'.cell? ⟨b,o+j,none⟩=some v) ->
     ∃us own,Ending.returned (Value.slice (some ⟨b,o,none⟩) (n+1) cap)=.returned (En us)∧VM w w' Y bt [.own 2 n (cs.map .sc),.sc (.int .i64 k),.tup [.own 2 1 (vs.map .sc)]] own ⟨[.own 2 (n+1) ((Ua k cs vs).map .sc)],[vs.map .sc]⟩ us:=by
    intro w' hw Acf hL;exact⟨_,_,rfl,ZE hb hvb Hr Adk Apg hw Acf Ky hF Ry hL (one Z1) Fq YC hvf (by simp) (by simp) (by simp) (by simp)⟩
   by_cases hkn:k=n
   ·subst hkn
    have eI:Ua k cs vs=cs++vs:=by
     unfold Ua;rw[Ha (by omega),List.drop_of_length_le (by omega),List.append_nil]
    refine (ML b o k cap vb vo vc vs w Ky Ll (fun j hj=>by rw[Nat.add_assoc];exact Md _ (by omega)) (fun j hj=>by rw[Nat.add_assoc];exact hfr _ (by omega)) Fq YC).mono ?_
    rintro e w' ⟨rfl,rfl⟩
    refine hwB _ (Bf.setCells b _ _ w) (fun j hj=>World.cell?_setCells_out b _ _ w ⟨b,j,none⟩ (fun _ _=>.inl (by show j<o+k*2;omega))) (fun j v hj=>?_)
    rw[eI] at hj;by_cases Bp:j<cs.length
    ·rw[List.getElem?_append_left Bp] at hj;rw[World.cell?_setCells_out b _ _ w ⟨b,o+j,none⟩ (fun _ _=>.inl (by show o+j<o+k*2;omega))]
     exact Af7 j v hj
    ·rw[List.getElem?_append_right (by omega)] at hj
     have hl:=H4 hj;have:=World.cell?_setCells_in b vs (o+k*2) w (fun t ht=>by rw[Nat.add_assoc];exact Md _ (by omega)) (j-cs.length) hl
     rw[show o+k*2+(j-cs.length)=o+j by omega] at this
     rw[this,←hj,List.getElem?_eq_getElem hl]
   ·have Jp:k<n:=by omega
    have hsh:∀q:Nat,q<w.heap.size->∃t,w.shape? q=some (t,bsz w q)∨bsz w q=0:=by
     intro q hq;unfold World.shape? bsz;cases w.heap[q]? with
     |none=>exact⟨0,.inr rfl⟩
     |some x=>cases x<;>first|exact⟨_,.inl rfl⟩|exact⟨0,.inr rfl⟩
    obtain⟨tA,hA⟩:=hsh vb Apg;obtain⟨tB,hB⟩:=hsh b Adk;have Bzc:=hvF.1
    have hvE:w.frozen? ⟨vb,bsz w vb,none⟩=false:=by
     rcases hvF.2 with h|h
     ·omega
     ·exact h
    have hA:w.shape? vb=some (tA,bsz w vb):=hA.resolve_right (by omega)
    have hB:w.shape? b=some (tB,bsz w b):=hB.resolve_right (by omega)
    refine (Aal b o n cap k vb vo vc cs vs w Jp Ky hn Hr hc Ll Af7 (fun j hj=>Md j (by omega)) (fun j hj=>hfr j (by omega)) Fq Z1 YC tA tB _ _ hA hB (by omega) (hvf vo (Nat.le_refl _) (by omega)) hvE).mono ?_
    rintro e w' ⟨rfl,rfl⟩
    have SH:(cs.drop (k*2)).length=(n-k)*2:=by rw[List.length_drop,hc];omega
    have hw1:=(Bf.drew b w).trans (Bf.setCells b (cs.drop (k*2)) (o+(k+1)*2) w.drew);refine hwB _ (hw1.trans (Bf.setCells b vs (o+k*2) _)) (fun j hj=>?_) (fun j v hj=>?_)
    ·rw[World.cell?_setCells_out b _ _ _ ⟨b,j,none⟩ (fun _ _=>.inl (by show j<o+k*2;omega)),World.cell?_setCells_out b _ _ _ ⟨b,j,none⟩ (fun _ _=>.inl (by show j<o+(k+1)*2;omega))]
     rfl
    ·have hs1:∀t,t<cap*2->((w.drew.setCells b (o+(k+1)*2) (cs.drop (k*2))).cell? ⟨b,o+t,none⟩).isSome=true:=fun t ht=>Hx b _ _ _ _ (Md t ht)
     rcases PI hk hc Ll hj with⟨h1,h2⟩|⟨h1,h2,h3⟩|⟨h1,h2⟩
     ·rw[World.cell?_setCells_out b _ _ _ ⟨b,o+j,none⟩ (fun _ _=>.inl (by show o+j<o+k*2;omega)),World.cell?_setCells_out b _ _ _ ⟨b,o+j,none⟩ (fun _ _=>.inl (by show o+j<o+(k+1)*2;omega))]
      exact Af7 j v h2
     ·have hl:=H4 h3;have:=World.cell?_setCells_in b vs (o+k*2) (w.drew.setCells b (o+(k+1)*2) (cs.drop (k*2))) (fun t ht=>by rw[Nat.add_assoc];exact hs1 _ (by omega)) (j-k*2) hl
      rw[show o+k*2+(j-k*2)=o+j by omega] at this
      rw[this,←h3,List.getElem?_eq_getElem hl]
     ·have hl:=H4 h2;rw[World.cell?_setCells_out b _ _ _ ⟨b,o+j,none⟩ (fun _ _=>.inr (by show o+k*2+vs.length<=o+j;omega))]
      have:=World.cell?_setCells_in b (cs.drop (k*2)) (o+(k+1)*2) w.drew (fun t ht=>by rw[Nat.add_assoc];exact Md _ (by omega)) (j-(k+1)*2) hl
      rw[show o+(k+1)*2+(j-(k+1)*2)=o+j by omega] at this
      rw[this,←h2,List.getElem?_eq_getElem hl]
  ·by_cases hkn:k=n
   ·exact grow_end _ cap VJ (by omega) hkn (.inr ⟨_,rfl,fun j v hj=>by rw[B8];exact Af7 j v hj⟩) Z1
   ·refine (Aes b o n cap k vb vo vc cs vs w (by omega) VJ (by omega) hn hc Ll Af7 Fq Z1 YC).mono ?_
    rintro e w' ⟨rfl,rfl⟩
    obtain⟨G,hG⟩:∃G,G=grownCap w (n+1) cap 79:=⟨_,rfl⟩;rw[←hG];have hGn:n+1<=G:=by rw[hG];exact grownCap_ge w _ _ _
    obtain⟨ROW,RL⟩:∃ROW:Array Value,ROW=(cs.take (k*2)).toArray++Builtin.zeroCells #[.int .i64 0,.int .i64 0] (n+1-k)++Builtin.zeroCells #[.int .i64 0,.int .i64 0] (G-(n+1)):=⟨_,rfl⟩;rw[←RL]
    have hRl:ROW.size=G*2:=by
     rw[RL];simp[Builtin.zeroCells];omega
    have hR0:∀(j:Nat) v,j<k*2->cs[j]?=some v->ROW[j]?=some v:=by
     intro j v hj hv;rw[RL,Array.getElem?_append_left (by simp;omega),Array.getElem?_append_left (by simp;omega)]
     simp only[List.getElem?_toArray];rw[List.getElem?_take,J7 hj];exact hv
    clear RL;obtain⟨W0,hW0⟩:∃W0,W0=w.alloc (.cells ROW 79):=⟨_,rfl⟩;have hN0:E1 w W0:=by rw[hW0];exact E1.alloc w ROW _
    have hB0:bsz W0 w.heap.size=G*2:=by rw[hW0,(Dp.alloc w ROW 79).bsz,hRl]
    have hC0:∀j,W0.cell? ⟨w.heap.size,j,none⟩=ROW[j]?:=fun j=>by rw[hW0];exact (Dp.alloc w ROW 79).cell j
    rw[←hW0];have SH:(cs.drop (k*2)).length=(n-k)*2:=by rw[List.length_drop,hc];omega
    have Bvr:∀j,j<G*2->(W0.cell? ⟨w.heap.size,j,none⟩).isSome=true:=fun j hj=>F9 (by omega)
    obtain⟨W1,FI⟩:∃W1,W1=(W0.drew.setCells w.heap.size (k*2) vs).drew:=⟨_,rfl⟩;have hw1:Bf w.heap.size W0 W1:=by rw[FI];exact ((Bf.drew _ W0).trans (Bf.setCells _ vs (k*2) W0.drew)).trans (Bf.drew _ _)
    have hC1:∀j,W1.cell? ⟨w.heap.size,j,none⟩=(W0.drew.setCells w.heap.size (k*2) vs).cell? ⟨w.heap.size,j,none⟩:=fun j=>by rw[FI];rfl
    have Bqj:∀j,j<G*2->(W1.cell? ⟨w.heap.size,j,none⟩).isSome=true:=fun j hj=>F9 (by rw[hw1.bs];omega)
    rw[←FI];have hw2:=hw1.trans (Bf.setCells w.heap.size (cs.drop (k*2)) ((k+1)*2) W1);refine fin_new undef _ G (hN0.wrote hw2) hGn (by rw[hw2.bs,hB0];exact Nat.le_refl _) (fun j v hj=>?_) (one Z1)
    rcases PI hk hc Ll hj with⟨h1,h2⟩|⟨h1,h2,h3⟩|⟨h1,h2⟩
    ·rw[World.cell?_setCells_out _ _ _ _ ⟨w.heap.size,j,none⟩ (fun _ _=>.inl (by show j<(k+1)*2;omega)),hC1,World.cell?_setCells_out _ _ _ _ ⟨w.heap.size,j,none⟩ (fun _ _=>.inl (by show j<k*2;omega))]
     show W0.cell? _=_;rw[hC0];exact hR0 j v h1 h2
    ·have hl:=H4 h3;rw[World.cell?_setCells_out _ _ _ _ ⟨w.heap.size,j,none⟩ (fun _ _=>.inl (by show j<(k+1)*2;omega)),hC1]
     have:=World.cell?_setCells_in w.heap.size vs (k*2) W0.drew (fun t ht=>Bvr _ (by omega)) (j-k*2) hl
     rw[show k*2+(j-k*2)=j by omega] at this
     rw[this,←h3,List.getElem?_eq_getElem hl]
    ·have hl:=H4 h2;have:=World.cell?_setCells_in w.heap.size (cs.drop (k*2)) ((k+1)*2) W1 (fun t ht=>Bqj _ (by omega)) (j-(k+1)*2) hl
     rw[show (k+1)*2+(j-(k+1)*2)=j by omega] at this
     rw[this,←h2,List.getElem?_eq_getElem hl]
 |[],ps=>exact ps.elim
 |[_],ps=>exact ps.2.elim
 |[_,_],ps=>exact ps.2.2.elim
 |_::_::_::_::_,ps=>exact ps.2.2.2.elim
end
section
open Go.IntKind (wrap)
open Go.RowKit Go.Lib
structure Ce (E:Nat->Prop) (w w':World):Prop where
 os:w'.os=w.os
 tape:w'.tape=w.tape
 output:w'.output=w.output
 st:Bv E w w'
theorem Ce.refl (E:Nat->Prop)(w:World):Ce E w w:=⟨rfl,rfl,rfl,Bv.refl _ _⟩
theorem Ce.trans {E E':Nat->Prop}{w w' w'':World}(h:Ce E w w')(g:Ce E' w' w'')(hE:∀b,b<w.heap.size->E' b->E b):Ce E w w'':=
 ⟨g.os.trans h.os,g.tape.trans h.tape,g.output.trans h.output,h.st.trans g.st hE⟩
theorem Ce.weak {E E':Nat->Prop}{w w':World}(h:Ce E w w')(hE:∀b,b<w.heap.size->E b->E' b):Ce E' w w':=⟨h.os,h.tape,h.output,h.st.weaken hE⟩
theorem Ce.wrote {b:Nat}{w w':World}(h:Bf b w w'):Ce (· = b) w w':=
 ⟨h.os,h.tape,h.output,⟨by rw[h.size];exact Nat.le_refl _,fun k _ hk=>h.other k hk,fun k _=>h.grow k⟩⟩
theorem Ce.new {w w':World}(h:E1 w w'):Ce (fun _=>False) w w':=
 ⟨h.os,h.tape,h.output,⟨by rw[h.size];omega,fun k hk _=>h.old k hk,fun k hk=>Hv.same (h.old k hk)⟩⟩
theorem Ce.drew (w:World):Ce (fun _=>False) w w.drew:=⟨rfl,rfl,rfl,⟨Nat.le_refl _,fun _ _ _=>rfl,fun _ _=>Hv.refl _ _⟩⟩
theorem Ce.out {w w':World}{Y:Nat->Prop}{args:List PV}{own:Bt}{r:A2}{vs:List Value}(h:VM w w' Y Np args own r vs):Ce (fun _=>False) w w':=
 ⟨h.os,h.tape,h.output,h.ext.weaken fun b _ hb=>Xl b hb⟩
theorem Ce.same {E:Nat->Prop}{w w':World}(h:Ce E w w'){b:Nat}(hb:b<w.heap.size)(hE:¬E b):w'.heap[b]?=w.heap[b]?:=h.st.keep b hb hE
theorem Ce.cell {E:Nat->Prop}{w w':World}(h:Ce E w w'){b j:Nat}(hb:b<w.heap.size)(hE:¬E b):w'.cell? ⟨b,j,none⟩=w.cell? ⟨b,j,none⟩:=World.cell?_of_block (h.same hb hE)
theorem Ce.frz {E:Nat->Prop}{w w':World}(h:Ce E w w'){b j:Nat}(hb:b<w.heap.size)(hE:¬E b):w'.frozen? ⟨b,j,none⟩=w.frozen? ⟨b,j,none⟩:=World.frozen?_of_block (h.same hb hE)
theorem Ce.bs {E:Nat->Prop}{w w':World}(h:Ce E w w'){b:Nat}(hb:b<w.heap.size)(hE:¬E b):bsz w' b=bsz w b:=by unfold bsz;rw[h.same hb hE]
theorem Ce.size {E:Nat->Prop}{w w':World}(h:Ce E w w'):w.heap.size<=w'.heap.size:=h.st.size
structure Nq (w:World) (S:Nat->Prop) (b sz:Nat) (cells:List PV):Prop where
 lt:b<w.heap.size
 sz:bsz w b=sz
 fz:∀j,w.frozen? ⟨b,j,none⟩=false
 rd:V1 w S ⟨b,0,none⟩ cells
theorem V1.adv {w w':World}{S S' E:Nat->Prop}{a:Addr}{cells:List PV}(h:V1 w S a cells)(g:Ce E w w')(ha:a.block<w.heap.size)(hb:¬E a.block)(hE:∀x,x<w.heap.size->E x->S x)(hS:∀x,x<w.heap.size->S' x->S x):V1 w' S' a cells:=by
 intro j c hj;obtain⟨v,h1,h2,h3⟩:=h j c hj;refine⟨v,?_,h2,h3.step (g.st.weaken hE) hS⟩;rw[World.cell?_of_block (w:=w) (by rw[E4];exact g.same ha hb)]
 exact h1
theorem Nq.adv {w w':World}{S S' E:Nat->Prop}{b sz:Nat}{cells:List PV}(h:Nq w S b sz cells)(g:Ce E w w')(hb:¬E b)(hE:∀x,x<w.heap.size->E x->S x)(hS:∀x,x<w.heap.size->S' x->S x):Nq w' S' b sz cells:=
 ⟨Nat.lt_of_lt_of_le h.lt g.size,(g.bs h.lt hb).trans h.sz,fun j=>(g.frz h.lt hb).trans (h.fz j),h.rd.adv g h.lt hb hE hS⟩
theorem Nq.cellAt {w:World}{S:Nat->Prop}{b sz:Nat}{cells:List PV}(h:Nq w S b sz cells){j:Nat}(hj:j<sz):(w.cell? ⟨b,j,none⟩).isSome=true:=F9 (by rw[h.sz];exact hj)
theorem Nq.app {w:World}{S:Nat->Prop}{b sz o:Nat}{cells ps:List PV}{vs:List Value}(h:Nq w S b sz cells)(ho:cells.length=o)(hS:S b)(hv:Ba (fun p v=>Mx p∧As w S p v) ps vs) (h1:∀v∈vs,v.oneCell'=true)(Aj0:o+ps.length<=sz):Nq (w.setCells b o vs) S b sz (cells++ps):=by
 have g:=Bf.setCells b vs o w;have ga:=(Ce.wrote g).weak (E':=S) fun x _ e=>e ▸ hS
 have hl:=hv.len;refine⟨by rw[g.size];exact h.lt,g.bs.trans h.sz,fun j=>(g.frz j).trans (h.fz j),fun j c hj=>?_⟩
 rw[B8,Cm];by_cases Bp:j<o
 ·rw[List.getElem?_append_left (by omega)] at hj
  obtain⟨v,a1,a2,a3⟩:=h.rd j c hj;rw[B8,Cm] at a1;refine⟨v,?_,a2,a3.step ga.st fun _ _ x=>x⟩
  rw[World.cell?_setCells_out b _ _ _ ⟨b,j,none⟩ (fun _ _=>.inl Bp)]
  exact a1
 ·rw[List.getElem?_append_right (by omega),ho] at hj
  have hjl:=(List.getElem?_eq_some_iff.1 hj).1;have hvj:vs[j-o]?=some (vs[j-o]'(by omega)):=List.getElem?_eq_getElem _
  have:=World.cell?_setCells_in b vs o w (fun t ht=>h.cellAt (by omega)) (j-o) (by omega)
  rw[show o+(j-o)=j by omega] at this
  exact⟨_,this,h1 _ (List.getElem_mem _),(hv.at_ hj hvj).2.step ga.st fun _ _ x=>x⟩
theorem V1.tree {w:World}{S:Nat->Prop}{a:Addr}{es n cap:Nat}{cells:List PV}(h:V1 w S a cells)(hs:a.spot=none)(hb:a.block<w.heap.size)(hS:¬S a.block)(hn:n<=cap):As w S (.lst false es n cells) (.slice (some a) n cap):=by
 refine .lst es n cells a cap (fun j=>(w.cell? (a.add j)).getD undef) hs hb hS hn (fun j c hj=>?_) (fun j c hj=>?_) fun j c hj=>?_<;>obtain⟨v,h1,h2,h3⟩:=h j c hj
 ·rw[h1];rfl
 ·rw[h1];exact h2
 ·rw[h1];exact h3
theorem TH {w:World}{A S:Nat->Prop}{q:Option (Nat × Nat)} {u:Value}{es n:Nat}{c:List PV}(h:Fy w A q (.own es n c) u) (hA:∀x,x<w.heap.size->S x->A x)(hq:∀b o,q=some (b,o)->¬S b):As w S (.lst false es n c) u∧u.oneCell'=true:=by
 rcases h with⟨_,rfl,rfl,ad,rfl⟩|⟨b,o,cap,hb,rfl,hn,_,Bp,hr,_⟩
 ·cases ad with
  |none=>exact⟨.lnil false es,rfl⟩
  |some a=>exact⟨.lemp es a 0,rfl⟩
 ·exact⟨(hr.weak hA).tree rfl Bp (hq b o hb) hn,rfl⟩
def Lb (B:Nat)(bs:List (Nat × Nat)) (ex:Nat->Prop)(x:Nat):Prop:=x=B∨(∃p∈bs,p.1=x)∨ex x
structure X7 (w wr:World) (ex:Nat->Prop) (B cap:Nat) (done:List Cw) (bs:List (Nat × Nat)):Prop where
 kept:Ce (fun _=>False) w wr
 lo:w.heap.size<=B
 lt:B<wr.heap.size
 szB:bsz wr B=cap*3
 fzB:∀j,wr.frozen? ⟨B,j,none⟩=false
 len:bs.length=done.length
 blk:∀p∈bs,w.heap.size<=p.1∧p.1≠B
 nd:(bs.map Prod.fst).Nodup
 cell:∀(k:Nat) (a:Cw) (p:Nat × Nat),done[k]?=some a->bs[k]?=some p->wr.cell? ⟨B,k*3,none⟩=some (.string a.nm)∧wr.cell? ⟨B,k*3+1,none⟩=some (.string a.us)∧wr.cell? ⟨B,k*3+2,none⟩=some (.slice (some ⟨p.1,0,none⟩) a.cr.length p.2)∧a.cr.length<=p.2
 row:∀(k:Nat) (a:Cw) (p:Nat × Nat),done[k]?=some a->bs[k]?=some p->Nq wr (Lb B bs ex) p.1 (p.2*11) (Cg a.cr)
 exq:∀b,ex b->b≠B∧∀p∈bs,p.1≠b
section
variable {w wr wr':World} {ex ex' E:Nat->Prop} {B cap:Nat} {done:List Cw} {bs:List (Nat × Nat)}
theorem X7.blkLt (h:X7 w wr ex B cap done bs){p:Nat × Nat}(hp:p∈bs):p.1<wr.heap.size:=by
 obtain⟨k,hk⟩:=List.mem_iff_getElem?.1 hp;have Bp:=(List.getElem?_eq_some_iff.1 hk).1;have JV:k<done.length:=by rw[←h.len];exact Bp
 exact (h.row k _ p (List.getElem?_eq_getElem JV) hk).lt
theorem X7.adv (h:X7 w wr ex B cap done bs)(g:Ce E wr wr')(hE:∀b,b<wr.heap.size->E b->ex b∧w.heap.size<=b)(hex:∀b,b<wr.heap.size->ex' b->ex b):X7 w wr' ex' B cap done bs:=by
 have nB:¬E B:=fun x=>(h.exq B (hE B h.lt x).1).1 rfl
 have nb:∀p∈bs,¬E p.1:=fun p hp x=>(h.exq p.1 (hE _ (h.blkLt hp) x).1).2 p hp rfl
 refine⟨h.kept.trans g fun b hb x=>?_,h.lo,Nat.lt_of_lt_of_le h.lt g.size,(g.bs h.lt nB).trans h.szB,fun j=>(g.frz h.lt nB).trans (h.fzB j),h.len,h.blk,h.nd,fun k a p hk hp=>?_,fun k a p hk hp=>?_,fun b hb=>?_⟩
 ·have:=(hE b (Nat.lt_of_lt_of_le hb h.kept.size) x).2;omega
 ·rw[g.cell h.lt nB,g.cell h.lt nB,g.cell h.lt nB];exact h.cell k a p hk hp
 ·refine (h.row k a p hk hp).adv g (nb p (List.mem_of_getElem? hp)) (fun x hx e=>.inr (.inr (hE x hx e).1)) fun x hx e=>?_
  rcases e with e|e|e
  ·exact .inl e
  ·exact .inr (.inl e)
  ·exact .inr (.inr (hex x hx e))
 ·by_cases Bp:b<wr.heap.size
  ·exact h.exq b (hex b Bp hb)
  ·refine⟨fun e=>Bp (e ▸ h.lt),fun p hp e=>Bp (e ▸ h.blkLt hp)⟩
theorem X7.push (h:X7 w wr ex B cap done bs)(g:Ce (fun x=>x=B) wr wr') {a:Cw}{κ kc:Nat}(hκ:w.heap.size<=κ)(hx:ex κ∨wr.heap.size<=κ)(hkc:a.cr.length<=kc)
  (hs:bsz wr' B=cap*3)(hf:∀j,wr'.frozen? ⟨B,j,none⟩=false)(hold:∀j,j<done.length*3->wr'.cell? ⟨B,j,none⟩=wr.cell? ⟨B,j,none⟩)
  (c0:wr'.cell? ⟨B,done.length*3,none⟩=some (.string a.nm)) (c1:wr'.cell? ⟨B,done.length*3+1,none⟩=some (.string a.us)) (c2:wr'.cell? ⟨B,done.length*3+2,none⟩=some (.slice (some ⟨κ,0,none⟩) a.cr.length kc))
  (hr:Nq wr' (Lb B (bs++[(κ,kc)]) ex') κ (kc*11) (Cg a.cr)) (hex:∀b,ex' b->ex b∧b≠κ):X7 w wr' ex' B cap (done++[a]) (bs++[(κ,kc)]):=by
 have nb:∀p∈bs,¬p.1=B:=fun p hp=>(h.blk p hp).2
 have κB:κ≠B:=by
  rintro rfl
  rcases hx with hx|hx
  ·exact (h.exq _ hx).1 rfl
  ·exact Nat.lt_irrefl _ (Nat.lt_of_lt_of_le h.lt hx)
 have κb:∀p∈bs,p.1≠κ:=by
  rintro p hp rfl
  rcases hx with hx|hx
  ·exact (h.exq _ hx).2 p hp rfl
  ·exact Nat.lt_irrefl _ (Nat.lt_of_lt_of_le (h.blkLt hp) hx)
 have at_:∀k (a':Cw) (p:Nat × Nat),(done++[a])[k]?=some a'->(bs++[(κ,kc)])[k]?=some p->(k<done.length∧done[k]?=some a'∧bs[k]?=some p)∨(k=done.length∧a'=a∧p=(κ,kc)):=by
  intro k a' p hk hp;by_cases Bp:k<done.length
  ·rw[List.getElem?_append_left Bp] at hk;rw[List.getElem?_append_left (by rw[h.len];exact Bp)] at hp
   exact .inl ⟨Bp,hk,hp⟩
  ·have hl:k<(done++[a]).length:=(List.getElem?_eq_some_iff.1 hk).1;have:k=done.length:=by simp at hl;omega
   subst this;rw[List.getElem?_append_right (Nat.le_refl _),Nat.sub_self] at hk;rw[List.getElem?_append_right (by rw[h.len];exact Nat.le_refl _),h.len,Nat.sub_self] at hp
   cases hk;cases hp;exact .inr ⟨rfl,rfl,rfl⟩
 refine⟨h.kept.trans g fun b hb x=>?_,h.lo,Nat.lt_of_lt_of_le h.lt g.size,hs,hf,by simp[h.len],fun p hp=>?_,?_,fun k a' p hk hp=>?_,fun k a' p hk hp=>?_,fun b hb=>?_⟩
 ·have:=h.lo;have:=h.kept.size;omega
 ·rcases List.mem_append.1 hp with hp|hp
  ·exact h.blk p hp
  ·rw[List.mem_singleton] at hp;subst hp;exact⟨hκ,κB⟩
 ·rw[List.map_append,List.nodup_append];refine⟨h.nd,by simp,fun x hx1 y hy=>?_⟩
  obtain⟨p,hp,rfl⟩:=List.mem_map.1 hx1;simp only[List.map_cons,List.map_nil,List.mem_singleton] at hy;subst hy;exact κb p hp
 ·rcases at_ k a' p hk hp with⟨Bp,hk,hp⟩|⟨rfl,rfl,rfl⟩
  ·rw[hold _ (by omega),hold _ (by omega),hold _ (by omega)]
   exact h.cell k a' p hk hp
  ·exact⟨c0,c1,c2,hkc⟩
 ·rcases at_ k a' p hk hp with⟨Bp,hk,hp⟩|⟨rfl,rfl,rfl⟩
  ·refine (h.row k a' p hk hp).adv g (nb p (List.mem_of_getElem? hp)) (fun x hx e=>.inl e) fun x hx1 e=>?_
   ·rcases e with e|⟨q,hq,rfl⟩|e
    ·exact .inl e
    ·rcases List.mem_append.1 hq with hq|hq
     ·exact .inr (.inl ⟨q,hq,rfl⟩)
     ·rw[List.mem_singleton] at hq;subst hq;rcases hx with hx|hx
      ·exact .inr (.inr hx)
      ·exact absurd hx1 (Nat.not_lt.2 hx)
    ·exact .inr (.inr (hex x e).1)
  ·exact hr
 ·obtain⟨h1,h2⟩:=hex b hb;refine⟨(h.exq b h1).1,fun p hp=>?_⟩
  rcases List.mem_append.1 hp with hp|hp
  ·exact (h.exq b h1).2 p hp
  ·rw[List.mem_singleton] at hp;subst hp;exact fun e=>h2 e.symm
theorem X7.set (h:X7 w wr ex B cap done bs){i:Nat}{a a':Cw}{p:Nat × Nat}(hi:done[i]?=some a) (hp:bs[i]?=some p) (hn:a'.nm=a.nm)(hu:a'.us=a.us)(hl:a'.cr.length<=p.2)(g:Ce (fun x=>x=B∨x=p.1) wr wr')
  (hs:bsz wr' B=cap*3)(hf:∀j,wr'.frozen? ⟨B,j,none⟩=false)(hold:∀j,j≠i*3+2->wr'.cell? ⟨B,j,none⟩=wr.cell? ⟨B,j,none⟩)
  (c2:wr'.cell? ⟨B,i*3+2,none⟩=some (.slice (some ⟨p.1,0,none⟩) a'.cr.length p.2)) (hr:Nq wr' (Lb B bs ex) p.1 (p.2*11) (Cg a'.cr)):X7 w wr' ex B cap (done.set i a') bs:=by
 have Bp:=(List.getElem?_eq_some_iff.1 hi).1;have EP:=List.mem_of_getElem? hp
 have at_:∀k (x:Cw),(done.set i a')[k]?=some x->(k=i∧x=a')∨(k≠i∧done[k]?=some x):=by
  intro k x hk;rw[List.getElem?_set] at hk;by_cases e:i=k
  ·rw[J7 e,J7 (e ▸ Bp)] at hk;cases hk;exact .inl ⟨e.symm,rfl⟩
  ·rw[Ms e] at hk;exact .inr ⟨fun x=>e x.symm,hk⟩
 refine⟨h.kept.trans g fun b hb x=>?_,h.lo,Nat.lt_of_lt_of_le h.lt g.size,hs,hf,by rw[List.length_set];exact h.len,h.blk,h.nd,fun k x q hk hq=>?_,fun k x q hk hq=>?_,h.exq⟩
 ·have:=h.lo;have:=(h.blk p EP).1;omega
 ·rcases at_ k x hk with⟨rfl,rfl⟩|⟨Hr,hk⟩
  ·rw[hp] at hq;cases hq;obtain⟨h1,h2,h3,h4⟩:=h.cell k a p hi hp;rw[hold _ (by omega),hold _ (by omega),hn,hu]
   exact⟨h1,h2,c2,hl⟩
  ·rw[hold _ (by omega),hold _ (by omega),hold _ (by omega)]
   exact h.cell k x q hk hq
 ·rcases at_ k x hk with⟨rfl,rfl⟩|⟨Hr,hk⟩
  ·rw[hp] at hq;cases hq;exact hr
  ·have XZ:=List.mem_of_getElem? hq;refine (h.row k x q hk hq).adv g ?_ (fun y hy e=>?_) (fun y hy e=>e)
   ·rintro (e|e)
    ·exact (h.blk q XZ).2 e
    ·have e1:(bs.map Prod.fst)[k]?=some q.1:=by rw[List.getElem?_map,hq];rfl
     have e2:(bs.map Prod.fst)[i]?=some p.1:=by rw[List.getElem?_map,hp];rfl
     have Jp:=(List.getElem?_eq_some_iff.1 e1).1;exact Hr (((List.getElem?_inj Jp h.nd).1 (by rw[e1,e2,e])))
   ·rcases e with e|e
    ·exact .inl e
    ·exact .inr (.inl ⟨p,EP,e.symm⟩)
theorem X7.tree {Y:Nat->Prop}(h:X7 w wr ex B cap done bs)(hY:∀x,Y x->x<w.heap.size)(hc:done.length<=cap)(hx:∀x,Y x->ex x):As wr Y (.lst false 3 done.length (Az done)) (.slice (some ⟨B,0,none⟩) done.length cap):=by
 have nY:∀x,w.heap.size<=x->¬Y x:=fun x hx y=>by have:=hY x y;omega
 refine V1.tree (fun j c hj=>?_) rfl h.lt (nY _ h.lo) hc
 have hjl:j<done.length*3:=by rw[←Lj];exact (List.getElem?_eq_some_iff.1 hj).1
 have hk:j / 3<done.length:=by omega
 have hd:done[j / 3]?=some done[j / 3]:=List.getElem?_eq_getElem hk;generalize done[j / 3]=a at hd;have hb:bs[j / 3]?=some (bs[j / 3]'(by rw[h.len];exact hk)):=List.getElem?_eq_getElem _
 generalize bs[j / 3]'(by rw[h.len];exact hk)=p at hb
 obtain⟨h1,h2,h3,h4⟩:=h.cell _ a p hd hb;have hr:=h.row _ a p hd hb;have hg:=Fd hd (j:=j % 3) (by omega)
 rw[show j / 3*3+j % 3=j by omega,List.getD_eq_getElem?_getD,hj] at hg
 simp only[Option.getD_some] at hg;rw[B8,Cm];have hm:j % 3=0∨j % 3=1∨j % 3=2:=by omega
 rcases hm with hm|hm|hm<;>rw[hm] at hg
 ·rw[show j=j / 3*3 by omega]
  exact⟨_,h1,rfl,by rw[hg];exact .sc _⟩
 ·rw[show j=j / 3*3+1 by omega]
  exact⟨_,h2,rfl,by rw[hg];exact .sc _⟩
 ·rw[show j=j / 3*3+2 by omega]
  refine⟨_,h3,rfl,?_⟩;rw[hg];exact (hr.rd.weak fun x _ y=>.inr (.inr (hx x y))).tree rfl hr.lt (nY _ (h.blk p (List.mem_of_getElem? hb)).1) h4
end
end
section
open Go.Proofs.Try (prog)
open Go.IntKind (wrap)
open Go.RowKit Go.Lib
def GA:Glo:=⟨fun _=>False,fun _=>True,fun _ _ _ _=>trivial⟩
def noZ:FuncId->Option (List PV->Option A2):=fun _=>none
theorem Aop:ExtOk GA prog (CX noZ):=by
 intro f g args res h _;have h':(bif Xr.any (Nat.beq f) then none else (none:Option (List PV->Option A2)))=some g:=h;cases hb:Xr.any (Nat.beq f)<;>rw[hb] at h'<;>cases h'
theorem ngA:NoNG prog:=by
 have h:(prog.funcs.toList.all fun fn=> !(fn.name == "runtime.NumGoroutine"))=true:=by kernel_rfl
 intro f fn hf;have:=List.all_eq_true.1 h fn (Array.mem_toList_iff.2 (Array.mem_of_getElem? hf))
 simpa using this
theorem mxA:prog.follows .mixedOrders=true:=by kernel_rfl
theorem HS {f:FuncId}{args:List PV}{res:A2}{fu d:Nat}(hq:Ag (CX noZ) prog fu d f args=some res) {S:Nat->Prop}{W:World}{us:List Value}(hS:∀x,S x->x<W.heap.size)(h:Ba (Ks W S) args us):
  Calls prog f us.toArray W fun e W'=>∃vs own,e=.returned (En vs)∧VM W W' S Np args own res vs:=
 (Sm ngA mxA Aop d f args res hq).2 W S Np us (EV hS h) trivial fun _ hb=>hb.elim
theorem Ro {w:World}{S:Nat->Prop}{z:Bool}{es n:Nat}{c:List PV}{v:Value}(h:As w S (.lst z es n c) v):∃p k,v=.slice p n k:=by
 cases h<;>exact⟨_,_,rfl⟩
theorem V7 {w:World}{S:Nat->Prop}{z:Bool}{es n:Nat}{c:List PV}{v:Value}(h:As w S (.lst z es n c) v) (hn:0<n):∃b o k,v=.slice (some ⟨b,o,none⟩) n k∧n<=k∧b<w.heap.size∧¬S b∧V1 w S ⟨b,o,none⟩ c:=by
 cases h with
 |lnil=>omega
 |lemp=>omega
 |lst _ _ _ a cap f hs hb hA hn' hc h1 hr=>
  obtain⟨b,o,s⟩:=a;cases hs;exact⟨b,o,cap,rfl,hn',hb,hA,fun j c hj=>⟨_,hc j c hj,h1 j c hj,hr j c hj⟩⟩
structure FJ (w:World) (S:Nat->Prop) (c:Sd) (p0:Option Addr) (k0:Nat) (p7:Option Addr) (k7:Nat):Prop where
 t0:As w S (.lst false 1 c.id.length (Am .u8 c.id)) (.slice p0 c.id.length k0)
 t7:As w S (.lst false 2 c.rg.length (H5 c.rg)) (.slice p7 c.rg.length k7)
def So (c:Sd)(p0:Option Addr)(k0:Nat)(p7:Option Addr)(k7:Nat):List Value:=[.slice p0 c.id.length k0,.int .i64 c.ht,.int .u64 c.root,.int .u64 c.model,.int .i64 c.fmt,.bool c.sh,.int .u64 c.used,.slice p7 c.rg.length k7,.bool c.sus,.int .i64 c.since,.int .i64 c.last]
theorem FJ.adv {w w':World}{S S' E:Nat->Prop}{c:Sd}{p0 p7:Option Addr}{k0 k7:Nat}(h:FJ w S c p0 k0 p7 k7)(g:Ce E w w')(hE:∀x,x<w.heap.size->E x->S x)(hS:∀x,x<w.heap.size->S' x->S x):FJ w' S' c p0 k0 p7 k7:=
 ⟨h.t0.step (g.st.weaken hE) hS,h.t7.step (g.st.weaken hE) hS⟩
theorem Xf {w:World}{S:Nat->Prop}{c:Sd}{p0 p7:Option Addr}{k0 k7:Nat}(h:FJ w S c p0 k0 p7 k7):Ba (fun p v=>Mx p∧As w S p v) c.cells (So c p0 k0 p7 k7):=
 ⟨⟨trivial,h.t0⟩,⟨trivial,.sc _⟩,⟨trivial,.sc _⟩,⟨trivial,.sc _⟩,⟨trivial,.sc _⟩,⟨trivial,.sc _⟩,⟨trivial,.sc _⟩,⟨trivial,h.t7⟩,⟨trivial,.sc _⟩,⟨trivial,.sc _⟩,⟨trivial,.sc _⟩,trivial⟩
theorem Qo (c:Sd)(p0 p7:Option Addr)(k0 k7:Nat):∀v∈So c p0 k0 p7 k7,v.oneCell'=true:=by
 intro v hv;simp only[So,List.mem_cons,List.not_mem_nil,or_false] at hv;rcases hv with rfl|rfl|rfl|rfl|rfl|rfl|rfl|rfl|rfl|rfl|rfl<;>rfl
theorem MS {w:World}{S:Nat->Prop}{c:Sd}{vs:List Value}(h:Ba (fun p v=>Mx p∧As w S p v) c.cells vs):∃p0 k0 p7 k7,vs=So c p0 k0 p7 k7∧FJ w S c p0 k0 p7 k7:=by
 match vs,h with
 |[v0,v1,v2,v3,v4,v5,v6,v7,v8,v9,v10],h=>
  obtain⟨h0,h1,h2,h3,h4,h5,h6,h7,h8,h9,h10,_⟩:=h;obtain⟨p0,k0,rfl⟩:=Ro h0.2;obtain⟨p7,k7,rfl⟩:=Ro h7.2;rw[h1.2.val,h2.2.val,h3.2.val,h4.2.val,h5.2.val,h6.2.val,h8.2.val,h9.2.val,h10.2.val];exact⟨p0,k0,p7,k7,rfl,h0.2,h7.2⟩
theorem Q8 {S:Nat->Prop}{W:World}{c:Sd}{p0 p7:Option Addr}{k0 k7:Nat}(hS:∀x,S x->x<W.heap.size)(h1:c.id.length<=1000000)(h2:c.rg.length<=1000000)(hu:FJ W S c p0 k0 p7 k7):
  Calls prog 31 #[.agg ⟨So c p0 k0 p7 k7⟩] W fun e W'=>∃q0 l0 q7 l7,e=.returned (.agg ⟨So c q0 l0 q7 l7⟩)∧Ce (fun _=>False) W W'∧FJ W' S c q0 l0 q7 l7:=by
 have hq:Ag (CX noZ) prog 1000 2 31 [.agg c.cells]=_:=U5 (xs:=noZ) (fu:=1000) (d:=0) (c:=c) h1 h2;refine (HS hq (us:=[.agg ⟨So c p0 k0 p7 k7⟩]) hS ⟨⟨_,rfl,Xf hu⟩,trivial⟩).mono ?_
 rintro e W' ⟨vs,own,rfl,ho⟩
 match vs,ho.vals,ho with
 |[u],hv,ho=>
  obtain⟨vs,rfl,hc⟩:=hv.1
  have cell:∀{es n:Nat} {cc:List PV} {j:Nat} {v:Value},Fy W' (Ns Np own S) (own j) (.own es n cc) v->Mx (.lst false es n cc)∧As W' S (.lst false es n cc) v:=by
   intro es n cc j v h;refine⟨trivial,(TH h (fun x _ hx=>.inr (.inr hx)) fun b o hb hs=>?_).1⟩
   have f:=(ho.fresh j b o hb).2 (hS b hs);obtain⟨i,k,o',hf⟩:=f.1;cases hf
  match vs,hc with
  |[v0,v1,v2,v3,v4,v5,v6,v7,v8,v9,v10],hc=>
   obtain⟨c0,c1,c2,c3,c4,c5,c6,c7,c8,c9,c10,_⟩:=hc;have sc:∀{x u:Value},As W' (Ns Np own S) (.sc x) u->Mx (.sc x)∧As W' S (.sc x) u:=fun {x u} h=>by rw[h.val];exact⟨trivial,.sc _⟩
   obtain⟨q0,l0,q7,l7,e,hV⟩:=MS (w:=W') (S:=S) (c:=c) (vs:=[v0,v1,v2,v3,v4,v5,v6,v7,v8,v9,v10]) ⟨cell c0,sc c1,sc c2,sc c3,sc c4,sc c5,sc c6,cell c7,sc c8,sc c9,sc c10,trivial⟩;exact⟨q0,l0,q7,l7,by rw[e];rfl,Ce.out ho,hV⟩
theorem Aj8 {l:List Sd}{i:Nat}{c:Sd}(h:l[i]?=some c) {j:Nat}{p:PV}(hj:c.cells[j]?=some p):(Cg l)[i*11+j]?=some p:=by
 have hl:j<11:=(List.getElem?_eq_some_iff.1 hj).1;have hi:=(List.getElem?_eq_some_iff.1 h).1;have g:=Cy h hl;have Bp:i*11+j<(Cg l).length:=by rw[G6];omega
 rw[List.getD_eq_getElem?_getD,List.getD_eq_getElem?_getD,hj,List.getElem?_eq_getElem Bp] at g;rw[List.getElem?_eq_getElem Bp];exact congrArg some g
theorem CR {l:List Cw}{i:Nat}{c:Cw}(h:l[i]?=some c) {j:Nat}{p:PV}(hj:c.cells[j]?=some p):(Az l)[i*3+j]?=some p:=by
 have hl:j<3:=(List.getElem?_eq_some_iff.1 hj).1;have hi:=(List.getElem?_eq_some_iff.1 h).1;have g:=Fd h hl;have Bp:i*3+j<(Az l).length:=by rw[Lj];omega
 rw[List.getD_eq_getElem?_getD,List.getD_eq_getElem?_getD,hj,List.getElem?_eq_getElem Bp] at g;rw[List.getElem?_eq_getElem Bp];exact congrArg some g
theorem PH {w:World}{S:Nat->Prop}{b o:Nat}{l:List Sd}(h:V1 w S ⟨b,o,none⟩ (Cg l)) {i:Nat}{c:Sd}(hi:l[i]?=some c):∃p0 k0 p7 k7,(∀j v,(So c p0 k0 p7 k7)[j]?=some v->w.cell? ⟨b,o+i*11+j,none⟩=some v)∧FJ w S c p0 k0 p7 k7:=by
 have at_:∀(j:Nat) (hj:j<11),∃v,w.cell? ⟨b,o+i*11+j,none⟩=some v∧As w S (c.cells[j]'hj) v:=by
  intro j hj;obtain⟨v,h1,_,h2⟩:=h (i*11+j) (c.cells[j]'hj) (Aj8 hi (List.getElem?_eq_getElem hj));rw[B8,←Nat.add_assoc] at h1;exact⟨v,h1,h2⟩
 obtain⟨v0,a0,t0⟩:=at_ 0 (by omega)
 obtain⟨v1,a1,t1⟩:=at_ 1 (by omega)
 obtain⟨v2,a2,t2⟩:=at_ 2 (by omega)
 obtain⟨v3,a3,t3⟩:=at_ 3 (by omega)
 obtain⟨v4,a4,t4⟩:=at_ 4 (by omega)
 obtain⟨v5,a5,t5⟩:=at_ 5 (by omega)
 obtain⟨v6,a6,t6⟩:=at_ 6 (by omega)
 obtain⟨v7,a7,t7⟩:=at_ 7 (by omega)
 obtain⟨v8,a8,t8⟩:=at_ 8 (by omega)
 obtain⟨v9,a9,t9⟩:=at_ 9 (by omega)
 obtain⟨v10,a10,t10⟩:=at_ 10 (by omega)
 obtain⟨p0,k0,p7,k7,e,hV⟩:=MS (w:=w) (S:=S) (c:=c) (vs:=[v0,v1,v2,v3,v4,v5,v6,v7,v8,v9,v10]) ⟨⟨trivial,t0⟩,⟨trivial,t1⟩,⟨trivial,t2⟩,⟨trivial,t3⟩,⟨trivial,t4⟩,⟨trivial,t5⟩,⟨trivial,t6⟩,⟨trivial,t7⟩,⟨trivial,t8⟩,⟨trivial,t9⟩,⟨trivial,t10⟩,trivial⟩;refine⟨p0,k0,p7,k7,?_,hV⟩;rw[←e];intro j v hj
 match j,hj with
 |0,hj=>cases hj;exact a0
 |1,hj=>cases hj;exact a1
 |2,hj=>cases hj;exact a2
 |3,hj=>cases hj;exact a3
 |4,hj=>cases hj;exact a4
 |5,hj=>cases hj;exact a5
 |6,hj=>cases hj;exact a6
 |7,hj=>cases hj;exact a7
 |8,hj=>cases hj;exact a8
 |9,hj=>cases hj;exact a9
 |10,hj=>cases hj;exact a10
 |_+11,hj=>cases hj
theorem Y7 {w:World}{S:Nat->Prop}{b o:Nat}{l:List Cw}(h:V1 w S ⟨b,o,none⟩ (Az l)) {i:Nat}{a:Cw}(hi:l[i]?=some a):w.cell? ⟨b,o+i*3,none⟩=some (.string a.nm)∧w.cell? ⟨b,o+i*3+1,none⟩=some (.string a.us) ∧
  ∃p k,w.cell? ⟨b,o+i*3+2,none⟩=some (.slice p a.cr.length k)∧As w S (.lst false 11 a.cr.length (Cg a.cr)) (.slice p a.cr.length k):=by
 obtain⟨v0,h0,_,t0⟩:=h (i*3) _ (CR hi (j:=0) rfl);obtain⟨v1,h1,_,t1⟩:=h (i*3+1) _ (CR hi (j:=1) rfl);obtain⟨v2,h2,_,t2⟩:=h (i*3+2) _ (CR hi (j:=2) rfl);rw[B8] at h0;rw[B8,←Nat.add_assoc] at h1 h2;rw[t0.val] at h0;rw[t1.val] at h1;obtain⟨p,k,rfl⟩:=Ro t2;exact⟨h0,h1,p,k,h2,t2⟩
end
section
open Go.Proofs.Try (prog)
open Go.IntKind (wrap)
open Go.RowKit Go.Lib
theorem WG:(prog.info? 48).map (fun i=>(i.zero,i.size,i.bytes))=some (some (.agg #[.string ⟨#[]⟩,.string ⟨#[]⟩,.slice none 0 0]),3,56):=by kernel_rfl
theorem JQ:prog.underlying 27=some (.slice 48):=by kernel_rfl
abbrev Y0:Array Value:= #[.slice none 0 0,.int .i64 0,.int .u64 0,.int .u64 0,.int .i64 0,.bool false,.int .u64 0,.slice none 0 0,.bool false,.int .i64 0,.int .i64 0]
theorem EM:(prog.info? 33).map (fun i=>(i.zero,i.size,i.bytes))=some (some (.agg Y0),11,120):=by kernel_rfl
theorem Tb:prog.underlying 46=some (.slice 33):=by kernel_rfl
theorem Apj (n:Nat)(hn:n<=1000)(w:World):Sem.run prog (Instr.makeSlice 27 (.int .i64 0) (.int .i64 ((n:Int)+1))) w=.ok (.slice (some ⟨w.heap.size,0,none⟩) 0 (n+1)) (w.alloc (.cells (madeCells #[.string ⟨#[]⟩,.string ⟨#[]⟩,.slice none 0 0] ((n+1)*3)) 48)):=by
 obtain⟨i0,Ud,KG,Nu,RR⟩:=info_parts WG;have h:=run_make (P:=prog) w 27 48 i0 _ JQ Ud KG .i64 .i64 0 ((n:Int)+1) (by omega) (by omega) (by rw[RR];omega) (by omega)
 refine Eq.trans h ?_;rw[Nu];rfl
theorem A1a (n:Nat)(hn:n<=1000)(w:World):Sem.run prog (Instr.makeSlice 46 (.int .i64 0) (.int .i64 ((n:Int)+1))) w=.ok (.slice (some ⟨w.heap.size,0,none⟩) 0 (n+1)) (w.alloc (.cells (madeCells Y0 ((n+1)*11)) 33)):=by
 obtain⟨i0,Ud,KG,Nu,RR⟩:=info_parts EM;have h:=run_make (P:=prog) w 46 33 i0 _ Tb Ud KG .i64 .i64 0 ((n:Int)+1) (by omega) (by omega) (by rw[RR];omega) (by omega)
 refine Eq.trans h ?_;rw[Nu];rfl
theorem MK {w:World}{es vb vc:Nat}{vs:List Value}(Ll:vs.length=es)(Vy:0<es)(Fq:∀j v,vs[j]?=some v->w.cell? ⟨vb,j,none⟩=some v) (FO:∀v∈vs,v.oneCell'=true):
  Pv.Src prog w (fun _=>False) es (.slice (some ⟨vb,0,none⟩) 1 vc) 1 (vs.map .sc) vs where
 len:=fun w'=>by simp[Builtin.lenOf]
 cells:=fun w' hw=>by
  refine Pv.run_first_slice (w:=w') (.inr ⟨_,rfl,by omega,fun j v hj=>?_⟩)
  have hv:=Fq j v hj;rw[Addr.add_lit,Cm,World.cell?_of_block (w:=w) (hw vb (block_lt_of_cell hv))];exact hv
 part:=fun k hk=>by
  refine run_firstCells_some w es k ⟨vb,0,none⟩ 1 vc _ (by rw[List.length_take,Ll];exact Nat.min_eq_left (Nat.le_trans (Nat.mul_le_mul_right es hk) (by omega))) fun j v hj=>?_
  rw[List.getElem?_take] at hj;split at hj
  ·rw[Addr.add_lit,Cm];exact Fq j v hj
  ·cases hj
 one:=FO
 rep:=by
  clear Fq FO Ll
  induction vs with
  |nil=>trivial
  |cons v vs ih=>exact⟨.sc v,ih⟩
theorem Adz {W:World}{κ q cap vb vc:Nat}{vs:List Value}(Ll:vs.length=11)(FO:∀v∈vs,v.oneCell'=true)(Fq:∀j v,vs[j]?=some v->W.cell? ⟨vb,j,none⟩=some v)
  (hc:∀j,j<cap*11->(W.cell? ⟨κ,j,none⟩).isSome=true) (hf:∀j,W.frozen? ⟨κ,j,none⟩=false)(hq:q<cap)(ty:TypeId):
  (Builtin.append_ #[46,46] ty #[.slice (some ⟨κ,0,none⟩) q cap,.slice (some ⟨vb,0,none⟩) 1 vc]).run prog W=.ok (.slice (some ⟨κ,0,none⟩) (q+1) cap) (W.setCells κ (q*11) vs):=by
 obtain⟨i0,Ud,KG,Nu,RR⟩:=info_parts EM;have hs:=MK (vc:=vc) Ll (by omega) Fq FO
 have h:=Pv.append_room_run (P:=prog) (w:=W) (t:=46) (tx:=46) (ty:=ty) (ts:=[]) (b:=κ) (ob:=0) (n:=q) (cap:=cap) Tb Tb (fun k=>by simp) Ud (by rw[Nu];exact hs) (by rw[Ll,Nu])
  (fun k hk=>by rw[Nu];exact hc _ (by omega)) (fun k hk=>hf _) (by omega)
 rw[Nu,Cm] at h;exact h
theorem WF {W:World}{κ q cap vb vc:Nat}{vs:List Value}(Ll:vs.length=3)(FO:∀v∈vs,v.oneCell'=true)(Fq:∀j v,vs[j]?=some v->W.cell? ⟨vb,j,none⟩=some v)
  (hc:∀j,j<cap*3->(W.cell? ⟨κ,j,none⟩).isSome=true) (hf:∀j,W.frozen? ⟨κ,j,none⟩=false)(hq:q<cap)(ty:TypeId):
  (Builtin.append_ #[27,27] ty #[.slice (some ⟨κ,0,none⟩) q cap,.slice (some ⟨vb,0,none⟩) 1 vc]).run prog W=.ok (.slice (some ⟨κ,0,none⟩) (q+1) cap) (W.setCells κ (q*3) vs):=by
 obtain⟨i0,Ud,KG,Nu,RR⟩:=info_parts WG;have hs:=MK (vc:=vc) Ll (by omega) Fq FO
 have h:=Pv.append_room_run (P:=prog) (w:=W) (t:=27) (tx:=27) (ty:=ty) (ts:=[]) (b:=κ) (ob:=0) (n:=q) (cap:=cap) JQ JQ (fun k=>by simp) Ud (by rw[Nu];exact hs) (by rw[Ll,Nu])
  (fun k hk=>by rw[Nu];exact hc _ (by omega)) (fun k hk=>hf _) (by omega)
 rw[Nu,Cm] at h;exact h
structure MR (w wi:World) (Y:Nat->Prop) (X κ B cap:Nat) (done:List Cw) (bs:List (Nat × Nat)) (a:Cw) (q:Nat) (p2:Option Addr) (k2:Nat):Prop where
 cop:X7 w wi (fun x=>x=X∨x=κ∨Y x) B cap done bs
 row:Nq wi (Lb B bs (fun x=>x=X∨x=κ∨Y x)) κ ((a.cr.length+1)*11) (Cg (a.cr.take q))
 x0:wi.cell? ⟨X,0,none⟩=some (.string a.nm)
 x1:wi.cell? ⟨X,1,none⟩=some (.string a.us)
 x2:wi.cell? ⟨X,2,none⟩=some (.slice p2 a.cr.length k2)
 xf:∀j,wi.frozen? ⟨X,j,none⟩=false
 xw:w.heap.size<=X
 xk:X≠κ
 kw:w.heap.size<=κ
 xl:X<wi.heap.size
theorem MR.next {w wi W:World}{Y:Nat->Prop}{X κ B cap q k2:Nat}{done:List Cw}{bs:List (Nat × Nat)} {a:Cw}{p2:Option Addr}{x:Sd}{p0 p7:Option Addr}{k0 k7:Nat}(h:MR w wi Y X κ B cap done bs a q p2 k2)(g:Ce (fun _=>False) wi W) (hx:a.cr[q]?=some x)
  (hV:FJ W (Lb B bs (fun x=>x=X∨x=κ∨Y x)) x p0 k0 p7 k7):MR w (W.setCells κ (q*11) (So x p0 k0 p7 k7)) Y X κ B cap done bs a (q+1) p2 k2:=by
 have hq:=(List.getElem?_eq_some_iff.1 hx).1;have g3:Ce (fun y=>y=κ) wi (W.setCells κ (q*11) (So x p0 k0 p7 k7)):=(g.weak (E':=fun y=>y=κ) fun _ _ h=>h.elim).trans (Ce.wrote (Bf.setCells _ _ _ _)) fun _ _ h=>h
 have row2:=h.row.adv g (fun h=>h) (fun _ _ h=>h.elim) (fun _ _ h=>h)
 have lq:(Cg (a.cr.take q)).length=q*11:=by rw[G6,List.length_take];omega
 have row3:=row2.app lq (.inr (.inr (.inr (.inl rfl)))) (Xf hV) (Qo _ _ _ _ _) (by show q*11+11<=_;omega)
 have e:Cg (a.cr.take (q+1))=Cg (a.cr.take q)++x.cells:=by
  rw[List.take_add_one,hx];unfold Cg;rw[List.flatMap_append];simp
 refine⟨h.cop.adv g3 (fun y _ e=>⟨.inr (.inl e),e ▸ h.kw⟩) (fun _ _ h=>h),by rw[e];exact row3,?_,?_,?_,fun j=>?_,h.xw,h.xk,h.kw,Nat.lt_of_lt_of_le h.xl g3.size⟩
 ·rw[g3.cell h.xl h.xk];exact h.x0
 ·rw[g3.cell h.xl h.xk];exact h.x1
 ·rw[g3.cell h.xl h.xk];exact h.x2
 ·rw[g3.frz h.xl h.xk];exact h.xf j
theorem Acg (z:Array Value)(n:Nat):(madeCells z n).size=n:=size_madeCells ..
theorem MR.start {w wr:World}{Y:Nat->Prop}{B cap k2:Nat}{done:List Cw}{bs:List (Nat × Nat)} {a:Cw}{p2:Option Addr}(h:X7 w wr Y B cap done bs)(t1 t2:TypeId):
  MR w ((wr.alloc (.cells #[.string a.nm,.string a.us,.slice p2 a.cr.length k2] t1)).alloc (.cells (madeCells Y0 ((a.cr.length+1)*11)) t2)) Y wr.heap.size (wr.heap.size+1) B cap done bs a 0 p2 k2:=by
 have gA:=Dp.alloc wr #[.string a.nm,.string a.us,.slice p2 a.cr.length k2] t1;have nA:=E1.alloc wr #[.string a.nm,.string a.us,.slice p2 a.cr.length k2] t1;obtain⟨W,hW⟩:∃W,W=wr.alloc (.cells #[.string a.nm,.string a.us,.slice p2 a.cr.length k2] t1):=⟨_,rfl⟩;rw[←hW] at gA nA ⊢;have gB:=Dp.alloc W (madeCells Y0 ((a.cr.length+1)*11)) t2;have nB:=E1.alloc W (madeCells Y0 ((a.cr.length+1)*11)) t2;have hs:=nA.size;have hB:=Ce.new nB;have g:=(Ce.new nA).trans hB fun _ _ h=>h
 have hk:=h.kept.size;have nf:¬((fun _:Nat=>False) wr.heap.size):=fun h=>h
 have hB0:bsz (W.alloc (.cells (madeCells Y0 ((a.cr.length+1)*11)) t2)) (wr.heap.size+1)=(a.cr.length+1)*11:=by rw[←hs,gB.bsz,Acg]
 have hB1:∀j,(W.alloc (.cells (madeCells Y0 ((a.cr.length+1)*11)) t2)).frozen? ⟨wr.heap.size+1,j,none⟩=false:=by rw[←hs];exact nB.frz
 refine⟨h.adv g (fun _ _ h=>h.elim) fun b hb e=>?_,⟨by rw[nB.size,hs];omega,hB0,hB1,?_⟩,?_,?_,?_,fun j=>?_,hk,by omega,by omega,by rw[nB.size];omega⟩
 ·rcases e with e|e|e
  ·omega
  ·omega
  ·exact e
 ·intro j c hj;rw[List.take_zero] at hj;cases hj
 ·rw[hB.cell (by omega) nf,gA.cell];rfl
 ·rw[hB.cell (by omega) nf,gA.cell];rfl
 ·rw[hB.cell (by omega) nf,gA.cell];rfl
 ·rw[hB.frz (by omega) nf];exact nA.frz j
theorem MR.done {w wi:World}{Y:Nat->Prop}{X κ B cap k2:Nat}{done:List Cw}{bs:List (Nat × Nat)} {a:Cw}{p2:Option Addr}{v:Value}{t:TypeId}(h:MR w wi Y X κ B cap done bs a a.cr.length p2 k2)(hY:∀x,Y x->x<w.heap.size)(hl:done.length<cap)
  {vs:List Value} (Fq:vs=[.string a.nm,.string a.us,.slice (some ⟨κ,0,none⟩) a.cr.length (a.cr.length+1)]):
  X7 w (((wi.setCell ⟨X,2,none⟩ v).alloc (.cells ⟨vs⟩ t)).setCells B (done.length*3) vs) Y B cap (done++[a]) (bs++[(κ,a.cr.length+1)]):=by
 have row:=h.row;rw[List.take_length] at row;have gs:Ce (fun y=>y=X) wi (wi.setCell ⟨X,2,none⟩ v):=Ce.wrote (Bf.setCell _ _ _ _)
 obtain⟨W,hW⟩:∃W,W=(wi.setCell ⟨X,2,none⟩ v).alloc (.cells ⟨vs⟩ t):=⟨_,rfl⟩;have hnw:=E1.alloc (wi.setCell ⟨X,2,none⟩ v) ⟨vs⟩ t;rw[←hW] at hnw ⊢;have g2:Ce (fun y=>y=X) wi W:=gs.trans (Ce.new hnw) (fun _ _ h=>h.elim)
 have hXB:¬B=X:=fun e=>(h.cop.exq X (.inl rfl)).1 e.symm
 have hκB:¬κ=B:=(h.cop.exq κ (.inr (.inl rfl))).1;have hκX:¬κ=X:=fun e=>h.xk e.symm
 have hc2:=h.cop.adv g2 (fun b _ e=>⟨.inl e,e ▸ h.xw⟩) (fun _ _ h=>h)
 have row2:=row.adv g2 hκX (fun x _ e=>.inr (.inr (.inl e))) (fun _ _ h=>h)
 have hw:=Bf.setCells B vs (done.length*3) W;have gw:=Ce.wrote hw;have Ll:vs.length=3:=by rw[Fq];rfl
 have cin:=fun j (hj:j<vs.length)=>World.cell?_setCells_in B vs (done.length*3) W (fun t ht=>F9 (by rw[hc2.szB];omega)) j hj
 refine hc2.push gw h.kw (.inl (.inr (.inl rfl))) (by omega) (hw.bs.trans hc2.szB) (fun j=>(hw.frz j).trans (hc2.fzB j)) (fun j hj=>World.cell?_setCells_out B _ _ _ ⟨B,j,none⟩ (fun _ _=>.inl hj)) ?_ ?_ ?_ ?_ fun b hb=>⟨.inr (.inr hb),?_⟩
 ·have:=cin 0 (by omega)
  rw[Nat.add_zero] at this;rw[this];subst Fq;rfl
 ·rw[cin 1 (by omega)];subst Fq;rfl
 ·rw[cin 2 (by omega)];subst Fq;rfl
 ·refine row2.adv gw hκB (fun x _ e=>.inl e) fun x _ e=>?_
  rcases e with e|⟨p,hp,rfl⟩|e
  ·exact .inl e
  ·rcases List.mem_append.1 hp with hp|hp
   ·exact .inr (.inl ⟨p,hp,rfl⟩)
   ·rw[List.mem_singleton] at hp;subst hp;exact .inr (.inr (.inr (.inl rfl)))
  ·exact .inr (.inr (.inr (.inr e)))
 ·have:=hY b hb;have:=h.kw;omega
set_option maxHeartbeats 1000000 in
set_option maxRecDepth 100000 in
theorem TM {w:World}{Y:Nat->Prop}{ls:List Cw}{base:Option Addr}{n c:Nat}(CC:ls.length=n)(hls:∀a∈ls,a.sm)(hn:n<=1000)(hT:As w Y (.lst false 3 n (Az ls)) (.slice base n c)) (hY:∀x,Y x->x<w.heap.size):
  Calls prog 30 #[.slice base n c] w fun e w'=>∃bs,e=.returned (.slice (some ⟨w.heap.size,0,none⟩) n (n+1))∧X7 w w' Y w.heap.size (n+1) ls bs∧∀(k:Nat) (a:Cw) (p:Nat × Nat),ls[k]?=some a->bs[k]?=some p->p.2=a.cr.length+1:=by
 have mixed:prog.follows Departure.mixedOrders=true:=by kernel_rfl
 have mk:=Apj n hn w
 go_enter Try.func30,Try.ntmps30
 go_wp2
 go_loopw [3,15] (fun nx i wr=>∃(k:Nat) (bs:List (Nat × Nat)),k<=n∧i=.int .i64 k∧nx=.slice (some ⟨w.heap.size,0,none⟩) k (n+1)∧X7 w wr Y w.heap.size (n+1) (ls.take k) bs∧∀(k:Nat) (a:Cw) (p:Nat × Nat),ls[k]?=some a->bs[k]?=some p->p.2=a.cr.length+1) (fun _ i _=>n-(Go.RowKit.intOf i).toNat)
 case atStart=>
  refine⟨0,[],Nat.zero_le _,rfl,rfl,?_,fun k a p _ h=>by cases h⟩
  have hg:=Dp.alloc w (madeCells #[Value.string ⟨#[]⟩,.string ⟨#[]⟩,.slice none 0 0] ((n+1)*3)) 48;have hN:=E1.alloc w (madeCells #[Value.string ⟨#[]⟩,.string ⟨#[]⟩,.slice none 0 0] ((n+1)*3)) 48;refine⟨Ce.new hN,Nat.le_refl _,by rw[hN.size];omega,by rw[hg.bsz,size_madeCells],hN.frz,rfl,fun p hp=>(by cases hp),by simp,fun k a p h=>(by cases h),fun k a p h=>(by cases h),fun b hb=>⟨fun e=>?_,fun p hp=>(by cases hp)⟩⟩
  have:=hY b hb;omega
 case round=>
  obtain⟨k,bs,hk,rfl,rfl,hC,Ky⟩:=hrel;obtain⟨w1,hw1⟩:∃w1,w1=wr:=⟨_,rfl⟩;subst hw1;by_cases hkn:k<n
  ·have Be3:(k:Int)<(n:Int):=by omega
   obtain⟨b,o,c',hv,hnc,hb,hYb,hR⟩:=V7 hT (by omega)
   cases hv;have hka:ls[k]?=some (ls[k]'(by omega)):=List.getElem?_eq_getElem _
   obtain⟨a,ha⟩:∃a,ls[k]'(by omega)=a:=⟨_,rfl⟩
   rw[ha] at hka;have ham:=hls a (List.mem_of_getElem? hka);have hm:a.cr.length<=1000:=ham.1;obtain⟨c0,c1,p2,k2,c2,t2⟩:=Y7 hR hka;rw[←hC.kept.cell hb (fun h=>h)] at c0 c1 c2
   have mk2:=A1a a.cr.length ham.1;clear hR hT
   go_wp2
   go_loopw [6,27] (fun kp i wi=>∃q:Nat,q<=a.cr.length∧i=.int .i64 q∧kp=.slice (some ⟨w1.heap.size+1,0,none⟩) q (a.cr.length+1)∧MR w wi Y w1.heap.size (w1.heap.size+1) w.heap.size (n+1) (ls.take k) bs a q p2 k2) (fun _ i _=>a.cr.length-(Go.RowKit.intOf i).toNat)
   case atStart=>
    exact⟨0,Nat.zero_le _,rfl,rfl,MR.start hC _ _⟩
   case round=>
    obtain⟨q,hq,rfl,rfl,hI⟩:=hrel;have x0:=hI.x0;have x1:=hI.x1;have x2:=hI.x2;have xf:=hI.xf;by_cases XZ:q<a.cr.length
    ·have Bis:(q:Int)<(a.cr.length:Int):=by omega
     obtain⟨b2,o2,k2',hv2,hmc,Kv,Bzs,hR2⟩:=V7 t2 (by omega)
     cases hv2;have hxa:a.cr[q]?=some (a.cr[q]'hqm):=List.getElem?_eq_getElem _;obtain⟨x,hx⟩:∃x,a.cr[q]'hqm=x:=⟨_,rfl⟩;rw[hx] at hxa;have AN:=ham.2 x (List.mem_of_getElem? hxa);obtain⟨p0,k0,p7,k7,hd,hV⟩:=PH hR2 hxa;have dd:∀j v,(So x p0 k0 p7 k7)[j]?=some v->wr.cell? ⟨b2,o2+q*11+j,none⟩=some v:=fun j v hj=>by rw[hI.cop.kept.cell Kv (fun h=>h)];exact hd j v hj
     have d0:wr.cell? ⟨b2,o2+q*11,none⟩=some (.slice p0 x.id.length k0):=dd 0 _ rfl;have d1:=dd 1 _ rfl;have d2:=dd 2 _ rfl;have d3:=dd 3 _ rfl;have d4:=dd 4 _ rfl;have d5:=dd 5 _ rfl;have d6:=dd 6 _ rfl;have d7:=dd 7 _ rfl;have d8:=dd 8 _ rfl;have d9:=dd 9 _ rfl;have d10:=dd 10 _ rfl;clear dd
     have hYS:∀y,y<w.heap.size->Lb w.heap.size bs (fun x=>x=w1.heap.size∨x=w1.heap.size+1∨Y x) y->Y y:=by
      rintro y hy (e|⟨p,hp,e⟩|e|e|e)
      ·omega
      ·have:=(hI.cop.blk p hp).1;omega
      ·have:=hI.xw;omega
      ·have:=hI.kw;omega
      ·exact e
     have hSW:∀y,Lb w.heap.size bs (fun x=>x=w1.heap.size∨x=w1.heap.size+1∨Y x) y->y<wr.heap.size:=by
      rintro y (e|⟨p,hp,rfl⟩|e|e|e)
      ·rw[e];exact hI.cop.lt
      ·exact hI.cop.blkLt hp
      ·rw[e];exact hI.xl
      ·rw[e];exact hI.row.lt
      ·exact Nat.lt_of_lt_of_le (hY y e) hI.cop.kept.size
     have hcp:∀W,Ce (fun _=>False) wr W->Calls prog 31 #[.agg #[.slice p0 x.id.length k0,.int .i64 x.ht,.int .u64 x.root,.int .u64 x.model,.int .i64 x.fmt,.bool x.sh,.int .u64 x.used,.slice p7 x.rg.length k7,.bool x.sus,.int .i64 x.since,.int .i64 x.last]] W fun e W'=>∃q0 l0 q7 l7,e=.returned (.agg #[.slice q0 x.id.length l0,.int .i64 x.ht,.int .u64 x.root,.int .u64 x.model,.int .i64 x.fmt,.bool x.sh,.int .u64 x.used,.slice q7 x.rg.length l7,.bool x.sus,.int .i64 x.since,.int .i64 x.last])∧Ce (fun _=>False) W W'∧FJ W' (Lb w.heap.size bs (fun x=>x=w1.heap.size∨x=w1.heap.size+1∨Y x)) x q0 l0 q7 l7:=fun W hW=>
      Q8 (fun y hy=>Nat.lt_of_lt_of_le (hSW y hy) hW.size) AN.1 (Nat.le_trans AN.2 (by omega)) (hV.adv (hI.cop.kept.trans hW fun _ _ h=>h) (fun _ _ h=>h.elim) hYS)
     go_wp2_with (go_at_call 31;refine (hcp _ (Ce.new (E1.alloc _ _ _))).mono ?_)
     intro e W1 q0 l0 q7 l7 he Yl hV1;subst he;dsimp only;have g1:Ce (fun _=>False) wr W1:=(Ce.new (E1.alloc wr _ _)).trans Yl (fun _ _ h=>h)
     have g2:=g1.trans (Ce.new (E1.alloc W1 #[Value.slice q0 x.id.length l0,.int .i64 x.ht,.int .u64 x.root,.int .u64 x.model,.int .i64 x.fmt,.bool x.sh,.int .u64 x.used,.slice q7 x.rg.length l7,.bool x.sus,.int .i64 x.since,.int .i64 x.last] 33)) (fun _ _ h=>h)
     have hgw:=Dp.alloc W1 #[Value.slice q0 x.id.length l0,.int .i64 x.ht,.int .u64 x.root,.int .u64 x.model,.int .i64 x.fmt,.bool x.sh,.int .u64 x.used,.slice q7 x.rg.length l7,.bool x.sus,.int .i64 x.since,.int .i64 x.last] 33;have row2:=hI.row.adv g2 (fun h=>h) (fun _ _ h=>h.elim) (fun _ _ h=>h)
     have Lm:=Adz (vb:=W1.heap.size) (vc:=1) (vs:=So x q0 l0 q7 l7) rfl (Qo _ _ _ _ _) (fun j v hj=>by rw[hgw.cell j,List.getElem?_toArray];exact hj) (fun j hj=>row2.cellAt hj) row2.fz (by omega:q<a.cr.length+1)
     go_wp2_with (at_builtin;refine Lib.wpList_append_run _ rfl _ _ _ _ rfl _ _ rfl rfl _ _ (Lm _) ?_)
     refine⟨⟨q+1,by omega,rfl,rfl,hI.next g2 hxa (hV1.adv (Ce.new (E1.alloc _ _ _)) (fun _ _ h=>h.elim) (fun _ _ h=>h))⟩,?_⟩
     simp only[Go.RowKit.intOf];omega
    ·have Bis:¬(q:Int)<(a.cr.length:Int):=by omega
     obtain rfl:q=a.cr.length:=by omega
     have row:=hI.row;rw[List.take_length] at row;have gs:Ce (fun y=>y=w1.heap.size) wr (wr.setCell ⟨w1.heap.size,2,none⟩ (.slice (some ⟨w1.heap.size+1,0,none⟩) a.cr.length (a.cr.length+1))):=Ce.wrote (Bf.setCell _ _ _ _)
     have hgw:=Dp.alloc (wr.setCell ⟨w1.heap.size,2,none⟩ (.slice (some ⟨w1.heap.size+1,0,none⟩) a.cr.length (a.cr.length+1))) #[Value.string a.nm,.string a.us,.slice (some ⟨w1.heap.size+1,0,none⟩) a.cr.length (a.cr.length+1)] 48;have hnw:=E1.alloc (wr.setCell ⟨w1.heap.size,2,none⟩ (.slice (some ⟨w1.heap.size+1,0,none⟩) a.cr.length (a.cr.length+1))) #[Value.string a.nm,.string a.us,.slice (some ⟨w1.heap.size+1,0,none⟩) a.cr.length (a.cr.length+1)] 48;have g2:=gs.trans (Ce.new hnw) (fun _ _ h=>h.elim)
     have hBX:¬w.heap.size=w1.heap.size:=fun e=>(hI.cop.exq _ (.inl rfl)).1 e.symm
     have Lm:=WF (W:=(wr.setCell ⟨w1.heap.size,2,none⟩ (.slice (some ⟨w1.heap.size+1,0,none⟩) a.cr.length (a.cr.length+1))).alloc (.cells #[Value.string a.nm,.string a.us,.slice (some ⟨w1.heap.size+1,0,none⟩) a.cr.length (a.cr.length+1)] 48)) (κ:=w.heap.size) (q:=k) (cap:=n+1) (vb:=wr.heap.size) (vc:=1) (vs:=[Value.string a.nm,.string a.us,.slice (some ⟨w1.heap.size+1,0,none⟩) a.cr.length (a.cr.length+1)]) rfl (by
       intro v hv;simp only[List.mem_cons,List.not_mem_nil,or_false] at hv
       rcases hv with rfl|rfl|rfl<;>rfl) (fun j v hj=>by
        have:=hgw.cell j;rw[World.size_setCell] at this;rw[this,List.getElem?_toArray];exact hj) (fun j hj=>by rw[g2.cell hI.cop.lt hBX];exact F9 (by rw[hI.cop.szB];exact hj)) (fun j=>by rw[g2.frz hI.cop.lt hBX];exact hI.cop.fzB j) (by omega)
     go_wp2_with (at_builtin;refine Lib.wpList_append_run _ rfl _ _ _ _ rfl _ _ rfl rfl _ _ (Lm _) ?_)
     have Bp:(ls.take k).length=k:=by rw[List.length_take];omega
     have hD:=hI.done (v:=.slice (some ⟨w1.heap.size+1,0,none⟩) a.cr.length (a.cr.length+1)) (t:=48) hY (by omega) rfl
     rw[Bp] at hD;have etk:ls.take (k+1)=ls.take k++[a]:=by rw[List.take_add_one,hka];rfl
     refine⟨⟨k+1,bs++[(w1.heap.size+1,a.cr.length+1)],by omega,rfl,rfl,by rw[etk];exact hD,?_⟩,?_⟩
     ·intro k' a' p Jp hp;have Vc:=hI.cop.len;by_cases JV:k'<bs.length
      ·rw[List.getElem?_append_left JV] at hp;exact Ky k' a' p Jp hp
      ·have:=(List.getElem?_eq_some_iff.1 hp).1;have ek:k'=k:=by simp at this;omega
       subst ek;rw[List.getElem?_append_right (by omega),Vc,Bp,Nat.sub_self] at hp
       cases hp;rw[hka] at Jp;cases Jp;rfl
     ·simp only[Go.RowKit.intOf];omega
  ·have Be3:¬(k:Int)<(n:Int):=by omega
   obtain rfl:k=n:=by omega
   rw[Ha (by omega)] at hC
   go_wp2
   go_ret
   exact⟨rfl,bs,hC,fun k a p q h1 h2=>Ky k a (p,q) h1 h2⟩
end
section
open Go.Proofs.Try (prog)
open Go.IntKind (wrap)
open Go.RowKit Go.Lib
theorem JX {f:FuncId}{args:List PV}{vs:List Value}{fu d:Nat}(hq:Ag (CX noZ) prog fu d f args=some ⟨vs.map .sc,[]⟩) {S:Nat->Prop}{W:World}{us:List Value}(hS:∀x,S x->x<W.heap.size)(h:Ba (Ks W S) args us):
  Calls prog f us.toArray W fun e W'=>e=.returned (En vs)∧Ce (fun _=>False) W W':=by
 refine (HS hq hS h).mono ?_
 rintro e W' ⟨xs,own,rfl,ho⟩
 refine⟨?_,Ce.out ho⟩
 have key:∀(vs xs:List Value) (j:Nat),PX W' (Ns Np own S) own W.heap.size j (vs.map .sc) xs->xs=vs:=by
  intro vs
  induction vs with
  |nil=>intro xs j h;cases xs with|nil=>rfl|cons _ _=>exact h.elim
  |cons v vs ih=>
   intro xs j h;cases xs with
   |nil=>exact h.elim
   |cons x xs=>
    have h1:As W' (Ns Np own S) (.sc v) x:=h.1;rw[h1.val,ih xs _ h.2]
 rw[key vs xs 0 ho.vals]
theorem Sw {w:World}{S:Nat->Prop}{z:Bool}{es n:Nat}{c:List PV}{v:Value}(h:As w S (.lst z es n c) v):Ks w S (.lst z es n c) v:=⟨trivial,h⟩
theorem WH {w:World}{S:Nat->Prop}(v:Value):Ks w S (.sc v) v:=⟨trivial,.sc v⟩
theorem Rf {P:Program}{ops:Array Oper}{o:Oper}{a:Act}{w:World}{K:Act->World->Prop}{Q:Exit->Act->World->Prop}{E:Prop}(hg:o.guard=none){c:Call}{f:FuncId}(ho:o.op=.call c)(hc:c.callee=.value (.func f)) (Jz:NoNG P){fn:Func}(hf:P.funcs[f]?=some fn) (hb:fn.body.isSome=true)
  {us:Array Value} (XP:c.args.map a.eval=us) {post:Ending->World->Prop} (h:Calls P f us w post) (hk:∀e w',post e w'->∃v,e=.returned v∧K (a.put o.dst v) w'):
  if Region.wanted o (yielded ops a.tmps)=true then Oper.wp P o a w K Q else E:=by
 have hw:Region.wanted o (yielded ops a.tmps)=true:=by simp[Region.wanted,hg]
 rw[J7 hw];unfold Oper.wp;rw[DN ho hc Jz hf hb,XP];refine h.mono ?_;intro e w' hp;obtain⟨v,rfl,hK⟩:=hk e w' hp;exact hK
theorem Kq {P:Program}{ops:Array Oper}{o:Oper}{a:Act}{w:World}{K:Act->World->Prop}{Q:Exit->Act->World->Prop}{E:Prop}
  (hg:o.guard=none)(d x:Operand)(dT sT:TypeId)(XO:o.op=Op.call { callee:=Callee.builtin Builtin.append,args:= #[d,x],argTypes:= #[dT,sT] })
  (v u:Value)(hd:a.eval d=v)(hx:a.eval x=u){v':Value}{w':World}(hr:(Builtin.append_ #[dT,sT] o.type #[v,u]).run P w=.ok v' w') (hK:K (a.put o.dst v') w'):
  if Region.wanted o (yielded ops a.tmps)=true then Oper.wp P o a w K Q else E:=by
 have hw:Region.wanted o (yielded ops a.tmps)=true:=by simp[Region.wanted,hg]
 rw[J7 hw];unfold Oper.wp;simp[execOp,XO,resolve,invoke,builtin,hd,hx,hr,Result.andThen];exact hK
structure RW (w:World) (Y:Nat->Prop) (ls:List Cw) (n c:Nat) (base:Option Addr):Prop where
 nl:ls.length=n
 sm:∀a∈ls,a.sm
 n1:n<=1000
 tr:As w Y (.lst false 3 n (Az ls)) (.slice base n c)
 y:∀x,Y x->x<w.heap.size
theorem RW.adv {w w':World}{Y:Nat->Prop}{ls:List Cw}{n c:Nat}{base:Option Addr}(h:RW w Y ls n c base)(g:Ce (fun _=>False) w w'):RW w' Y ls n c base:=
 ⟨h.nl,h.sm,h.n1,h.tr.step (g.st.weaken fun _ _ h=>h.elim) fun _ _ h=>h,fun x hx=>Nat.lt_of_lt_of_le (h.y x hx) g.size⟩
structure Bbt (w wr:World) (Y:Nat->Prop) (n:Nat) (ls:List Cw) (bs:List (Nat × Nat)):Prop where
 cop:X7 w wr Y w.heap.size (n+1) ls bs
 room:∀(k:Nat) (a:Cw) (p:Nat × Nat),ls[k]?=some a->bs[k]?=some p->p.2=a.cr.length+1
theorem RW.copy {w:World}{Y:Nat->Prop}{ls:List Cw}{n c:Nat}{base:Option Addr}(h:RW w Y ls n c base):
  Calls prog 30 #[.slice base n c] w fun e w'=>∃bs,e=.returned (.slice (some ⟨w.heap.size,0,none⟩) n (n+1))∧Bbt w w' Y n ls bs:=by
 refine (TM h.nl h.sm h.n1 h.tr h.y).mono ?_
 rintro e w' ⟨bs,h1,h2,h3⟩
 exact⟨bs,h1,h2,h3⟩
def Par (W:World)(X:Nat)(vs:List Value):Prop:=X<W.heap.size∧∀j v,vs[j]?=some v->W.cell? ⟨X,j,none⟩=some v
theorem Par.adv {W W':World}{X:Nat}{vs:List Value}{E:Nat->Prop}(h:Par W X vs)(g:Ce E W W')(hE:¬E X):Par W' X vs:=⟨Nat.lt_of_lt_of_le h.1 g.size,fun j v hj=>by rw[g.cell h.1 hE];exact h.2 j v hj⟩
theorem Par.new (w:World)(vs:List Value)(t:TypeId):Par (w.alloc (.cells ⟨vs⟩ t)) w.heap.size vs:=by
 have g:=Dp.alloc w ⟨vs⟩ t;exact⟨by rw[g.size];omega,fun j v hj=>by rw[g.cell];simpa using hj⟩
theorem X7.grow {w W:World}{Y:Nat->Prop}{B cap i:Nat}{ls:List Cw}{bs:List (Nat × Nat)} {a:Cw}{bp:Nat × Nat}{x:Sd}{p0 p7:Option Addr}{k0 k7:Nat}(h:X7 w W Y B cap ls bs)(hi:ls[i]?=some a) (hb:bs[i]?=some bp) (hm:a.cr.length<bp.2)(hil:i<cap)
  (hV:FJ W (Lb B bs Y) x p0 k0 p7 k7):X7 w ((W.setCells bp.1 (a.cr.length*11) (So x p0 k0 p7 k7)).setCell ⟨B,i*3+2,none⟩ (.slice (some ⟨bp.1,0,none⟩) (a.cr.length+1) bp.2)) Y B cap (ls.set i { a with cr:=a.cr++[x] }) bs:=by
 have hbm:=List.mem_of_getElem? hb;have Hr:bp.1≠B:=(h.blk bp hbm).2;have GK:¬B=bp.1:=fun e=>Hr e.symm
 have AA:Lb B bs Y bp.1:=.inr (.inl ⟨bp,hbm,rfl⟩);have row6:=(h.row i a bp hi hb).app (G6 _) AA (Xf hV) (Qo _ _ _ _ _) (by show a.cr.length*11+11<=_;omega)
 have g1:=Bf.setCells bp.1 (So x p0 k0 p7 k7) (a.cr.length*11) W;obtain⟨W6,hW6⟩:∃W6,W6=W.setCells bp.1 (a.cr.length*11) (So x p0 k0 p7 k7):=⟨_,rfl⟩;rw[←hW6] at row6 g1 ⊢;have a1:=Ce.wrote g1;have l6:B<W6.heap.size:=Nat.lt_of_lt_of_le h.lt a1.size;have g2:=Bf.setCell B (i*3+2) (.slice (some ⟨bp.1,0,none⟩) (a.cr.length+1) bp.2) W6
 have e:Cg (a.cr++[x])=Cg a.cr++x.cells:=by
  unfold Cg;rw[List.flatMap_append];simp
 have s6:bsz W6 B=cap*3:=(a1.bs h.lt GK).trans h.szB;refine h.set (a':={ a with cr:=a.cr++[x] }) hi hb rfl rfl (by show (a.cr++[x]).length<=_;simp;omega) ((a1.weak (E':=fun y=>y=B∨y=bp.1) fun y _ e=>.inr e).trans (Ce.wrote g2) fun y _ e=>.inl e) (g2.bs.trans s6) (fun j=>(g2.frz j).trans ((a1.frz h.lt GK).trans (h.fzB j))) (fun j hj=>?_) ?_ ?_
 ·rw[World.cell?_setCell_other _ _ _ _ (by intro e;simp only[Addr.mk.injEq] at e;omega)]
  exact a1.cell h.lt GK
 ·obtain⟨v,hv⟩:=Option.isSome_iff_exists.1 (F9 (w:=W6) (b:=B) (j:=i*3+2) (by omega))
  rw[World.cell?_setCell_same _ _ _ hv];simp
 ·show Nq _ _ _ _ (Cg (a.cr++[x]));rw[e];exact row6.adv (Ce.wrote g2) Hr (fun y _ e=>.inl e) (fun _ _ h=>h)
set_option maxHeartbeats 1000000 in
set_option maxRecDepth 100000 in
theorem YO {w:World}{Y:Nat->Prop}{ls:List Cw}{base:Option Addr}{n c i:Nat}{a:Cw}{x:Sd}{nm us:ByteArray}{p0 p7:Option Addr}{k0 k7:Nat}(hB:RW w Y ls n c base)(hV:FJ w Y x p0 k0 p7 k7)(hx:x.sm)(FC:1<=nm.size)(RV:nm.size<=32)(Bb:x.id.length=176)
    (GI:∀W,Ce (fun _=>False) w W->Calls prog 23 #[.slice base n c,.slice p0 176 k0] W fun e W'=>e=.returned (.tuple #[.int .i64 0,.int .i64 0,.bool false])∧Ce (fun _=>False) W W')
    (PT:∀W,Ce (fun _=>False) w W->Calls prog 14 #[.slice base n c,.string nm] W fun e W'=>e=.returned (.tuple #[.int .i64 i,.bool true])∧Ce (fun _=>False) W W')
    (hi:ls[i]?=some a) (hk:a.cr.length<4):
    Calls prog 11 #[.slice base n c,.string nm,.string us,.agg #[.slice p0 x.id.length k0,.int .i64 x.ht,.int .u64 x.root,.int .u64 x.model,.int .i64 x.fmt,.bool x.sh,.int .u64 x.used,.slice p7 x.rg.length k7,.bool x.sus,.int .i64 x.since,.int .i64 x.last]] w
      fun e w'=>∃u,e=.returned (.tuple #[u,.int .i64 0])∧Ce (fun _=>False) w w'∧As w' Y (.lst false 3 n (Az (ls.set i { a with cr:=a.cr++[x] }))) u:=by
  have mixed:prog.follows Departure.mixedOrders=true:=by kernel_rfl
  rw[Bb]
  have Uq:=(List.getElem?_eq_some_iff.1 hi).1
  have CC:=hB.nl
  obtain⟨b,o,c',hv,hnc,hb,hYb,hR⟩:=V7 hB.tr (by omega)
  cases hv
  obtain⟨c0,c1,p2,k2,c2,t2⟩:=Y7 hR hi
  have hzn:¬((nm.size:Int)<1):=by omega
  have Bne:¬((32:Int)<(nm.size:Int)):=by omega
  go_enter Try.func11,Try.ntmps11
  go_wp2_with (go_at_call 23;refine (GI _ ?hO).mono ?_)
  case hO=>exact Ce.new (E1.alloc _ _ _)
  have pr0:=Par.new w [Value.slice p0 176 k0,.int .i64 x.ht,.int .u64 x.root,.int .u64 x.model,.int .i64 x.fmt,.bool x.sh,.int .u64 x.used,.slice p7 x.rg.length k7,.bool x.sus,.int .i64 x.since,.int .i64 x.last] 33
  intro e W1 he Yl
  subst he
  dsimp only
  have g1:=(Ce.new (E1.alloc w _ _)).trans Yl fun _ _ h=>h
  have pr1:=pr0.adv Yl fun h=>h
  go_wp2_with (go_at_call 14;refine (PT _ ?hF).mono ?_)
  case hF=>exact g1
  rintro e W2 ⟨he,hA2⟩
  subst he
  dsimp only
  have g2:=g1.trans hA2 fun _ _ h=>h
  have pr2:=pr1.adv hA2 fun h=>h
  have c22:=c2
  rw[←g2.cell hb fun h=>h] at c22
  have UR:=hB.adv g2
  have Ud:(i:Int)<(n:Int):=by omega
  have Zg:¬((4:Int)<=(a.cr.length:Int)):=by omega
  go_wp2_with (go_at_call 30;refine UR.copy.mono ?_)
  intro e W3 he bs hC3
  subst he
  dsimp only
  have hC:=hC3.cop
  have pr3:=pr2.adv hC.kept fun h=>h
  have ebi:bs[i]?=some (bs[i]'(by rw[hC.len];exact Uq)):=List.getElem?_eq_getElem _
  obtain⟨bp,hbp⟩:∃bp,bs[i]'(by rw[hC.len];exact Uq)=bp:=⟨_,rfl⟩
  rw[hbp] at ebi
  obtain⟨_,_,d2,d3⟩:=hC.cell i a bp hi ebi
  obtain⟨κ,kc⟩:=bp
  obtain rfl:kc=a.cr.length+1:=hC3.room i a _ hi ebi
  clear hbp
  dsimp only at d2
  have fB:=hC.fzB
  have hS3:∀y,Lb W2.heap.size bs Y y->y<W3.heap.size:=by
    rintro y (e|⟨p,hp,rfl⟩|e)
    · rw[e];exact hC.lt
    · exact hC.blkLt hp
    · exact Nat.lt_of_lt_of_le (UR.y y e) hC.kept.size
  have hV3:FJ W3 (Lb W2.heap.size bs Y) x p0 k0 p7 k7:=(hV.adv g2 (fun _ _ h=>h.elim) (fun _ _ h=>h)).adv hC.kept (fun _ _ h=>h.elim) (by
    rintro y hy (e|⟨p,hp,e⟩|e)
    · omega
    · have:=(hC.blk p hp).1;omega
    · exact e)
  have hcp:∀W,Ce (fun _=>False) W3 W->Calls prog 31 #[.agg #[.slice p0 176 k0,.int .i64 x.ht,.int .u64 x.root,.int .u64 x.model,.int .i64 x.fmt,.bool x.sh,.int .u64 x.used,.slice p7 x.rg.length k7,.bool x.sus,.int .i64 x.since,.int .i64 x.last]] W fun e W'=>∃q0 l0 q7 l7,e=.returned (.agg #[.slice q0 176 l0,.int .i64 x.ht,.int .u64 x.root,.int .u64 x.model,.int .i64 x.fmt,.bool x.sh,.int .u64 x.used,.slice q7 x.rg.length l7,.bool x.sus,.int .i64 x.since,.int .i64 x.last])∧Ce (fun _=>False) W W'∧FJ W' (Lb W2.heap.size bs Y) x q0 l0 q7 l7:=fun W hW=>by
    have h:=Q8 (fun y hy=>Nat.lt_of_lt_of_le (hS3 y hy) hW.size) hx.1 (Nat.le_trans hx.2 (by omega)) (hV3.adv hW (fun _ _ h=>h.elim) (fun _ _ h=>h))
    simp only[So,Bb] at h
    exact h
  have p00:=pr3.2 0 _ rfl
  have p01:=pr3.2 1 _ rfl
  have p02:=pr3.2 2 _ rfl
  have p03:=pr3.2 3 _ rfl
  have p04:=pr3.2 4 _ rfl
  have p05:=pr3.2 5 _ rfl
  have p06:=pr3.2 6 _ rfl
  have p07:=pr3.2 7 _ rfl
  have p08:=pr3.2 8 _ rfl
  have p09:=pr3.2 9 _ rfl
  have p10:=pr3.2 10 _ rfl
  go_wp2
  go_region_law_o (first
    |(refine Rf rfl rfl rfl ngA Try.func31 rfl (by simp[Act.eval,Act.put]) (hcp _ ?hW) ?_
       case hW=>exact Ce.drew W3
       rintro e W4 ⟨q0,l0,q7,l7,he4,YJ,hV4⟩
       refine⟨_,he4,?_⟩
       have gA4:Ce (fun _=>False) W3 W4:=(Ce.drew W3).trans YJ (fun _ _ h=>h)
       have d24:=d2
       rw[←gA4.cell hC.lt (fun h=>h)] at d24
       have Bue:W2.heap.size<W4.heap.size:=Nat.lt_of_lt_of_le hC.lt gA4.size)
    |(have gn:=Ce.new (E1.alloc W4 #[Value.slice q0 176 l0,.int .i64 x.ht,.int .u64 x.root,.int .u64 x.model,.int .i64 x.fmt,.bool x.sh,.int .u64 x.used,.slice q7 x.rg.length l7,.bool x.sus,.int .i64 x.since,.int .i64 x.last] 33)
       have hgw:=Dp.alloc W4 #[Value.slice q0 176 l0,.int .i64 x.ht,.int .u64 x.root,.int .u64 x.model,.int .i64 x.fmt,.bool x.sh,.int .u64 x.used,.slice q7 x.rg.length l7,.bool x.sus,.int .i64 x.since,.int .i64 x.last] 33
       have hC5:=(hC.adv gA4 (fun _ _ h=>h.elim) (fun _ _ h=>h)).adv gn (fun _ _ h=>h.elim) (fun _ _ h=>h)
       have row5:=hC5.row i a _ hi ebi
       have Lm:=Adz (vb:=W4.heap.size) (vc:=1) (vs:=So x q0 l0 q7 l7) rfl (Qo _ _ _ _ _) (fun j v hj=>by rw[hgw.cell j,List.getElem?_toArray];rw[So,Bb] at hj;exact hj) (fun j hj=>row5.cellAt hj) row5.fz (by omega:a.cr.length<a.cr.length+1)
       have hG:=hC5.grow hi ebi (Nat.lt_succ_self _) (by omega) (hV4.adv gn (fun _ _ h=>h.elim) (fun _ _ h=>h))
       have a6:=Ce.wrote (Bf.setCells κ (So x q0 l0 q7 l7) (a.cr.length*11) (W4.alloc (.cells #[Value.slice q0 176 l0,.int .i64 x.ht,.int .u64 x.root,.int .u64 x.model,.int .i64 x.fmt,.bool x.sh,.int .u64 x.used,.slice q7 x.rg.length l7,.bool x.sus,.int .i64 x.since,.int .i64 x.last] 33)))
       have hnb:¬W2.heap.size=κ:=fun e=>(hC.blk _ (List.mem_of_getElem? ebi)).2 e.symm
       have d26:=d24
       rw[←gn.cell (Nat.lt_of_lt_of_le hC.lt gA4.size) (fun h=>h),←a6.cell hC5.lt hnb] at d26
       have f26:=hC5.fzB (i*3+2)
       rw[←a6.frz hC5.lt hnb] at f26
       refine Kq rfl _ _ 46 46 rfl _ _ (by simp[Act.eval,Act.put]) (by simp[Act.eval,Act.put]) (Lm _) ?_))
  all_goals go_wp2
  all_goals go_ret2
  all_goals
    have ht:=hG.tree (Y:=Y) UR.y (by rw[List.length_set];omega) (fun _ h=>h)
    rw[List.length_set,CC] at ht
    exact⟨_,rfl,g2.trans hG.kept (fun _ _ h=>h),ht⟩
end
section
open Go.Proofs.Try (prog)
open Go.IntKind (wrap)
open Go.RowKit Go.Lib
theorem Ai6 {W:World}{vb vc:Nat}{vs:List Value}(Ll:vs.length=11)(FO:∀v∈vs,v.oneCell'=true)(Fq:∀j v,vs[j]?=some v->W.cell? ⟨vb,j,none⟩=some v) (ty:TypeId):
  (Builtin.append_ #[46,46] ty #[.slice none 0 0,.slice (some ⟨vb,0,none⟩) 1 vc]).run prog W=.ok (.slice (some ⟨W.heap.size,0,none⟩) 1 (grownCap W 1 0 33)) (W.drew.alloc (.cells (vs.toArray++Builtin.zeroCells Y0 (grownCap W 1 0 33-1)) 33)):=by
 obtain⟨i0,Ud,KG,Nu,RR⟩:=info_parts EM;have hs:=MK (vc:=vc) Ll (by omega) Fq FO
 have h:=Pv.append_grow_run (P:=prog) (w:=W) (t:=46) (tx:=46) (ty:=ty) (ts:=[]) (ad:=none) (n:=0) (cap:=0) (olds:=[]) Tb Tb (fun k=>by simp) Ud KG (by rw[Nu];exact hs) (.inl ⟨rfl,rfl⟩) (by omega) (by rw[RR];omega) (by omega)
 rw[show (Value.agg Y0).cells=Y0 from rfl] at h
 simpa using h
theorem X7.fresh {w W W7:World}{Y:Nat->Prop}{B cap κ G:Nat}{done:List Cw}{bs:List (Nat × Nat)} {a:Cw}(h:X7 w W Y B cap done bs)(hl:done.length<cap)(g:Ce (fun x=>x=B) W W7) (hs:bsz W7 B=cap*3)(hf:∀j,W7.frozen? ⟨B,j,none⟩=false)
  (hold:∀j,j<done.length*3->W7.cell? ⟨B,j,none⟩=W.cell? ⟨B,j,none⟩)(c0:W7.cell? ⟨B,done.length*3,none⟩=some (.string a.nm)) (c1:W7.cell? ⟨B,done.length*3+1,none⟩=some (.string a.us)) (hκ:W.heap.size<=κ)(hG:a.cr.length<=G)
  (hr:Nq W7 (Lb B (bs++[(κ,G)]) Y) κ (G*11) (Cg a.cr)) (hY:∀x,Y x->x<w.heap.size):X7 w (W7.setCell ⟨B,done.length*3+2,none⟩ (.slice (some ⟨κ,0,none⟩) a.cr.length G)) Y B cap (done++[a]) (bs++[(κ,G)]):=by
 have gw:=Bf.setCell B (done.length*3+2) (.slice (some ⟨κ,0,none⟩) a.cr.length G) W7;have ga:=Ce.wrote gw;have other:∀j,j≠done.length*3+2->(W7.setCell ⟨B,done.length*3+2,none⟩ (.slice (some ⟨κ,0,none⟩) a.cr.length G)).cell? ⟨B,j,none⟩=W7.cell? ⟨B,j,none⟩:=fun j hj=>World.cell?_setCell_other _ _ _ _ (by intro e;simp only[Addr.mk.injEq] at e;omega)
 have hBκ:¬κ=B:=by
  rintro rfl
  have:=h.lt;omega
 refine h.push (g.trans ga fun _ _ h=>h) (Nat.le_trans h.kept.size hκ) (.inr hκ) hG (gw.bs.trans hs) (fun j=>(gw.frz j).trans (hf j)) (fun j hj=>(other j (by omega)).trans (hold j hj)) ((other _ (by omega)).trans c0) ((other _ (by omega)).trans c1) ?_ (hr.adv ga hBκ (fun x _ e=>.inl e) (fun _ _ h=>h)) fun b hb=>⟨hb,?_⟩
 ·obtain⟨v,hv⟩:=Option.isSome_iff_exists.1 (F9 (w:=W7) (b:=B) (j:=done.length*3+2) (by omega))
  exact World.cell?_setCell_same _ _ _ hv
 ·have:=hY b hb;have:=h.kept.size;omega
theorem Ai8 {W:World}{S S':Nat->Prop}{x:Sd}{p0 p7:Option Addr}{k0 k7 G:Nat}{T:TypeId}(hV:FJ W S x p0 k0 p7 k7)(hG:1<=G)(hS:∀y,y<W.heap.size->S' y->S y):
  Nq (W.drew.alloc (.cells ((So x p0 k0 p7 k7).toArray++Builtin.zeroCells Y0 (G-1)) T)) S' W.heap.size (G*11) (Cg [x]):=by
 have hn:=E1.allocD W ((So x p0 k0 p7 k7).toArray++Builtin.zeroCells Y0 (G-1)) T;have hg:=Dp.alloc W.drew ((So x p0 k0 p7 k7).toArray++Builtin.zeroCells Y0 (G-1)) T;have ha:=Ce.new hn;refine⟨by rw[hn.size];omega,?_,hn.frz,fun j c hj=>?_⟩
 ·have:=hg.bsz;refine Eq.trans this ?_;simp[Builtin.zeroCells,So];omega
 ·have L7:=Xf hV;have e:Cg [x]=x.cells:=by simp[Cg]
  rw[e] at hj;have hjl:=(List.getElem?_eq_some_iff.1 hj).1;have Ll:j<(So x p0 k0 p7 k7).length:=hjl;have hvj:(So x p0 k0 p7 k7)[j]?=some ((So x p0 k0 p7 k7)[j]'hvl):=List.getElem?_eq_getElem _;refine⟨_,?_,Qo _ _ _ _ _ _ (List.mem_of_getElem? hvj),(L7.at_ hj hvj).2.step (ha.st.weaken fun _ _ h=>h.elim) hS⟩
  rw[B8,Cm];refine (hg.cell j).trans ?_;rw[Array.getElem?_append_left (by simpa using Ll)]
  simp
set_option maxHeartbeats 1000000 in
set_option maxRecDepth 100000 in
theorem Akg {w:World}{Y:Nat->Prop}{ls:List Cw}{base:Option Addr}{n c:Nat}{x:Sd}{nm us:ByteArray}{p0 p7:Option Addr}{k0 k7:Nat}(hB:RW w Y ls n c base)(hV:FJ w Y x p0 k0 p7 k7)(hx:x.sm)(FC:1<=nm.size)(RV:nm.size<=32)(Bb:x.id.length=176)
    (GI:∀W,Ce (fun _=>False) w W->Calls prog 23 #[.slice base n c,.slice p0 176 k0] W fun e W'=>e=.returned (.tuple #[.int .i64 0,.int .i64 0,.bool false])∧Ce (fun _=>False) W W')
    (PT:∀W,Ce (fun _=>False) w W->Calls prog 14 #[.slice base n c,.string nm] W fun e W'=>e=.returned (.tuple #[.int .i64 0,.bool false])∧Ce (fun _=>False) W W')
    (hk:n<16):
    Calls prog 11 #[.slice base n c,.string nm,.string us,.agg #[.slice p0 x.id.length k0,.int .i64 x.ht,.int .u64 x.root,.int .u64 x.model,.int .i64 x.fmt,.bool x.sh,.int .u64 x.used,.slice p7 x.rg.length k7,.bool x.sus,.int .i64 x.since,.int .i64 x.last]] w
      fun e w'=>∃u,e=.returned (.tuple #[u,.int .i64 0])∧Ce (fun _=>False) w w'∧As w' Y (.lst false 3 (n+1) (Az (ls++[⟨nm,us,[x]⟩]))) u:=by
  have mixed:prog.follows Departure.mixedOrders=true:=by kernel_rfl
  rw[Bb]
  have CC:=hB.nl
  have hzn:¬((nm.size:Int)<1):=by omega
  have Bne:¬((32:Int)<(nm.size:Int)):=by omega
  go_enter Try.func11,Try.ntmps11
  go_wp2_with (go_at_call 23;refine (GI _ ?hO).mono ?_)
  case hO=>exact Ce.new (E1.alloc _ _ _)
  have pr0:=Par.new w [Value.slice p0 176 k0,.int .i64 x.ht,.int .u64 x.root,.int .u64 x.model,.int .i64 x.fmt,.bool x.sh,.int .u64 x.used,.slice p7 x.rg.length k7,.bool x.sus,.int .i64 x.since,.int .i64 x.last] 33
  intro e W1 he Yl
  subst he
  dsimp only
  have g1:=(Ce.new (E1.alloc w _ _)).trans Yl fun _ _ h=>h
  have pr1:=pr0.adv Yl fun h=>h
  go_wp2_with (go_at_call 14;refine (PT _ ?hF).mono ?_)
  case hF=>exact g1
  rintro e W2 ⟨he,hA2⟩
  subst he
  dsimp only
  have g2:=g1.trans hA2 fun _ _ h=>h
  have pr2:=pr1.adv hA2 fun h=>h
  have UR:=hB.adv g2
  have Zg:¬((16:Int)<=(n:Int)):=by omega
  go_wp2_with (go_at_call 30;refine UR.copy.mono ?_)
  intro e W3 he bs hC3
  subst he
  dsimp only
  have hC:=hC3.cop
  have pr3:=pr2.adv hC.kept fun h=>h
  have nA:=E1.alloc W3 #[Value.string nm,.string us,.slice none 0 0] 48
  have gA:=Dp.alloc W3 #[Value.string nm,.string us,.slice none 0 0] 48
  have gn:=Ce.new nA
  have Lm:=WF (W:=W3.alloc (.cells #[Value.string nm,.string us,.slice none 0 0] 48)) (κ:=W2.heap.size) (q:=n) (cap:=n+1) (vb:=W3.heap.size) (vc:=1) (vs:=[Value.string nm,.string us,.slice none 0 0]) rfl (by
    intro v hv
    simp only[List.mem_cons,List.not_mem_nil,or_false] at hv
    rcases hv with rfl|rfl|rfl<;>rfl) (fun j v hj=>by rw[gA.cell j,List.getElem?_toArray];exact hj) (fun j hj=>by rw[gn.cell hC.lt (fun h=>h)];exact F9 (by rw[hC.szB];exact hj)) (fun j=>by rw[gn.frz hC.lt (fun h=>h)];exact hC.fzB j) (by omega)
  have gw:=Bf.setCells W2.heap.size [Value.string nm,.string us,.slice none 0 0] (n*3) (W3.alloc (.cells #[Value.string nm,.string us,.slice none 0 0] 48))
  have cin:=fun j (hj:j<3)=>World.cell?_setCells_in W2.heap.size [Value.string nm,.string us,.slice none 0 0] (n*3) (W3.alloc (.cells #[Value.string nm,.string us,.slice none 0 0] 48)) (fun t ht=>by rw[gn.cell hC.lt (fun h=>h)];exact F9 (by rw[hC.szB];simp at ht;omega)) j hj
  have cout:∀j,j<n*3->((W3.alloc (.cells #[Value.string nm,.string us,.slice none 0 0] 48)).setCells W2.heap.size (n*3) [Value.string nm,.string us,.slice none 0 0]).cell? ⟨W2.heap.size,j,none⟩=W3.cell? ⟨W2.heap.size,j,none⟩:=fun j hj=>by
    rw[World.cell?_setCells_out _ _ _ _ ⟨W2.heap.size,j,none⟩ (fun _ _=>.inl hj)]
    exact gn.cell hC.lt (fun h=>h)
  go_wp2_with (at_builtin;refine Lib.wpList_append_run _ rfl _ _ _ _ rfl _ _ rfl rfl _ _ (Lm _) ?_)
  obtain⟨W6,hW6⟩:∃W6,W6=(W3.alloc (.cells #[Value.string nm,.string us,.slice none 0 0] 48)).setCells W2.heap.size (n*3) [Value.string nm,.string us,.slice none 0 0]:=⟨_,rfl⟩
  rw[←hW6] at gw cin cout ⊢
  have e0:=cin 0 (by omega)
  have e1:=cin 1 (by omega)
  have e2:=cin 2 (by omega)
  rw[Nat.add_zero] at e0
  have a6:Ce (fun x=>x=W2.heap.size) W3 W6:=(gn.weak (E':=fun x=>x=W2.heap.size) fun _ _ h=>h.elim).trans (Ce.wrote gw) fun _ _ h=>h
  have l6:W2.heap.size<W6.heap.size:=Nat.lt_of_lt_of_le hC.lt a6.size
  have s6:bsz W6 W2.heap.size=(n+1)*3:=gw.bs.trans ((gn.bs hC.lt (fun h=>h)).trans hC.szB)
  have f6:∀j,W6.frozen? ⟨W2.heap.size,j,none⟩=false:=fun j=>(gw.frz j).trans ((gn.frz hC.lt (fun h=>h)).trans (hC.fzB j))
  have hwX:¬w.heap.size=W2.heap.size:=by
    have h1:=Yl.size
    have h2:=hA2.size
    rw[(E1.alloc w _ _).size] at h1
    omega
  have pr6:=pr3.adv a6 hwX
  have p00:=pr6.2 0 _ rfl
  have p01:=pr6.2 1 _ rfl
  have p02:=pr6.2 2 _ rfl
  have p03:=pr6.2 3 _ rfl
  have p04:=pr6.2 4 _ rfl
  have p05:=pr6.2 5 _ rfl
  have p06:=pr6.2 6 _ rfl
  have p07:=pr6.2 7 _ rfl
  have p08:=pr6.2 8 _ rfl
  have p09:=pr6.2 9 _ rfl
  have p10:=pr6.2 10 _ rfl
  have hS6:∀y,Lb W2.heap.size bs Y y->y<W6.heap.size:=by
    rintro y (e|⟨p,hp,rfl⟩|e)
    · rw[e];exact l6
    · exact Nat.lt_of_lt_of_le (hC.blkLt hp) a6.size
    · exact Nat.lt_of_lt_of_le (UR.y y e) (Nat.le_trans hC.kept.size a6.size)
  have hV6:FJ W6 (Lb W2.heap.size bs Y) x p0 k0 p7 k7:=((hV.adv g2 (fun _ _ h=>h.elim) (fun _ _ h=>h)).adv hC.kept (S':=Lb W2.heap.size bs Y) (fun _ _ h=>h.elim) (by
    rintro y hy (e|⟨p,hp,e⟩|e)
    · omega
    · have:=(hC.blk p hp).1;omega
    · exact e)).adv a6 (fun _ _ e=>.inl e) (fun _ _ h=>h)
  have hcp:∀W,Ce (fun _=>False) W6 W->Calls prog 31 #[.agg #[.slice p0 176 k0,.int .i64 x.ht,.int .u64 x.root,.int .u64 x.model,.int .i64 x.fmt,.bool x.sh,.int .u64 x.used,.slice p7 x.rg.length k7,.bool x.sus,.int .i64 x.since,.int .i64 x.last]] W fun e W'=>∃q0 l0 q7 l7,e=.returned (.agg #[.slice q0 176 l0,.int .i64 x.ht,.int .u64 x.root,.int .u64 x.model,.int .i64 x.fmt,.bool x.sh,.int .u64 x.used,.slice q7 x.rg.length l7,.bool x.sus,.int .i64 x.since,.int .i64 x.last])∧Ce (fun _=>False) W W'∧FJ W' (Lb W2.heap.size bs Y) x q0 l0 q7 l7:=fun W hW=>by
    have h:=Q8 (fun y hy=>Nat.lt_of_lt_of_le (hS6 y hy) hW.size) hx.1 (Nat.le_trans hx.2 (by omega)) (hV6.adv hW (fun _ _ h=>h.elim) (fun _ _ h=>h))
    simp only[So,Bb] at h
    exact h
  clear hW6 Lm gA nA hC3 GI PT
  have Dy:(n:Int)<(n:Int)+1:=by omega
  go_wp2
  go_region_law_o (first
    |(refine Rf rfl rfl rfl ngA Try.func31 rfl (by simp[Act.eval,Act.put]) (hcp _ ?hW) ?_
       case hW=>exact Ce.drew W6
       rintro e W4 ⟨q0,l0,q7,l7,he4,YJ,hV4⟩
       refine⟨_,he4,?_⟩
       have gA4:Ce (fun _=>False) W6 W4:=(Ce.drew W6).trans YJ (fun _ _ h=>h)
       have d24:=e2
       rw[←gA4.cell l6 (fun h=>h)] at d24
       have Bue:W2.heap.size<W4.heap.size:=Nat.lt_of_lt_of_le l6 gA4.size)
    |(have gn4:=Ce.new (E1.alloc W4 #[Value.slice q0 176 l0,.int .i64 x.ht,.int .u64 x.root,.int .u64 x.model,.int .i64 x.fmt,.bool x.sh,.int .u64 x.used,.slice q7 x.rg.length l7,.bool x.sus,.int .i64 x.since,.int .i64 x.last] 33)
       have hgw:=Dp.alloc W4 #[Value.slice q0 176 l0,.int .i64 x.ht,.int .u64 x.root,.int .u64 x.model,.int .i64 x.fmt,.bool x.sh,.int .u64 x.used,.slice q7 x.rg.length l7,.bool x.sus,.int .i64 x.since,.int .i64 x.last] 33
       have Lm:=Ai6 (vb:=W4.heap.size) (vc:=1) (vs:=So x q0 l0 q7 l7) rfl (Qo _ _ _ _ _) (fun j v hj=>by rw[hgw.cell j,List.getElem?_toArray];rw[So,Bb] at hj;exact hj)
       have hV5:=hV4.adv gn4 (fun _ _ h=>h.elim) (fun _ _ h=>h)
       have g5:=gA4.trans gn4 fun _ _ h=>h
       obtain⟨W5,hW5⟩:∃W5,W5=W4.alloc (.cells #[Value.slice q0 176 l0,.int .i64 x.ht,.int .u64 x.root,.int .u64 x.model,.int .i64 x.fmt,.bool x.sh,.int .u64 x.used,.slice q7 x.rg.length l7,.bool x.sus,.int .i64 x.since,.int .i64 x.last] 33):=⟨_,rfl⟩
       rw[←hW5] at Lm hV5 g5 ⊢
       obtain⟨G,hG⟩:∃G,G=grownCap W5 1 0 33:=⟨_,rfl⟩
       have hG1:1<=G:=by rw[hG];exact grownCap_ge W5 _ _ _
       rw[←hG] at Lm
       have row7:=Ai8 (S':=Lb W2.heap.size (bs++[(W5.heap.size,G)]) Y) (T:=33) hV5 hG1 (by
         rintro y hy (e|⟨p,hp,e⟩|e)
         · exact .inl e
         · rcases List.mem_append.1 hp with hp|hp
           · exact .inr (.inl ⟨p,hp,e⟩)
           · rw[List.mem_singleton] at hp
             subst hp
             exact absurd hy (by rw[←e];exact Nat.lt_irrefl _)
         · exact .inr (.inr e))
       have g7:=g5.trans (Ce.new (E1.allocD W5 ((So x q0 l0 q7 l7).toArray++Builtin.zeroCells Y0 (G-1)) 33)) fun _ _ h=>h
       obtain⟨W7,hW7⟩:∃W7,W7=W5.drew.alloc (.cells ((So x q0 l0 q7 l7).toArray++Builtin.zeroCells Y0 (G-1)) 33):=⟨_,rfl⟩
       rw[←hW7] at Lm row7 g7
       have d27:=e2
       rw[←g7.cell l6 (fun h=>h)] at d27
       have f27:=f6 (n*3+2)
       rw[←g7.frz l6 (fun h=>h)] at f27
       have hF:=hC.fresh (W7:=W7) (a:=⟨nm,us,[x]⟩) (κ:=W5.heap.size) (G:=G) (by omega) ((a6.trans g7 fun _ _ h=>h.elim)) ((g7.bs l6 (fun h=>h)).trans s6) (fun j=>(g7.frz l6 (fun h=>h)).trans (f6 j)) (fun j hj=>by rw[g7.cell l6 (fun h=>h)];exact cout j (by omega)) (by rw[g7.cell l6 (fun h=>h),CC];exact e0) (by rw[g7.cell l6 (fun h=>h),CC];exact e1) (Nat.le_trans a6.size g5.size) hG1 row7 UR.y
       rw[CC] at hF
       clear hW5 hW7 row7 hG
       refine Kq rfl _ _ 46 46 rfl _ _ (by simp[Act.eval,Act.put]) (by simp[Act.eval,Act.put]) (Lm _) ?_))
  all_goals go_wp2
  all_goals go_ret2
  all_goals
    have ht:=hF.tree (Y:=Y) UR.y (by simp;omega) (fun _ h=>h)
    have ea:Az (ls++[⟨nm,us,[x]⟩])=List.flatMap Cw.cells ls++Cw.cells ⟨nm,us,[x]⟩:=by unfold Az;rw[List.flatMap_append];simp
    rw[AK,CC,ea] at ht
    exact⟨_,rfl,g2.trans hF.kept (fun _ _ h=>h),ht⟩
end
section
open Go.Proofs.Try (prog)
open Go.IntKind (wrap)
open Go.RowKit Go.Lib
theorem Nq.put {w:World}{S:Nat->Prop}{b sz o:Nat}{cells cells' ps:List PV}{vs:List Value}(h:Nq w S b sz cells)(hS:S b)(hv:Ba (fun p v=>Mx p∧As w S p v) ps vs) (h1:∀v∈vs,v.oneCell'=true)(Aj0:o+ps.length<=sz)
  (Acf:∀(j:Nat) c,j<o->cells'[j]?=some c->cells[j]?=some c) (Bjd:∀j,j<ps.length->cells'[o+j]?=ps[j]?) (A51:∀(j:Nat) c,o+ps.length<=j->cells'[j]?=some c->cells[j]?=some c):Nq (w.setCells b o vs) S b sz cells':=by
 have g:=Bf.setCells b vs o w;have ga:=(Ce.wrote g).weak (E':=S) fun x _ e=>e ▸ hS
 have hl:=hv.len;refine⟨by rw[g.size];exact h.lt,g.bs.trans h.sz,fun j=>(g.frz j).trans (h.fz j),fun j c hj=>?_⟩
 rw[B8,Cm];by_cases Tf:j<o
 ·obtain⟨v,a1,a2,a3⟩:=h.rd j c (Acf j c Tf hj);rw[B8,Cm] at a1;refine⟨v,?_,a2,a3.step ga.st fun _ _ x=>x⟩
  rw[World.cell?_setCells_out b _ _ _ ⟨b,j,none⟩ (fun _ _=>.inl Tf)]
  exact a1
 ·by_cases RS:j<o+ps.length
  ·have hm:=Bjd (j-o) (by omega)
   rw[show o+(j-o)=j by omega,hj] at hm
   have hvj:vs[j-o]?=some (vs[j-o]'(by omega)):=List.getElem?_eq_getElem _
   have:=World.cell?_setCells_in b vs o w (fun t ht=>h.cellAt (by omega)) (j-o) (by omega)
   rw[show o+(j-o)=j by omega] at this
   exact⟨_,this,h1 _ (List.mem_of_getElem? hvj),(hv.at_ hm.symm hvj).2.step ga.st fun _ _ x=>x⟩
  ·obtain⟨v,a1,a2,a3⟩:=h.rd j c (A51 j c (by omega) hj)
   rw[B8,Cm] at a1;refine⟨v,?_,a2,a3.step ga.st fun _ _ x=>x⟩
   rw[World.cell?_setCells_out b _ _ _ ⟨b,j,none⟩ (fun _ _=>.inr (by show o+vs.length<=j;omega))]
   exact a1
theorem RA {l:List Sd}{k:Nat}{x:Sd}(hk:k<l.length){j:Nat}:(j<k*11∨k*11+11<=j->(Cg (l.set k x))[j]?=(Cg l)[j]?)∧(∀t,t<11->(Cg (l.set k x))[k*11+t]?=x.cells[t]?):=by
 have e1:Cg l=Cg (l.take k)++(Cg [l[k]]++Cg (l.drop (k+1))):=by
  unfold Cg;rw[←List.flatMap_append,←List.flatMap_append,List.singleton_append,List.getElem_cons_drop,List.take_append_drop]
 have e2:Cg (l.set k x)=Cg (l.take k)++(Cg [x]++Cg (l.drop (k+1))):=by
  rw[List.set_eq_take_append_cons_drop,J7 hk];unfold Cg;rw[List.flatMap_append,List.flatMap_cons];simp
 have l1:(Cg (l.take k)).length=k*11:=by rw[G6,List.length_take];omega
 have l2:∀y:Sd,(Cg [y]).length=11:=fun y=>G6 [y]
 rw[e1,e2];refine⟨fun h=>?_,fun t ht=>?_⟩
 ·by_cases hj:j<k*11
  ·rw[List.getElem?_append_left (by omega),List.getElem?_append_left (by omega)]
  ·have lx:=l2 x;have lk:=l2 l[k];rw[List.getElem?_append_right (by omega),List.getElem?_append_right (by omega),List.getElem?_append_right (by omega),List.getElem?_append_right (by omega),l2,l2]
 ·rw[List.getElem?_append_right (by omega),List.getElem?_append_left (by rw[l2];omega),l1,Nat.add_sub_cancel_left]
  have:Cg [x]=x.cells:=by simp[Cg]
  rw[this]
theorem X7.repl {w W:World}{Y:Nat->Prop}{B cap i k:Nat}{ls:List Cw}{bs:List (Nat × Nat)} {a:Cw}{bp:Nat × Nat}{x:Sd}{p0 p7:Option Addr}{k0 k7:Nat}(h:X7 w W Y B cap ls bs)(hi:ls[i]?=some a) (hb:bs[i]?=some bp) (hk:k<a.cr.length)
  (hV:FJ W (Lb B bs Y) x p0 k0 p7 k7):X7 w (W.setCells bp.1 (k*11) (So x p0 k0 p7 k7)) Y B cap (ls.set i { a with cr:=a.cr.set k x }) bs:=by
 have hbm:=List.mem_of_getElem? hb;have GK:¬B=bp.1:=fun e=>(h.blk bp hbm).2 e.symm
 have AA:Lb B bs Y bp.1:=.inr (.inl ⟨bp,hbm,rfl⟩);obtain⟨_,_,d2,d3⟩:=h.cell i a bp hi hb;have row:=h.row i a bp hi hb;have sg:=fun j=>RA (l:=a.cr) (x:=x) hk (j:=j)
 have row6:=row.put (cells':=Cg (a.cr.set k x)) (o:=k*11) AA (Xf hV) (Qo _ _ _ _ _) (by show k*11+11<=_;omega) (fun j c hj hc=>by rw[←(sg j).1 (.inl hj)];exact hc) (fun j hj=>(sg j).2 j hj) (fun j c hj hc=>by rw[←(sg j).1 (.inr hj)];exact hc)
 have g1:=Bf.setCells bp.1 (So x p0 k0 p7 k7) (k*11) W;have a1:=Ce.wrote g1;refine h.set (a':={ a with cr:=a.cr.set k x }) hi hb rfl rfl (by show (a.cr.set k x).length<=_;rw[List.length_set];exact d3) (a1.weak (E':=fun y=>y=B∨y=bp.1) fun y _ e=>.inr e) ((a1.bs h.lt GK).trans h.szB) (fun j=>(a1.frz h.lt GK).trans (h.fzB j)) (fun j hj=>a1.cell h.lt GK) ?_ row6
 rw[a1.cell h.lt GK,d2];show _=some (Value.slice _ (a.cr.set k x).length _);rw[List.length_set]
set_option maxHeartbeats 1000000 in
set_option maxRecDepth 100000 in
theorem Afi {w : World} {Y : Nat -> Prop} {ls : List Cw} {base : Option Addr} {n c i k : Nat} {a : Cw} {x : Sd} {nm : ByteArray} {p0 p7 : Option Addr} {k0 k7 : Nat} (hB : RW w Y ls n c base) (hV : FJ w Y x p0 k0 p7 k7) (hx : x.sm)
    (KT : ∀ W, Ce (fun _ => False) w W -> Calls prog 37 #[.slice base n c, .string nm, .slice p0 x.id.length k0] W fun e W' => e = .returned (.tuple #[.int .i64 i, .int .i64 k, .bool true]) ∧ Ce (fun _ => False) W W')
    (hi : ls[i]? = some a) (hk : k < a.cr.length) :
    Calls prog 18 #[.slice base n c, .string nm, .agg #[.slice p0 x.id.length k0, .int .i64 x.ht, .int .u64 x.root, .int .u64 x.model, .int .i64 x.fmt, .bool x.sh, .int .u64 x.used, .slice p7 x.rg.length k7, .bool x.sus, .int .i64 x.since, .int .i64 x.last]] w
      fun e w' => ∃ u, e = .returned (.tuple #[u, .int .i64 0]) ∧ Ce (fun _ => False) w w' ∧ As w' Y (.lst false 3 n (Az (ls.set i { a with cr := a.cr.set k x }))) u := by
  have mixed : prog.follows Departure.mixedOrders = true := by kernel_rfl
  have Uq := (List.getElem?_eq_some_iff.1 hi).1
  have CC := hB.nl
  have Ud : (i : Int) < (n : Int) := by omega
  have hk0 : (k : Int) < (a.cr.length : Int) := by omega
  go_enter Try.func18, Try.ntmps18
  go_wp2_with (go_at_call 37; refine (KT _ ?hO).mono ?_)
  case hO => exact Ce.new (E1.alloc _ _ _)
  have pr0 := Par.new w [Value.slice p0 x.id.length k0, .int .i64 x.ht, .int .u64 x.root, .int .u64 x.model, .int .i64 x.fmt, .bool x.sh, .int .u64 x.used, .slice p7 x.rg.length k7, .bool x.sus, .int .i64 x.since, .int .i64 x.last] 33
  intro e W1 he Yl
  subst he
  dsimp only
  have g1 := (Ce.new (E1.alloc w _ _)).trans Yl fun _ _ h => h
  have pr1 := pr0.adv Yl fun h => h
  have UR := hB.adv g1
  go_wp2_with (go_at_call 30; refine UR.copy.mono ?_)
  rintro e W3 ⟨bs, he, hC3⟩
  subst he
  dsimp only
  have hC := hC3.cop
  have pr3 := pr1.adv hC.kept fun h => h
  have ebi : bs[i]? = some (bs[i]'(by rw[hC.len]; exact Uq)) := List.getElem?_eq_getElem _
  obtain⟨bp, hbp⟩ : ∃ bp, bs[i]'(by rw[hC.len]; exact Uq) = bp := ⟨_, rfl⟩
  rw[hbp] at ebi
  obtain⟨_, _, d2, d3⟩ := hC.cell i a bp hi ebi
  obtain⟨κ, kc⟩ := bp
  obtain rfl : kc = a.cr.length + 1 := hC3.room i a _ hi ebi
  clear hbp
  dsimp only at d2
  have hS3 : ∀ y, Lb W1.heap.size bs Y y -> y < W3.heap.size := by
    rintro y (e | ⟨p, hp, rfl⟩ | e)
    · rw[e]; exact hC.lt
    · exact hC.blkLt hp
    · exact Nat.lt_of_lt_of_le (UR.y y e) hC.kept.size
  have hV3 : FJ W3 (Lb W1.heap.size bs Y) x p0 k0 p7 k7 := (hV.adv g1 (fun _ _ h => h.elim) (fun _ _ h => h)).adv hC.kept (fun _ _ h => h.elim) (by
    rintro y hy (e | ⟨p, hp, e⟩ | e)
    · omega
    · have := (hC.blk p hp).1; omega
    · exact e)
  have hcp : ∀ W, Ce (fun _ => False) W3 W -> Calls prog 31 #[.agg #[.slice p0 x.id.length k0, .int .i64 x.ht, .int .u64 x.root, .int .u64 x.model, .int .i64 x.fmt, .bool x.sh, .int .u64 x.used, .slice p7 x.rg.length k7, .bool x.sus, .int .i64 x.since, .int .i64 x.last]] W fun e W' => ∃ q0 l0 q7 l7, e = .returned (.agg #[.slice q0 x.id.length l0, .int .i64 x.ht, .int .u64 x.root, .int .u64 x.model, .int .i64 x.fmt, .bool x.sh, .int .u64 x.used, .slice q7 x.rg.length l7, .bool x.sus, .int .i64 x.since, .int .i64 x.last]) ∧ Ce (fun _ => False) W W' ∧ FJ W' (Lb W1.heap.size bs Y) x q0 l0 q7 l7 := fun W hW =>
    Q8 (fun y hy => Nat.lt_of_lt_of_le (hS3 y hy) hW.size) hx.1 (Nat.le_trans hx.2 (by omega)) (hV3.adv hW (fun _ _ h => h.elim) (fun _ _ h => h))
  have p00 := pr3.2 0 _ rfl
  have p01 := pr3.2 1 _ rfl
  have p02 := pr3.2 2 _ rfl
  have p03 := pr3.2 3 _ rfl
  have p04 := pr3.2 4 _ rfl
  have p05 := pr3.2 5 _ rfl
  have p06 := pr3.2 6 _ rfl
  have p07 := pr3.2 7 _ rfl
  have p08 := pr3.2 8 _ rfl
  have p09 := pr3.2 9 _ rfl
  have p10 := pr3.2 10 _ rfl
  have row3 := hC.row i a _ hi ebi
  dsimp only at row3
  have hyk : a.cr[k]? = some a.cr[k] := List.getElem?_eq_getElem hk
  obtain⟨y0, yk0, y7, yk7, hcy, _⟩ := PH row3.rd hyk
  simp only[Cm] at hcy
  clear KT hC3
  go_wp2
  go_region_law_o (refine Rf rfl rfl rfl ngA Try.func31 rfl (by simp[Act.eval, Act.put]) (hcp _ ?hW) ?_
                   case hW => exact Ce.drew W3
                   rintro e W4 ⟨q0, l0, q7, l7, he4, YJ, hV4⟩
                   refine⟨_, he4, ?_⟩
                   have gA4 : Ce (fun _ => False) W3 W4 := (Ce.drew W3).trans YJ (fun _ _ h => h)
                   have d24 := d2
                   rw[← gA4.cell hC.lt (fun h => h)] at d24
                   have hC4 := hC.adv gA4 (ex' := Y) (fun _ _ h => h.elim) (fun _ _ h => h)
                   have hR := hC4.repl hi ebi hk hV4
                   have f4 := (hC4.row i a _ hi ebi).fz
                   have BA : ∀ j v, (So a.cr[k] y0 yk0 y7 yk7)[j]? = some v -> W4.cell? ⟨κ, k * 11 + j, none⟩ = some v := fun j v hj => by rw[gA4.cell row3.lt (fun h => h)]; exact hcy j v hj
                   have y00 : W4.cell? ⟨κ, k * 11, none⟩ = _ := BA 0 _ rfl
                   have y01 := BA 1 _ rfl
                   have y02 := BA 2 _ rfl
                   have y03 := BA 3 _ rfl
                   have y04 := BA 4 _ rfl
                   have y05 := BA 5 _ rfl
                   have y06 := BA 6 _ rfl
                   have y07 := BA 7 _ rfl
                   have y08 := BA 8 _ rfl
                   have y09 := BA 9 _ rfl
                   have Fi := BA 10 _ rfl
                   clear BA)
  all_goals go_wp2
  all_goals go_ret2
  all_goals
    simp only[So, World.setCells, Nat.add_assoc, Nat.reduceAdd] at hR
    have ht := hR.tree (Y := Y) UR.y (by rw[List.length_set]; omega) (fun _ h => h)
    rw[List.length_set, CC] at ht
    exact⟨_, rfl, g1.trans hR.kept (fun _ _ h => h), ht⟩
end
end Go.Proofs.Ytcgfahlefkfghaa.Pv
