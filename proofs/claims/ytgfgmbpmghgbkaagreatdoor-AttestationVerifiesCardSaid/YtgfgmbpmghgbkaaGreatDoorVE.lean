/-
  The proof of AttestationVerifies, part 5.
-/
import Derived.Test.YtgfgmbpmghgbkaaGreatDoorVD
import Derived.Test.YtgfgmbpmghgbkaaGreatDoorRows
set_option linter.unusedSimpArgs false
namespace Go.Proofs.YtgfgmbpmghgbkaaGreatDoor.Pv
section
open Go.IntKind (wrap)
set_option maxRecDepth 100000
abbrev Nm:FuncId:=59
theorem Y1 (fu d:Nat)(a0 a1 a2:Int):Ae C0 Tryz.prog fu (d+1) Nm [.sc (.int .i64 a0),.sc (.int .i64 a1),.sc (.int .i64 a2)]=(fun (call:Ar)=>A4 (decide (a0>=a1)) (some (A0.mk [.sc (.bool (decide (a0<=a2)))] [])) (some (A0.mk [.sc (.bool false)] []))) (Ae C0 Tryz.prog fu d):=by kernel_rfl
abbrev O4:FuncId:=42
theorem AW (fu d:Nat)(a0:Int):Ae C0 Tryz.prog fu (d+1) O4 [.sc (.int .i64 a0)]=(fun (call:Ar)=>Aa (wrap .u64 a0) fun x1=>some (A0.mk [.agg [.sc (.int .i64 5),.sc (.int .u64 x1),.sc (.string (ByteArray.mk #[]))]] [])) (Ae C0 Tryz.prog fu d):=by kernel_rfl
abbrev Qc:FuncId:=70
theorem DO (fu d:Nat)(a0:ByteArray):Ae C0 Tryz.prog fu (d+1) Qc [.sc (.string a0)]=(fun (call:Ar)=>some (A0.mk [.agg [.sc (.int .i64 4),.sc (.int .u64 0),.sc (.string a0)]] [])) (Ae C0 Tryz.prog fu d):=by kernel_rfl
abbrev Ns:FuncId:=71
theorem Yi (fu d:Nat)(a0:Int):Ae C0 Tryz.prog fu (d+1) Ns [.sc (.int .u64 a0)]=(fun (call:Ar)=>some (A0.mk [.agg [.sc (.int .i64 1),.sc (.int .u64 a0),.sc (.string (ByteArray.mk #[]))]] [])) (Ae C0 Tryz.prog fu d):=by kernel_rfl
abbrev P9:FuncId:=72
theorem DP (fu d a0n:Nat)(a0:List PV):Ae C0 Tryz.prog fu (d+1) P9 [.lst false 1 a0n a0]=(fun (call:Ar)=>Ay (decide (a0.length=a0n))<|Fd (bytesOf a0) fun x1=>some (A0.mk [.agg [.sc (.int .i64 3),.sc (.int .u64 0),.sc (.string (ByteArray.mk (List.toArray x1)))]] [])) (Ae C0 Tryz.prog fu d):=by kernel_rfl
abbrev Ml:FuncId:=73
theorem Ww (fu d:Nat)(a0:Bool):Ae C0 Tryz.prog fu (d+1) Ml [.sc (.bool a0)]=(fun (call:Ar)=>A4 (a0) (some (A0.mk [.agg [.sc (.int .i64 7),.sc (.int .u64 1),.sc (.string (ByteArray.mk #[]))]] [])) (some (A0.mk [.agg [.sc (.int .i64 7),.sc (.int .u64 0),.sc (.string (ByteArray.mk #[]))]] []))) (Ae C0 Tryz.prog fu d):=by kernel_rfl
abbrev Po:FuncId:=69
noncomputable def Gs (fu:Nat)(call:Ar)(a0n:Nat)(a0:List PV)(nn y0:Nat)(y1:List PV)(y2:Nat)(y3:Int)(y4:List PV):Option A0:=Cz C0 Tryz.prog fu call 69 Tryz.f69 (B9 Tryz.f69) [.lst false 3 a0n a0] [.r,.r,.l,.r,.l] nn ⟨lk [(0,(.lst false 3 y0 y1)),(3,(.view 3 1 0 y2)),(4,(.sc (.int .i64 y3)))],Gl [(3,(.ar false y4))]⟩
theorem L5 (fu:Nat)(call:Ar)(a0n:Nat)(a0:List PV)(nn y0:Nat)(y1:List PV)(y2:Nat)(y3:Int)(y4:List PV):Gs fu call a0n a0 (nn+1) y0 y1 y2 y3 y4=(A4 (decide (y3<(↑y0:Int))) (Ay (decide (0<=y3)&&decide (y3<(↑y0:Int)))<|Af .i64 (List.getD y1 (Int.toNat y3*3) .top) fun x1=>Af .u64 (List.getD y1 (Int.toNat y3*3+1) .top) fun x2=>Co (List.getD y1 (Int.toNat y3*3+1+1) .top) fun x3=>Aj (call 97 [.agg [.sc (.int .i64 x1),.sc (.int .u64 x2),.sc (.string x3)]]) fun x4 x5=>Ac x5<|Ab x4 fun x6 x7=>Co x6 fun x8=>Ac x7<|Ay (decide (y2*1<=y4.length)&&decide (List.length (Ct x8)=ByteArray.size x8*1)&&decide ((y2+ByteArray.size x8)*1<=1099511627776)&&decide (y2+ByteArray.size x8<=1099511627776))<|Aa (y2+ByteArray.size x8) fun x9=>Aa (List.take (y2*1) y4++Ct x8) fun Ck=>Aa (wrap .i64 (y3+1)) fun Bn=>Gs fu call a0n a0 (nn) (y0) (y1) x9 Bn Ck) (Ay (decide (y2*1<=y4.length))<|some (A0.mk [.own 1 y2 (List.take (y2*1) y4)] []))):=by kernel_rfl
theorem AR (fu d a0n:Nat)(a0:List PV):Ae C0 Tryz.prog fu (d+1) Po [.lst false 3 a0n a0]=(fun (call:Ar)=>Gs fu call a0n a0 (fu) (a0n) (a0) 0 0 ([])) (Ae C0 Tryz.prog fu d):=by kernel_rfl
abbrev Qm:FuncId:=45
theorem CZ (fu d:Nat)(a0_0 a0_1:ByteArray)(a0_2 a0_3:Int)(a0_4 a0_5 a0_6:Int)(a0_7:Bool)(a0_8 a0_9 a0_10:Int)(a0_11n:Nat)(a0_11:List PV)(a0_12n:Nat)(a0_12:List PV):Ae C0 Tryz.prog fu (d+1) Qm [.agg [.sc (.string a0_0),.sc (.string a0_1),.sc (.int .u64 a0_2),.sc (.int .i64 a0_3),.sc (.int .u64 a0_4),.sc (.int .i64 a0_5),.sc (.int .i64 a0_6),.sc (.bool a0_7),.sc (.int .i64 a0_8),.sc (.int .u64 a0_9),.sc (.int .i64 a0_10),.lst false 1 a0_11n a0_11,.lst false 1 a0_12n a0_12]]=(fun (call:Ar)=>Aj (call 59 [.sc (.int .i64 (↑(ByteArray.size a0_0):Int)),.sc (.int .i64 1),.sc (.int .i64 32)]) fun x1 x2=>Ac x2<|Ab x1 fun x3 x4=>Bx x3 fun x5=>Ac x4<|A4 (!x5) (some (A0.mk [.own 1 0 [],.sc (.int .i64 9)] [])) (Aj (call 59 [.sc (.int .i64 (↑(ByteArray.size a0_1):Int)),.sc (.int .i64 1),.sc (.int .i64 32)]) fun x6 x7=>Ac x7<|Ab x6 fun x8 x9=>Bx x8 fun Ck=>Ac x9<|A4 (!Ck) (some (A0.mk [.own 1 0 [],.sc (.int .i64 9)] [])) (Aj (call 67 [.sc (.string a0_0)]) fun Bn Cw=>Ac Cw<|Ab Bn fun Da Cq=>Bx Da fun Cy=>Ac Cq<|A4 (!Cy) (some (A0.mk [.own 1 0 [],.sc (.int .i64 6)] [])) (Aj (call 67 [.sc (.string a0_1)]) fun Db Dq=>Ac Dq<|Ab Db fun D2 D0=>Bx D2 fun D9=>Ac D0<|A4 (!D9) (some (A0.mk [.own 1 0 [],.sc (.int .i64 6)] [])) (Aj (call 68 [.agg [.sc (.int .i64 a0_3),.sc (.int .u64 a0_4)]]) fun Fj Cn=>Ac Cn<|Ab Fj fun Fn Dj=>Dc 1 Fn fun B3 Et=>Ab Dj fun F1 Bm=>Af .i64 F1 fun Cj=>Ac Bm<|A4 (Cj != 0) (some (A0.mk [.own 1 0 [],.sc (.int .i64 Cj)] [])) (A4 (decide (a0_5<0)) (some (A0.mk [.own 1 0 [],.sc (.int .i64 9)] [])) (A4 (decide (a0_6<a0_5)) (some (A0.mk [.own 1 0 [],.sc (.int .i64 9)] [])) (A4 (decide (a0_6>1099511627776)) (some (A0.mk [.own 1 0 [],.sc (.int .i64 9)] [])) (Aj (call 59 [.sc (.int .i64 a0_8),.sc (.int .i64 0),.sc (.int .i64 2)]) fun Gt Gu=>Ac Gu<|Ab Gt fun Hz Ha=>Bx Hz fun Il=>Ac Ha<|A4 (!Il) (some (A0.mk [.own 1 0 [],.sc (.int .i64 9)] [])) (A4 (a0_8 != 0) (A4 (!a0_7) (some (A0.mk [.own 1 0 [],.sc (.int .i64 4)] [])) (Aj (call 42 [.sc (.int .i64 9)]) fun G4 Ir=>Ac Ir<|Ab G4 fun Kr F0=>C2 Kr fun H2=>Ab H2 fun Nc Ot=>Af .i64 Nc fun Kc=>Ab Ot fun J5 Nk=>Af .u64 J5 fun Md=>Ab Nk fun Oo Py=>Co Oo fun Pw=>Ac Py<|Ac F0<|Aj (call 70 [.sc (.string a0_0)]) fun Ox Rb=>Ac Rb<|Ab Ox fun Q5 Q0=>C2 Q5 fun Ks=>Ab Ks fun S9 Ql=>Af .i64 S9 fun Ru=>Ab Ql fun Nz Pz=>Af .u64 Nz fun Q9=>Ab Pz fun Rk Pr=>Co Rk fun Te=>Ac Pr<|Ac Q0<|Aj (call 70 [.sc (.string a0_1)]) fun Uv S7=>Ac S7<|Ab Uv fun Rz Ro=>C2 Rz fun Q7=>Ab Q7 fun Vv Tn=>Af .i64 Vv fun S5=>Ab Tn fun Tj Uz=>Af .u64 Tj fun Tm=>Ab Uz fun S8 Rr=>Co S8 fun Vg=>Ac Rr<|Ac Ro<|Aj (call 71 [.sc (.int .u64 a0_2)]) fun T0 Vl=>Ac Vl<|Ab T0 fun W8 Wv=>C2 W8 fun Yq=>Ab Yq fun Wu X5=>Af .i64 Wu fun Xq=>Ab X5 fun Y5 Z3=>Af .u64 Y5 fun AL=>Ab Z3 fun Re S6=>Co Re fun Uc=>Ac S6<|Ac Wv<|Ay (decide (0+B3*1<=Et.length))<|Aj (call 72 [.lst false 1 B3 (List.take (B3*1) (List.drop 0 Et))]) fun GO DV=>Ac DV<|Ab GO fun FL JV=>C2 FL fun MP=>Ab MP fun OZ NC=>Af .i64 OZ fun OC=>Ab NC fun NL S0=>Af .u64 NL fun Px=>Ab S0 fun Gw Iz=>Co Gw fun Vh=>Ac Iz<|Ac JV<|Aa (wrap .u64 a0_5) fun P6=>Aj (call 71 [.sc (.int .u64 P6)]) fun Oh J9=>Ac J9<|Ab Oh fun Vk Xx=>C2 Vk fun Ve=>Ab Ve fun Vj Ig=>Af .i64 Vj fun Ko=>Ab Ig fun Zp Y8=>Af .u64 Zp fun M8=>Ab Y8 fun Q6 Zn=>Co Q6 fun Xh=>Ac Zn<|Ac Xx<|Aa (wrap .u64 a0_6) fun Ym=>Aj (call 71 [.sc (.int .u64 Ym)]) fun Yz AG=>Ac AG<|Ab Yz fun Yy Zb=>C2 Yy fun Yg=>Ab Yg fun P5 U0=>Af .i64 P5 fun Zx=>Ab U0 fun Zz Xo=>Af .u64 Zz fun FZ=>Ab Xo fun Yu W1=>Co Yu fun Z5=>Ac W1<|Ac Zb<|Aj (call 73 [.sc (.bool a0_7)]) fun GB EM=>Ac EM<|Ab GB fun FM GI=>C2 FM fun Xd=>Ab Xd fun Ys BD=>Af .i64 Ys fun DG=>Ab BD fun FC AM=>Af .u64 FC fun V3=>Ab AM fun Yr DN=>Co Yr fun GK=>Ac DN<|Ac GI<|Aa (wrap .u64 a0_8) fun OA=>Aj (call 71 [.sc (.int .u64 OA)]) fun OT LH=>Ac LH<|Ab OT fun Z2 FI=>C2 Z2 fun GC=>Ab GC fun GQ MB=>Af .i64 GQ fun GT=>Ab MB fun IJ HQ=>Af .u64 IJ fun LJ=>Ab HQ fun KY JM=>Co KY fun KG=>Ac JM<|Ac FI<|Aj (call 71 [.sc (.int .u64 a0_9)]) fun EK IC=>Ac IC<|Ab EK fun OK FR=>C2 OK fun HN=>Ab HN fun EN GM=>Af .i64 EN fun KU=>Ab GM fun QA KD=>Af .u64 QA fun OS=>Ab KD fun JG HO=>Co JG fun PQ=>Ac HO<|Ac FR<|Aj (call 69 [.lst false 3 10 [.sc (.int .i64 Kc),.sc (.int .u64 Md),.sc (.string Pw),.sc (.int .i64 Ru),.sc (.int .u64 Q9),.sc (.string Te),.sc (.int .i64 S5),.sc (.int .u64 Tm),.sc (.string Vg),.sc (.int .i64 Xq),.sc (.int .u64 AL),.sc (.string Uc),.sc (.int .i64 OC),.sc (.int .u64 Px),.sc (.string Vh),.sc (.int .i64 Ko),.sc (.int .u64 M8),.sc (.string Xh),.sc (.int .i64 Zx),.sc (.int .u64 FZ),.sc (.string Z5),.sc (.int .i64 DG),.sc (.int .u64 V3),.sc (.string GK),.sc (.int .i64 GT),.sc (.int .u64 LJ),.sc (.string KG),.sc (.int .i64 KU),.sc (.int .u64 OS),.sc (.string PQ)]]) fun HB OE=>Ac OE<|Ab HB fun Acx EI=>Dc 1 Acx fun W2 QY=>Ac EI<|Ay (decide (W2*1<=QY.length))<|some (A0.mk [.own 1 W2 (List.take (W2*1) QY),.sc (.int .i64 0)] []))) (Aj (call 42 [.sc (.int .i64 9)]) fun XZ Ac2=>Ac Ac2<|Ab XZ fun Abo YC=>C2 Abo fun YQ=>Ab YQ fun XN XE=>Af .i64 XN fun PX=>Ab XE fun YS Aeb=>Af .u64 YS fun Afj=>Ab Aeb fun XY Aar=>Co XY fun Adr=>Ac Aar<|Ac YC<|Aj (call 70 [.sc (.string a0_0)]) fun Adm Aet=>Ac Aet<|Ab Adm fun Ag9 QP=>C2 Ag9 fun NW=>Ab NW fun Aag Aid=>Af .i64 Aag fun Ab8=>Ab Aid fun Alk Aan=>Af .u64 Alk fun Afa=>Ab Aan fun Anl Amo=>Co Anl fun Akx=>Ac Amo<|Ac QP<|Aj (call 70 [.sc (.string a0_1)]) fun Anw An0=>Ac An0<|Ab Anw fun Aoe Air=>C2 Aoe fun Am8=>Ab Am8 fun Aln Aom=>Af .i64 Aln fun Amd=>Ab Aom fun Ah1 Alz=>Af .u64 Ah1 fun Akw=>Ab Alz fun Aje Aji=>Co Aje fun Ane=>Ac Aji<|Ac Air<|Aj (call 71 [.sc (.int .u64 a0_2)]) fun Aa5 Afc=>Ac Afc<|Ab Aa5 fun Ak3 Apk=>C2 Ak3 fun Aqu=>Ab Aqu fun Asq Ari=>Af .i64 Asq fun Aso=>Ab Ari fun Atx Arp=>Af .u64 Atx fun Asg=>Ab Arp fun Aq1 Asj=>Co Aq1 fun As2=>Ac Asj<|Ac Apk<|Ay (decide (0+B3*1<=Et.length))<|Aj (call 72 [.lst false 1 B3 (List.take (B3*1) (List.drop 0 Et))]) fun Asx As4=>Ac As4<|Ab Asx fun Asd Aqv=>C2 Asd fun Ar4=>Ab Ar4 fun Ast Asb=>Af .i64 Ast fun Asf=>Ab Asb fun Arv Ar1=>Af .u64 Arv fun Ar7=>Ab Ar1 fun Ash Ar9=>Co Ash fun Asz=>Ac Ar9<|Ac Aqv<|Aa (wrap .u64 a0_5) fun Al2=>Aj (call 71 [.sc (.int .u64 Al2)]) fun Aru Art=>Ac Art<|Ab Aru fun Aqx Aq0=>C2 Aqx fun Ate=>Ab Ate fun Ato Atf=>Af .i64 Ato fun Aq6=>Ab Atf fun As1 Atw=>Af .u64 As1 fun Aoj=>Ab Atw fun Aq8 Aq9=>Co Aq8 fun Aq7=>Ac Aq9<|Ac Aq0<|Aa (wrap .u64 a0_6) fun Asl=>Aj (call 71 [.sc (.int .u64 Asl)]) fun Aq3 Asr=>Ac Asr<|Ab Aq3 fun Arx Arr=>C2 Arx fun Arf=>Ab Arf fun Aq2 Ase=>Af .i64 Aq2 fun Aqt=>Ab Ase fun Aq4 Aqy=>Af .u64 Aq4 fun Arm=>Ab Aqy fun Arw Ar3=>Co Arw fun Arc=>Ac Ar3<|Ac Arr<|Aj (call 73 [.sc (.bool a0_7)]) fun Arq Asp=>Ac Asp<|Ab Arq fun Ar8 As5=>C2 Ar8 fun Ard=>Ab Ard fun Ara Asv=>Af .i64 Ara fun Ask=>Ab Asv fun Asm Arz=>Af .u64 Asm fun Aqz=>Ab Arz fun Aro Auv=>Co Aro fun Ava=>Ac Auv<|Ac As5<|Aa (wrap .u64 a0_8) fun Auw=>Aj (call 71 [.sc (.int .u64 Auw)]) fun Aun Auf=>Ac Auf<|Ab Aun fun Auj Au4=>C2 Auj fun Aua=>Ab Aua fun Au9 Aut=>Af .i64 Au9 fun Ave=>Ab Aut fun Au0 Avk=>Af .u64 Au0 fun Aud=>Ab Avk fun Avi Auk=>Co Avi fun Auh=>Ac Auk<|Ac Au4<|Aj (call 71 [.sc (.int .u64 a0_9)]) fun At8 Auc=>Ac Auc<|Ab At8 fun Aup At9=>C2 Aup fun Avf=>Ab Avf fun Avh Avc=>Af .i64 Avh fun Avj=>Ab Avc fun Aux Au5=>Af .u64 Aux fun Au1=>Ab Au5 fun Aus Avd=>Co Aus fun Aui=>Ac Avd<|Ac At9<|Aj (call 69 [.lst false 3 10 [.sc (.int .i64 PX),.sc (.int .u64 Afj),.sc (.string Adr),.sc (.int .i64 Ab8),.sc (.int .u64 Afa),.sc (.string Akx),.sc (.int .i64 Amd),.sc (.int .u64 Akw),.sc (.string Ane),.sc (.int .i64 Aso),.sc (.int .u64 Asg),.sc (.string As2),.sc (.int .i64 Asf),.sc (.int .u64 Ar7),.sc (.string Asz),.sc (.int .i64 Aq6),.sc (.int .u64 Aoj),.sc (.string Aq7),.sc (.int .i64 Aqt),.sc (.int .u64 Arm),.sc (.string Arc),.sc (.int .i64 Ask),.sc (.int .u64 Aqz),.sc (.string Ava),.sc (.int .i64 Ave),.sc (.int .u64 Aud),.sc (.string Auh),.sc (.int .i64 Avj),.sc (.int .u64 Au1),.sc (.string Aui)]]) fun Auy Auo=>Ac Auo<|Ab Auy fun Aug Au6=>Dc 1 Aug fun Ary Atg=>Ac Au6<|Ay (decide (Ary*1<=Atg.length))<|some (A0.mk [.own 1 Ary (List.take (Ary*1) Atg),.sc (.int .i64 0)] [])))))))))))) (Ae C0 Tryz.prog fu d):=by kernel_rfl
abbrev Qh:FuncId:=78
theorem CR (fu d:Nat)(a0_0 a0_1:ByteArray)(a0_2 a0_3:Int)(a0_4 a0_5 a0_6:Int)(a0_7:Bool)(a0_8 a0_9 a0_10:Int)(a0_11n:Nat)(a0_11:List PV)(a0_12n:Nat)(a0_12:List PV)(a1 a2 a3:Int):Ae C0 Tryz.prog fu (d+1) Qh [.agg [.sc (.string a0_0),.sc (.string a0_1),.sc (.int .u64 a0_2),.sc (.int .i64 a0_3),.sc (.int .u64 a0_4),.sc (.int .i64 a0_5),.sc (.int .i64 a0_6),.sc (.bool a0_7),.sc (.int .i64 a0_8),.sc (.int .u64 a0_9),.sc (.int .i64 a0_10),.lst false 1 a0_11n a0_11,.lst false 1 a0_12n a0_12],.sc (.int .u64 a1),.sc (.int .i64 a2),.sc (.int .i64 a3)]=(fun (call:Ar)=>Aj (call 45 [.agg [.sc (.string a0_0),.sc (.string a0_1),.sc (.int .u64 a0_2),.sc (.int .i64 a0_3),.sc (.int .u64 a0_4),.sc (.int .i64 a0_5),.sc (.int .i64 a0_6),.sc (.bool a0_7),.sc (.int .i64 a0_8),.sc (.int .u64 a0_9),.sc (.int .i64 a0_10),.lst false 1 a0_11n a0_11,.lst false 1 a0_12n a0_12]]) fun x1 x2=>Ac x2<|Ab x1 fun x3 x4=>Dc 1 x3 fun x5 x6=>Ab x4 fun x7 x8=>Af .i64 x7 fun x9=>Ac x8<|A4 (x9 != 0) (some (A0.mk [.agg [.sc (.string (ByteArray.mk #[])),.sc (.string (ByteArray.mk #[])),.sc (.int .u64 0),.sc (.int .i64 0),.sc (.int .u64 0),.sc (.int .i64 0),.sc (.int .i64 0),.sc (.bool false),.sc (.int .i64 0),.sc (.int .u64 0),.sc (.int .i64 0),.lst false 1 0 [],.lst false 1 0 []],.sc (.int .i64 x9)] [])) (Ay (decide (0+x5*1<=x6.length))<|Aj (call 46 [.sc (.int .i64 14),.lst false 1 x5 (List.take (x5*1) (List.drop 0 x6))]) fun Ck Bn=>Ac Bn<|Ab Ck fun Cw Da=>Af .u64 Cw fun Cq=>Ac Da<|Aj (call 17 [.sc (.int .u64 a1),.sc (.int .i64 a2),.sc (.int .i64 a3),.sc (.int .u64 Cq)]) fun Cy Db=>Ac Db<|Ab Cy fun Dq D2=>C2 Dq fun D0=>Ab D0 fun D9 Fj=>Af .i64 D9 fun Cn=>Ab Fj fun Fn Dj=>Dc 1 Fn fun B3 Et=>Ab Dj fun F1 Bm=>Dc 1 F1 fun Cj Gt=>Ac Bm<|Ab D2 fun Gu Hz=>Af .i64 Gu fun Ha=>Ac Hz<|A4 (Ha != 0) (some (A0.mk [.agg [.sc (.string (ByteArray.mk #[])),.sc (.string (ByteArray.mk #[])),.sc (.int .u64 0),.sc (.int .i64 0),.sc (.int .u64 0),.sc (.int .i64 0),.sc (.int .i64 0),.sc (.bool false),.sc (.int .i64 0),.sc (.int .u64 0),.sc (.int .i64 0),.lst false 1 0 [],.lst false 1 0 []],.sc (.int .i64 Ha)] [])) (Ay (decide (0+B3*1<=Et.length))<|Ay (decide (0+Cj*1<=Gt.length))<|some (A0.mk [.agg [.sc (.string a0_0),.sc (.string a0_1),.sc (.int .u64 a0_2),.sc (.int .i64 a0_3),.sc (.int .u64 a0_4),.sc (.int .i64 a0_5),.sc (.int .i64 a0_6),.sc (.bool a0_7),.sc (.int .i64 a0_8),.sc (.int .u64 a0_9),.sc (.int .i64 Cn),.lst false 1 B3 (List.take (B3*1) (List.drop 0 Et)),.lst false 1 Cj (List.take (Cj*1) (List.drop 0 Gt))],.sc (.int .i64 0)] [])))) (Ae C0 Tryz.prog fu d):=by kernel_rfl
abbrev Na:FuncId:=22
theorem Yt (fu d:Nat)(a0_0 a0_1:ByteArray)(a0_2 a0_3:Int)(a0_4 a0_5 a0_6:Int)(a0_7:Bool)(a0_8 a0_9 a0_10:Int)(a0_11n:Nat)(a0_11:List PV)(a0_12n:Nat)(a0_12:List PV)(a1_0 a1_1:Int):Ae C0 Tryz.prog fu (d+1) Na [.agg [.sc (.string a0_0),.sc (.string a0_1),.sc (.int .u64 a0_2),.sc (.int .i64 a0_3),.sc (.int .u64 a0_4),.sc (.int .i64 a0_5),.sc (.int .i64 a0_6),.sc (.bool a0_7),.sc (.int .i64 a0_8),.sc (.int .u64 a0_9),.sc (.int .i64 a0_10),.lst false 1 a0_11n a0_11,.lst false 1 a0_12n a0_12],.agg [.sc (.int .i64 a1_0),.sc (.int .u64 a1_1)]]=(fun (call:Ar)=>Aj (call 45 [.agg [.sc (.string a0_0),.sc (.string a0_1),.sc (.int .u64 a0_2),.sc (.int .i64 a0_3),.sc (.int .u64 a0_4),.sc (.int .i64 a0_5),.sc (.int .i64 a0_6),.sc (.bool a0_7),.sc (.int .i64 a0_8),.sc (.int .u64 a0_9),.sc (.int .i64 a0_10),.lst false 1 a0_11n a0_11,.lst false 1 a0_12n a0_12]]) fun x1 x2=>Ac x2<|Ab x1 fun x3 x4=>Dc 1 x3 fun x5 x6=>Ab x4 fun x7 x8=>Af .i64 x7 fun x9=>Ac x8<|A4 (x9 != 0) (some (A0.mk [.sc (.int .i64 x9)] [])) (Ay (decide (0+x5*1<=x6.length))<|Aj (call 46 [.sc (.int .i64 14),.lst false 1 x5 (List.take (x5*1) (List.drop 0 x6))]) fun Ck Bn=>Ac Bn<|Ab Ck fun Cw Da=>Af .u64 Cw fun Cq=>Ac Da<|Aj (call 19 [.agg [.sc (.int .i64 a1_0),.sc (.int .u64 a1_1)],.sc (.int .u64 Cq),.agg [.sc (.int .i64 a0_10),.lst false 1 a0_11n a0_11,.lst false 1 a0_12n a0_12]]) fun Cy Db=>Ac Db<|Ab Cy fun Dq D2=>Af .i64 Dq fun D0=>Ac D2<|some (A0.mk [.sc (.int .i64 D0)] []))) (Ae C0 Tryz.prog fu d):=by kernel_rfl
abbrev Ny:FuncId:=44
theorem Yl (fu d:Nat)(a0_0 a0_1:ByteArray)(a0_2 a0_3:Int)(a0_4 a0_5 a0_6:Int)(a0_7:Bool)(a0_8 a0_9 a0_10:Int)(a0_11n:Nat)(a0_11:List PV)(a0_12n:Nat)(a0_12:List PV):Ae C0 Tryz.prog fu (d+1) Ny [.agg [.sc (.string a0_0),.sc (.string a0_1),.sc (.int .u64 a0_2),.sc (.int .i64 a0_3),.sc (.int .u64 a0_4),.sc (.int .i64 a0_5),.sc (.int .i64 a0_6),.sc (.bool a0_7),.sc (.int .i64 a0_8),.sc (.int .u64 a0_9),.sc (.int .i64 a0_10),.lst false 1 a0_11n a0_11,.lst false 1 a0_12n a0_12]]=(fun (call:Ar)=>Aj (call 45 [.agg [.sc (.string a0_0),.sc (.string a0_1),.sc (.int .u64 a0_2),.sc (.int .i64 a0_3),.sc (.int .u64 a0_4),.sc (.int .i64 a0_5),.sc (.int .i64 a0_6),.sc (.bool a0_7),.sc (.int .i64 a0_8),.sc (.int .u64 a0_9),.sc (.int .i64 a0_10),.lst false 1 a0_11n a0_11,.lst false 1 a0_12n a0_12]]) fun x1 x2=>Ac x2<|Ab x1 fun x3 x4=>Dc 1 x3 fun x5 x6=>Ab x4 fun x7 x8=>Af .i64 x7 fun x9=>Ac x8<|A4 (x9 != 0) (some (A0.mk [.own 1 0 [],.sc (.int .i64 x9)] [])) (Aj (call 18 [.agg [.sc (.int .i64 a0_10),.lst false 1 a0_11n a0_11,.lst false 1 a0_12n a0_12]]) fun Ck Bn=>Ac Bn<|Ab Ck fun Cw Da=>Dc 1 Cw fun Cq Cy=>Ab Da fun Db Dq=>Af .i64 Db fun D2=>Ac Dq<|A4 (D2 != 0) (some (A0.mk [.own 1 0 [],.sc (.int .i64 D2)] [])) (Ay (decide (0+Cq*1<=Cy.length))<|Ay (decide (x5*1<=x6.length)&&decide (List.length (List.take (Cq*1) (List.drop 0 Cy))=Cq*1)&&decide ((x5+Cq)*1<=1099511627776)&&decide (x5+Cq<=1099511627776))<|Aa (x5+Cq) fun D0=>Aa (List.take (x5*1) x6++List.take (Cq*1) (List.drop 0 Cy)) fun D9=>Ay (decide (D0*1<=D9.length))<|some (A0.mk [.own 1 D0 (List.take (D0*1) D9),.sc (.int .i64 0)] [])))) (Ae C0 Tryz.prog fu d):=by kernel_rfl
abbrev Io:FuncId:=21
theorem Yv (fu d a0n:Nat)(a0:List PV):Ae C0 Tryz.prog fu (d+1) Io [.lst false 1 a0n a0]=(fun (call:Ar)=>A4 (decide ((↑a0n:Int)>512)) (some (A0.mk [.agg [.sc (.string (ByteArray.mk #[])),.sc (.string (ByteArray.mk #[])),.sc (.int .u64 0),.sc (.int .i64 0),.sc (.int .u64 0),.sc (.int .i64 0),.sc (.int .i64 0),.sc (.bool false),.sc (.int .i64 0),.sc (.int .u64 0),.sc (.int .i64 0),.lst false 1 0 [],.lst false 1 0 []],.sc (.int .i64 8)] [])) (Aj (call 41 [.lst false 1 a0n a0]) fun x1 x2=>Ac x2<|Ab x1 fun x3 x4=>Dc 3 x3 fun x5 x6=>Ab x4 fun x7 x8=>Af .i64 x7 fun x9=>Ab x8 fun Ck Bn=>Af .i64 Ck fun Cw=>Ac Bn<|A4 (Cw != 0) (some (A0.mk [.agg [.sc (.string (ByteArray.mk #[])),.sc (.string (ByteArray.mk #[])),.sc (.int .u64 0),.sc (.int .i64 0),.sc (.int .u64 0),.sc (.int .i64 0),.sc (.int .i64 0),.sc (.bool false),.sc (.int .i64 0),.sc (.int .u64 0),.sc (.int .i64 0),.lst false 1 0 [],.lst false 1 0 []],.sc (.int .i64 2)] [])) (A4 ((↑x5:Int) != 10) (some (A0.mk [.agg [.sc (.string (ByteArray.mk #[])),.sc (.string (ByteArray.mk #[])),.sc (.int .u64 0),.sc (.int .i64 0),.sc (.int .u64 0),.sc (.int .i64 0),.sc (.int .i64 0),.sc (.bool false),.sc (.int .i64 0),.sc (.int .u64 0),.sc (.int .i64 0),.lst false 1 0 [],.lst false 1 0 []],.sc (.int .i64 2)] [])) (Ay (decide (0<(↑x5:Int)))<|Af .i64 (List.getD x6 0 .top) fun Da=>Af .u64 (List.getD x6 1 .top) fun Cq=>Co (List.getD x6 2 .top) fun Cy=>Aj (call 42 [.sc (.int .i64 9)]) fun Db Dq=>Ac Dq<|Ab Db fun D2 D0=>C2 D2 fun D9=>Ab D9 fun Fj Cn=>Af .i64 Fj fun Fn=>Ab Cn fun Dj B3=>Af .u64 Dj fun Et=>Ab B3 fun F1 Bm=>Co F1 fun Cj=>Ac Bm<|Ac D0<|A4 (!(Da==Fn&&(Cq==Et&&(Cy==Cj&&true)))) (some (A0.mk [.agg [.sc (.string (ByteArray.mk #[])),.sc (.string (ByteArray.mk #[])),.sc (.int .u64 0),.sc (.int .i64 0),.sc (.int .u64 0),.sc (.int .i64 0),.sc (.int .i64 0),.sc (.bool false),.sc (.int .i64 0),.sc (.int .u64 0),.sc (.int .i64 0),.lst false 1 0 [],.lst false 1 0 []],.sc (.int .i64 2)] [])) (Ay (decide (4<(↑x5:Int)))<|Co (List.getD x6 14 .top) fun Gt=>Ay (decide (ByteArray.size Gt<=1099511627776))<|Ay (decide (0+ByteArray.size Gt*1<=List.length (Ct Gt)))<|Aj (call 43 [.lst false 1 (ByteArray.size Gt) (List.take (ByteArray.size Gt*1) (List.drop 0 (Ct Gt)))]) fun Gu Hz=>Ac Hz<|Ab Gu fun Ha Il=>C2 Ha fun G4=>Ab G4 fun Ir Kr=>Af .i64 Ir fun F0=>Ab Kr fun H2 Nc=>Af .u64 H2 fun Ot=>Ac Nc<|Ab Il fun Kc J5=>Af .i64 Kc fun Nk=>Ac J5<|A4 (Nk != 0) (some (A0.mk [.agg [.sc (.string (ByteArray.mk #[])),.sc (.string (ByteArray.mk #[])),.sc (.int .u64 0),.sc (.int .i64 0),.sc (.int .u64 0),.sc (.int .i64 0),.sc (.int .i64 0),.sc (.bool false),.sc (.int .i64 0),.sc (.int .u64 0),.sc (.int .i64 0),.lst false 1 0 [],.lst false 1 0 []],.sc (.int .i64 2)] [])) (Ay (decide (0<=x9))<|Ay (decide (Int.toNat x9<=a0n)&&decide (a0n<=a0n))<|Aa (a0n-Int.toNat x9) fun Md=>Aa (List.take (Md*1) (List.drop (Int.toNat x9*1) a0)) fun Oo=>Aj (call 32 [.lst false 1 Md Oo]) fun Py Pw=>Ac Pw<|Ab Py fun Ox Rb=>C2 Ox fun Q5=>Ab Q5 fun Q0 Ks=>Af .i64 Q0 fun S9=>Ab Ks fun Ql Ru=>Dc 1 Ql fun Nz Pz=>Ab Ru fun Q9 Rk=>Dc 1 Q9 fun Pr Te=>Ac Rk<|Ab Rb fun Uv S7=>Af .i64 Uv fun Rz=>Ac S7<|A4 (Rz != 0) (some (A0.mk [.agg [.sc (.string (ByteArray.mk #[])),.sc (.string (ByteArray.mk #[])),.sc (.int .u64 0),.sc (.int .i64 0),.sc (.int .u64 0),.sc (.int .i64 0),.sc (.int .i64 0),.sc (.bool false),.sc (.int .i64 0),.sc (.int .u64 0),.sc (.int .i64 0),.lst false 1 0 [],.lst false 1 0 []],.sc (.int .i64 2)] [])) (Ay (decide (5<(↑x5:Int)))<|Af .u64 (List.getD x6 16 .top) fun Ro=>A4 (decide (Ro>1099511627776)) (some (A0.mk [.agg [.sc (.string (ByteArray.mk #[])),.sc (.string (ByteArray.mk #[])),.sc (.int .u64 0),.sc (.int .i64 0),.sc (.int .u64 0),.sc (.int .i64 0),.sc (.int .i64 0),.sc (.bool false),.sc (.int .i64 0),.sc (.int .u64 0),.sc (.int .i64 0),.lst false 1 0 [],.lst false 1 0 []],.sc (.int .i64 2)] [])) (Ay (decide (6<(↑x5:Int)))<|Af .u64 (List.getD x6 19 .top) fun Q7=>A4 (decide (Q7>1099511627776)) (some (A0.mk [.agg [.sc (.string (ByteArray.mk #[])),.sc (.string (ByteArray.mk #[])),.sc (.int .u64 0),.sc (.int .i64 0),.sc (.int .u64 0),.sc (.int .i64 0),.sc (.int .i64 0),.sc (.bool false),.sc (.int .i64 0),.sc (.int .u64 0),.sc (.int .i64 0),.lst false 1 0 [],.lst false 1 0 []],.sc (.int .i64 2)] [])) (Ay (decide (8<(↑x5:Int)))<|Af .u64 (List.getD x6 25 .top) fun Vv=>A4 (decide (Vv>2)) (some (A0.mk [.agg [.sc (.string (ByteArray.mk #[])),.sc (.string (ByteArray.mk #[])),.sc (.int .u64 0),.sc (.int .i64 0),.sc (.int .u64 0),.sc (.int .i64 0),.sc (.int .i64 0),.sc (.bool false),.sc (.int .i64 0),.sc (.int .u64 0),.sc (.int .i64 0),.lst false 1 0 [],.lst false 1 0 []],.sc (.int .i64 2)] [])) (Ay (decide (1<(↑x5:Int)))<|Co (List.getD x6 5 .top) fun Tn=>Ay (decide (2<(↑x5:Int)))<|Co (List.getD x6 8 .top) fun S5=>Ay (decide (3<(↑x5:Int)))<|Af .u64 (List.getD x6 10 .top) fun Tj=>Ay (decide (5<(↑x5:Int)))<|Af .u64 (List.getD x6 16 .top) fun Uz=>Aa (wrap .i64 Uz) fun Tm=>Ay (decide (6<(↑x5:Int)))<|Af .u64 (List.getD x6 19 .top) fun S8=>Aa (wrap .i64 S8) fun Rr=>Ay (decide (7<(↑x5:Int)))<|Af .u64 (List.getD x6 22 .top) fun Vg=>Ay (decide (8<(↑x5:Int)))<|Af .u64 (List.getD x6 25 .top) fun T0=>Aa (wrap .i64 T0) fun Vl=>Ay (decide (9<(↑x5:Int)))<|Af .u64 (List.getD x6 28 .top) fun W8=>Ay (decide (0+Nz*1<=Pz.length))<|Ay (decide (0+Pr*1<=Te.length))<|Aj (call 44 [.agg [.sc (.string Tn),.sc (.string S5),.sc (.int .u64 Tj),.sc (.int .i64 F0),.sc (.int .u64 Ot),.sc (.int .i64 Tm),.sc (.int .i64 Rr),.sc (.bool (Vg==1)),.sc (.int .i64 Vl),.sc (.int .u64 W8),.sc (.int .i64 S9),.lst false 1 Nz (List.take (Nz*1) (List.drop 0 Pz)),.lst false 1 Pr (List.take (Pr*1) (List.drop 0 Te))]]) fun Wv Yq=>Ac Yq<|Ab Wv fun Wu X5=>Dc 1 Wu fun Xq Y5=>Ab X5 fun Z3 AL=>Af .i64 Z3 fun Re=>Ac AL<|A4 (Re != 0) (some (A0.mk [.agg [.sc (.string (ByteArray.mk #[])),.sc (.string (ByteArray.mk #[])),.sc (.int .u64 0),.sc (.int .i64 0),.sc (.int .u64 0),.sc (.int .i64 0),.sc (.int .i64 0),.sc (.bool false),.sc (.int .i64 0),.sc (.int .u64 0),.sc (.int .i64 0),.lst false 1 0 [],.lst false 1 0 []],.sc (.int .i64 2)] [])) (Ay (decide (0+Xq*1<=Y5.length))<|Ay (decide (List.length (List.take (Xq*1) (List.drop 0 Y5))=Xq))<|Fd (bytesOf (List.take (Xq*1) (List.drop 0 Y5))) fun S6=>Ay (decide (a0.length=a0n))<|Fd (bytesOf a0) fun Uc=>A4 (!Array.toList (ByteArray.data (ByteArray.mk (List.toArray S6)))==Array.toList (ByteArray.data (ByteArray.mk (List.toArray Uc)))) (some (A0.mk [.agg [.sc (.string (ByteArray.mk #[])),.sc (.string (ByteArray.mk #[])),.sc (.int .u64 0),.sc (.int .i64 0),.sc (.int .u64 0),.sc (.int .i64 0),.sc (.int .i64 0),.sc (.bool false),.sc (.int .i64 0),.sc (.int .u64 0),.sc (.int .i64 0),.lst false 1 0 [],.lst false 1 0 []],.sc (.int .i64 2)] [])) (Ay (decide (0+Nz*1<=Pz.length))<|Ay (decide (0+Pr*1<=Te.length))<|some (A0.mk [.agg [.sc (.string Tn),.sc (.string S5),.sc (.int .u64 Tj),.sc (.int .i64 F0),.sc (.int .u64 Ot),.sc (.int .i64 Tm),.sc (.int .i64 Rr),.sc (.bool (Vg==1)),.sc (.int .i64 Vl),.sc (.int .u64 W8),.sc (.int .i64 S9),.lst false 1 Nz (List.take (Nz*1) (List.drop 0 Pz)),.lst false 1 Pr (List.take (Pr*1) (List.drop 0 Te))],.sc (.int .i64 0)] []))))))))))))) (Ae C0 Tryz.prog fu d):=by kernel_rfl
abbrev Nn:FuncId:=93
noncomputable def Ew (fu:Nat)(call:Ar)(a0_0 a0_1:ByteArray)(a0_2 a0_3:Int)(a0_4 a0_5 a0_6:Int)(a0_7:Bool)(a0_8 a0_9 a0_10:Int)(a0_11n:Nat)(a0_11:List PV)(a0_12n:Nat)(a0_12:List PV)(a1n:Nat)(a1:List PV)(nn y0:Nat)(y1:List PV)(y2:Int)(y3 y4:ByteArray)(y5 y6:Int)(y7 y8 y9:Int)(y10:Bool)(Ej E5 Ic:Int)(J1:Nat)(I1:List PV)(I2:Nat)(Jk:List PV):Option A0:=Cz C0 Tryz.prog fu call 93 Tryz.f93 (B9 Tryz.f93) [.agg [.sc (.string a0_0),.sc (.string a0_1),.sc (.int .u64 a0_2),.sc (.int .i64 a0_3),.sc (.int .u64 a0_4),.sc (.int .i64 a0_5),.sc (.int .i64 a0_6),.sc (.bool a0_7),.sc (.int .i64 a0_8),.sc (.int .u64 a0_9),.sc (.int .i64 a0_10),.lst false 1 a0_11n a0_11,.lst false 1 a0_12n a0_12],.lst false 3 a1n a1] [.r,.l,.r,.l] nn ⟨lk [(1,(.lst false 3 y0 y1)),(2,(.ptr 2 0)),(5,(.sc (.int .i64 y2)))],Gl [(2,(.st [(.sc (.string y3)),(.sc (.string y4)),(.sc (.int .u64 y5)),(.sc (.int .i64 y6)),(.sc (.int .u64 y7)),(.sc (.int .i64 y8)),(.sc (.int .i64 y9)),(.sc (.bool y10)),(.sc (.int .i64 Ej)),(.sc (.int .u64 E5)),(.sc (.int .i64 Ic)),(.lst false 1 J1 I1),(.lst false 1 I2 Jk)]))]⟩
theorem Kf (fu:Nat)(call:Ar)(a0_0 a0_1:ByteArray)(a0_2 a0_3:Int)(a0_4 a0_5 a0_6:Int)(a0_7:Bool)(a0_8 a0_9 a0_10:Int)(a0_11n:Nat)(a0_11:List PV)(a0_12n:Nat)(a0_12:List PV)(a1n:Nat)(a1:List PV)(nn y0:Nat)(y1:List PV)(y2:Int)(y3 y4:ByteArray)(y5 y6:Int)(y7 y8 y9:Int)(y10:Bool)(Ej E5 Ic:Int)(J1:Nat)(I1:List PV)(I2:Nat)(Jk:List PV):Ew fu call a0_0 a0_1 a0_2 a0_3 a0_4 a0_5 a0_6 a0_7 a0_8 a0_9 a0_10 a0_11n a0_11 a0_12n a0_12 a1n a1 (nn+1) y0 y1 y2 y3 y4 y5 y6 y7 y8 y9 y10 Ej E5 Ic J1 I1 I2 Jk=(A4 (decide (y2<(↑y0:Int))) (Ay (decide (0<=y2)&&decide (y2<(↑y0:Int)))<|Co (List.getD y1 (Int.toNat y2*3+0) .top) fun x1=>A4 (Array.toList (ByteArray.data x1)==Array.toList (ByteArray.data y4)) (Ay (decide (0<=y2)&&decide (y2<(↑y0:Int)))<|Af .i64 (List.getD y1 (Int.toNat y2*3+1) .top) fun x2=>Af .u64 (List.getD y1 (Int.toNat y2*3+1+1) .top) fun x3=>Aj (call 22 [.agg [.sc (.string y3),.sc (.string y4),.sc (.int .u64 y5),.sc (.int .i64 y6),.sc (.int .u64 y7),.sc (.int .i64 y8),.sc (.int .i64 y9),.sc (.bool y10),.sc (.int .i64 Ej),.sc (.int .u64 E5),.sc (.int .i64 Ic),.lst false 1 J1 I1,.lst false 1 I2 Jk],.agg [.sc (.int .i64 x2),.sc (.int .u64 x3)]]) fun x4 x5=>Ac x5<|Ab x4 fun x6 x7=>Af .i64 x6 fun x8=>Ac x7<|A4 (x8==0) (some (A0.mk [.sc (.int .i64 y2)] [])) (Aa (wrap .i64 (y2+1)) fun x9=>Ew fu call a0_0 a0_1 a0_2 a0_3 a0_4 a0_5 a0_6 a0_7 a0_8 a0_9 a0_10 a0_11n a0_11 a0_12n a0_12 a1n a1 (nn) (y0) (y1) x9 (y3) (y4) (y5) (y6) (y7) (y8) (y9) (y10) (Ej) (E5) (Ic) (J1) (I1) (I2) (Jk))) (Aa (wrap .i64 (y2+1)) fun Ck=>Ew fu call a0_0 a0_1 a0_2 a0_3 a0_4 a0_5 a0_6 a0_7 a0_8 a0_9 a0_10 a0_11n a0_11 a0_12n a0_12 a1n a1 (nn) (y0) (y1) Ck (y3) (y4) (y5) (y6) (y7) (y8) (y9) (y10) (Ej) (E5) (Ic) (J1) (I1) (I2) (Jk))) (some (A0.mk [.sc (.int .i64 (-1))] []))):=by kernel_rfl
theorem Yn (fu d:Nat)(a0_0 a0_1:ByteArray)(a0_2 a0_3:Int)(a0_4 a0_5 a0_6:Int)(a0_7:Bool)(a0_8 a0_9 a0_10:Int)(a0_11n:Nat)(a0_11:List PV)(a0_12n:Nat)(a0_12:List PV)(a1n:Nat)(a1:List PV):Ae C0 Tryz.prog fu (d+1) Nn [.agg [.sc (.string a0_0),.sc (.string a0_1),.sc (.int .u64 a0_2),.sc (.int .i64 a0_3),.sc (.int .u64 a0_4),.sc (.int .i64 a0_5),.sc (.int .i64 a0_6),.sc (.bool a0_7),.sc (.int .i64 a0_8),.sc (.int .u64 a0_9),.sc (.int .i64 a0_10),.lst false 1 a0_11n a0_11,.lst false 1 a0_12n a0_12],.lst false 3 a1n a1]=(fun (call:Ar)=>Ew fu call a0_0 a0_1 a0_2 a0_3 a0_4 a0_5 a0_6 a0_7 a0_8 a0_9 a0_10 a0_11n a0_11 a0_12n a0_12 a1n a1 (fu) (a1n) (a1) 0 (a0_0) (a0_1) (a0_2) (a0_3) (a0_4) (a0_5) (a0_6) (a0_7) (a0_8) (a0_9) (a0_10) (a0_11n) (a0_11) (a0_12n) (a0_12)) (Ae C0 Tryz.prog fu d):=by kernel_rfl
abbrev Qj:FuncId:=60
noncomputable def Ep (fu:Nat)(call:Ar)(a0n:Nat)(a0:List PV)(a1n:Nat)(a1:List PV)(a2n:Nat)(a2:List PV)(a3:Int)(nn y0:Nat)(y1:List PV)(y2:Nat)(y3:List PV)(y4:Nat)(y5:List PV)(y6 y7:Int):Option A0:=Cz C0 Tryz.prog fu call 60 Tryz.f60 (B9 Tryz.f60) [.lst false 13 a0n a0,.lst false 3 a1n a1,.lst false 3 a2n a2,.sc (.int .i64 a3)] [.r,.r,.r,.l,.r,.l] nn ⟨lk [(0,(.lst false 13 y0 y1)),(1,(.lst false 3 y2 y3)),(2,(.lst false 3 y4 y5)),(3,(.sc (.int .i64 y6))),(10,(.sc (.int .i64 y7)))],Gl []⟩
noncomputable def Gz (fu:Nat)(call:Ar)(a0n:Nat)(a0:List PV)(a1n:Nat)(a1:List PV)(a2n:Nat)(a2:List PV)(a3:Int)(m0 nn y0:Nat)(y1:List PV)(y2:Nat)(y3:List PV)(y4:Nat)(y5:List PV)(y6 y7:Int)(y8 y9:ByteArray)(y10 Ej:Int)(E5 Ic J1:Int)(I1:Bool)(I2 Jk Ov:Int)(P4:Nat)(Ty:List PV)(Oa:Nat)(Tq:List PV):Option A0:=Cz C0 Tryz.prog fu call 60 Tryz.f60 (B9 Tryz.f60) [.lst false 13 a0n a0,.lst false 3 a1n a1,.lst false 3 a2n a2,.sc (.int .i64 a3)] [.r,.r,.r,.l,.r,.l,.i m0,.r,.l,.l,.r,.r] nn ⟨lk [(0,(.lst false 13 y0 y1)),(1,(.lst false 3 y2 y3)),(2,(.lst false 3 y4 y5)),(3,(.sc (.int .i64 y6))),(10,(.sc (.int .i64 y7))),(11,(.ptr 11 0))],Gl [(11,(.st [(.sc (.string y8)),(.sc (.string y9)),(.sc (.int .u64 y10)),(.sc (.int .i64 Ej)),(.sc (.int .u64 E5)),(.sc (.int .i64 Ic)),(.sc (.int .i64 J1)),(.sc (.bool I1)),(.sc (.int .i64 I2)),(.sc (.int .u64 Jk)),(.sc (.int .i64 Ov)),(.lst false 1 P4 Ty),(.lst false 1 Oa Tq)]))]⟩
noncomputable def Dm (fu:Nat)(call:Ar)(a0n:Nat)(a0:List PV)(a1n:Nat)(a1:List PV)(a2n:Nat)(a2:List PV)(a3:Int)(m0 nn y0:Nat)(y1:List PV)(y2:Nat)(y3:List PV)(y4:Nat)(y5:List PV)(y6 y7 y8:Int)(y9 y10:ByteArray)(Ej E5:Int)(Ic J1 I1:Int)(I2:Bool)(Jk Ov P4:Int)(Ty:Nat)(Oa:List PV)(Tq:Nat)(DA:List PV):Option A0:=Cz C0 Tryz.prog fu call 60 Tryz.f60 (B9 Tryz.f60) [.lst false 13 a0n a0,.lst false 3 a1n a1,.lst false 3 a2n a2,.sc (.int .i64 a3)] [.r,.r,.r,.l,.r,.l,.i m0,.r,.l,.l,.r,.r,.r,.l,.r,.l] nn ⟨lk [(0,(.lst false 13 y0 y1)),(1,(.lst false 3 y2 y3)),(2,(.lst false 3 y4 y5)),(3,(.sc (.int .i64 y6))),(10,(.sc (.int .i64 y7))),(11,(.ptr 11 0)),(14,(.sc (.int .i64 y8)))],Gl [(11,(.st [(.sc (.string y9)),(.sc (.string y10)),(.sc (.int .u64 Ej)),(.sc (.int .i64 E5)),(.sc (.int .u64 Ic)),(.sc (.int .i64 J1)),(.sc (.int .i64 I1)),(.sc (.bool I2)),(.sc (.int .i64 Jk)),(.sc (.int .u64 Ov)),(.sc (.int .i64 P4)),(.lst false 1 Ty Oa),(.lst false 1 Tq DA)]))]⟩
theorem Ia (fu:Nat)(call:Ar)(a0n:Nat)(a0:List PV)(a1n:Nat)(a1:List PV)(a2n:Nat)(a2:List PV)(a3:Int)(nn y0:Nat)(y1:List PV)(y2:Nat)(y3:List PV)(y4:Nat)(y5:List PV)(y6 y7:Int):Ep fu call a0n a0 a1n a1 a2n a2 a3 (nn+1) y0 y1 y2 y3 y4 y5 y6 y7=(A4 (decide (y7<(↑y0:Int))) (Ay (decide (0<=y7)&&decide (y7<(↑y0:Int)))<|Co (List.getD y1 (Int.toNat y7*13) .top) fun Bn=>Co (List.getD y1 (Int.toNat y7*13+1) .top) fun Cw=>Af .u64 (List.getD y1 (Int.toNat y7*13+1+1) .top) fun Da=>Af .i64 (List.getD y1 (Int.toNat y7*13+1+1+1) .top) fun Cq=>Af .u64 (List.getD y1 (Int.toNat y7*13+1+1+1+1) .top) fun Cy=>Af .i64 (List.getD y1 (Int.toNat y7*13+1+1+1+1+1) .top) fun Db=>Af .i64 (List.getD y1 (Int.toNat y7*13+1+1+1+1+1+1) .top) fun Dq=>Bx (List.getD y1 (Int.toNat y7*13+1+1+1+1+1+1+1) .top) fun D2=>Af .i64 (List.getD y1 (Int.toNat y7*13+1+1+1+1+1+1+1+1) .top) fun D0=>Af .u64 (List.getD y1 (Int.toNat y7*13+1+1+1+1+1+1+1+1+1) .top) fun D9=>Af .i64 (List.getD y1 (Int.toNat y7*13+1+1+1+1+1+1+1+1+1+1) .top) fun Fj=>F8 1 (List.getD y1 (Int.toNat y7*13+1+1+1+1+1+1+1+1+1+1+1) .top) fun Cn Fn Dj=>F8 1 (List.getD y1 (Int.toNat y7*13+1+1+1+1+1+1+1+1+1+1+1+1) .top) fun B3 Et F1=>Aj (call 45 [.agg [.sc (.string Bn),.sc (.string Cw),.sc (.int .u64 Da),.sc (.int .i64 Cq),.sc (.int .u64 Cy),.sc (.int .i64 Db),.sc (.int .i64 Dq),.sc (.bool D2),.sc (.int .i64 D0),.sc (.int .u64 D9),.sc (.int .i64 Fj),.lst false 1 Fn Dj,.lst false 1 Et F1]]) fun Bm Cj=>Ac Cj<|Ab Bm fun Gt Gu=>Dc 1 Gt fun Hz Ha=>Ab Gu fun Il G4=>Af .i64 Il fun Ir=>Ac G4<|A4 (Ir != 0) (some (A0.mk [.sc (.int .i64 0),.sc (.int .i64 Ir)] [])) (Aj (call 59 [.sc (.int .i64 y6),.sc (.int .i64 Db),.sc (.int .i64 Dq)]) fun Kr F0=>Ac F0<|Ab Kr fun H2 Nc=>Bx H2 fun Ot=>Ac Nc<|A4 (!Ot) (some (A0.mk [.sc (.int .i64 0),.sc (.int .i64 38)] [])) (A4 (decide (y7>0)) (A4 (!D2) (some (A0.mk [.sc (.int .i64 0),.sc (.int .i64 38)] [])) (Aa (wrap .i64 (y7-1)) fun Kc=>A4 (decide (D0<Kc)) (some (A0.mk [.sc (.int .i64 0),.sc (.int .i64 38)] [])) (Gz fu call a0n a0 a1n a1 a2n a2 a3 nn (fu) (y0) (y1) (y2) (y3) (y4) (y5) (y6) (y7) Bn Cw Da Cq Cy Db Dq D2 D0 D9 Fj Fn Dj Et F1))) (Gz fu call a0n a0 a1n a1 a2n a2 a3 nn (fu) (y0) (y1) (y2) (y3) (y4) (y5) (y6) (y7) Bn Cw Da Cq Cy Db Dq D2 D0 D9 Fj Fn Dj Et F1)))) (Aa (wrap .i64 ((↑y0:Int)-1)) fun J5=>Ay (decide (0<=J5)&&decide (J5<(↑y0:Int)))<|Co (List.getD y1 (Int.toNat J5*13) .top) fun Nk=>Co (List.getD y1 (Int.toNat J5*13+1) .top) fun Md=>Af .u64 (List.getD y1 (Int.toNat J5*13+1+1) .top) fun Oo=>Af .i64 (List.getD y1 (Int.toNat J5*13+1+1+1) .top) fun Py=>Af .u64 (List.getD y1 (Int.toNat J5*13+1+1+1+1) .top) fun Pw=>Af .i64 (List.getD y1 (Int.toNat J5*13+1+1+1+1+1) .top) fun Ox=>Af .i64 (List.getD y1 (Int.toNat J5*13+1+1+1+1+1+1) .top) fun Rb=>Bx (List.getD y1 (Int.toNat J5*13+1+1+1+1+1+1+1) .top) fun Q5=>Af .i64 (List.getD y1 (Int.toNat J5*13+1+1+1+1+1+1+1+1) .top) fun Q0=>Af .u64 (List.getD y1 (Int.toNat J5*13+1+1+1+1+1+1+1+1+1) .top) fun Ks=>Af .i64 (List.getD y1 (Int.toNat J5*13+1+1+1+1+1+1+1+1+1+1) .top) fun S9=>F8 1 (List.getD y1 (Int.toNat J5*13+1+1+1+1+1+1+1+1+1+1+1) .top) fun Ql Ru Nz=>F8 1 (List.getD y1 (Int.toNat J5*13+1+1+1+1+1+1+1+1+1+1+1+1) .top) fun Pz Q9 Rk=>Aj (call 93 [.agg [.sc (.string Nk),.sc (.string Md),.sc (.int .u64 Oo),.sc (.int .i64 Py),.sc (.int .u64 Pw),.sc (.int .i64 Ox),.sc (.int .i64 Rb),.sc (.bool Q5),.sc (.int .i64 Q0),.sc (.int .u64 Ks),.sc (.int .i64 S9),.lst false 1 Ru Nz,.lst false 1 Q9 Rk],.lst false 3 y2 y3]) fun Pr Te=>Ac Te<|Ab Pr fun Uv S7=>Af .i64 Uv fun Rz=>Ac S7<|A4 (decide (Rz<0)) (some (A0.mk [.sc (.int .i64 0),.sc (.int .i64 38)] [])) (some (A0.mk [.sc (.int .i64 Rz),.sc (.int .i64 0)] [])))):=by kernel_rfl
theorem Xe (fu:Nat)(call:Ar)(a0n:Nat)(a0:List PV)(a1n:Nat)(a1:List PV)(a2n:Nat)(a2:List PV)(a3:Int)(m0 nn:Nat)(hnn:0<nn)(y0:Nat)(y1:List PV)(y2:Nat)(y3:List PV)(y4:Nat)(y5:List PV)(y6 y7:Int)(y8 y9:ByteArray)(y10 Ej:Int)(E5 Ic J1:Int)(I1:Bool)(I2 Jk Ov:Int)(P4:Nat)(Ty:List PV)(Oa:Nat)(Tq:List PV):Gz fu call a0n a0 a1n a1 a2n a2 a3 m0 nn y0 y1 y2 y3 y4 y5 y6 y7 y8 y9 y10 Ej E5 Ic J1 I1 I2 Jk Ov P4 Ty Oa Tq=(Dm fu call a0n a0 a1n a1 a2n a2 a3 m0 (fu) (y0) (y1) (y2) (y3) (y4) (y5) (y6) (y7) 0 (y8) (y9) (y10) (Ej) (E5) (Ic) (J1) (I1) (I2) (Jk) (Ov) (P4) (Ty) (Oa) (Tq)):=by cases nn with|zero=>exact absurd hnn (Nat.lt_irrefl 0)|succ nn=>kernel_rfl
theorem H9 (fu:Nat)(call:Ar)(a0n:Nat)(a0:List PV)(a1n:Nat)(a1:List PV)(a2n:Nat)(a2:List PV)(a3:Int)(m0 nn y0:Nat)(y1:List PV)(y2:Nat)(y3:List PV)(y4:Nat)(y5:List PV)(y6 y7 y8:Int)(y9 y10:ByteArray)(Ej E5:Int)(Ic J1 I1:Int)(I2:Bool)(Jk Ov P4:Int)(Ty:Nat)(Oa:List PV)(Tq:Nat)(DA:List PV):Dm fu call a0n a0 a1n a1 a2n a2 a3 m0 (nn+1) y0 y1 y2 y3 y4 y5 y6 y7 y8 y9 y10 Ej E5 Ic J1 I1 I2 Jk Ov P4 Ty Oa Tq DA=(A4 (decide (y8<(↑y4:Int))) (Ay (decide (0<=y8)&&decide (y8<(↑y4:Int)))<|Co (List.getD y5 (Int.toNat y8*3+0) .top) fun Ro=>A4 (Array.toList (ByteArray.data Ro)==Array.toList (ByteArray.data y10)) (Ay (decide (0<=y8)&&decide (y8<(↑y4:Int)))<|Af .u64 (List.getD y5 (Int.toNat y8*3+1) .top) fun Q7=>A4 (Q7==Ej) (Ay (decide (0<=y8)&&decide (y8<(↑y4:Int)))<|Af .i64 (List.getD y5 (Int.toNat y8*3+2) .top) fun Vv=>A4 (decide (Vv<=y6)) (some (A0.mk [.sc (.int .i64 0),.sc (.int .i64 39)] [])) (Aa (wrap .i64 (y8+1)) fun Tn=>Dm fu call a0n a0 a1n a1 a2n a2 a3 m0 (nn) (y0) (y1) (y2) (y3) (y4) (y5) (y6) (y7) Tn (y9) (y10) (Ej) (E5) (Ic) (J1) (I1) (I2) (Jk) (Ov) (P4) (Ty) (Oa) (Tq) (DA))) (Aa (wrap .i64 (y8+1)) fun S5=>Dm fu call a0n a0 a1n a1 a2n a2 a3 m0 (nn) (y0) (y1) (y2) (y3) (y4) (y5) (y6) (y7) S5 (y9) (y10) (Ej) (E5) (Ic) (J1) (I1) (I2) (Jk) (Ov) (P4) (Ty) (Oa) (Tq) (DA))) (Aa (wrap .i64 (y8+1)) fun Tj=>Dm fu call a0n a0 a1n a1 a2n a2 a3 m0 (nn) (y0) (y1) (y2) (y3) (y4) (y5) (y6) (y7) Tj (y9) (y10) (Ej) (E5) (Ic) (J1) (I1) (I2) (Jk) (Ov) (P4) (Ty) (Oa) (Tq) (DA))) (Aa (wrap .i64 (y7+1)) fun Uz=>A4 (decide (Uz<(↑y0:Int))) (Aa (wrap .i64 (y7+1)) fun Tm=>Ay (decide (0<=Tm)&&decide (Tm<(↑y0:Int)))<|Co (List.getD y1 (Int.toNat Tm*13+0) .top) fun S8=>A4 (!Array.toList (ByteArray.data y10)==Array.toList (ByteArray.data S8)) (some (A0.mk [.sc (.int .i64 0),.sc (.int .i64 38)] [])) (Aa (wrap .i64 (y7+1)) fun Rr=>Ay (decide (0<=Rr)&&decide (Rr<(↑y0:Int)))<|Af .i64 (List.getD y1 (Int.toNat Rr*13+3) .top) fun Vg=>Af .u64 (List.getD y1 (Int.toNat Rr*13+3+1) .top) fun T0=>Aj (call 22 [.agg [.sc (.string y9),.sc (.string y10),.sc (.int .u64 Ej),.sc (.int .i64 E5),.sc (.int .u64 Ic),.sc (.int .i64 J1),.sc (.int .i64 I1),.sc (.bool I2),.sc (.int .i64 Jk),.sc (.int .u64 Ov),.sc (.int .i64 P4),.lst false 1 Ty Oa,.lst false 1 Tq DA],.agg [.sc (.int .i64 Vg),.sc (.int .u64 T0)]]) fun Vl W8=>Ac W8<|Ab Vl fun Wv Yq=>Af .i64 Wv fun Wu=>Ac Yq<|A4 (Wu != 0) (some (A0.mk [.sc (.int .i64 0),.sc (.int .i64 Wu)] [])) (Aa (wrap .i64 (y7+1)) fun X5=>Ep fu call a0n a0 a1n a1 a2n a2 a3 (m0) (y0) (y1) (y2) (y3) (y4) (y5) (y6) X5))) (Aa (wrap .i64 (y7+1)) fun Xq=>Ep fu call a0n a0 a1n a1 a2n a2 a3 (m0) (y0) (y1) (y2) (y3) (y4) (y5) (y6) Xq))):=by kernel_rfl
theorem CL (fu d a0n:Nat)(a0:List PV)(a1n:Nat)(a1:List PV)(a2n:Nat)(a2:List PV)(a3:Int):Ae C0 Tryz.prog fu (d+1) Qj [.lst false 13 a0n a0,.lst false 3 a1n a1,.lst false 3 a2n a2,.sc (.int .i64 a3)]=(fun (call:Ar)=>Aj (call 59 [.sc (.int .i64 a3),.sc (.int .i64 0),.sc (.int .i64 1099511627776)]) fun x1 x2=>Ac x2<|Ab x1 fun x3 x4=>Bx x3 fun x5=>Ac x4<|A4 (!x5) (some (A0.mk [.sc (.int .i64 0),.sc (.int .i64 9)] [])) (Aj (call 59 [.sc (.int .i64 (↑a0n:Int)),.sc (.int .i64 1),.sc (.int .i64 3)]) fun x6 x7=>Ac x7<|Ab x6 fun x8 x9=>Bx x8 fun Ck=>Ac x9<|A4 (!Ck) (some (A0.mk [.sc (.int .i64 0),.sc (.int .i64 38)] [])) (Ep fu call a0n a0 a1n a1 a2n a2 a3 (fu) (a0n) (a0) (a1n) (a1) (a2n) (a2) (a3) 0))) (Ae C0 Tryz.prog fu d):=by kernel_rfl
end
section
open Go.IntKind (wrap)
def Vt (x:It):List Int:=
 if x.k=7 then [wrap .u8 (244+wrap .u8 x.n)] else if x.k=8 then [246] else if x.k=3 then Dr 2 x.s.size else if x.k=4 then Dr 3 x.s.size else Dr (x.k-1) x.n
def It.dat (x:It):Prop:=x.k=3∨x.k=4∨B4 x.s=[]
theorem Ag6 {x:It}(h:x.dat):Bw x=Vt x++B4 x.s:=by
 unfold Bw Vt;by_cases c7:x.k=7
 ·rcases h with h|h|h
  ·omega
  ·omega
  ·simp [c7,h]
 ·by_cases c8:x.k=8
  ·rcases h with h|h|h
   ·omega
   ·omega
   ·simp [c8,h]
  ·by_cases c3:x.k=3
   ·simp [c3]
   ·by_cases c4:x.k=4
    ·simp [c4]
    ·rcases h with h|h|h
     ·omega
     ·omega
     ·simp [c7,c8,c3,c4,h]
theorem Ahr (x:It):(Vt x).length<=9:=by
 have h2:=Im 2 x.s.size;have h3:=Im 3 x.s.size;have h4:=Im (x.k-1) x.n;unfold Vt
 repeat' split
 all_goals try simp only [Ib,Y4]
 all_goals omega
theorem Akk (v:Int):El .u64 v 0=v:=by
 show v.fdiv (2 ^ (min (0:Int).toNat IntKind.u64.bits))=v;have:(2:Int) ^ (min (0:Int).toNat IntKind.u64.bits)=1:=by decide
 rw [this,Int.fdiv_one]
theorem tb1 (v:Int):tb v 1=[wrap .u8 v]:=by
 show [wrap .u8 (El .u64 v (56-8*((7:Nat):Int)))]=_;rw [show (56:Int)-8*((7:Nat):Int)=0 by omega,Akk]
theorem tb2 (v:Int):tb v 2=[wrap .u8 (El .u64 v 8),wrap .u8 v]:=by
 show [wrap .u8 (El .u64 v (56-8*((6:Nat):Int))),wrap .u8 (El .u64 v (56-8*((7:Nat):Int)))]=_;rw [show (56:Int)-8*((7:Nat):Int)=0 by omega,show (56:Int)-8*((6:Nat):Int)=8 by omega,Akk]
theorem tb4 (v:Int):tb v 4=[wrap .u8 (El .u64 v 24),wrap .u8 (El .u64 v 16),wrap .u8 (El .u64 v 8),wrap .u8 v]:=by
 show [wrap .u8 (El .u64 v (56-8*((4:Nat):Int))),wrap .u8 (El .u64 v (56-8*((5:Nat):Int))),wrap .u8 (El .u64 v (56-8*((6:Nat):Int))),wrap .u8 (El .u64 v (56-8*((7:Nat):Int)))]=_;rw [show (56:Int)-8*((7:Nat):Int)=0 by omega,show (56:Int)-8*((6:Nat):Int)=8 by omega,show (56:Int)-8*((5:Nat):Int)=16 by omega,show (56:Int)-8*((4:Nat):Int)=24 by omega,Akk]
theorem tb8 (v:Int):tb v 8=Ci v:=rfl
section
variable {fu d:Nat}
theorem Al1 (hfu:1000<=fu){k n:Int}{s:ByteArray}{nn:Nat}(hn:0<nn){mj v:Int}(h0:0<=mj)(h1:mj<=5)(hv:0<=v):
  Dv fu (Ae C0 Tryz.prog fu (d+1)) k n s nn v (32*mj)=some ⟨[.own 1 (Dr mj v).length (Ai .u8 (Dr mj v))],[]⟩:=by
 rw [Yw (hnn:=hn)];have w24:wrap .u8 (32*mj+24)=32*mj+24:=Gn (by omega) (by omega)
 have w25:wrap .u8 (32*mj+25)=32*mj+25:=Gn (by omega) (by omega)
 have w26:wrap .u8 (32*mj+26)=32*mj+26:=Gn (by omega) (by omega)
 have w27:wrap .u8 (32*mj+27)=32*mj+27:=Gn (by omega) (by omega)
 unfold Dr;by_cases c1:v<24
 ·have wn:wrap .u8 v=v:=Gn (by omega) (by omega)
  have ws:wrap .u8 (32*mj+v)=32*mj+v:=Gn (by omega) (by omega)
  rw [Bl c1];simp (disch:=omega) only [B6,wn,ws];rfl
 ·by_cases c2:v<256
  ·rw [A3 c1,Bl c2,tb1];simp (disch:=omega) only [B6,w24];rfl
  ·by_cases c3:v<65536
   ·rw [A3 c1,A3 c2,Bl c3,tb2];simp (disch:=omega) only [B6,w25];rfl
   ·by_cases c4:v<4294967296
    ·rw [A3 c1,A3 c2,A3 c3,Bl c4,tb4];simp (disch:=omega) only [B6,w26];rfl
    ·have wd:=Aex (fu:=fu) (d:=d) hfu v;have L:=Aq .u8 (Ci v);rw [C3] at L;have t8:List.take 8 (Ai .u8 (Ci v))=Ai .u8 (Ci v):=I0 (by omega)
     have eC:[PV.sc (.int .u8 (32*mj+27))]++Ai .u8 (Ci v)=Ai .u8 ((32*mj+27)::Ci v):=rfl;have L9:(Ai .u8 ((32*mj+27)::Ci v)).length=9:=by rw [Aq,Ib,C3]
     have t9:List.take 9 (Ai .u8 ((32*mj+27)::Ci v))=Ai .u8 ((32*mj+27)::Ci v):=I0 (by omega)
     rw [A3 c1,A3 c2,A3 c3,A3 c4,tb8,Ib,C3];simp (disch:=omega) only [B6,w27,wd,Bj,Bv,B8,L,t8,eC,Nat.reduceAdd,L9,t9]
theorem Amv (hfu:1000<=fu){x:It}(hx:x.ok):Ae C0 Tryz.prog fu (d+2) So [.agg x.cells]=some ⟨[.own 1 (Vt x).length (Ai .u8 (Vt x))],[]⟩:=by
 obtain ⟨k,n,s⟩:=x;obtain ⟨k1,k8,n0,s0⟩:=hx;simp only at k1 k8 n0 s0;refine (FG fu (d+1) k n s).trans ?_;have wsz:wrap .u64 (s.size:Int)=s.size:=B5 (by omega) (by omega)
 have J:=fun (mj v:Int) (h0:0<=mj) (h1:mj<=5) (hv:0<=v)=>Al1 (fu:=fu) (d:=d) hfu (k:=k) (n:=n) (s:=s) (nn:=fu) (by omega) h0 h1 hv
 have j0:=J 0 n (by omega) (by omega) n0
 have j1:=J 1 n (by omega) (by omega) n0
 have j2:=J 2 s.size (by omega) (by omega) (by omega)
 have j3:=J 3 s.size (by omega) (by omega) (by omega)
 have j4:=J 4 n (by omega) (by omega) n0
 have j5:=J 5 n (by omega) (by omega) n0
 rw [show (32:Int)*0=0 by omega] at j0
 rw [show (32:Int)*1=32 by omega] at j1
 rw [show (32:Int)*2=64 by omega] at j2
 rw [show (32:Int)*3=96 by omega] at j3
 rw [show (32:Int)*4=128 by omega] at j4
 rw [show (32:Int)*5=160 by omega] at j5
 unfold Vt;simp only;have:k=1∨k=2∨k=3∨k=4∨k=5∨k=6∨k=7∨k=8:=by omega
 rcases this with rfl|rfl|rfl|rfl|rfl|rfl|rfl|rfl
 ·simp only [B6,Fo,Int.reduceEq,if_true,if_false,Int.reduceSub,j0]
 ·simp only [B6,Fo,Int.reduceEq,if_true,if_false,Int.reduceSub,j1]
 ·simp only [B6,Fo,Int.reduceEq,if_true,if_false,Int.reduceSub,wsz,j2]
 ·simp only [B6,Fo,Int.reduceEq,if_true,if_false,Int.reduceSub,wsz,j3]
 ·simp only [B6,Fo,Int.reduceEq,if_true,if_false,Int.reduceSub,j4]
 ·simp only [B6,Fo,Int.reduceEq,if_true,if_false,Int.reduceSub,j5]
 ·simp only [B6,Fo,Int.reduceEq,if_true,if_false];rfl
 ·simp only [B6,Fo,Int.reduceEq,if_true,if_false];rfl
theorem BS (hfu:1000<=fu){x:It}(hx:x.ok)(hd:x.dat):Ae C0 Tryz.prog fu (d+3) Qr [.agg x.cells]=some ⟨[.sc (.string (Bo (Bw x)))],[]⟩:=by
 refine (DB fu (d+2) x.k x.n x.s).trans ?_;have hr:=Amv (fu:=fu) (d:=d) hfu hx;have L:=Aq .u8 (Vt x);have l9:=Ahr x;have bo:=Ft (Vt x);have eA:ByteArray.mk (List.map (fun n:Int=>n.toNat.toUInt8) (Vt x)).toArray=Bo (Vt x):=rfl
 have sz:=Ez (Vt x);have s0:=hx.s0;have ap:Bo (Vt x)++x.s=Bo (Bw x):=by rw [Aah,Ag6 hd]
 simp only [It.cells] at hr;simp (disch:=omega) only [B6,hr,Bj,Bv,B8,Gd,L,bo,eA,sz,ap]
def Bq (its:List It):List PV:=its.flatMap It.cells
theorem It.cells_len (x:It):x.cells.length=3:=rfl
def Bc (its:List It):List Int:=its.flatMap Bw
theorem MJ {a0n:Nat}{a0:List PV}{its:List It}(hk:∀x∈its,x.ok∧x.dat)(hl:its.length<=1000)(hfu:1000<=fu):∀(r:List It)(i nn:Nat)(b:List Int),its.drop i=r->r.length<nn->b.length+500010*r.length<=1000000000 ->
  Gs fu (Ae C0 Tryz.prog fu (d+3)) a0n a0 nn its.length (Bq its) b.length i (Ai .u8 b)=some ⟨[.own 1 (b++Bc r).length (Ai .u8 (b++Bc r))],[]⟩
 |_,_,0,_,_,h,_=>by omega
 |[],i,nn+1,b,h,hn,hb=>by
  have:=drop_nil h;have L:=Aq .u8 b;rw [L5,Dt _ _ _ (by omega)]
  simp (disch:=omega) only [B6,Bj,Gd,L];simp [Bc]
 |x::r,i,nn+1,b,h,hn,hb=>by
  obtain ⟨h1,h2,h3⟩:=Cg h;simp only [Ib] at hn hb;obtain ⟨ok,dt⟩:=hk x (List.mem_of_getElem? h2);have hil:=Hy x;have hs0:=ok.s0;have g0:(Bq its).getD (i*3) .top=.sc (.int .i64 x.k):=Ex It.cells_len h2 (j:=0) (by omega)
  have g1:(Bq its).getD (i*3+1) .top=.sc (.int .u64 x.n):=Ex It.cells_len h2 (j:=1) (by omega)
  have g2:(Bq its).getD (i*3+1+1) .top=.sc (.string x.s):=Ex It.cells_len h2 (j:=2) (by omega)
  have by_:=BS (fu:=fu) (d:=d) hfu ok dt;simp only [It.cells] at by_;have ih:=MJ (a0n:=a0n) (a0:=a0) hk hl hfu r (i+1) nn (b++Bw x) h3 (by omega) (by rw [H1];omega)
  have w:wrap .i64 ((i:Int)+1)=((i+1:Nat):Int):=by rw [At (by omega) (by omega)];omega
  have L:=Aq .u8 b;have hB:=Afv ok.k1 ok.k8 ok.n0;have sc:Ct (Bo (Bw x))=Ai .u8 (Bw x):=by rw [Fw,Mn hB]
  have sz:=Ez (Bw x);have Li:=Aq .u8 (Bw x);have ea:Ai .u8 b++Ai .u8 (Bw x)=Ai .u8 (b++Bw x):=by rw [Ai,Ai,Ai,List.flatMap_append]
  have ei:Bc (x::r)=Bw x++Bc r:=rfl;rw [ei,←Zzv,←ih,L5];simp (disch:=omega) only [B6,Hc,g0,g1,g2,by_,sc,sz,Li,Bj,Gd,L,ea,w,H1]
theorem Ahi {its:List It}(hk:∀x∈its,x.ok∧x.dat)(hl:its.length<=900)(hfu:1000<=fu):Ae C0 Tryz.prog fu (d+4) Po [.lst false 3 its.length (Bq its)]=some ⟨[.own 1 (Bc its).length (Ai .u8 (Bc its))],[]⟩:=by
 rw [AR];exact MJ (fu:=fu) (d:=d) (a0n:=its.length) (a0:=Bq its) hk (by omega) hfu its 0 fu [] rfl (by omega) (by simp;omega)
end
end
section
open Go.IntKind (wrap)
structure Ce where
 subj:ByteArray
 iss:ByteArray
 serial:Int
 key:Ky
 fr:Int
 un:Int
 auth:Bool
 path:Int
 model:Int
 sig:Sg
def Ce.cells (c:Ce):List PV:=[.sc (.string c.subj),.sc (.string c.iss),.sc (.int .u64 c.serial),.sc (.int .i64 c.key.h),.sc (.int .u64 c.key.root),.sc (.int .i64 c.fr),.sc (.int .i64 c.un),.sc (.bool c.auth),.sc (.int .i64 c.path),.sc (.int .u64 c.model),.sc (.int .i64 c.sig.leaf),.lst false 1 c.sig.chains.length (Ai .u64 c.sig.chains),.lst false 1 c.sig.path.length (Ai .u64 c.sig.path)]
abbrev TH (s:ByteArray):Bool:=Lib.validD s.data.toList
abbrev C5:ByteArray:=⟨#[]⟩
def Bf (c:Ce):Int:=
 if c.subj.size<1∨32<c.subj.size then 9 else if c.iss.size<1∨32<c.iss.size then 9 else if TH c.subj=false then 6 else if TH c.iss=false then 6 else
 if Df c.key.h=true then 9 else if c.fr<0 then 9 else if c.un<c.fr then 9 else if c.un>1099511627776 then 9 else if c.path<0∨2<c.path then 9 else if c.path≠0∧c.auth=false then 4 else 0
def Bb (c:Ce):List It:=[⟨5,9,C5⟩,⟨4,0,c.subj⟩,⟨4,0,c.iss⟩,⟨1,c.serial,C5⟩,⟨3,0,Bo (G0 c.key)⟩,⟨1,c.fr,C5⟩,⟨1,c.un,C5⟩,⟨7,(if c.auth=true then 1 else 0),C5⟩,⟨1,c.path,C5⟩,⟨1,c.model,C5⟩]
structure Ce.wf (c:Ce):Prop where
 ser:0<=c.serial
 mod:0<=c.model
def G3 (c:Ce):List PV:=if Bf c=0 then [.own 1 (Bc (Bb c)).length (Ai .u8 (Bc (Bb c))),.sc (.int .i64 0)] else [.own 1 0 [],.sc (.int .i64 (Bf c))]
theorem EY {c:Ce}(hw:c.wf)(h:Bf c=0):∀x∈Bb c,x.ok∧x.dat:=by
 unfold Bf at h;have kl:(Bo (G0 c.key)).size=9:=by rw [Ez];rfl
 have ns:C5.size=0:=rfl;have hs:=hw.ser;have hm:=hw.mod
 repeat' (split at h;· cases h)
 intro x hx;simp only [Bb,List.mem_cons,List.not_mem_nil,or_false] at hx;rcases hx with rfl|rfl|rfl|rfl|rfl|rfl|rfl|rfl|rfl|rfl
 ·exact ⟨⟨by simp,by simp,by simp,by simp [ns]⟩,.inr (.inr rfl)⟩
 ·exact ⟨⟨by simp,by simp,by simp,by simp only;omega⟩,.inr (.inl rfl)⟩
 ·exact ⟨⟨by simp,by simp,by simp,by simp only;omega⟩,.inr (.inl rfl)⟩
 ·exact ⟨⟨by simp,by simp,hs,by simp [ns]⟩,.inr (.inr rfl)⟩
 ·exact ⟨⟨by simp,by simp,by simp,by simp only [kl];omega⟩,.inl rfl⟩
 ·exact ⟨⟨by simp,by simp,by simp only;omega,by simp [ns]⟩,.inr (.inr rfl)⟩
 ·exact ⟨⟨by simp,by simp,by simp only;omega,by simp [ns]⟩,.inr (.inr rfl)⟩
 ·exact ⟨⟨by simp,by simp,by simp only;split<;>omega,by simp [ns]⟩,.inr (.inr rfl)⟩
 ·exact ⟨⟨by simp,by simp,by simp only;omega,by simp [ns]⟩,.inr (.inr rfl)⟩
 ·exact ⟨⟨by simp,by simp,hm,by simp [ns]⟩,.inr (.inr rfl)⟩
section
variable {fu d:Nat}
theorem M1 (s:ByteArray)(h:s.size<=9223372036854775807):Ae C0 Tryz.prog fu (d+1) 67 [.sc (.string s)]=some ⟨[.sc (.bool (TH s))],[]⟩:=by
 show RH [.sc (.string s)]=_;unfold RH;simp [h]
theorem Oj (n lo hi:Int):Ae C0 Tryz.prog fu (d+1) Nm [.sc (.int .i64 n),.sc (.int .i64 lo),.sc (.int .i64 hi)]=some ⟨[.sc (.bool (decide (lo<=n)&&decide (n<=hi)))],[]⟩:=by
 rw [Y1];by_cases h:lo<=n
 ·simp (disch:=omega) only [B6,h,decide_true,Zzm]
 ·simp (disch:=omega) only [B6,h,decide_false,Bool.false_and]
theorem VJ (n:Int)(h0:0<=n)(h1:n<=1000):Ae C0 Tryz.prog fu (d+1) O4 [.sc (.int .i64 n)]=some ⟨[.agg [.sc (.int .i64 5),.sc (.int .u64 n),.sc (.string C5)]],[]⟩:=by
 rw [AW];have w:wrap .u64 n=n:=B5 (by omega) (by omega)
 simp only [B6,w]
theorem Acf (s:ByteArray):Ae C0 Tryz.prog fu (d+1) Qc [.sc (.string s)]=some ⟨[.agg [.sc (.int .i64 4),.sc (.int .u64 0),.sc (.string s)]],[]⟩:=by
 rw [DO]
theorem Adu (n:Int):Ae C0 Tryz.prog fu (d+1) Ns [.sc (.int .u64 n)]=some ⟨[.agg [.sc (.int .i64 1),.sc (.int .u64 n),.sc (.string C5)]],[]⟩:=by
 rw [Yi]
theorem Am3 (l:List Int):Ae C0 Tryz.prog fu (d+1) P9 [.lst false 1 l.length (Ai .u8 l)]=some ⟨[.agg [.sc (.int .i64 3),.sc (.int .u64 0),.sc (.string (Bo l))]],[]⟩:=by
 rw [DP];have L:=Aq .u8 l;have bo:=Ft l;simp (disch:=omega) only [B6,L,bo];rfl
theorem Ab1 (b:Bool):Ae C0 Tryz.prog fu (d+1) Ml [.sc (.bool b)]=some ⟨[.agg [.sc (.int .i64 7),.sc (.int .u64 (if b=true then 1 else 0)),.sc (.string C5)]],[]⟩:=by
 rw [Ww];cases b<;>rfl
theorem ID (hfu:1000<=fu){c:Ce}(hw:c.wf)(hs1:c.subj.size<=9223372036854775807)(hs2:c.iss.size<=9223372036854775807):Ae C0 Tryz.prog fu (d+5) Qm [.agg c.cells]=some ⟨G3 c,[]⟩:=by
 refine (CZ fu (d+4) c.subj c.iss c.serial c.key.h c.key.root c.fr c.un c.auth c.path c.model c.sig.leaf c.sig.chains.length (Ai .u64 c.sig.chains) c.sig.path.length (Ai .u64 c.sig.path)).trans ?_;have n1:=Oj (fu:=fu) (d:=d+3) c.subj.size 1 32;have n2:=Oj (fu:=fu) (d:=d+3) c.iss.size 1 32;have n3:=Oj (fu:=fu) (d:=d+3) c.path 0 2;have v1:=M1 (fu:=fu) (d:=d+3) c.subj hs1;have v2:=M1 (fu:=fu) (d:=d+3) c.iss hs2;have ek:=FN (fu:=fu) (d:=d+2) hfu c.key;have e90:((9:Int) != 0)=true:=rfl;have e00:((0:Int) != 0)=false:=rfl;simp only [Ky.cells] at ek;unfold G3;by_cases e1:c.subj.size<1∨32<c.subj.size
 ·have hb:Bf c=9:=by unfold Bf;rw [Bl e1]
  have:(decide ((1:Int)<=c.subj.size)&&decide ((c.subj.size:Int)<=32))=false:=by simp;omega
  rw [this] at n1;rw [hb,A3 (by omega)]
  try unfold Aa
  repeat first
   |((with_reducible first|apply Ap|apply Ag|apply Am|apply As|apply Ax|apply Az|apply A6|apply Cf|apply Ah);· first|with_reducible rfl|(simp (disch:=omega) only [n1,Int.reduceEq,Bp,Br]<;>with_reducible rfl))
   |((with_reducible first|apply Ak|apply Al);· first|with_reducible rfl|omega|(simp (disch:=omega) only [gT,n1,Int.reduceEq,Bp,Br]<;>omega))
   |(with_reducible apply Ao;· first|with_reducible rfl|(simp (disch:=omega) only [gF,n1,Int.reduceEq,Bp,Br]<;>omega))
  try simp (disch:=omega) only [n1,Int.reduceEq,Bp,Br]
  all_goals rfl
 have q1:(decide ((1:Int)<=c.subj.size)&&decide ((c.subj.size:Int)<=32))=true:=by simp;omega
 rw [q1] at n1;by_cases e2:c.iss.size<1∨32<c.iss.size
 ·have hb:Bf c=9:=by unfold Bf;rw [A3 e1,Bl e2]
  have:(decide ((1:Int)<=c.iss.size)&&decide ((c.iss.size:Int)<=32))=false:=by simp;omega
  rw [this] at n2;rw [hb,A3 (by omega)]
  try unfold Aa
  repeat first
   |((with_reducible first|apply Ap|apply Ag|apply Am|apply As|apply Ax|apply Az|apply A6|apply Cf|apply Ah);· first|with_reducible rfl|(simp (disch:=omega) only [n1,n2,Int.reduceEq,Bp,Br]<;>with_reducible rfl))
   |((with_reducible first|apply Ak|apply Al);· first|with_reducible rfl|omega|(simp (disch:=omega) only [gT,n1,n2,Int.reduceEq,Bp,Br]<;>omega))
   |(with_reducible apply Ao;· first|with_reducible rfl|(simp (disch:=omega) only [gF,n1,n2,Int.reduceEq,Bp,Br]<;>omega))
  try simp (disch:=omega) only [n1,n2,Int.reduceEq,Bp,Br]
  all_goals rfl
 have q2:(decide ((1:Int)<=c.iss.size)&&decide ((c.iss.size:Int)<=32))=true:=by simp;omega
 rw [q2] at n2;cases e3:TH c.subj
 ·have hb:Bf c=6:=by unfold Bf;rw [A3 e1,A3 e2,Bl e3]
  rw [e3] at v1;rw [hb,A3 (by omega)]
  try unfold Aa
  repeat first
   |((with_reducible first|apply Ap|apply Ag|apply Am|apply As|apply Ax|apply Az|apply A6|apply Cf|apply Ah);· first|with_reducible rfl|(simp (disch:=omega) only [n1,n2,v1,Int.reduceEq,Bp,Br]<;>with_reducible rfl))
   |((with_reducible first|apply Ak|apply Al);· first|with_reducible rfl|omega|(simp (disch:=omega) only [gT,n1,n2,v1,Int.reduceEq,Bp,Br]<;>omega))
   |(with_reducible apply Ao;· first|with_reducible rfl|(simp (disch:=omega) only [gF,n1,n2,v1,Int.reduceEq,Bp,Br]<;>omega))
  try simp (disch:=omega) only [n1,n2,v1,Int.reduceEq,Bp,Br]
  all_goals rfl
 rw [e3] at v1;cases e4:TH c.iss
 ·have hb:Bf c=6:=by unfold Bf;rw [A3 e1,A3 e2,A3 (by simp [e3]),Bl e4]
  rw [e4] at v2;rw [hb,A3 (by omega)]
  try unfold Aa
  repeat first
   |((with_reducible first|apply Ap|apply Ag|apply Am|apply As|apply Ax|apply Az|apply A6|apply Cf|apply Ah);· first|with_reducible rfl|(simp (disch:=omega) only [n1,n2,v1,v2,Int.reduceEq,Bp,Br]<;>with_reducible rfl))
   |((with_reducible first|apply Ak|apply Al);· first|with_reducible rfl|omega|(simp (disch:=omega) only [gT,n1,n2,v1,v2,Int.reduceEq,Bp,Br]<;>omega))
   |(with_reducible apply Ao;· first|with_reducible rfl|(simp (disch:=omega) only [gF,n1,n2,v1,v2,Int.reduceEq,Bp,Br]<;>omega))
  try simp (disch:=omega) only [n1,n2,v1,v2,Int.reduceEq,Bp,Br]
  all_goals rfl
 rw [e4] at v2;cases e5:Df c.key.h
 rotate_left
 ·have hb:Bf c=9:=by unfold Bf;rw [A3 e1,A3 e2,A3 (by simp [e3]),A3 (by simp [e4]),Bl e5]
  rw [e5,Bl rfl] at ek;rw [hb,A3 (by omega)]
  try unfold Aa
  repeat first
   |((with_reducible first|apply Ap|apply Ag|apply Am|apply As|apply Ax|apply Az|apply A6|apply Cf|apply Ah);· first|with_reducible rfl|(simp (disch:=omega) only [n1,n2,v1,v2,ek,e90,e00,Int.reduceEq,Bp,Br]<;>with_reducible rfl))
   |((with_reducible first|apply Ak|apply Al);· first|with_reducible rfl|omega|(simp (disch:=omega) only [gT,n1,n2,v1,v2,ek,e90,e00,Int.reduceEq,Bp,Br]<;>omega))
   |(with_reducible apply Ao;· first|with_reducible rfl|(simp (disch:=omega) only [gF,n1,n2,v1,v2,ek,e90,e00,Int.reduceEq,Bp,Br]<;>omega))
  try simp (disch:=omega) only [n1,n2,v1,v2,ek,e90,e00,Int.reduceEq,Bp,Br]
  all_goals rfl
 rw [e5,A3 (by simp)] at ek
 have B0:Bf c=if c.fr<0 then 9 else if c.un<c.fr then 9 else if c.un>1099511627776 then 9 else if c.path<0∨2<c.path then 9 else if c.path≠0∧c.auth=false then 4 else 0:=by
  unfold Bf;rw [A3 e1,A3 e2,A3 (by simp [e3]),A3 (by simp [e4]),A3 (by simp [e5])]
 by_cases e6:c.fr<0
 ·have hb:Bf c=9:=by rw [B0,Bl e6]
  rw [hb,A3 (by omega)]
  try unfold Aa
  repeat first
   |((with_reducible first|apply Ap|apply Ag|apply Am|apply As|apply Ax|apply Az|apply A6|apply Cf|apply Ah);· first|with_reducible rfl|(simp (disch:=omega) only [n1,n2,v1,v2,ek,e90,e00,Int.reduceEq,Bp,Br]<;>with_reducible rfl))
   |((with_reducible first|apply Ak|apply Al);· first|with_reducible rfl|omega|(simp (disch:=omega) only [gT,n1,n2,v1,v2,ek,e90,e00,Int.reduceEq,Bp,Br]<;>omega))
   |(with_reducible apply Ao;· first|with_reducible rfl|(simp (disch:=omega) only [gF,n1,n2,v1,v2,ek,e90,e00,Int.reduceEq,Bp,Br]<;>omega))
  try simp (disch:=omega) only [n1,n2,v1,v2,ek,e90,e00,Int.reduceEq,Bp,Br]
  all_goals rfl
 by_cases e7:c.un<c.fr
 ·have hb:Bf c=9:=by rw [B0,A3 e6,Bl e7]
  rw [hb,A3 (by omega)]
  try unfold Aa
  repeat first
   |((with_reducible first|apply Ap|apply Ag|apply Am|apply As|apply Ax|apply Az|apply A6|apply Cf|apply Ah);· first|with_reducible rfl|(simp (disch:=omega) only [n1,n2,v1,v2,ek,e90,e00,Int.reduceEq,Bp,Br]<;>with_reducible rfl))
   |((with_reducible first|apply Ak|apply Al);· first|with_reducible rfl|omega|(simp (disch:=omega) only [gT,n1,n2,v1,v2,ek,e90,e00,Int.reduceEq,Bp,Br]<;>omega))
   |(with_reducible apply Ao;· first|with_reducible rfl|(simp (disch:=omega) only [gF,n1,n2,v1,v2,ek,e90,e00,Int.reduceEq,Bp,Br]<;>omega))
  try simp (disch:=omega) only [n1,n2,v1,v2,ek,e90,e00,Int.reduceEq,Bp,Br]
  all_goals rfl
 by_cases e8:c.un>1099511627776
 ·have hb:Bf c=9:=by rw [B0,A3 e6,A3 e7,Bl e8]
  rw [hb,A3 (by omega)]
  try unfold Aa
  repeat first
   |((with_reducible first|apply Ap|apply Ag|apply Am|apply As|apply Ax|apply Az|apply A6|apply Cf|apply Ah);· first|with_reducible rfl|(simp (disch:=omega) only [n1,n2,v1,v2,ek,e90,e00,Int.reduceEq,Bp,Br]<;>with_reducible rfl))
   |((with_reducible first|apply Ak|apply Al);· first|with_reducible rfl|omega|(simp (disch:=omega) only [gT,n1,n2,v1,v2,ek,e90,e00,Int.reduceEq,Bp,Br]<;>omega))
   |(with_reducible apply Ao;· first|with_reducible rfl|(simp (disch:=omega) only [gF,n1,n2,v1,v2,ek,e90,e00,Int.reduceEq,Bp,Br]<;>omega))
  try simp (disch:=omega) only [n1,n2,v1,v2,ek,e90,e00,Int.reduceEq,Bp,Br]
  all_goals rfl
 by_cases e9:c.path<0∨2<c.path
 ·have hb:Bf c=9:=by rw [B0,A3 e6,A3 e7,A3 e8,Bl e9]
  have:(decide ((0:Int)<=c.path)&&decide (c.path<=2))=false:=by simp;omega
  rw [this] at n3;rw [hb,A3 (by omega)]
  try unfold Aa
  repeat first
   |((with_reducible first|apply Ap|apply Ag|apply Am|apply As|apply Ax|apply Az|apply A6|apply Cf|apply Ah);· first|with_reducible rfl|(simp (disch:=omega) only [n1,n2,v1,v2,ek,e90,e00,n3,Int.reduceEq,Bp,Br]<;>with_reducible rfl))
   |((with_reducible first|apply Ak|apply Al);· first|with_reducible rfl|omega|(simp (disch:=omega) only [gT,n1,n2,v1,v2,ek,e90,e00,n3,Int.reduceEq,Bp,Br]<;>omega))
   |(with_reducible apply Ao;· first|with_reducible rfl|(simp (disch:=omega) only [gF,n1,n2,v1,v2,ek,e90,e00,n3,Int.reduceEq,Bp,Br]<;>omega))
  try simp (disch:=omega) only [n1,n2,v1,v2,ek,e90,e00,n3,Int.reduceEq,Bp,Br]
  all_goals rfl
 have q9:(decide ((0:Int)<=c.path)&&decide (c.path<=2))=true:=by simp;omega
 rw [q9] at n3;by_cases e10:c.path≠0∧c.auth=false
 ·have hb:Bf c=4:=by rw [B0,A3 e6,A3 e7,A3 e8,A3 e9,Bl e10]
  have ea:=e10.2;have ep:(c.path != 0)=true:=by simp [e10.1]
  rw [hb,A3 (by omega)]
  try unfold Aa
  repeat first
   |((with_reducible first|apply Ap|apply Ag|apply Am|apply As|apply Ax|apply Az|apply A6|apply Cf|apply Ah);· first|with_reducible rfl|(simp (disch:=omega) only [n1,n2,v1,v2,ek,e90,e00,n3,ep,ea,Int.reduceEq,Bp,Br]<;>with_reducible rfl))
   |((with_reducible first|apply Ak|apply Al);· first|with_reducible rfl|omega|(simp (disch:=omega) only [gT,n1,n2,v1,v2,ek,e90,e00,n3,ep,ea,Int.reduceEq,Bp,Br]<;>omega))
   |(with_reducible apply Ao;· first|with_reducible rfl|(simp (disch:=omega) only [gF,n1,n2,v1,v2,ek,e90,e00,n3,ep,ea,Int.reduceEq,Bp,Br]<;>omega))
  try simp (disch:=omega) only [n1,n2,v1,v2,ek,e90,e00,n3,ep,ea,Int.reduceEq,Bp,Br]
  all_goals rfl
 have hb:Bf c=0:=by rw [B0,A3 e6,A3 e7,A3 e8,A3 e9,A3 e10]
 rw [hb,Bl rfl];have a0:=VJ (fu:=fu) (d:=d+3) 9 (by omega) (by omega)
 have t1:=Acf (fu:=fu) (d:=d+3) c.subj;have t2:=Acf (fu:=fu) (d:=d+3) c.iss;have nu:=fun n=>Adu (fu:=fu) (d:=d+3) n
 have da:=Am3 (fu:=fu) (d:=d+3) (G0 c.key);have k9:(G0 c.key).length=9:=rfl;rw [k9] at da;have bo:=Ab1 (fu:=fu) (d:=d+3) c.auth;have wf:wrap .u64 c.fr=c.fr:=B5 (by omega) (by omega)
 have wu:wrap .u64 c.un=c.un:=B5 (by omega) (by omega)
 have wp:wrap .u64 c.path=c.path:=B5 (by omega) (by omega)
 have bi:=Ahi (fu:=fu) (d:=d) (EY hw hb) (by simp [Bb]) hfu
 have L9:=Aq .u8 (G0 c.key);rw [k9] at L9;have tk9:List.take 9 (Ai .u8 (G0 c.key))=Ai .u8 (G0 c.key):=I0 (by omega)
 have LB:=Aq .u8 (Bc (Bb c));have tB:=Gd .u8 (Bc (Bb c));generalize Bc (Bb c)=W at bi LB tB ⊢;simp only [Bb,Bq,List.flatMap_cons,List.flatMap_nil,It.cells,List.cons_append,Zzq,List.append_nil,Ib,Y4,Bv,Nat.reduceAdd] at bi;have w0:wrap .u64 (0:Int)=0:=rfl;by_cases ep:c.path=0
 ·rw [ep] at bi n3
  try unfold Aa
  repeat first
   |((with_reducible first|apply Ap|apply Ag|apply Am|apply As|apply Ax|apply Az|apply A6|apply Cf|apply Ah);· first|with_reducible rfl|(simp (disch:=omega) only [n1,n2,v1,v2,ek,e90,e00,n3,ep,w0,a0,t1,t2,nu,Bj,Bv,B8,L9,tk9,da,wf,wu,bo,bi,LB,tB,Int.reduceEq,Bp,Br]<;>with_reducible rfl))
   |((with_reducible first|apply Ak|apply Al);· first|with_reducible rfl|omega|(simp (disch:=omega) only [gT,n1,n2,v1,v2,ek,e90,e00,n3,ep,w0,a0,t1,t2,nu,Bj,Bv,B8,L9,tk9,da,wf,wu,bo,bi,LB,tB,Int.reduceEq,Bp,Br]<;>omega))
   |(with_reducible apply Ao;· first|with_reducible rfl|(simp (disch:=omega) only [gF,n1,n2,v1,v2,ek,e90,e00,n3,ep,w0,a0,t1,t2,nu,Bj,Bv,B8,L9,tk9,da,wf,wu,bo,bi,LB,tB,Int.reduceEq,Bp,Br]<;>omega))
  try simp (disch:=omega) only [n1,n2,v1,v2,ek,e90,e00,n3,ep,w0,a0,t1,t2,nu,Bj,Bv,B8,L9,tk9,da,wf,wu,bo,bi,LB,tB,Int.reduceEq,Bp,Br]
  all_goals rfl
 ·have ea:c.auth=true:=by
   cases h:c.auth
   ·exact absurd ⟨ep,h⟩ e10
   ·rfl
  rw [ea,Bl rfl] at bo bi;have ep:(c.path != 0)=true:=by simp [ep]
  try unfold Aa
  repeat first
   |((with_reducible first|apply Ap|apply Ag|apply Am|apply As|apply Ax|apply Az|apply A6|apply Cf|apply Ah);· first|with_reducible rfl|(simp (disch:=omega) only [n1,n2,v1,v2,ek,e90,e00,n3,ep,ea,a0,t1,t2,nu,Bj,Bv,B8,L9,tk9,da,wf,wu,wp,bo,bi,LB,tB,Int.reduceEq,Bp,Br]<;>with_reducible rfl))
   |((with_reducible first|apply Ak|apply Al);· first|with_reducible rfl|omega|(simp (disch:=omega) only [gT,n1,n2,v1,v2,ek,e90,e00,n3,ep,ea,a0,t1,t2,nu,Bj,Bv,B8,L9,tk9,da,wf,wu,wp,bo,bi,LB,tB,Int.reduceEq,Bp,Br]<;>omega))
   |(with_reducible apply Ao;· first|with_reducible rfl|(simp (disch:=omega) only [gF,n1,n2,v1,v2,ek,e90,e00,n3,ep,ea,a0,t1,t2,nu,Bj,Bv,B8,L9,tk9,da,wf,wu,wp,bo,bi,LB,tB,Int.reduceEq,Bp,Br]<;>omega))
  try simp (disch:=omega) only [n1,n2,v1,v2,ek,e90,e00,n3,ep,ea,a0,t1,t2,nu,Bj,Bv,B8,L9,tk9,da,wf,wu,wp,bo,bi,LB,tB,Int.reduceEq,Bp,Br]
  all_goals rfl
end
end
section
open Go.IntKind (wrap)
def KH (s:Sg):Int:=if Df s.path.length=true then 9 else if Gc s.leaf s.path.length=true then 9 else if s.chains.length≠18 then 4 else 0
def Dy (c:Ce):Int:=if Bf c=0 then KH c.sig else Bf c
def Eu (c:Ce):List Int:=Bc (Bb c)++M6 c.sig
def FU (c:Ce):List PV:=if Dy c=0 then [.own 1 (Eu c).length (Ai .u8 (Eu c)),.sc (.int .i64 0)] else [.own 1 0 [],.sc (.int .i64 (Dy c))]
def Sb (c:Ce):Int:=Em 14 (Bc (Bb c))
def Od (c:Ce)(k:Ky):Int:=if Bf c=0 then Jp k (Sb c) c.sig else Bf c
def DJ:Ce:=⟨C5,C5,0,⟨0,0⟩,0,0,false,0,0,⟨0,[],[]⟩⟩
def Ab0 (c:Ce)(seed h leaf:Int):Ce × Int:=
 if Bf c=0 then (match TQ seed h leaf (Sb c) with|some s=>({ c with sig:=s },0)|none=>(DJ,9)) else (DJ,Bf c)
theorem I8 {c:Ce}(h:Bf c=0):(Bc (Bb c)).length<=200:=by
 have k9:(Bo (G0 c.key)).size=9:=by rw [Ez];rfl
 have ns:C5.size=0:=rfl;unfold Bf at h
 have hs:c.subj.size<=32∧c.iss.size<=32:=by
  split at h
  ·cases h
  ·split at h
   ·cases h
   ·omega
 have e:Bc (Bb c)=Bw ⟨5,9,C5⟩++(Bw ⟨4,0,c.subj⟩++(Bw ⟨4,0,c.iss⟩++(Bw ⟨1,c.serial,C5⟩++(Bw ⟨3,0,Bo (G0 c.key)⟩++(Bw ⟨1,c.fr,C5⟩++(Bw ⟨1,c.un,C5⟩++(Bw ⟨7,(if c.auth=true then 1 else 0),C5⟩++(Bw ⟨1,c.path,C5⟩++(Bw ⟨1,c.model,C5⟩++[]))))))))):=rfl
 rw [e];simp only [H1,Y4];have i1:=Hy ⟨5,9,C5⟩;have i2:=Hy ⟨4,0,c.subj⟩;have i3:=Hy ⟨4,0,c.iss⟩;have i4:=Hy ⟨1,c.serial,C5⟩;have i5:=Hy ⟨3,0,Bo (G0 c.key)⟩;have i6:=Hy ⟨1,c.fr,C5⟩;have i7:=Hy ⟨1,c.un,C5⟩;have i8:=Hy ⟨7,(if c.auth=true then 1 else 0),C5⟩
 have i9:=Hy ⟨1,c.path,C5⟩;have i0:=Hy ⟨1,c.model,C5⟩;simp only [ns,k9] at i1 i2 i3 i4 i5 i6 i7 i8 i9 i0;omega
theorem BW {c:Ce}(hw:c.wf)(h:Bf c=0):G9 (Bc (Bb c)):=by
 intro y hy;obtain ⟨x,hx,hy⟩:=List.mem_flatMap.1 hy;have:=(EY hw h x hx).1;exact Afv this.k1 this.k8 this.n0 y hy
theorem Aix {seed h leaf m:Int}{s:Sg}(e:TQ seed h leaf m=some s):s.chains.length=18∧s.path.length<=4:=by
 unfold TQ at e;split at e
 ·cases e
 ·rename_i hh;split at e
  ·cases e
  ·cases e;have:=Gr (by simpa using hh)
   simp [CP];omega
section
variable {fu d:Nat} {c:Ce}
theorem Aft (hfu:1000<=fu)(hw:c.wf)(hs1:c.subj.size<=9223372036854775807)(hs2:c.iss.size<=9223372036854775807)(hp:c.sig.path.length<=1000000000):Ae C0 Tryz.prog fu (d+6) Ny [.agg c.cells]=some ⟨FU c,[]⟩:=by
 refine (Yl fu (d+5) c.subj c.iss c.serial c.key.h c.key.root c.fr c.un c.auth c.path c.model c.sig.leaf c.sig.chains.length (Ai .u64 c.sig.chains) c.sig.path.length (Ai .u64 c.sig.path)).trans ?_;have bq:=ID (fu:=fu) (d:=d) hfu hw hs1 hs2;simp only [Ce.cells] at bq;have es:=EX (fu:=fu) (d:=d+3) hfu c.sig hp;simp only [Sg.cells] at es;unfold G3 at bq;unfold FU Dy;by_cases h0:Bf c=0
 ·have lb:=I8 h0;rw [Bl h0] at bq;rw [Bl h0];have L1:=Aq .u8 (Bc (Bb c));have t1:=Gd .u8 (Bc (Bb c));have e00:((0:Int) != 0)=false:=rfl;have e90:((9:Int) != 0)=true:=rfl;have e40:((4:Int) != 0)=true:=rfl;unfold KH;by_cases g1:Df c.sig.path.length=true
  ·rw [Bl g1] at es;rw [Bl g1,A3 (by omega)]
   try unfold Aa
   repeat first
    |((with_reducible first|apply Ap|apply Ag|apply Am|apply Az|apply A6|apply Ah);· first|with_reducible rfl|(simp (disch:=omega) only [bq,es,e00,e90]<;>with_reducible rfl))
    |((with_reducible first|apply Ak|apply Al);· first|with_reducible rfl|omega|(simp (disch:=omega) only [gT,bq,es,e00,e90]<;>omega))
    |(with_reducible apply Ao;· first|with_reducible rfl|(simp (disch:=omega) only [gF,bq,es,e00,e90]<;>omega))
   try simp (disch:=omega) only [bq,es,e00,e90]
   all_goals rfl
  rw [A3 g1] at es;rw [A3 g1];by_cases g2:Gc c.sig.leaf c.sig.path.length=true
  ·rw [Bl g2] at es;rw [Bl g2,A3 (by omega)]
   try unfold Aa
   repeat first
    |((with_reducible first|apply Ap|apply Ag|apply Am|apply Az|apply A6|apply Ah);· first|with_reducible rfl|(simp (disch:=omega) only [bq,es,e00,e90]<;>with_reducible rfl))
    |((with_reducible first|apply Ak|apply Al);· first|with_reducible rfl|omega|(simp (disch:=omega) only [gT,bq,es,e00,e90]<;>omega))
    |(with_reducible apply Ao;· first|with_reducible rfl|(simp (disch:=omega) only [gF,bq,es,e00,e90]<;>omega))
   try simp (disch:=omega) only [bq,es,e00,e90]
   all_goals rfl
  rw [A3 g2] at es;rw [A3 g2];by_cases g3:c.sig.chains.length≠18
  ·rw [Bl g3] at es;rw [Bl g3,A3 (by omega)]
   try unfold Aa
   repeat first
    |((with_reducible first|apply Ap|apply Ag|apply Am|apply Az|apply A6|apply Ah);· first|with_reducible rfl|(simp (disch:=omega) only [bq,es,e00,e40]<;>with_reducible rfl))
    |((with_reducible first|apply Ak|apply Al);· first|with_reducible rfl|omega|(simp (disch:=omega) only [gT,bq,es,e00,e40]<;>omega))
    |(with_reducible apply Ao;· first|with_reducible rfl|(simp (disch:=omega) only [gF,bq,es,e00,e40]<;>omega))
   try simp (disch:=omega) only [bq,es,e00,e40]
   all_goals rfl
  rw [A3 g3] at es;rw [A3 g3,Bl rfl];have hb4:=Gr (h:=c.sig.path.length) (by simpa using g1)
  have ls:(M6 c.sig).length=2+8*c.sig.chains.length+8*c.sig.path.length:=by
   unfold M6;simp only [Ib,H1,Dd];omega
  have L2:=Aq .u8 (M6 c.sig);have t2:=Gd .u8 (M6 c.sig)
  have ea:Ai .u8 (Bc (Bb c))++Ai .u8 (M6 c.sig)=Ai .u8 (Eu c):=by
   unfold Eu;rw [Ai,Ai,Ai,List.flatMap_append]
  have le:(Eu c).length=(Bc (Bb c)).length+(M6 c.sig).length:=by unfold Eu;rw [H1]
  have L3:=Aq .u8 (Eu c);have t3:List.take ((Bc (Bb c)).length+(M6 c.sig).length) (Ai .u8 (Eu c))=Ai .u8 (Eu c):=I0 (by omega)
  rw [le] at L3 ⊢;generalize (Bc (Bb c)).length=n1 at *
  generalize (M6 c.sig).length=n2 at *
  generalize Ai .u8 (Bc (Bb c))=c1 at *
  generalize Ai .u8 (M6 c.sig)=c2 at *
  try unfold Aa
  repeat first
   |((with_reducible first|apply Ap|apply Ag|apply Am|apply Az|apply A6|apply Ah);· first|with_reducible rfl|(simp (disch:=omega) only [bq,es,e00,Bj,Bv,B8,L1,t1,L2,t2,ea,L3,t3]<;>with_reducible rfl))
   |((with_reducible first|apply Ak|apply Al);· first|with_reducible rfl|omega|(simp (disch:=omega) only [gT,bq,es,e00,Bj,Bv,B8,L1,t1,L2,t2,ea,L3,t3]<;>omega))
   |(with_reducible apply Ao;· first|with_reducible rfl|(simp (disch:=omega) only [gF,bq,es,e00,Bj,Bv,B8,L1,t1,L2,t2,ea,L3,t3]<;>omega))
  try simp (disch:=omega) only [bq,es,e00,Bj,Bv,B8,L1,t1,L2,t2,ea,L3,t3]
  all_goals rfl
 ·have hne:(Bf c != 0)=true:=by simp [h0]
  rw [A3 h0] at bq;rw [A3 h0,A3 h0]
  try unfold Aa
  repeat first
   |((with_reducible first|apply Ap|apply Ag|apply Am|apply Az|apply A6|apply Ah);· first|with_reducible rfl|(simp (disch:=omega) only [bq,hne]<;>with_reducible rfl))
   |((with_reducible first|apply Ak|apply Al);· first|with_reducible rfl|omega|(simp (disch:=omega) only [gT,bq,hne]<;>omega))
   |(with_reducible apply Ao;· first|with_reducible rfl|(simp (disch:=omega) only [gF,bq,hne]<;>omega))
  try simp (disch:=omega) only [bq,hne]
  all_goals rfl
theorem Aa4 (hfu:1000<=fu)(hw:c.wf)(hs1:c.subj.size<=9223372036854775807)(hs2:c.iss.size<=9223372036854775807)(k:Ky):Ae C0 Tryz.prog fu (d+8) Na [.agg c.cells,.agg k.cells]=some ⟨[.sc (.int .i64 (Od c k))],[]⟩:=by
 refine (Yt fu (d+7) c.subj c.iss c.serial c.key.h c.key.root c.fr c.un c.auth c.path c.model c.sig.leaf c.sig.chains.length (Ai .u64 c.sig.chains) c.sig.path.length (Ai .u64 c.sig.path) k.h k.root).trans ?_;have bq:=ID (fu:=fu) (d:=d+2) hfu hw hs1 hs2;simp only [Ce.cells] at bq;unfold G3 at bq;unfold Od;by_cases h0:Bf c=0
 ·have lb:=I8 h0;rw [Bl h0] at bq;rw [Bl h0];have e00:((0:Int) != 0)=false:=rfl;have hh:=Vq (fu:=fu) (d:=d+3) (BW hw h0) (by omega) (by omega) (by omega) 14
  have vr:=FJ (fu:=fu) (d:=d) hfu k (Sb c) c.sig;simp only [Ky.cells,Sg.cells] at vr;have eW:Em 14 (Bc (Bb c))=Sb c:=rfl;rw [eW] at hh;have L1:=Aq .u8 (Bc (Bb c));have t1:=Gd .u8 (Bc (Bb c));generalize (Bc (Bb c)).length=n1 at *
  generalize Ai .u8 (Bc (Bb c))=c1 at *
  try unfold Aa
  repeat first
   |((with_reducible first|apply Ap|apply Ag|apply Am|apply Az|apply A6|apply Ah);· first|with_reducible rfl|(simp (disch:=omega) only [bq,e00,Bj,Bv,B8,L1,t1,hh,vr]<;>with_reducible rfl))
   |((with_reducible first|apply Ak|apply Al);· first|with_reducible rfl|omega|(simp (disch:=omega) only [gT,bq,e00,Bj,Bv,B8,L1,t1,hh,vr]<;>omega))
   |(with_reducible apply Ao;· first|with_reducible rfl|(simp (disch:=omega) only [gF,bq,e00,Bj,Bv,B8,L1,t1,hh,vr]<;>omega))
  try simp (disch:=omega) only [bq,e00,Bj,Bv,B8,L1,t1,hh,vr]
  all_goals rfl
 ·have hne:(Bf c != 0)=true:=by simp [h0]
  rw [A3 h0] at bq;rw [A3 h0]
  try unfold Aa
  repeat first
   |((with_reducible first|apply Ap|apply Ag|apply Am|apply Az|apply A6|apply Ah);· first|with_reducible rfl|(simp (disch:=omega) only [bq,hne]<;>with_reducible rfl))
   |((with_reducible first|apply Ak|apply Al);· first|with_reducible rfl|omega|(simp (disch:=omega) only [gT,bq,hne]<;>omega))
   |(with_reducible apply Ao;· first|with_reducible rfl|(simp (disch:=omega) only [gF,bq,hne]<;>omega))
  try simp (disch:=omega) only [bq,hne]
  all_goals rfl
theorem Ai6 (hfu:1000<=fu)(hw:c.wf)(hs1:c.subj.size<=9223372036854775807)(hs2:c.iss.size<=9223372036854775807)(seed h leaf:Int):Ae C0 Tryz.prog fu (d+13) Qh [.agg c.cells,.sc (.int .u64 seed),.sc (.int .i64 h),.sc (.int .i64 leaf)]=some ⟨[.agg (Ab0 c seed h leaf).1.cells,.sc (.int .i64 (Ab0 c seed h leaf).2)],[]⟩:=by
 refine (CR fu (d+12) c.subj c.iss c.serial c.key.h c.key.root c.fr c.un c.auth c.path c.model c.sig.leaf c.sig.chains.length (Ai .u64 c.sig.chains) c.sig.path.length (Ai .u64 c.sig.path) seed h leaf).trans ?_;have bq:=ID (fu:=fu) (d:=d+7) hfu hw hs1 hs2;simp only [Ce.cells] at bq;unfold G3 at bq;unfold Ab0;by_cases h0:Bf c=0
 ·have lb:=I8 h0;rw [Bl h0] at bq;rw [Bl h0];have e00:((0:Int) != 0)=false:=rfl;have e90:((9:Int) != 0)=true:=rfl;have hh:=Vq (fu:=fu) (d:=d+8) (BW hw h0) (by omega) (by omega) (by omega) 14
  have sg:=SF (fu:=fu) (d:=d) hfu seed h leaf (Sb c);have eW:Em 14 (Bc (Bb c))=Sb c:=rfl;rw [eW] at hh;have L1:=Aq .u8 (Bc (Bb c));have t1:=Gd .u8 (Bc (Bb c));generalize (Bc (Bb c)).length=n1 at *
  generalize Ai .u8 (Bc (Bb c))=c1 at *
  cases hs:TQ seed h leaf (Sb c) with
  |none=>
   rw [hs] at sg;simp only [GP,Sg.owned,Y4] at sg
   try unfold Aa
   repeat first
    |((with_reducible first|apply Ap|apply Ag|apply Am|apply Az|apply A6|apply Ah);· first|with_reducible rfl|(simp (disch:=omega) only [bq,e00,e90,Bj,Bv,B8,L1,t1,hh,sg]<;>with_reducible rfl))
    |((with_reducible first|apply Ak|apply Al);· first|with_reducible rfl|omega|(simp (disch:=omega) only [gT,bq,e00,e90,Bj,Bv,B8,L1,t1,hh,sg]<;>omega))
    |(with_reducible apply Ao;· first|with_reducible rfl|(simp (disch:=omega) only [gF,bq,e00,e90,Bj,Bv,B8,L1,t1,hh,sg]<;>omega))
   try simp (disch:=omega) only [bq,e00,e90,Bj,Bv,B8,L1,t1,hh,sg]
   all_goals rfl
  |some s=>
   rw [hs] at sg;simp only [GP,Sg.owned] at sg;have hl:=Aix hs;have La:=Aq .u64 s.chains;have Lb:=Aq .u64 s.path;have ta:=Gd .u64 s.chains;have tb:=Gd .u64 s.path
   try unfold Aa
   repeat first
    |((with_reducible first|apply Ap|apply Ag|apply Am|apply Az|apply A6|apply Ah);· first|with_reducible rfl|(simp (disch:=omega) only [bq,e00,Bj,Bv,B8,L1,t1,hh,sg,La,Lb,ta,tb]<;>with_reducible rfl))
    |((with_reducible first|apply Ak|apply Al);· first|with_reducible rfl|omega|(simp (disch:=omega) only [gT,bq,e00,Bj,Bv,B8,L1,t1,hh,sg,La,Lb,ta,tb]<;>omega))
    |(with_reducible apply Ao;· first|with_reducible rfl|(simp (disch:=omega) only [gF,bq,e00,Bj,Bv,B8,L1,t1,hh,sg,La,Lb,ta,tb]<;>omega))
   try simp (disch:=omega) only [bq,e00,Bj,Bv,B8,L1,t1,hh,sg,La,Lb,ta,tb]
   all_goals rfl
 ·have hne:(Bf c != 0)=true:=by simp [h0]
  rw [A3 h0] at bq;rw [A3 h0]
  try unfold Aa
  repeat first
   |((with_reducible first|apply Ap|apply Ag|apply Am|apply Az|apply A6|apply Ah);· first|with_reducible rfl|(simp (disch:=omega) only [bq,hne]<;>with_reducible rfl))
   |((with_reducible first|apply Ak|apply Al);· first|with_reducible rfl|omega|(simp (disch:=omega) only [gT,bq,hne]<;>omega))
   |(with_reducible apply Ao;· first|with_reducible rfl|(simp (disch:=omega) only [gF,bq,hne]<;>omega))
  try simp (disch:=omega) only [bq,hne]
  all_goals rfl
end
end
section
open Go.IntKind (wrap)
structure Hs where
 p:Bool
 left:Int
 last:List Int
def Hs.cells (f:Hs):List PV:=[.sc (.bool f.p),.sc (.int .i64 f.left),.lst false 1 f.last.length (Ai .u8 f.last)]
def Fz (l:List Hs):List PV:=l.flatMap Hs.cells
theorem Hs.cells_len (f:Hs):f.cells.length=3:=rfl
theorem Ds (l:List Hs):(Fz l).length=l.length*3:=PI Hs.cells_len l
theorem D8 (l:List Hs):List.take (l.length*3) (Fz l)=Fz l:=I0 (by rw [Ds];omega)
def U8 (l:List Hs):Bool:=match l.getLast? with|some f=>f.p&&(Int.tmod f.left 2==0)|none=>false
def Ld (l:List Hs)(cnt k:Int):Int:=
 if cnt>=512 then 8 else if k<1 then 3 else if k>8 then 3 else if U8 l=true∧k≠1∧k≠2∧k≠4 then 3 else if (l.length:Int)>8 then 5 else 0
abbrev M7 (l:List Hs)(cnt:Int):List PV:=[.own 3 l.length (Fz l),.sc (.int .i64 cnt)]
section
variable {fu d:Nat}
theorem ZF (l:List Hs)(cnt:Int):Ae C0 Tryz.prog fu (d+1) Wi [.pbox (M7 l cnt)]=some ⟨[.sc (.bool (decide (cnt>0)&&((l.length:Int)==0)))],[M7 l cnt]⟩:=by
 rw [LQ];have L:=Ds l;have t:=D8 l;by_cases h:cnt>0
 ·simp (disch:=omega) only [B6,h,decide_true,Zzm,L,t]
 ·simp (disch:=omega) only [B6,h,decide_false,Bool.false_and,L,t]
theorem PO {l:List Hs}(hl:l.length<=1000000)(cnt:Int):Ae C0 Tryz.prog fu (d+1) Tr [.pbox (M7 l cnt)]=some ⟨[.sc (.bool (U8 l))],[M7 l cnt]⟩:=by
 rw [HA];have L:=Ds l;have t:=D8 l;unfold U8;rcases List.eq_nil_or_concat l with rfl|⟨l',f,rfl⟩
 ·have e0:¬(((([]:List Hs).length:Nat):Int)>0):=by simp
  simp (disch:=first|assumption|omega) only [B6,L,t]
  first|done|rfl
 ·have hn:(l'.concat f).length=l'.length+1:=by simp
  have hx:(l'.concat f)[l'.length]?=some f:=by simp
  have gl:(l'.concat f).getLast?=some f:=by simp
  have w:wrap .i64 (((l'.concat f).length:Int)-1)=(l'.length:Int):=by rw [At (by omega) (by omega)];omega
  have g0:(Fz (l'.concat f)).getD (l'.length*3) .top=.sc (.bool f.p):=Ex Hs.cells_len hx (j:=0) (by omega)
  have g1:(Fz (l'.concat f)).getD (l'.length*3+1) .top=.sc (.int .i64 f.left):=Ex Hs.cells_len hx (j:=1) (by omega)
  rw [gl];cases hp:f.p
  ·rw [hp] at g0;simp (disch:=omega) only [B6,w,Hc,Bv,Lz,g0,L,t,hp,Bool.false_and]
  ·rw [hp] at g0;simp (disch:=omega) only [B6,w,Hc,Bv,Lz,g0,g1,L,t,hp,Zzm]
theorem Aal {l:List Hs}(hl:l.length<=1000000)(cnt k:Int):Ae C0 Tryz.prog fu (d+2) Uj [.pbox (M7 l cnt),.sc (.int .i64 k)]=some ⟨[.sc (.int .i64 (Ld l cnt k))],[M7 l cnt]⟩:=by
 refine (JJ fu (d+1) l.length (Fz l) cnt k).trans ?_;have L:=Ds l;have t:=D8 l;have ak:=PO (fu:=fu) (d:=d) hl cnt;unfold M7 at ak;unfold Ld;by_cases c1:cnt>=512
 ·rw [Bl c1];simp (disch:=omega) only [B6,L,t]
 rw [A3 c1];by_cases c2:k<1
 ·rw [Bl c2];simp (disch:=omega) only [B6,L,t]
 rw [A3 c2];by_cases c3:k>8
 ·rw [Bl c3];simp (disch:=omega) only [B6,L,t]
 rw [A3 c3];cases ha:U8 l
 ·rw [ha] at ak;rw [A3 (by simp)]
  by_cases c5:(l.length:Int)>8
  ·rw [Bl c5];simp (disch:=omega) only [B6,L,t,ak]
  ·rw [A3 c5];simp (disch:=omega) only [B6,L,t,ak]
 ·rw [ha] at ak;by_cases c4:k≠1∧k≠2∧k≠4
  ·rw [Bl ⟨rfl,c4⟩];simp (disch:=omega) only [B6,L,t,ak,Dp];rw [A3 c4.1,A3 c4.2.1,A3 c4.2.2]
  ·rw [A3 (fun h=>c4 h.2)]
   have hk:k=1∨k=2∨k=4:=by omega
   by_cases c5:(l.length:Int)>8
   ·rw [Bl c5];rcases hk with rfl|rfl|rfl<;>simp (disch:=omega) only [B6,L,t,ak,Dp,Int.reduceEq,if_true,if_false]
   ·rw [A3 c5];rcases hk with rfl|rfl|rfl<;>simp (disch:=omega) only [B6,L,t,ak,Dp,Int.reduceEq,if_true,if_false]
end
end
section
open Go.IntKind (wrap)
theorem Pp (l:List Hs):l=[]∨∃l' f,l=l'++[f]:=by
 rcases List.eq_nil_or_concat l with h|⟨a,b,h⟩
 ·exact .inl h
 ·exact .inr ⟨a,b,by simpa using h⟩
def LL (l:List Hs):List Hs:=(l.reverse.dropWhile fun f=>f.left==0).reverse
theorem VX {l:List Hs}{f:Hs}(h:f.left=0):LL (l++[f])=LL l:=by
 unfold LL;rw [List.reverse_append,List.reverse_singleton,List.singleton_append,List.dropWhile_cons_of_pos (by simp [h])]
theorem QE {l:List Hs}{f:Hs}(h:f.left≠0):LL (l++[f])=l++[f]:=by
 unfold LL;rw [List.reverse_append,List.reverse_singleton,List.singleton_append,List.dropWhile_cons_of_neg (by simp [h])]
 simp
def SK (l:List Hs):List Hs:=match l.getLast? with|some f=>l.dropLast++[⟨f.p,wrap .i64 (f.left-1),f.last⟩]|none=>[]
def VY (l:List Hs)(x:It):List Hs:=
 if x.k=5∧x.n>0 then l++[⟨false,wrap .i64 x.n,[]⟩] else if x.k=6∧x.n>0 then l++[⟨true,wrap .i64 (2*wrap .i64 x.n),[]⟩] else l
def Gf (l:List Hs)(x:It):List Hs:=LL (VY (SK l) x)
theorem Ze (l:List Hs)(f:Hs):SK (l++[f])=l++[⟨f.p,wrap .i64 (f.left-1),f.last⟩]:=by
 unfold SK;simp
theorem RI (l:List Hs):(SK l).length=l.length:=by
 rcases Pp l with rfl|⟨l',f,rfl⟩
 ·rfl
 ·rw [Ze];simp
theorem Vz (a b:List Hs):Fz (a++b)=Fz a++Fz b:=by
 unfold Fz;rw [List.flatMap_append]
theorem Wb (f:Hs):Fz [f]=f.cells:=by
 unfold Fz;simp
section
variable {fu d:Nat}
theorem WS {call:Ar}{a0_0n:Nat}{a0_0:List PV}{a0_1 a1_0 a1_1:Int}{a1_2:ByteArray}{c:Int}:∀(n:Nat)(l:List Hs)(r:List PV)(nn:Nat),l.length=n->n<nn->n<=1000000 ->
  Bi fu call a0_0n a0_0 a0_1 a1_0 a1_1 a1_2 nn (l.length:Int) l.length c (Fz l++r)=some ⟨[],[M7 (LL l) c]⟩:=by
 intro n
 induction n with
 |zero=>
  intro l r nn hl hn _;obtain rfl:l=[]:=List.eq_nil_of_length_eq_zero hl;obtain ⟨m,rfl⟩:∃m,nn=m+1:=⟨nn-1,by omega⟩
  have e0:¬(((([]:List Hs).length:Nat):Int)>0):=by simp
  have e1:([]:List Hs).length*3<=(Fz []++r).length:=by simp
  rw [Qd];simp (disch:=first|assumption|omega) only [B6];rfl
 |succ n ih=>
  intro l r nn hl hn hm;obtain ⟨m,rfl⟩:∃m,nn=m+1:=⟨nn-1,by omega⟩
  rcases Pp l with rfl|⟨l',f,rfl⟩
  ·simp at hl
  have hn':(l'++[f]).length=l'.length+1:=by simp
  have hx:(l'++[f])[l'.length]?=some f:=by simp
  have w:wrap .i64 (((l'++[f]).length:Int)-1)=(l'.length:Int):=by rw [At (by omega) (by omega)];omega
  have L:=Ds (l'++[f]);have L2:(Fz (l'++[f])++r).length=(l'++[f]).length*3+r.length:=by rw [H1,L]
  have t:List.take ((l'++[f]).length*3) (Fz (l'++[f])++r)=Fz (l'++[f]):=by rw [←L,List.take_left'];rfl
  have g1:(Fz (l'++[f])++r).getD (l'.length*3+1) .top=.sc (.int .i64 f.left):=by
   have:=Ex (f:=Hs.cells) Hs.cells_len hx (j:=1) (by omega)
   rw [List.getD_eq_getElem?_getD,List.getElem?_append_left (by rw [L];omega),←List.getD_eq_getElem?_getD]
   exact this
  rw [Qd];by_cases hz:f.left=0
  ·have e:Fz (l'++[f])++r=Fz l'++(f.cells++r):=by rw [Vz,Wb,Zzv]
   have q:=ih l' (f.cells++r) m (by omega) (by omega) (by omega)
   rw [←e] at q;rw [VX hz];have hb:(f.left==(0:Int))=true:=by simp [hz]
   simp (disch:=omega) only [B6,w,Hc,Bv,Nat.sub_zero,g1,hb,q]
  ·rw [QE hz];have hb:(f.left==(0:Int))=false:=by simp [hz]
   simp (disch:=omega) only [B6,w,Hc,Bv,g1,hb,L2,t]
theorem Af3 {l:List Hs}{x:It}{cnt:Int}(hl:l.length<=100000)(hf:l.length+1<fu)(h0:0<=cnt)(h1:cnt<=1000000):
  Ae C0 Tryz.prog fu (d+1) Wj [.pbox (M7 l cnt),.agg x.cells]=some ⟨[],[M7 (Gf l x) (cnt+1)]⟩:=by
 obtain ⟨k,v,s⟩:=x;refine (KI fu d l.length (Fz l) cnt k v s).trans ?_;have w1:wrap .i64 (cnt+1)=cnt+1:=At (by omega) (by omega)
 unfold Gf VY;have DL:=RI l;generalize hD:SK l=l1 at DL ⊢;have L1:(Fz l1).length=l.length*3:=by rw [Ds,DL]
 have t1:List.take (l.length*3) (Fz l1)=Fz l1:=I0 (by omega)
 have p5:∀b u,Fz l1++[.sc (.bool b),.sc (.int .i64 u),.lst false 1 0 []]=Fz (l1++[⟨b,u,[]⟩]):=by
  intro b u;rw [Vz,Wb];rfl
 have lp0:∀call,Bi fu call l.length (Fz l) cnt k v s fu (l.length:Int) l.length (cnt+1) (Fz l1)=some ⟨[],[M7 (LL l1) (cnt+1)]⟩:=by
  intro call;have:=WS (fu:=fu) (call:=call) (a0_0n:=l.length) (a0_0:=Fz l) (a0_1:=cnt) (a1_0:=k) (a1_1:=v) (a1_2:=s) (c:=cnt+1) _ l1 [] fu rfl (by omega) (by omega)
  rw [List.append_nil,DL] at this;exact this
 have lp1:∀call f,Bi fu call l.length (Fz l) cnt k v s fu ((l.length+1:Nat):Int) (l.length+1) (cnt+1) (Fz (l1++[f]))=some ⟨[],[M7 (LL (l1++[f])) (cnt+1)]⟩:=by
  intro call f;have ll:(l1++[f]).length=l.length+1:=by simp [DL]
  have:=WS (fu:=fu) (call:=call) (a0_0n:=l.length) (a0_0:=Fz l) (a0_1:=cnt) (a1_0:=k) (a1_1:=v) (a1_2:=s) (c:=cnt+1) _ (l1++[f]) [] fu rfl (by omega) (by omega)
  rw [List.append_nil,ll] at this;exact this
 rcases Pp l with rfl|⟨l',f,rfl⟩
 ·have e0:¬(((([]:List Hs).length:Nat):Int)>0):=by simp
  obtain rfl:l1=[]:=by rw [←hD];rfl
  by_cases k5:k=5
  ·subst k5;by_cases hv:v>0
   ·rw [Bl ⟨rfl,hv⟩];simp (disch:=first|assumption|omega) only [B6,w1,L1,t1,p5,lp1,Int.reduceBEq]
   ·rw [A3 (fun h=>hv h.2),A3 (fun h=>hv h.2)]
    simp (disch:=first|assumption|omega) only [B6,w1,L1,t1,p5,lp0,Int.reduceBEq]
  ·have b5:(k==(5:Int))=false:=by simp [k5]
   rw [A3 (fun h=>k5 h.1)]
   by_cases k6:k=6
   ·subst k6;by_cases hv:v>0
    ·rw [Bl ⟨rfl,hv⟩];simp (disch:=first|assumption|omega) only [B6,w1,L1,t1,p5,lp1,Int.reduceBEq]
    ·rw [A3 (fun h=>hv h.2)]
     simp (disch:=first|assumption|omega) only [B6,w1,L1,t1,p5,lp0,Int.reduceBEq]
   ·have b6:(k==(6:Int))=false:=by simp [k6]
    rw [A3 (fun h=>k6 h.1)]
    simp (disch:=first|assumption|omega) only [B6,w1,L1,t1,p5,lp0,b5,b6]
 ·have hn':(l'++[f]).length=l'.length+1:=by simp
  have hx:(l'++[f])[l'.length]?=some f:=by simp
  have w:wrap .i64 (((l'++[f]).length:Int)-1)=(l'.length:Int):=by rw [At (by omega) (by omega)];omega
  have L:=Ds (l'++[f]);have g1:(Fz (l'++[f])).getD (l'.length*3+1) .top=.sc (.int .i64 f.left):=Ex Hs.cells_len hx (j:=1) (by omega)
  have sp:B7 (Fz (l'++[f])) [.sc (.int .i64 (wrap .i64 (f.left-1)))] (l'.length*3+1)=Fz l1:=by
   rw [Jg (by omega),←hD,Ze,Vz,Vz,Wb,Wb]
   have:=Ds l';rw [List.set_append_right _ _ (by omega)]
   have:l'.length*3+1-(Fz l').length=1:=by omega
   rw [this];rfl
  by_cases k5:k=5
  ·subst k5;by_cases hv:v>0
   ·rw [Bl ⟨rfl,hv⟩];simp (disch:=first|assumption|omega) only [B6,w,w1,Hc,Bv,g1,sp,L1,t1,p5,lp1,Int.reduceBEq]
   ·rw [A3 (fun h=>hv h.2),A3 (fun h=>hv h.2)]
    simp (disch:=first|assumption|omega) only [B6,w,w1,Hc,Bv,g1,sp,L1,t1,p5,lp0,Int.reduceBEq]
  ·have b5:(k==(5:Int))=false:=by simp [k5]
   rw [A3 (fun h=>k5 h.1)]
   by_cases k6:k=6
   ·subst k6;by_cases hv:v>0
    ·rw [Bl ⟨rfl,hv⟩];simp (disch:=first|assumption|omega) only [B6,w,w1,Hc,Bv,g1,sp,L1,t1,p5,lp1,Int.reduceBEq]
    ·rw [A3 (fun h=>hv h.2)]
     simp (disch:=first|assumption|omega) only [B6,w,w1,Hc,Bv,g1,sp,L1,t1,p5,lp0,Int.reduceBEq]
   ·have b6:(k==(6:Int))=false:=by simp [k6]
    rw [A3 (fun h=>k6 h.1)]
    simp (disch:=first|assumption|omega) only [B6,w,w1,Hc,Bv,g1,sp,L1,t1,p5,lp0,b5,b6]
end
end
section
open Go.IntKind (wrap)
def GY (s:ByteArray):Bool:=Array.toList (ByteArray.data s)==Array.toList (ByteArray.data (ByteArray.mk #[]))
def Hj (x:It):Bool:=
 if x.k=3 then x.n==0 else if x.k=4 then x.n==0 else if x.k=8 then (x.n==0)&&GY x.s else if x.k=7 then decide (x.n<=1)&&GY x.s else GY x.s
section
variable {fu d:Nat}
theorem Ajo (x:It):Ae C0 Tryz.prog fu (d+1) DT [.agg x.cells]=some ⟨[.sc (.bool (Hj x))],[]⟩:=by
 obtain ⟨k,n,s⟩:=x;refine (TT fu d k n s).trans ?_;unfold Hj;show _=some (⟨[.sc (.bool (if k=3 then n==0 else if k=4 then n==0 else if k=8 then (n==0)&&GY s else if k=7 then decide (n<=1)&&GY s else GY s))],[]⟩:A0)
 by_cases h3:k=3
 ·subst h3;simp only [B6,Int.reduceBEq,if_true]
 by_cases h4:k=4
 ·subst h4;simp only [B6,Int.reduceBEq,Int.reduceEq,if_true,if_false]
 have b3:(k==(3:Int))=false:=by simp [h3]
 have b4:(k==(4:Int))=false:=by simp [h4]
 by_cases h8:k=8
 ·subst h8;cases hn:n==0<;>simp only [B6,Int.reduceBEq,Int.reduceEq,if_true,if_false,hn,Zzm,Bool.false_and]<;>rfl
 have b8:(k==(8:Int))=false:=by simp [h8]
 by_cases h7:k=7
 ·subst h7;cases hn:decide (n<=1)<;>simp only [B6,Int.reduceBEq,Int.reduceEq,if_true,if_false,hn,Zzm,Bool.false_and]<;>rfl
 have b7:(k==(7:Int))=false:=by simp [h7]
 simp only [B6,b3,b4,b8,b7,A3 h3,A3 h4,A3 h8,A3 h7];rfl
theorem MS {l:List Hs}{x:It}{cnt:Int}(hl:l.length<=1000)(hf:l.length+1<fu)(h0:0<=cnt)(h1:cnt<=1000000)(ha:U8 l=false)
  (hs:x.s.size<=100000)(hv:x.k=4->Lib.validD x.s.data.toList=true):
  Ae C0 Tryz.prog fu (d+2) Kw [.pbox (M7 l cnt),.agg x.cells]=some ⟨[.sc (.int .i64 0)],[M7 (Gf l x) (cnt+1)]⟩:=by
 have st:=Af3 (fu:=fu) (d:=d) (l:=l) (x:=x) (cnt:=cnt) (by omega) hf h0 h1
 have ak:=PO (fu:=fu) (d:=d) (l:=l) (by omega) cnt
 have L:=Ds l;have t:=D8 l;have L2:=Ds (Gf l x);have t2:=D8 (Gf l x);rw [ha] at ak;generalize hE:Gf l x=E at *
 obtain ⟨k,n,s⟩:=x;have va:=M1 (fu:=fu) (d:=d) s (Nat.le_trans hs (by omega))
 unfold TH at va;refine (Le fu (d+1) l.length (Fz l) cnt k n s).trans ?_;unfold M7 It.cells at st;unfold M7 at ak;by_cases k4:k=4
 ·subst k4;rw [hv rfl] at va;simp (disch:=omega) only [B6,Int.reduceBEq,va,Bp,L,t,ak,st,L2,t2]
 ·have b4:(k==(4:Int))=false:=by simp [k4]
  simp (disch:=omega) only [B6,b4,L,t,ak,st,L2,t2]
theorem Alr {l:List Hs}{x:It}{cnt:Int}(hl:l.length<=1000)(hf:l.length+1<fu)(h0:0<=cnt)(h1:cnt<=1000000)(ha:U8 l=false)
  (hs:x.s.size<=1024)(hv:x.k=4->Lib.validD x.s.data.toList=true)(hd:(decide (cnt>0)&&((l.length:Int)==0))=false) (hm:Ld l cnt x.k=0)(hsh:Hj x=true)(hn:x.n<=512∨(x.k≠5∧x.k≠6)):
  Ae C0 Tryz.prog fu (d+3) Qx [.pbox (M7 l cnt),.agg x.cells]=some ⟨[.sc (.int .i64 0)],[M7 (Gf l x) (cnt+1)]⟩:=by
 have ac:=MS (fu:=fu) (d:=d) (l:=l) (x:=x) (cnt:=cnt) hl hf h0 h1 ha (by omega) hv
 have dn:=ZF (fu:=fu) (d:=d+1) l cnt;have ad:=Aal (fu:=fu) (d:=d) (l:=l) (by omega) cnt x.k
 have sh:=Ajo (fu:=fu) (d:=d+1) x;rw [hd] at dn;rw [hm] at ad;rw [hsh] at sh;have L:=Ds l;have t:=D8 l;have L2:=Ds (Gf l x);have t2:=D8 (Gf l x);generalize hE:Gf l x=E at *
 obtain ⟨k,n,s⟩:=x;have hs':¬((s.size:Int)>1024):=by have:s.size<=1024:=hs;omega
 refine (CV fu (d+2) l.length (Fz l) cnt k n s).trans ?_;unfold M7 It.cells at ac;unfold M7 at dn ad;unfold It.cells at sh;by_cases k5:k=5
 ·subst k5;have hn':¬(n>512):=hn.elim (fun h=>Int.not_lt.2 h) (fun h=>absurd rfl h.1)
  simp (disch:=first|assumption|omega) only [B6,Int.reduceBEq,dn,ad,sh,ac,Bp,L,t,L2,t2,bne_self_eq_false]
 have b5:(k==(5:Int))=false:=by simp [k5]
 by_cases k6:k=6
 ·subst k6;have hn':¬(n>512):=hn.elim (fun h=>Int.not_lt.2 h) (fun h=>absurd rfl h.2)
  simp (disch:=first|assumption|omega) only [B6,Int.reduceBEq,dn,ad,sh,ac,Bp,L,t,L2,t2,bne_self_eq_false]
 have b6:(k==(6:Int))=false:=by simp [k6]
 simp (disch:=first|assumption|omega) only [B6,b5,b6,dn,ad,sh,ac,Bp,L,t,L2,t2,bne_self_eq_false]
end
end
section
open Go.IntKind (wrap)
theorem En (l:List It):(Bq l).length=l.length*3:=PI It.cells_len l
structure Aqk (l:List Hs) (cnt:Int) (x:It):Prop where
 hl:l.length<=100
 h0:0<=cnt
 h1:cnt<=1000
 ha:U8 l=false
 hs:x.s.size<=1024
 hv:x.k=4->Lib.validD x.s.data.toList=true
 hd:(decide (cnt>0)&&((l.length:Int)==0))=false
 hm:Ld l cnt x.k=0
 hsh:Hj x=true
 hn:x.n<=512∨(x.k≠5∧x.k≠6)
def Sm:List Hs->Int->List It->Prop
 |l,cnt,[]=>l=[]∧cnt>0
 |l,cnt,x::r=>Aqk l cnt x∧Sm (Gf l x) (cnt+1) r
section
variable {fu d:Nat}
theorem UC (hfu:200<=fu){l:List It}(hl:l.length<=100000){a0n:Nat}{a0:List PV}:∀(r:List It)(i:Nat)(fs:List Hs)(cnt:Int)(nn:Nat),l.drop i=r->i+r.length=l.length->r.length<nn->Sm fs cnt r ->
  Jq fu (Ae C0 Tryz.prog fu (d+3)) a0n a0 nn l.length (Bq l) (l.length:Int) (i:Int) fs.length cnt (Fz fs)=some ⟨[.sc (.int .i64 0)],[]⟩:=by
 intro r
 induction r with
 |nil=>
  intro i fs cnt nn hd hi hn hg;obtain ⟨rfl,hc⟩:=hg;obtain ⟨m,rfl⟩:∃m,nn=m+1:=⟨nn-1,by omega⟩
  rw [Y4,Lz] at hi;rw [Sv];have dn:=ZF (fu:=fu) (d:=d+2) [] cnt;have e:(decide (cnt>0)&&(((([]:List Hs).length:Nat):Int)==0))=true:=by simp [hc]
  rw [e] at dn;unfold M7 at dn;have L:=Ds [];have t:=D8 [];have c:¬((i:Int)<(l.length:Int)):=by omega
  simp (disch:=first|assumption|omega) only [B6,L,t,dn,Bp]
 |cons x r ih=>
  intro i fs cnt nn hd hi hn hg;obtain ⟨g,hg⟩:=hg;obtain ⟨m,rfl⟩:∃m,nn=m+1:=⟨nn-1,by omega⟩
  rw [Ib] at hi hn
  have hx:l[i]?=some x:=by
   have:=congrArg (fun q=>q[0]?) hd
   simpa using this
  have hd':l.drop (i+1)=r:=by
   have:=congrArg (List.drop 1) hd;rw [List.drop_drop] at this
   simpa using this
  have q:=ih (i+1) (Gf fs x) (cnt+1) m hd' (by omega) (by omega) hg
  have ck:=Alr (fu:=fu) (d:=d) (l:=fs) (x:=x) (cnt:=cnt) (by have:=g.hl;omega) (by have:=g.hl;omega) g.h0 (by have:=g.h1;omega) g.ha g.hs g.hv g.hd g.hm g.hsh g.hn
  generalize Gf fs x=E at *
  have g0:(Bq l).getD (i*3) .top=.sc (.int .i64 x.k):=Ex It.cells_len hx (j:=0) (by omega)
  have g1:(Bq l).getD (i*3+1) .top=.sc (.int .u64 x.n):=Ex It.cells_len hx (j:=1) (by omega)
  have g2:(Bq l).getD (i*3+1+1) .top=.sc (.string x.s):=Ex It.cells_len hx (j:=2) (by omega)
  have L:=Ds fs;have t:=D8 fs;have w:wrap .i64 ((i:Int)+1)=((i+1:Nat):Int):=by rw [At (by omega) (by omega)];omega
  rw [Sv];unfold M7 It.cells at ck;simp (disch:=first|assumption|omega) only [B6,Hc,g0,g1,g2,L,t,ck,bne_self_eq_false,w,q]
theorem Uy (hfu:200<=fu){l:List It}(hl:l.length<=100000)(hf:l.length<fu)(hg:Sm [] 0 l):Ae C0 Tryz.prog fu (d+4) X8 [.lst false 3 l.length (Bq l)]=some ⟨[.sc (.int .i64 0)],[]⟩:=by
 rw [NX];exact UC hfu hl l 0 [] 0 fu rfl (by omega) hf hg
end
end
section
open Go.IntKind (wrap)
section
variable {fu d:Nat}
theorem Ach (hfu:1000<=fu){l:List It}(hl:l.length<=100000){a0n:Nat}{a0:List PV}:∀(r:List It)(i:Nat)(o:List Int)(nn:Nat),l.drop i=r->i+r.length=l.length->r.length<nn->(∀x∈r,x.ok)->(o++Bc r).length<=300000 ->
  My fu (Ae C0 Tryz.prog fu (d+2)) a0n a0 nn o.length l.length (Bq l) (l.length:Int) (i:Int) (Ai .u8 o)=some ⟨[.own 1 (o++Bc r).length (Ai .u8 (o++Bc r)),.sc (.int .i64 0)],[]⟩:=by
 intro r
 induction r with
 |nil=>
  intro i o nn hd hi hn hg hb;obtain ⟨m,rfl⟩:∃m,nn=m+1:=⟨nn-1,by omega⟩
  rw [Y4,Lz] at hi;have e:o++Bc []=o:=by simp [Bc]
  rw [e,Vn];have L:(Ai .u8 o).length=o.length:=Aq _ _;have t:List.take o.length (Ai .u8 o)=Ai .u8 o:=I0 (by omega)
  have c:¬((i:Int)<(l.length:Int)):=by omega
  simp (disch:=first|assumption|omega) only [B6,Bj,L,t]
 |cons x r ih=>
  intro i o nn hd hi hn hg hb;obtain ⟨m,rfl⟩:∃m,nn=m+1:=⟨nn-1,by omega⟩
  rw [Ib] at hi hn
  have hx:l[i]?=some x:=by
   have:=congrArg (fun q=>q[0]?) hd
   simpa using this
  have hd':l.drop (i+1)=r:=by
   have:=congrArg (List.drop 1) hd;rw [List.drop_drop] at this
   simpa using this
  have e:o++Bc (x::r)=(o++Bw x)++Bc r:=by simp [Bc]
  rw [e] at hb ⊢
  have ho:o.length<=300000:=by
   rw [H1,H1] at hb;omega
  have q:=ih (i+1) (o++Bw x) m hd' (by omega) (by omega) (fun y hy=>hg y (List.mem_cons_of_mem _ hy)) hb
  have it:=Agu (fu:=fu) (d:=d) hfu (l:=o) ho (x:=x) (hg x (by simp))
  have g0:(Bq l).getD (i*3) .top=.sc (.int .i64 x.k):=Ex It.cells_len hx (j:=0) (by omega)
  have g1:(Bq l).getD (i*3+1) .top=.sc (.int .u64 x.n):=Ex It.cells_len hx (j:=1) (by omega)
  have g2:(Bq l).getD (i*3+1+1) .top=.sc (.string x.s):=Ex It.cells_len hx (j:=2) (by omega)
  have L:(Ai .u8 o).length=o.length:=Aq _ _;have t:List.take o.length (Ai .u8 o)=Ai .u8 o:=I0 (by omega)
  have w:wrap .i64 ((i:Int)+1)=((i+1:Nat):Int):=by rw [At (by omega) (by omega)];omega
  rw [Vn];unfold It.cells at it;simp (disch:=first|assumption|omega) only [B6,Hc,Bj,g0,g1,g2,L,t,it,w,q]
theorem Ac0 (hfu:1000<=fu){l:List It}(hl:l.length<=100000)(hf:l.length<fu)(hg:Sm [] 0 l) (hk:∀x∈l,x.ok)(hb:(Bc l).length<=300000):
  Ae C0 Tryz.prog fu (d+5) U6 [.lst false 3 l.length (Bq l)]=some ⟨[.own 1 (Bc l).length (Ai .u8 (Bc l)),.sc (.int .i64 0)],[]⟩:=by
 rw [TK];have v:=Uy (fu:=fu) (d:=d) (by omega) hl hf hg
 have q:=Ach (fu:=fu) (d:=d+2) hfu hl (a0n:=l.length) (a0:=Bq l) l 0 [] fu rfl (by omega) hf hk (by simpa using hb)
 rw [Zzq] at q;simp only [B6,v,bne_self_eq_false];exact q
end
end
section
open Go.IntKind (wrap)
section
variable {fu d:Nat}
theorem YY (hfu:200<=fu){l:List It}(hl:l.length<=100000)(hf:l.length<fu)(hg:Sm [] 0 l):
  Ae C0 Tryz.prog fu (d+5) AU [.own 3 l.length (Bq l)]=some ⟨[.own 3 l.length (Bq l),.sc (.int .i64 0)],[]⟩:=by
 rw [SH];have v:=Uy (fu:=fu) (d:=d) hfu hl hf hg;have L:=En l;have t:List.take (l.length*3) (Bq l)=Bq l:=I0 (by omega)
 simp (disch:=omega) only [B6,L,t,B8,v,bne_self_eq_false]
end
end
section
open Go.IntKind (wrap)
structure XF (x:It):Prop where
 kd:x.k=1∨x.k=2∨x.k=3∨x.k=4∨x.k=7∨x.k=8
 hs:x.s.size<=1024
 hv:x.k=4->Lib.validD x.s.data.toList=true
 hsh:Hj x=true
 n0:0<=x.n
theorem XF.ok {x:It}(h:XF x):x.ok:=by
 have:=h.kd;have:=h.hs;exact ⟨by omega,by omega,h.n0,by omega⟩
theorem XF.push {x:It}(h:XF x)(l:List Hs):VY l x=l:=by
 unfold VY;have:=h.kd;rw [A3 (by omega),A3 (by omega)]
theorem Ahu {x:It}(h:XF x):Sm [] 0 [x]:=by
 have hk:=h.kd;refine ⟨⟨by simp,by omega,by omega,rfl,h.hs,h.hv,rfl,?_,h.hsh,.inr (by omega)⟩,?_,?_⟩
 ·unfold Ld;rw [A3 (by omega),A3 (by omega),A3 (by omega),A3 (by intro q;exact absurd q.1 (by decide)),A3 (by simp)]
 ·unfold Gf;rw [h.push];rfl
 ·omega
theorem SG:∀(r:List It)(cnt:Int),r≠[]->(∀x∈r,XF x)->0<cnt->cnt+r.length<=500->Sm [⟨false,r.length,[]⟩] cnt r
 |[],_,h,_,_,_=>absurd rfl h
 |x::r,cnt,_,hf,hc,hl=>by
  have h:=hf x (by simp)
  have hk:=h.kd;simp only [Ib] at hl;refine ⟨⟨by simp,by omega,by omega,rfl,h.hs,h.hv,by simp,?_,h.hsh,.inr (by omega)⟩,?_⟩
  ·unfold Ld;rw [A3 (by omega),A3 (by omega),A3 (by omega),A3 (by intro q;exact absurd q.1 (by simp [U8])),A3 (by simp)]
  ·have w:wrap .i64 (((x::r).length:Int)-1)=(r.length:Int):=by
    rw [At (by simp only [Ib];omega) (by simp only [Ib];omega)]
    simp only [Ib];omega
   have e:Gf [⟨false,((x::r).length:Nat),[]⟩] x=LL [⟨false,(r.length:Nat),[]⟩]:=by
    unfold Gf;rw [h.push];have:=Ze [] ⟨false,((x::r).length:Nat),[]⟩;rw [Zzq,Zzq] at this;rw [this];simp only [w]
   rw [e];by_cases hr:r=[]
   ·subst hr;have:=VX (l:=[]) (f:=⟨false,(([]:List It).length:Nat),[]⟩) rfl;rw [Zzq] at this;rw [this];exact ⟨rfl,by omega⟩
   ·have:=QE (l:=[]) (f:=⟨false,(r.length:Nat),[]⟩) (by simp only;have:=List.length_pos_iff.2 hr;omega)
    rw [Zzq] at this;rw [this];exact SG r (cnt+1) hr (fun y hy=>hf y (List.mem_cons_of_mem _ hy)) (by omega) (by omega)
theorem Ajc {r:List It}(hr:r≠[]) (hl:r.length<=400)(hf:∀x∈r,XF x):Sm [] 0 (⟨5,r.length,⟨#[]⟩⟩::r):=by
 have hp:=List.length_pos_iff.2 hr;refine ⟨⟨by simp,by omega,by omega,rfl,Nat.zero_le _,(by intro h;cases h),rfl,?_,(by rfl),.inl (by simp only;omega)⟩,?_⟩
 ·unfold Ld;rw [A3 (by omega),A3 (by simp),A3 (by simp),A3 (by intro q;exact absurd q.1 (by decide)),A3 (by simp)]
 ·have w:wrap .i64 (r.length:Int)=(r.length:Int):=At (by omega) (by omega)
  have e:Gf [] ⟨5,(r.length:Nat),⟨#[]⟩⟩=LL [⟨false,(r.length:Nat),[]⟩]:=by
   unfold Gf VY;rw [Bl ⟨rfl,by simp only;omega⟩]
   simp only [w];rfl
  have:=QE (l:=[]) (f:=⟨false,(r.length:Nat),[]⟩) (by simp only;omega)
  rw [Zzq] at this;rw [e,this];exact SG r _ hr hf (by omega) (by omega)
end
section
open Go.IntKind (wrap)
def Aqq (v:List It):List PV:=[.lst false 3 v.length (Bq v)]
theorem Ajq (v:List It):(Aqq v).length=1:=rfl
def Ahb (l:List (List It)):List PV:=l.flatMap Aqq
theorem atv {l:List (List It)} {i:Nat}{v:List It}(h:l[i]?=some v):(Ahb l).getD (i*1) .top=.lst false 3 v.length (Bq v):=by
 exact Ex Ajq h (j:=0) (by omega)
section
variable {fu d:Nat}
theorem NA (hfu:1000<=fu){a0n:Nat}{a0:List PV}{vs:List (List It)} (hl:vs.length<=100000):∀(r:List (List It)) (i nn:Nat),vs.drop i=r->r.length<nn->(∀v∈r,Sm [] 0 v∧v.length<1000)->i<=vs.length ->
  Mh fu (Ae C0 Tryz.prog fu (d+4)) a0n a0 nn vs.length (Ahb vs) (vs.length:Int) (i:Int)=some ⟨[.sc (.int .i64 0)],[]⟩
 |_,_,0,_,h,_,_=>by omega
 |[],i,nn+1,h,hn,hg,hi=>by
  have:=drop_nil h;rw [V7,Dt _ _ _ (by omega)]
 |v::r,i,nn+1,h,hn,hg,hi=>by
  obtain ⟨h1,h2,h3⟩:=Cg h;simp only [Ib] at hn;have w:wrap .i64 ((i:Int)+1)=((i+1:Nat):Int):=by rw [At (by omega) (by omega)];omega
  have ih:=NA hfu (a0n:=a0n) (a0:=a0) hl r (i+1) nn h3 (by omega) (fun v hv=>hg v (List.mem_cons_of_mem _ hv)) (by omega)
  obtain ⟨g,gl⟩:=hg v (by simp)
  have vg:=Uy (fu:=fu) (d:=d) (by omega) (by omega) (by omega) g
  have g0:=atv h2;rw [V7];simp (disch:=omega) only [B6,Hc,g0,vg,bne_self_eq_false,w,ih]
theorem Abj (hfu:1000<=fu){vs:List (List It)} (hl:vs.length<1000)(hg:∀v∈vs,Sm [] 0 v∧v.length<1000):
  Ae C0 Tryz.prog fu (d+5) DS [.lst false 1 vs.length (Ahb vs)]=some ⟨[.sc (.int .i64 0)],[]⟩:=by
 rw [TX];exact NA hfu (by omega) vs 0 fu rfl (by omega) hg (by omega)
theorem HP (a b:List It):Bq (a++b)=Bq a++Bq b:=by
 unfold Bq;rw [List.flatMap_append]
theorem TB (hfu:1000<=fu){a0n:Nat}{a0:List PV}{vs:List (List It)} (hl:vs.length<=100000):∀(r:List (List It)) (i nn:Nat)(o:List It),vs.drop i=r->r.length<nn->Sm [] 0 (o++r.flatten)->(o++r.flatten).length<=500->i<=vs.length ->
  On fu (Ae C0 Tryz.prog fu (d+5)) a0n a0 nn o.length vs.length (Ahb vs) (vs.length:Int) (i:Int) (Bq o)=some ⟨[.own 3 (o++r.flatten).length (Bq (o++r.flatten)),.sc (.int .i64 0)],[]⟩
 |_,_,0,_,_,h,_,_,_=>by omega
 |[],i,nn+1,o,h,hn,hg,hb,hi=>by
  have:=drop_nil h;have e:o++([]:List (List It)).flatten=o:=by simp
  rw [e] at hg hb ⊢;have L:=En o;have t:List.take (o.length*3) (Bq o)=Bq o:=I0 (by omega)
  have ck:=YY (fu:=fu) (d:=d) (by omega) (by omega) (by omega) hg
  rw [X2,Dt _ _ _ (by omega)]
  simp (disch:=omega) only [B6,L,t,ck]
 |v::r,i,nn+1,o,h,hn,hg,hb,hi=>by
  obtain ⟨h1,h2,h3⟩:=Cg h;simp only [Ib] at hn;have w:wrap .i64 ((i:Int)+1)=((i+1:Nat):Int):=by rw [At (by omega) (by omega)];omega
  have e:o++(v::r).flatten=(o++v)++r.flatten:=by simp
  rw [e] at hg hb ⊢
  have hb':o.length+v.length<=500:=by
   rw [H1,H1] at hb;omega
  have ih:=TB hfu (a0n:=a0n) (a0:=a0) hl r (i+1) nn (o++v) h3 (by omega) hg hb (by omega)
  have g0:=atv h2;have L:=En o;have Lv:=En v;have t:List.take (o.length*3) (Bq o)=Bq o:=I0 (by omega)
  rw [H1,HP] at ih;rw [X2];simp (disch:=omega) only [B6,Hc,g0,L,Lv,t,w,ih]
theorem Ad9 (hfu:1000<=fu){vs:List (List It)} (hg:∀v∈vs,Sm [] 0 v∧v.length<1000) (hl:vs.length<=400)(ha:Sm [] 0 (⟨5,vs.length,⟨#[]⟩⟩::vs.flatten)) (hb:vs.flatten.length<=400):
  Ae C0 Tryz.prog fu (d+6) Xb [.lst false 1 vs.length (Ahb vs)]=some ⟨[.own 3 (vs.flatten.length+1) (Bq (⟨5,vs.length,⟨#[]⟩⟩::vs.flatten)),.sc (.int .i64 0)],[]⟩:=by
 rw [YJ];have f:=Abj (fu:=fu) (d:=d) hfu (by omega) hg
 have w:wrap .u64 (vs.length:Int)=vs.length:=B5 (by omega) (by omega)
 have q:=TB (fu:=fu) (d:=d) hfu (a0n:=vs.length) (a0:=Ahb vs) (by omega) vs 0 fu [⟨5,vs.length,⟨#[]⟩⟩] rfl (by omega) ha (by rw [H1,List.length_singleton];omega) (by omega)
 simp only [B6,f,bne_self_eq_false,w];exact q
end
end
section
open Go.IntKind (wrap)
def Atm (a b:List Int):Int:=Lib.compareBytes (a.map fun n=>n.toNat.toUInt8) (b.map fun n=>n.toNat.toUInt8)
def Wm (a b:List Int):Bool:=if a.length=b.length then decide (Atm a b<0) else decide (a.length<b.length)
def Lh (l:List Hs)(key:List Int):List Hs:=match l.getLast? with|some f=>l.dropLast++[⟨f.p,f.left,key⟩]|none=>l
theorem Ph (l:List Hs)(f:Hs)(key:List Int):Lh (l++[f]) key=l++[⟨f.p,f.left,key⟩]:=by
 unfold Lh;simp
def OW (l:List Hs):List Int:=match l.getLast? with|some f=>f.last|none=>[]
theorem ZA (l:List Hs)(f:Hs):OW (l++[f])=f.last:=by
 unfold OW;simp
def Es (l:List Hs)(x:It):Int × List Hs:=
 if x.k=4∧TH x.s=false then (6,l)
 else if U8 l=true then (if OW l≠[]∧Wm (OW l) (Bw x)=false then (7,l) else (0,Gf (Lh l (Bw x)) x))
 else (0,Gf l x)
theorem Ajm (x:It):1<=(Bw x).length:=by
 unfold Bw;have h2:=Im 2 x.s.size;have h3:=Im 3 x.s.size;have h4:=Im (x.k-1) x.n
 repeat' split
 all_goals try simp only [H1,Ib,Y4]
 all_goals omega
section
variable {fu d:Nat}
theorem Ae6 (a b:List Int):Ae C0 Tryz.prog fu (d+1) 143 [.lst false 1 a.length (Ai .u8 a),.lst false 1 b.length (Ai .u8 b)]=some ⟨[.sc (.int .i64 (Atm a b))],[]⟩:=by
 have h:Ae C0 Tryz.prog fu (d+1) 143 [.lst false 1 a.length (Ai .u8 a),.lst false 1 b.length (Ai .u8 b)]=Zg [.lst false 1 a.length (Ai .u8 a),.lst false 1 b.length (Ai .u8 b)]:=by kernel_rfl
 rw [h];unfold Zg;simp only [Aq,Nat.beq_refl,Bool.and_self,cond_true,Ft];rfl
theorem Adi (a b:List Int):Ae C0 Tryz.prog fu (d+2) Zr [.lst false 1 a.length (Ai .u8 a),.lst false 1 b.length (Ai .u8 b)]=some ⟨[.sc (.bool (Wm a b))],[]⟩:=by
 refine (RG fu (d+1) _ _ _ _).trans ?_;have c:=Ae6 (fu:=fu) (d:=d) a b;unfold Wm;by_cases h:a.length=b.length
 ·have b0:((a.length:Int) != (b.length:Int))=false:=by simp [h]
  rw [Bl h];simp only [B6,b0,c]
 ·have b0:((a.length:Int) != (b.length:Int))=true:=by simp;omega
  rw [A3 h];simp only [B6,b0];simp
theorem WY {l:List Hs}{x:It}{cnt:Int}(hfu:1000<=fu)(hl:l.length<=900)(h0:0<=cnt)(h1:cnt<=1000000)(hx:x.ok)(hs:x.s.size<=100000):
  Ae C0 Tryz.prog fu (d+3) Kw [.pbox (M7 l cnt),.agg x.cells]=some ⟨[.sc (.int .i64 (Es l x).1)],[M7 (Es l x).2 (if (Es l x).1=0 then cnt+1 else cnt)]⟩:=by
 cases ha:U8 l with
 |false=>
  cases hv:(x.k==4) && !TH x.s with
  |false=>
   have e:Es l x=(0,Gf l x):=by
    unfold Es;rw [A3,A3 (by simp [ha])]
    intro hh;simp [hh.1,hh.2] at hv
   have:=MS (fu:=fu) (d:=d+1) (l:=l) (x:=x) (cnt:=cnt) (by omega) (by omega) h0 h1 ha hs (by
    intro hk;simp [hk] at hv;exact hv)
   rw [e,this];rfl
  |true=>
   simp at hv
   have e:Es l x=(6,l):=by
    unfold Es;rw [Bl hv]
   rw [e];obtain ⟨k,n,s⟩:=x;have va:=M1 (fu:=fu) (d:=d+1) s (Nat.le_trans hs (by omega))
   simp only at hv;obtain ⟨rfl,hv⟩:=hv;rw [hv] at va;have L:=Ds l;have t:=D8 l;refine (Le fu (d+2) l.length (Fz l) cnt 4 n s).trans ?_;simp (disch:=omega) only [B6,Int.reduceBEq,va,L,t];rfl
 |true=>
  rcases Pp l with rfl|⟨l',f,rfl⟩
  ·exact absurd ha (by decide)
  have it:=Agu (fu:=fu) (d:=d) hfu (l:=[]) (by simp) hx
  rw [Zzq] at it;have hp:=Ajm x;have sm:=Adi (fu:=fu) (d:=d) f.last (Bw x);have ak:=PO (fu:=fu) (d:=d+1) (l:=l'++[f]) (by omega) cnt
  rw [ha] at ak;have st:=Af3 (fu:=fu) (d:=d+1) (l:=Lh (l'++[f]) (Bw x)) (x:=x) (cnt:=cnt) (by rw [Ph];simp at hl ⊢;omega) (by rw [Ph];simp at hl ⊢;omega) h0 h1
  have E:Es (l'++[f]) x=(if x.k=4∧TH x.s=false then (6,l'++[f]) else if f.last≠[]∧Wm f.last (Bw x)=false then (7,l'++[f]) else (0,Gf (Lh (l'++[f]) (Bw x)) x)):=by
   unfold Es;rw [ha,ZA];simp only [if_true]
  have hn':(l'++[f]).length=l'.length+1:=by simp
  have hx':(l'++[f])[l'.length]?=some f:=by simp
  have w:wrap .i64 (((l'++[f]).length:Int)-1)=(l'.length:Int):=by rw [At (by omega) (by omega)];omega
  have L:=Ds (l'++[f]);have t:=D8 (l'++[f]);have g2:(Fz (l'++[f])).getD (l'.length*3+2) .top=.lst false 1 f.last.length (Ai .u8 f.last):=Ex Hs.cells_len hx' (j:=2) (by omega)
  have sp:B7 (Fz (l'++[f])) [.lst false 1 (Bw x).length (Ai .u8 (Bw x))] (l'.length*3+2)=Fz (Lh (l'++[f]) (Bw x)):=by
   rw [Jg (by omega),Ph,Vz,Vz,Wb,Wb]
   have:=Ds l';rw [List.set_append_right _ _ (by omega)]
   have:l'.length*3+2-(Fz l').length=2:=by omega
   rw [this];rfl
  have LK:=Ds (Lh (l'++[f]) (Bw x));have tK:=D8 (Lh (l'++[f]) (Bw x));have nK:(Lh (l'++[f]) (Bw x)).length=(l'++[f]).length:=by rw [Ph];simp
  rw [nK] at LK tK;have L2:=Ds (Gf (Lh (l'++[f]) (Bw x)) x);have t2:=D8 (Gf (Lh (l'++[f]) (Bw x)) x);have Lk:=Aq .u8 (Bw x);have tk:=Gd .u8 (Bw x);unfold M7 at st ak ⊢;rw [nK] at st;rw [E];generalize Gf (Lh (l'++[f]) (Bw x)) x=S at *
  generalize Fz (Lh (l'++[f]) (Bw x))=K at *
  have hsm:f.last.length=0->Wm f.last (Bw x)=true:=by
   intro hz;unfold Wm;rw [A3 (by omega)]
   simp;omega
  have hnil:f.last≠[]↔0<f.last.length:=by rw [List.length_pos_iff]
  generalize hKe:Bw x=key at *
  obtain ⟨k,n,s⟩:=x;have va:=M1 (fu:=fu) (d:=d+1) s (Nat.le_trans hs (by omega))
  unfold TH at va ⊢;unfold It.cells at st it ⊢;simp only at st it hs ⊢;refine (Le fu (d+2) (l'++[f]).length (Fz (l'++[f])) cnt k n s).trans ?_;simp only [Y4] at it;have it0:Ai .u8 []=[]:=rfl;rw [it0] at it
  try unfold Aa
  repeat' first
   |((with_reducible first|apply Ap|apply Ag|apply Am|apply As|apply Az|apply Bh|apply Ah);· first|with_reducible rfl|(simp (disch:=first|with_reducible assumption|omega) only [va,L,t,ak,w,Hc,Bv,Lz,it,g2,Bj,B8,Lk,tk,sm,sp,LK,tK,st,L2,t2]<;>with_reducible rfl))
   |((with_reducible first|apply Ak|apply Al);· first|with_reducible rfl|with_reducible assumption|omega|(simp (disch:=first|with_reducible assumption|omega) only [gT,va,L,t,ak,w,Hc,Bv,Lz,it,g2,Bj,B8,Lk,tk,sm,sp,LK,tK,st,L2,t2]<;>omega))
   |(with_reducible apply Ao;· first|with_reducible rfl|with_reducible assumption|(simp (disch:=first|with_reducible assumption|omega) only [gF,va,L,t,ak,w,Hc,Bv,Lz,it,g2,Bj,B8,Lk,tk,sm,sp,LK,tK,st,L2,t2]<;>omega))
   |(with_reducible refine Akd ?_ ?_<;>intro hb<;>try simp only [decide_eq_true_eq,decide_eq_false_iff_not,beq_iff_eq,beq_eq_false_iff_ne,bne_iff_ne,bne_eq_false_iff_eq,ne_eq,Bool.not_eq_true',Bool.not_eq_false',Bool.not_eq_true,Bool.not_eq_false] at hb)
   |(with_reducible refine YH ?_ ?_)
  all_goals try simp (disch:=first|with_reducible assumption|omega) only [va,L,t,ak,w,Hc,Bv,Lz,it,g2,Bj,B8,Lk,tk,sm,sp,LK,tK,st,L2,t2]
  all_goals clear st it ak va sm L t g2 sp LK tK L2 t2 Lk tk it0 E ha hKe
  all_goals repeat' split
  all_goals first
   |rfl
   |(exfalso;simp_all;done)
   |(exfalso;simp_all;omega)
end
end
section
open Go.IntKind (wrap)
set_option maxRecDepth 100000
abbrev Rw:FuncId:=120
noncomputable def Hh (fu:Nat)(call:Ar)(a0_0n:Nat)(a0_0:List PV)(a0_1:Int)(a0_2n:Nat)(a0_2:List PV)(a0_3:Int)(nn:Nat)(y0 y1 y2:Int)(y3:Nat)(y4:List PV)(y5 y6:Int)(y7:Nat)(y8:Int)(y9:Nat)(y10:List PV)(Ej:Int)(E5:List PV):Option A0:=Cz C0 Tryz.prog fu call 120 Tryz.f120 (B9 Tryz.f120) [.pbox [.own 3 a0_0n a0_0,.sc (.int .i64 a0_1),.lst false 1 a0_2n a0_2,.sc (.int .i64 a0_3)]] [.r,.r,.r,.r,.r,.r,.r,.r,.r,.r,.r,.l,.r,.l] nn ⟨lk [(0,(.ptr 240000 0)),(2,(.sc (.int .i64 y0))),(3,(.sc (.int .u64 y1))),(8,(.sc (.int .i64 y2))),(94,(.lst false 1 y3 y4)),(95,(.sc (.int .i64 y5))),(96,(.sc (.int .i64 y6)))],Gl [(240000,(.st [(.view 240120 3 0 y7),(.sc (.int .i64 y8)),(.lst false 1 y9 y10),(.sc (.int .i64 Ej))])),(240120,(.ar false E5))]⟩
theorem Nf (fu:Nat)(call:Ar)(a0_0n:Nat)(a0_0:List PV)(a0_1:Int)(a0_2n:Nat)(a0_2:List PV)(a0_3:Int)(nn:Nat)(y0 y1 y2:Int)(y3:Nat)(y4:List PV)(y5 y6:Int)(y7:Nat)(y8:Int)(y9:Nat)(y10:List PV)(Ej:Int)(E5:List PV):Hh fu call a0_0n a0_0 a0_1 a0_2n a0_2 a0_3 (nn+1) y0 y1 y2 y3 y4 y5 y6 y7 y8 y9 y10 Ej E5=(A4 (decide (y6<y5)) (Ay (decide (0<=y6)&&decide (y6<(↑y3:Int)))<|Af .u8 (List.getD y4 (Int.toNat y6*1) .top) fun D2=>Aa (Ff .u64 y1 8) fun D0=>Aa (wrap .u64 D2) fun D9=>Aa (CH .u64 D0 D9) fun Fj=>Aa (wrap .i64 (y6+1)) fun Cn=>Hh fu call a0_0n a0_0 a0_1 a0_2n a0_2 a0_3 (nn) (y0) Fj (y2) (y3) (y4) (y5) Cn (y7) (y8) (y9) (y10) (Ej) (E5)) (Aa (wrap .i64 (Ej+y2)) fun Fn=>Aj (call 133 [.sc (.int .u64 y1)]) fun Dj B3=>Ac B3<|Ab Dj fun Et F1=>Af .i64 Et fun Bm=>Ac F1<|A4 (decide (Bm<y2)) (Ay (decide (y7*3<=E5.length))<|some (A0.mk [.sc (.int .i64 0),.sc (.int .u64 0),.sc (.int .i64 2)] [[.own 3 y7 (List.take (y7*3) E5),.sc (.int .i64 y8),.lst false 1 y9 y10,.sc (.int .i64 Fn)]])) (Ay (decide (y7*3<=E5.length))<|some (A0.mk [.sc (.int .i64 y0),.sc (.int .u64 y1),.sc (.int .i64 0)] [[.own 3 y7 (List.take (y7*3) E5),.sc (.int .i64 y8),.lst false 1 y9 y10,.sc (.int .i64 Fn)]])))):=by kernel_rfl
theorem ET (fu d a0_0n:Nat)(a0_0:List PV)(a0_1:Int)(a0_2n:Nat)(a0_2:List PV)(a0_3:Int):Ae C0 Tryz.prog fu (d+1) Rw [.pbox [.own 3 a0_0n a0_0,.sc (.int .i64 a0_1),.lst false 1 a0_2n a0_2,.sc (.int .i64 a0_3)]]=(fun (call:Ar)=>A4 (decide (a0_3>=(↑a0_2n:Int))) (Ay (decide (a0_0n*3<=a0_0.length))<|some (A0.mk [.sc (.int .i64 0),.sc (.int .u64 0),.sc (.int .i64 1)] [[.own 3 a0_0n (List.take (a0_0n*3) a0_0),.sc (.int .i64 a0_1),.lst false 1 a0_2n a0_2,.sc (.int .i64 a0_3)]])) (Ay (decide (0<=a0_3)&&decide (a0_3<(↑a0_2n:Int)))<|Af .u8 (List.getD a0_2 (Int.toNat a0_3*1) .top) fun x1=>Aa (wrap .i64 (a0_3+1)) fun x2=>A4 (x1==244) (Aa (wrap .u8 (x1-244)) fun x3=>Aa (wrap .u64 x3) fun x4=>Ay (decide (a0_0n*3<=a0_0.length))<|some (A0.mk [.sc (.int .i64 7),.sc (.int .u64 x4),.sc (.int .i64 0)] [[.own 3 a0_0n (List.take (a0_0n*3) a0_0),.sc (.int .i64 a0_1),.lst false 1 a0_2n a0_2,.sc (.int .i64 x2)]])) (A4 (x1==245) (Aa (wrap .u8 (x1-244)) fun x5=>Aa (wrap .u64 x5) fun x6=>Ay (decide (a0_0n*3<=a0_0.length))<|some (A0.mk [.sc (.int .i64 7),.sc (.int .u64 x6),.sc (.int .i64 0)] [[.own 3 a0_0n (List.take (a0_0n*3) a0_0),.sc (.int .i64 a0_1),.lst false 1 a0_2n a0_2,.sc (.int .i64 x2)]])) (A4 (x1==246) (Ay (decide (a0_0n*3<=a0_0.length))<|some (A0.mk [.sc (.int .i64 8),.sc (.int .u64 0),.sc (.int .i64 0)] [[.own 3 a0_0n (List.take (a0_0n*3) a0_0),.sc (.int .i64 a0_1),.lst false 1 a0_2n a0_2,.sc (.int .i64 x2)]])) (Aa (El .u8 x1 5) fun x7=>Aa (Ed .u8 x1 31) fun x8=>A4 (decide (x7>5)) (Ay (decide (a0_0n*3<=a0_0.length))<|some (A0.mk [.sc (.int .i64 0),.sc (.int .u64 0),.sc (.int .i64 2)] [[.own 3 a0_0n (List.take (a0_0n*3) a0_0),.sc (.int .i64 a0_1),.lst false 1 a0_2n a0_2,.sc (.int .i64 x2)]])) (A4 (decide (x8>27)) (Ay (decide (a0_0n*3<=a0_0.length))<|some (A0.mk [.sc (.int .i64 0),.sc (.int .u64 0),.sc (.int .i64 2)] [[.own 3 a0_0n (List.take (a0_0n*3) a0_0),.sc (.int .i64 a0_1),.lst false 1 a0_2n a0_2,.sc (.int .i64 x2)]])) (Aa (wrap .i64 x7) fun x9=>Aa (wrap .i64 (1+x9)) fun Ck=>A4 (decide (x8<24)) (Aa (wrap .u64 x8) fun Bn=>Ay (decide (a0_0n*3<=a0_0.length))<|some (A0.mk [.sc (.int .i64 Ck),.sc (.int .u64 Bn),.sc (.int .i64 0)] [[.own 3 a0_0n (List.take (a0_0n*3) a0_0),.sc (.int .i64 a0_1),.lst false 1 a0_2n a0_2,.sc (.int .i64 x2)]])) (Aa (wrap .u8 (x8-24)) fun Cw=>Ay (decide (0<=Cw))<|Aa (Ff .i64 1 Cw) fun Da=>Aa (wrap .i64 ((↑a0_2n:Int)-x2)) fun Cq=>A4 (decide (Cq<Da)) (Ay (decide (a0_0n*3<=a0_0.length))<|some (A0.mk [.sc (.int .i64 0),.sc (.int .u64 0),.sc (.int .i64 1)] [[.own 3 a0_0n (List.take (a0_0n*3) a0_0),.sc (.int .i64 a0_1),.lst false 1 a0_2n a0_2,.sc (.int .i64 x2)]])) (Aa (wrap .i64 (x2+Da)) fun Cy=>Ay (decide (0<=x2))<|Ay (decide (0<=Cy))<|Ay (decide (Int.toNat x2<=Int.toNat Cy)&&decide (Int.toNat Cy<=a0_2n))<|Aa (Int.toNat Cy-Int.toNat x2) fun Db=>Aa (List.take (Db*1) (List.drop (Int.toNat x2*1) a0_2)) fun Dq=>Hh fu call a0_0n a0_0 a0_1 a0_2n a0_2 a0_3 (fu) Ck 0 Da Db Dq ((↑Db:Int)) 0 (a0_0n) (a0_1) (a0_2n) (a0_2) x2 (a0_0)))))))))) (Ae C0 Tryz.prog fu d):=by kernel_rfl
abbrev Sf:FuncId:=110
theorem FA (fu d a0_0n:Nat)(a0_0:List PV)(a0_1:Int)(a0_2n:Nat)(a0_2:List PV)(a0_3:Int):Ae C0 Tryz.prog fu (d+1) Sf [.pbox [.own 3 a0_0n a0_0,.sc (.int .i64 a0_1),.lst false 1 a0_2n a0_2,.sc (.int .i64 a0_3)]]=(fun (call:Ar)=>Ay (decide (a0_0n*3<=a0_0.length))<|Aj (call 120 [.pbox [.own 3 a0_0n (List.take (a0_0n*3) a0_0),.sc (.int .i64 a0_1),.lst false 1 a0_2n a0_2,.sc (.int .i64 a0_3)]]) fun x1 x2=>Ab x1 fun x3 x4=>Af .i64 x3 fun x5=>Ab x4 fun x6 x7=>Af .u64 x6 fun x8=>Ab x7 fun x9 Ck=>Af .i64 x9 fun Bn=>Ac Ck<|Ab x2 fun Cw Da=>Ab Cw fun Cq Cy=>Dc 3 Cq fun Db Dq=>Ab Cy fun D2 D0=>Af .i64 D2 fun D9=>Ab D0 fun Fj Cn=>F8 1 Fj fun Fn Dj B3=>Ab Cn fun Et F1=>Af .i64 Et fun Bm=>Ac F1<|Ac Da<|A4 (Bn != 0) (Ay (decide (Db*3<=Dq.length))<|some (A0.mk [.agg [.sc (.int .i64 0),.sc (.int .u64 0),.sc (.string (ByteArray.mk #[]))],.sc (.int .i64 Bn)] [[.own 3 Db (List.take (Db*3) Dq),.sc (.int .i64 D9),.lst false 1 Dj B3,.sc (.int .i64 Bm)]])) (Ay (decide (Db*3<=Dq.length))<|Aj (call 121 [.pbox [.own 3 Db (List.take (Db*3) Dq),.sc (.int .i64 D9)],.sc (.int .i64 x5)]) fun Cj Gt=>Ab Cj fun Gu Hz=>Af .i64 Gu fun Ha=>Ac Hz<|Ab Gt fun Il G4=>Ab Il fun Ir Kr=>Dc 3 Ir fun F0 H2=>Ab Kr fun Nc Ot=>Af .i64 Nc fun Kc=>Ac Ot<|Ac G4<|A4 (Ha != 0) (Ay (decide (F0*3<=H2.length))<|some (A0.mk [.agg [.sc (.int .i64 0),.sc (.int .u64 0),.sc (.string (ByteArray.mk #[]))],.sc (.int .i64 Ha)] [[.own 3 F0 (List.take (F0*3) H2),.sc (.int .i64 Kc),.lst false 1 Dj B3,.sc (.int .i64 Bm)]])) (A4 (x5==5) (A4 (decide (x8>512)) (Ay (decide (F0*3<=H2.length))<|some (A0.mk [.agg [.sc (.int .i64 0),.sc (.int .u64 0),.sc (.string (ByteArray.mk #[]))],.sc (.int .i64 8)] [[.own 3 F0 (List.take (F0*3) H2),.sc (.int .i64 Kc),.lst false 1 Dj B3,.sc (.int .i64 Bm)]])) (Ay (decide (F0*3<=H2.length))<|Aj (call 122 [.pbox [.own 3 F0 (List.take (F0*3) H2),.sc (.int .i64 Kc)],.agg [.sc (.int .i64 x5),.sc (.int .u64 x8),.sc (.string (ByteArray.mk #[]))]]) fun J5 Nk=>Ab J5 fun Md Oo=>Af .i64 Md fun Py=>Ac Oo<|Ab Nk fun Pw Ox=>Ab Pw fun Rb Q5=>Dc 3 Rb fun Q0 Ks=>Ab Q5 fun S9 Ql=>Af .i64 S9 fun Ru=>Ac Ql<|Ac Ox<|A4 (Py != 0) (Ay (decide (Q0*3<=Ks.length))<|some (A0.mk [.agg [.sc (.int .i64 0),.sc (.int .u64 0),.sc (.string (ByteArray.mk #[]))],.sc (.int .i64 Py)] [[.own 3 Q0 (List.take (Q0*3) Ks),.sc (.int .i64 Ru),.lst false 1 Dj B3,.sc (.int .i64 Bm)]])) (Ay (decide (Q0*3<=Ks.length))<|some (A0.mk [.agg [.sc (.int .i64 x5),.sc (.int .u64 x8),.sc (.string (ByteArray.mk #[]))],.sc (.int .i64 0)] [[.own 3 Q0 (List.take (Q0*3) Ks),.sc (.int .i64 Ru),.lst false 1 Dj B3,.sc (.int .i64 Bm)]])))) (A4 (x5==6) (A4 (decide (x8>512)) (Ay (decide (F0*3<=H2.length))<|some (A0.mk [.agg [.sc (.int .i64 0),.sc (.int .u64 0),.sc (.string (ByteArray.mk #[]))],.sc (.int .i64 8)] [[.own 3 F0 (List.take (F0*3) H2),.sc (.int .i64 Kc),.lst false 1 Dj B3,.sc (.int .i64 Bm)]])) (Ay (decide (F0*3<=H2.length))<|Aj (call 122 [.pbox [.own 3 F0 (List.take (F0*3) H2),.sc (.int .i64 Kc)],.agg [.sc (.int .i64 x5),.sc (.int .u64 x8),.sc (.string (ByteArray.mk #[]))]]) fun Nz Pz=>Ab Nz fun Q9 Rk=>Af .i64 Q9 fun Pr=>Ac Rk<|Ab Pz fun Te Uv=>Ab Te fun S7 Rz=>Dc 3 S7 fun Ro Q7=>Ab Rz fun Vv Tn=>Af .i64 Vv fun S5=>Ac Tn<|Ac Uv<|A4 (Pr != 0) (Ay (decide (Ro*3<=Q7.length))<|some (A0.mk [.agg [.sc (.int .i64 0),.sc (.int .u64 0),.sc (.string (ByteArray.mk #[]))],.sc (.int .i64 Pr)] [[.own 3 Ro (List.take (Ro*3) Q7),.sc (.int .i64 S5),.lst false 1 Dj B3,.sc (.int .i64 Bm)]])) (Ay (decide (Ro*3<=Q7.length))<|some (A0.mk [.agg [.sc (.int .i64 x5),.sc (.int .u64 x8),.sc (.string (ByteArray.mk #[]))],.sc (.int .i64 0)] [[.own 3 Ro (List.take (Ro*3) Q7),.sc (.int .i64 S5),.lst false 1 Dj B3,.sc (.int .i64 Bm)]])))) (A4 (x5==3) (A4 (decide (x8>1024)) (Ay (decide (F0*3<=H2.length))<|some (A0.mk [.agg [.sc (.int .i64 0),.sc (.int .u64 0),.sc (.string (ByteArray.mk #[]))],.sc (.int .i64 8)] [[.own 3 F0 (List.take (F0*3) H2),.sc (.int .i64 Kc),.lst false 1 Dj B3,.sc (.int .i64 Bm)]])) (Aa (wrap .i64 ((↑Dj:Int)-Bm)) fun Tj=>Aa (wrap .i64 x8) fun Uz=>A4 (decide (Tj<Uz)) (Ay (decide (F0*3<=H2.length))<|some (A0.mk [.agg [.sc (.int .i64 0),.sc (.int .u64 0),.sc (.string (ByteArray.mk #[]))],.sc (.int .i64 1)] [[.own 3 F0 (List.take (F0*3) H2),.sc (.int .i64 Kc),.lst false 1 Dj B3,.sc (.int .i64 Bm)]])) (Aa (wrap .i64 x8) fun Tm=>Aa (wrap .i64 (Bm+Tm)) fun S8=>Ay (decide (0<=Bm))<|Ay (decide (0<=S8))<|Ay (decide (Int.toNat Bm<=Int.toNat S8)&&decide (Int.toNat S8<=Dj))<|Aa (Int.toNat S8-Int.toNat Bm) fun Rr=>Aa (List.take (Rr*1) (List.drop (Int.toNat Bm*1) B3)) fun Vg=>Ay (decide (Vg.length=Rr))<|Fd (bytesOf Vg) fun T0=>Aa (wrap .i64 x8) fun Vl=>Aa (wrap .i64 (Bm+Vl)) fun W8=>Ay (decide (F0*3<=H2.length))<|Aj (call 122 [.pbox [.own 3 F0 (List.take (F0*3) H2),.sc (.int .i64 Kc)],.agg [.sc (.int .i64 x5),.sc (.int .u64 0),.sc (.string (ByteArray.mk (List.toArray T0)))]]) fun Wv Yq=>Ab Wv fun Wu X5=>Af .i64 Wu fun Xq=>Ac X5<|Ab Yq fun Y5 Z3=>Ab Y5 fun AL Re=>Dc 3 AL fun S6 Uc=>Ab Re fun GO DV=>Af .i64 GO fun FL=>Ac DV<|Ac Z3<|A4 (Xq != 0) (Ay (decide (S6*3<=Uc.length))<|some (A0.mk [.agg [.sc (.int .i64 0),.sc (.int .u64 0),.sc (.string (ByteArray.mk #[]))],.sc (.int .i64 Xq)] [[.own 3 S6 (List.take (S6*3) Uc),.sc (.int .i64 FL),.lst false 1 Dj B3,.sc (.int .i64 W8)]])) (Ay (decide (S6*3<=Uc.length))<|some (A0.mk [.agg [.sc (.int .i64 x5),.sc (.int .u64 0),.sc (.string (ByteArray.mk (List.toArray T0)))],.sc (.int .i64 0)] [[.own 3 S6 (List.take (S6*3) Uc),.sc (.int .i64 FL),.lst false 1 Dj B3,.sc (.int .i64 W8)]]))))) (A4 (x5==4) (A4 (decide (x8>1024)) (Ay (decide (F0*3<=H2.length))<|some (A0.mk [.agg [.sc (.int .i64 0),.sc (.int .u64 0),.sc (.string (ByteArray.mk #[]))],.sc (.int .i64 8)] [[.own 3 F0 (List.take (F0*3) H2),.sc (.int .i64 Kc),.lst false 1 Dj B3,.sc (.int .i64 Bm)]])) (Aa (wrap .i64 ((↑Dj:Int)-Bm)) fun JV=>Aa (wrap .i64 x8) fun MP=>A4 (decide (JV<MP)) (Ay (decide (F0*3<=H2.length))<|some (A0.mk [.agg [.sc (.int .i64 0),.sc (.int .u64 0),.sc (.string (ByteArray.mk #[]))],.sc (.int .i64 1)] [[.own 3 F0 (List.take (F0*3) H2),.sc (.int .i64 Kc),.lst false 1 Dj B3,.sc (.int .i64 Bm)]])) (Aa (wrap .i64 x8) fun OZ=>Aa (wrap .i64 (Bm+OZ)) fun NC=>Ay (decide (0<=Bm))<|Ay (decide (0<=NC))<|Ay (decide (Int.toNat Bm<=Int.toNat NC)&&decide (Int.toNat NC<=Dj))<|Aa (Int.toNat NC-Int.toNat Bm) fun OC=>Aa (List.take (OC*1) (List.drop (Int.toNat Bm*1) B3)) fun NL=>Ay (decide (NL.length=OC))<|Fd (bytesOf NL) fun S0=>Aa (wrap .i64 x8) fun Px=>Aa (wrap .i64 (Bm+Px)) fun Gw=>Ay (decide (F0*3<=H2.length))<|Aj (call 122 [.pbox [.own 3 F0 (List.take (F0*3) H2),.sc (.int .i64 Kc)],.agg [.sc (.int .i64 x5),.sc (.int .u64 0),.sc (.string (ByteArray.mk (List.toArray S0)))]]) fun Iz Vh=>Ab Iz fun P6 Oh=>Af .i64 P6 fun J9=>Ac Oh<|Ab Vh fun Vk Xx=>Ab Vk fun Ve Vj=>Dc 3 Ve fun Ig Ko=>Ab Vj fun Zp Y8=>Af .i64 Zp fun M8=>Ac Y8<|Ac Xx<|A4 (J9 != 0) (Ay (decide (Ig*3<=Ko.length))<|some (A0.mk [.agg [.sc (.int .i64 0),.sc (.int .u64 0),.sc (.string (ByteArray.mk #[]))],.sc (.int .i64 J9)] [[.own 3 Ig (List.take (Ig*3) Ko),.sc (.int .i64 M8),.lst false 1 Dj B3,.sc (.int .i64 Gw)]])) (Ay (decide (Ig*3<=Ko.length))<|some (A0.mk [.agg [.sc (.int .i64 x5),.sc (.int .u64 0),.sc (.string (ByteArray.mk (List.toArray S0)))],.sc (.int .i64 0)] [[.own 3 Ig (List.take (Ig*3) Ko),.sc (.int .i64 M8),.lst false 1 Dj B3,.sc (.int .i64 Gw)]]))))) (Ay (decide (F0*3<=H2.length))<|Aj (call 122 [.pbox [.own 3 F0 (List.take (F0*3) H2),.sc (.int .i64 Kc)],.agg [.sc (.int .i64 x5),.sc (.int .u64 x8),.sc (.string (ByteArray.mk #[]))]]) fun Q6 Zn=>Ab Q6 fun Xh Ym=>Af .i64 Xh fun Yz=>Ac Ym<|Ab Zn fun AG Yy=>Ab AG fun Zb Yg=>Dc 3 Zb fun P5 U0=>Ab Yg fun Zx Zz=>Af .i64 Zx fun Xo=>Ac Zz<|Ac Yy<|A4 (Yz != 0) (Ay (decide (P5*3<=U0.length))<|some (A0.mk [.agg [.sc (.int .i64 0),.sc (.int .u64 0),.sc (.string (ByteArray.mk #[]))],.sc (.int .i64 Yz)] [[.own 3 P5 (List.take (P5*3) U0),.sc (.int .i64 Xo),.lst false 1 Dj B3,.sc (.int .i64 Bm)]])) (Ay (decide (P5*3<=U0.length))<|some (A0.mk [.agg [.sc (.int .i64 x5),.sc (.int .u64 x8),.sc (.string (ByteArray.mk #[]))],.sc (.int .i64 0)] [[.own 3 P5 (List.take (P5*3) U0),.sc (.int .i64 Xo),.lst false 1 Dj B3,.sc (.int .i64 Bm)]]))))))))) (Ae C0 Tryz.prog fu d):=by kernel_rfl
abbrev EC:FuncId:=86
noncomputable def M3 (fu:Nat)(call:Ar)(a0n:Nat)(a0:List PV)(nn y0:Nat)(y1:List PV)(y2:Nat)(y3:Int)(y4:Nat)(y5:List PV)(y6:Int)(y7:List PV):Option A0:=Cz C0 Tryz.prog fu call 86 Tryz.f86 (B9 Tryz.f86) [.lst false 1 a0n a0] [.r,.r,.l,.l] nn ⟨lk [(2,(.view 2 3 0 y0)),(5,(.ptr 5 0))],Gl [(2,(.ar false y1)),(5,(.st [(.view 32 3 0 y2),(.sc (.int .i64 y3)),(.lst false 1 y4 y5),(.sc (.int .i64 y6))])),(32,(.ar false y7))]⟩
theorem LV (fu:Nat)(call:Ar)(a0n:Nat)(a0:List PV)(nn y0:Nat)(y1:List PV)(y2:Nat)(y3:Int)(y4:Nat)(y5:List PV)(y6:Int)(y7:List PV):M3 fu call a0n a0 (nn+1) y0 y1 y2 y3 y4 y5 y6 y7=(Ay (decide (y2*3<=y7.length))<|Aj (call 109 [.pbox [.own 3 y2 (List.take (y2*3) y7),.sc (.int .i64 y3)]]) fun x1 x2=>Ab x1 fun x3 x4=>Bx x3 fun x5=>Ac x4<|Ab x2 fun x6 x7=>Ab x6 fun x8 x9=>Dc 3 x8 fun Ck Bn=>Ab x9 fun Cw Da=>Af .i64 Cw fun Cq=>Ac Da<|Ac x7<|A4 (!x5) (Ay (decide (Ck*3<=Bn.length))<|Aj (call 110 [.pbox [.own 3 Ck (List.take (Ck*3) Bn),.sc (.int .i64 Cq),.lst false 1 y4 y5,.sc (.int .i64 y6)]]) fun Cy Db=>Ab Cy fun Dq D2=>C2 Dq fun D0=>Ab D0 fun D9 Fj=>Af .i64 D9 fun Cn=>Ab Fj fun Fn Dj=>Af .u64 Fn fun B3=>Ab Dj fun Et F1=>Co Et fun Bm=>Ac F1<|Ab D2 fun Cj Gt=>Af .i64 Cj fun Gu=>Ac Gt<|Ab Db fun Hz Ha=>Ab Hz fun Il G4=>Dc 3 Il fun Ir Kr=>Ab G4 fun F0 H2=>Af .i64 F0 fun Nc=>Ab H2 fun Ot Kc=>F8 1 Ot fun J5 Nk Md=>Ab Kc fun Oo Py=>Af .i64 Oo fun Pw=>Ac Py<|Ac Ha<|A4 (Gu != 0) (some (A0.mk [.own 3 0 [],.sc (.int .i64 0),.sc (.int .i64 Gu)] [])) (Ay (decide (y0*3<=y1.length)&&true&&decide ((y0+1)*32<=1099511627776)&&decide (y0+1<=1099511627776))<|Aa (y0+1) fun Ox=>Aa (List.take (y0*3) y1++[.sc (.int .i64 Cn),.sc (.int .u64 B3),.sc (.string Bm)]) fun Rb=>M3 fu call a0n a0 (nn) Ox Rb Ir Nc Nk Md Pw Kr)) (Ay (decide (y0*3<=y1.length))<|some (A0.mk [.own 3 y0 (List.take (y0*3) y1),.sc (.int .i64 y6),.sc (.int .i64 0)] []))):=by kernel_rfl
theorem TO (fu d a0n:Nat)(a0:List PV):Ae C0 Tryz.prog fu (d+1) EC [.lst false 1 a0n a0]=(fun (call:Ar)=>M3 fu call a0n a0 (fu) 0 ([]) 0 0 (a0n) (a0) 0 ([])) (Ae C0 Tryz.prog fu d):=by kernel_rfl
end
section
open Go.IntKind (wrap)
structure Hd where
 k:Int
 n:Int
 e:Int
 at_:Nat
def M4 (n:Int):Int:=if n<24 then 0 else if n<256 then 1 else if n<65536 then 2 else if n<4294967296 then 4 else 8
def XD (low:Int):Nat:=if low=24 then 1 else if low=25 then 2 else if low=26 then 4 else 8
def Vx (b:List Int)(at_:Nat)(x:Int):Hd:=
 if x=244 then ⟨7,0,0,at_+1⟩ else if x=245 then ⟨7,1,0,at_+1⟩ else if x=246 then ⟨8,0,0,at_+1⟩
 else if x / 32>5 then ⟨0,0,2,at_+1⟩ else if x % 32>27 then ⟨0,0,2,at_+1⟩
 else if x % 32<24 then ⟨1+x / 32,x % 32,0,at_+1⟩
 else if b.length-(at_+1)<XD (x % 32) then ⟨0,0,1,at_+1⟩
 else if M4 (CK ((b.drop (at_+1)).take (XD (x % 32))))<XD (x % 32) then ⟨0,0,2,at_+1+XD (x % 32)⟩
 else ⟨1+x / 32,CK ((b.drop (at_+1)).take (XD (x % 32))),0,at_+1+XD (x % 32)⟩
def Bg (b:List Int)(at_:Nat):Hd:=match b[at_]? with|none=>⟨0,0,1,at_⟩|some x=>Vx b at_ x
theorem At2 {x:Int}(h:0<=x):El .u8 x 5=x / 32:=by
 unfold El;show x.fdiv (2 ^ (min (5:Int).toNat IntKind.u8.bits))=_;have h2:(2:Int) ^ (min (5:Int).toNat IntKind.u8.bits)=32:=by decide
 rw [h2,Int.fdiv_eq_ediv_of_nonneg _ (by omega)]
theorem Aqi {x:Int}(h0:0<=x)(h1:x<=255):Ed .u8 x 31=x % 32:=by
 obtain ⟨n,rfl⟩:=Int.eq_ofNat_of_zero_le h0;have hn:n<256:=by omega
 have e1:(BitVec.ofInt 8 (n:Int)).toNat=n:=by
  rw [BitVec.toNat_ofInt];omega
 have e2:(BitVec.ofInt 8 (31:Int)).toNat=2 ^ 5-1:=by decide
 unfold Ed;show wrap .u8 ((BitVec.ofInt 8 (n:Int) &&& BitVec.ofInt 8 (31:Int)).toNat:Int)=_;rw [BitVec.toNat_and,e1,e2,Nat.and_two_pow_sub_one_eq_mod,Gn (by omega) (by omega)]
 omega
abbrev Aht (l:List Hs)(cnt:Int)(b:List Int)(at_:Nat):List PV:=[.own 3 l.length (Fz l),.sc (.int .i64 cnt),.lst false 1 b.length (Ai .u8 b),.sc (.int .i64 at_)]
section
variable {fu d:Nat}
theorem Akv (n:Int):Ae C0 Tryz.prog fu (d+1) HH [.sc (.int .u64 n)]=some ⟨[.sc (.int .i64 (M4 n))],[]⟩:=by
 rw [ZC];unfold M4
 try unfold Aa
 repeat' first
  |((with_reducible first|apply Ap|apply Ag|apply Am|apply Ah);· first|with_reducible rfl|(simp (disch:=first|with_reducible assumption|omega) only [Bl,A3]<;>with_reducible rfl))
  |((with_reducible first|apply Ak|apply Al);· first|with_reducible rfl|with_reducible assumption|omega|(simp (disch:=first|with_reducible assumption|omega) only [gT,Bl,A3]<;>omega))
  |(with_reducible apply Ao;· first|with_reducible rfl|with_reducible assumption|(simp (disch:=first|with_reducible assumption|omega) only [gF,Bl,A3]<;>omega))
  |(with_reducible refine Akd ?_ ?_<;>intro hb<;>try simp only [decide_eq_true_eq,decide_eq_false_iff_not,beq_iff_eq,beq_eq_false_iff_ne,bne_iff_ne,bne_eq_false_iff_eq,ne_eq,Bool.not_eq_true',Bool.not_eq_false',Bool.not_eq_true,Bool.not_eq_false] at hb)
  |(with_reducible refine YH ?_ ?_)
 all_goals try simp (disch:=first|with_reducible assumption|omega) only [Bl,A3]
theorem QX {a0n a2n:Nat}{a0 a2:List PV}{a1 a3 k cnt:Int}{l:List Hs}{b:List Int}{off sz:Nat}{q:List Int}(hq:q.length=sz)(hb:b.length<=1000000)(ho:off+sz<=b.length):∀(r:List Int)(i nn:Nat)(v:Int),q.drop i=r->r.length<nn->i<=sz ->
    Hh fu (Ae C0 Tryz.prog fu (d+1)) a0n a0 a1 a2n a2 a3 nn k v (sz:Int) sz (Ai .u8 q) (sz:Int) (i:Int) l.length cnt b.length (Ai .u8 b) (off:Int) (Fz l) =
      (if M4 (r.foldl Fc v)<sz then some ⟨[.sc (.int .i64 0),.sc (.int .u64 0),.sc (.int .i64 2)],[Aht l cnt b (off+sz)]⟩
       else some ⟨[.sc (.int .i64 k),.sc (.int .u64 (r.foldl Fc v)),.sc (.int .i64 0)],[Aht l cnt b (off+sz)]⟩)
  |_,_,0,_,_,h,_=>by omega
  |[],i,nn+1,v,hd,hn,hi=>by
    have:=drop_nil hd
    have sh:=Akv (fu:=fu) (d:=d) v
    have L:=Ds l
    have t:=D8 l
    have w:wrap .i64 ((off:Int)+(sz:Int))=((off+sz:Nat):Int):=by rw [At (by omega) (by omega)];omega
    rw [Nf,Dt _ _ _ (by omega),List.foldl_nil]
    by_cases hs:M4 v<sz
    · rw [Bl hs]
      simp (disch:=omega) only [B6,w,sh,L,t,Bj]
    · rw [A3 hs]
      simp (disch:=omega) only [B6,w,sh,L,t,Bj]
  |x::r,i,nn+1,v,hd,hn,hi=>by
    obtain ⟨h1,h2,h3⟩:=Cg hd
    simp only [Ib] at hn
    have g0:=Qb (k:=.u8) h2
    have w:wrap .i64 ((i:Int)+1)=((i+1:Nat):Int):=by rw [At (by omega) (by omega)];omega
    have ih:=QX (a0n:=a0n) (a2n:=a2n) (a0:=a0) (a2:=a2) (a1:=a1) (a3:=a3) (k:=k) (cnt:=cnt) (l:=l) hq hb ho r (i+1) nn (Fc v x) h3 (by omega) (by omega)
    rw [List.foldl_cons,←ih,Nf]
    simp (disch:=omega) only [B6,Hc,Bj,g0,w]
theorem Amw {l:List Hs}{cnt:Int}{b:List Int}{at_:Nat}(hfu:1000<=fu)(hb:G9 b)(hl:b.length<=1000000):
  Ae C0 Tryz.prog fu (d+2) Rw [.pbox (Aht l cnt b at_)]=some ⟨[.sc (.int .i64 (Bg b at_).k),.sc (.int .u64 (Bg b at_).n),.sc (.int .i64 (Bg b at_).e)],[Aht l cnt b (Bg b at_).at_]⟩:=by
 refine (ET fu (d+1) l.length (Fz l) cnt b.length (Ai .u8 b) (at_:Int)).trans ?_;have L:=Ds l;have t:=D8 l;have Lb:=Aq .u8 b;have tb:=Gd .u8 b;unfold Bg;by_cases hlt:at_<b.length
 rotate_left
 ·have hg:b[at_]?=none:=List.getElem?_eq_none (by omega)
  rw [hg];simp (disch:=omega) only [B6,L,t,Lb,tb,Bj]
 have hg:b[at_]?=some b[at_]:=List.getElem?_eq_getElem hlt;have hB:=hb _ (List.getElem_mem hlt);rw [hg];generalize b[at_]=x at hg hB;have g0:=Qb (k:=.u8) hg;have w1:wrap .i64 ((at_:Int)+1)=((at_+1:Nat):Int):=by rw [At (by omega) (by omega)];omega
 have s5:=At2 hB.1;have a31:=Aqi hB.1 hB.2;unfold Vx;simp only;by_cases c1:x=244
 ·subst c1;have q:wrap .u64 (wrap .u8 ((244:Int)-244))=0:=by decide
  simp (disch:=omega) only [B6,Hc,Bv,Bj,g0,Int.reduceBEq,w1,L,t,Lb,tb,q]
 rw [A3 c1];have b1:(x==(244:Int))=false:=by simp [c1]
 by_cases c2:x=245
 ·subst c2;have q:wrap .u64 (wrap .u8 ((245:Int)-244))=1:=by decide
  simp (disch:=omega) only [B6,Hc,Bv,Bj,g0,Int.reduceBEq,w1,L,t,Lb,tb,q,if_true]
 rw [A3 c2];have b2:(x==(245:Int))=false:=by simp [c2]
 by_cases c3:x=246
 ·subst c3;simp (disch:=omega) only [B6,Hc,Bv,Bj,g0,Int.reduceBEq,w1,L,t,Lb,tb,if_true]
 rw [A3 c3];have b3:(x==(246:Int))=false:=by simp [c3]
 by_cases c4:x / 32>5
 ·rw [Bl c4];simp (disch:=omega) only [B6,Hc,Bv,Bj,g0,b1,b2,b3,s5,a31,w1,L,t,Lb,tb]
 rw [A3 c4];by_cases c5:x % 32>27
 ·rw [Bl c5];simp (disch:=omega) only [B6,Hc,Bv,Bj,g0,b1,b2,b3,s5,a31,w1,L,t,Lb,tb]
 rw [A3 c5];have wk1:wrap .i64 (x / 32)=x / 32:=At (by omega) (by omega)
 have wk2:wrap .i64 (1+x / 32)=1+x / 32:=At (by omega) (by omega)
 by_cases c6:x % 32<24
 ·have wn:wrap .u64 (x % 32)=x % 32:=B5 (by omega) (by omega)
  rw [Bl c6];simp (disch:=omega) only [B6,Hc,Bv,Bj,g0,b1,b2,b3,s5,a31,w1,wk1,wk2,wn,L,t,Lb,tb]
 rw [A3 c6];have q1:wrap .u8 (x % 32-24)=x % 32-24:=Gn (by omega) (by omega)
 have q2:Ff .i64 1 (x % 32-24)=(XD (x % 32):Int):=by
  have:x % 32=24∨x % 32=25∨x % 32=26∨x % 32=27:=by omega
  rcases this with h|h|h|h<;>rw [h]<;>decide
 have q3:XD (x % 32)<=8:=by
  unfold XD
  repeat' split
  all_goals omega
 generalize XD (x % 32)=sz at q2 q3 ⊢;have q4:wrap .i64 ((b.length:Int)-((at_+1:Nat):Int))=((b.length-(at_+1):Nat):Int):=by rw [At (by omega) (by omega)];omega
 by_cases c7:b.length-(at_+1)<sz
 ·rw [Bl c7];simp (disch:=omega) only [B6,Hc,Bv,Bj,g0,b1,b2,b3,s5,a31,w1,wk1,wk2,q1,q2,q4,L,t,Lb,tb]
 rw [A3 c7];have q5:wrap .i64 (((at_+1:Nat):Int)+(sz:Int))=((at_+1+sz:Nat):Int):=by rw [At (by omega) (by omega)];omega
 have q6:at_+1+sz-(at_+1)=sz:=by omega
 have lp:=QX (fu:=fu) (d:=d) (a0n:=l.length) (a2n:=b.length) (a0:=Fz l) (a2:=Ai .u8 b) (a1:=cnt) (a3:=(at_:Int)) (k:=1+x / 32) (cnt:=cnt) (l:=l) (b:=b) (off:=at_+1) (sz:=sz) (q:=(b.drop (at_+1)).take sz) (by rw [List.length_take,List.length_drop];omega) hl (by omega) _ 0 fu 0 rfl (by rw [B8,List.length_take];omega) (by omega)
 rw [B8] at lp;have lp':=lp;unfold CK;by_cases c8:M4 (((b.drop (at_+1)).take sz).foldl Fc 0)<sz
 ·rw [Bl c8] at lp' ⊢;simp (disch:=omega) only [B6,Hc,Bv,Bj,g0,b1,b2,b3,s5,a31,w1,wk1,wk2,q1,q2,q4,q5,q6,E2,D3,L,t,Lb,tb];exact lp'
 ·rw [A3 c8] at lp' ⊢;simp (disch:=omega) only [B6,Hc,Bv,Bj,g0,b1,b2,b3,s5,a31,w1,wk1,wk2,q1,q2,q4,q5,q6,E2,D3,L,t,Lb,tb];exact lp'
end
end
section
open Go.IntKind (wrap)
structure Rd where
 x:It
 e:Int
 l:List Hs
 cnt:Int
 at_:Nat
def it0:It:=⟨0,0,⟨#[]⟩⟩
def X1 (l:List Hs)(cnt:Int)(x:It)(at_:Nat):Rd:=if (Es l x).1=0 then ⟨x,0,(Es l x).2,cnt+1,at_⟩ else ⟨it0,(Es l x).1,(Es l x).2,cnt,at_⟩
def XM (l:List Hs)(cnt:Int)(b:List Int)(h:Hd):Rd:=
 if h.e≠0 then ⟨it0,h.e,l,cnt,h.at_⟩
 else if Ld l cnt h.k≠0 then ⟨it0,Ld l cnt h.k,l,cnt,h.at_⟩
 else if h.k=5∨h.k=6 then (if h.n>512 then ⟨it0,8,l,cnt,h.at_⟩ else X1 l cnt ⟨h.k,h.n,⟨#[]⟩⟩ h.at_)
 else if h.k=3∨h.k=4 then (if h.n>1024 then ⟨it0,8,l,cnt,h.at_⟩ else if b.length-h.at_<h.n.toNat then ⟨it0,1,l,cnt,h.at_⟩
  else X1 l cnt ⟨h.k,0,Bo ((b.drop h.at_).take h.n.toNat)⟩ (h.at_+h.n.toNat))
 else X1 l cnt ⟨h.k,h.n,⟨#[]⟩⟩ h.at_
def Ge (l:List Hs)(cnt:Int)(b:List Int)(at_:Nat):Rd:=XM l cnt b (Bg b at_)
theorem NE (a b:Int):0<=Fc a b∧Fc a b<=18446744073709551615:=Mm _
theorem Z4:∀(l:List Int)(v:Int),0<=v->v<=18446744073709551615->0<=l.foldl Fc v∧l.foldl Fc v<=18446744073709551615
 |[],v,h0,h1=>⟨h0,h1⟩
 |x::l,v,h0,h1=>Z4 l _ (NE v x).1 (NE v x).2
theorem Rl {b:List Int}{at_:Nat}(hb:G9 b)(ha:at_<=b.length):(Bg b at_).at_<=b.length∧((Bg b at_).e=0->1<=(Bg b at_).k∧(Bg b at_).k<=8∧0<=(Bg b at_).n∧(Bg b at_).n<=18446744073709551615∧at_<(Bg b at_).at_):=by
 unfold Bg;by_cases hlt:at_<b.length
 rotate_left
 ·have hg:b[at_]?=none:=List.getElem?_eq_none (by omega)
  rw [hg];exact ⟨ha,fun h=>by simp at h⟩
 have hg:b[at_]?=some b[at_]:=List.getElem?_eq_getElem hlt;have hB:=hb _ (List.getElem_mem hlt);rw [hg];generalize b[at_]=x at hB;have hd:=Z4 ((b.drop (at_+1)).take (XD (x % 32))) 0 (by omega) (by omega)
 show (Vx b at_ x).at_<=b.length∧_;simp only [Vx];unfold CK
 repeat' split
 all_goals refine ⟨by simp only;omega,fun h=>?_⟩
 all_goals first
  |(simp at h;done)
  |(simp only;omega)
section
variable {fu d:Nat}
theorem Ak8 {l:List Hs}{cnt:Int}{b:List Int}{at_:Nat}(hfu:1000<=fu)(hb:G9 b)(hl:b.length<=1000000)(ha:at_<=b.length)(hf:l.length<=900)(h0:0<=cnt)(h1:cnt<=1000000):
  Ae C0 Tryz.prog fu (d+4) Sf [.pbox (Aht l cnt b at_)]=some ⟨[.agg (Ge l cnt b at_).x.cells,.sc (.int .i64 (Ge l cnt b at_).e)],[Aht (Ge l cnt b at_).l (Ge l cnt b at_).cnt b (Ge l cnt b at_).at_]⟩:=by
 refine (FA fu (d+3) l.length (Fz l) cnt b.length (Ai .u8 b) (at_:Int)).trans ?_;have hd:=Amw (fu:=fu) (d:=d+1) (l:=l) (cnt:=cnt) (at_:=at_) hfu hb hl;have hk:=Rl hb ha;unfold Ge;generalize Bg b at_=h at hd hk ⊢;obtain ⟨k,n,e,a⟩:=h;obtain ⟨ka,hk⟩:=hk;simp only at hd ka hk;have L:=Ds l;have t:=D8 l;have ad:=Aal (fu:=fu) (d:=d+1) (l:=l) (by omega) cnt k
 unfold M7 at ad;unfold XM;by_cases he:e=0
 rotate_left
 ·simp only [ne_eq,he,not_false_eq_true,if_true];have he':(e != 0)=true:=by simp [he]
  try unfold Aa
  repeat first
   |((with_reducible first|apply Ap|apply Ag|apply Am|apply Az|apply Bh|apply Cf|apply Ah);· first|with_reducible rfl|(simp (disch:=omega) only [hd,he',L,t]<;>with_reducible rfl))
   |((with_reducible first|apply Ak|apply Al);· first|with_reducible rfl|omega|(simp (disch:=omega) only [gT,hd,he',L,t]<;>omega))
   |(with_reducible apply Ao;· first|with_reducible rfl|(simp (disch:=omega) only [gF,hd,he',L,t]<;>omega))
  try simp (disch:=omega) only [hd,he',L,t]
  all_goals rfl
 subst he;obtain ⟨k1,k8,n0,n1,_⟩:=hk rfl;obtain ⟨m,rfl⟩:=Int.eq_ofNat_of_zero_le n0;have e00:((0:Int) != 0)=false:=rfl;simp only [ne_eq,not_true_eq_false,if_false];by_cases hm:Ld l cnt k=0
 rotate_left
 ·simp only [hm,not_false_eq_true,if_true];have he':(Ld l cnt k != 0)=true:=by simp [hm]
  try unfold Aa
  repeat first
   |((with_reducible first|apply Ap|apply Ag|apply Am|apply Az|apply Bh|apply Cf|apply Ah);· first|with_reducible rfl|(simp (disch:=omega) only [hd,e00,ad,he',L,t]<;>with_reducible rfl))
   |((with_reducible first|apply Ak|apply Al);· first|with_reducible rfl|omega|(simp (disch:=omega) only [gT,hd,e00,ad,he',L,t]<;>omega))
   |(with_reducible apply Ao;· first|with_reducible rfl|(simp (disch:=omega) only [gF,hd,e00,ad,he',L,t]<;>omega))
  try simp (disch:=omega) only [hd,e00,ad,he',L,t]
  all_goals rfl
 rw [hm] at ad ⊢;simp only [not_true_eq_false,if_false,Hc];have ac1:=WY (fu:=fu) (d:=d) (l:=l) (x:=⟨k,m,⟨#[]⟩⟩) (cnt:=cnt) hfu (by omega) h0 h1 ⟨k1,k8,n0,Nat.zero_le _⟩ (Nat.zero_le _)
 have LA:=Ds (Es l ⟨k,m,⟨#[]⟩⟩).2;have tA:=D8 (Es l ⟨k,m,⟨#[]⟩⟩).2;have B:=fun (hn:m<=1024)=>WY (fu:=fu) (d:=d) (l:=l) (x:=⟨k,0,Bo ((b.drop a).take m)⟩) (cnt:=cnt) hfu (by omega) h0 h1 ⟨k1,k8,by simp,by rw [Ez,List.length_take];omega⟩ (by rw [Ez,List.length_take];omega)
 have LB:=Ds (Es l ⟨k,0,Bo ((b.drop a).take m)⟩).2;have tB:=D8 (Es l ⟨k,0,Bo ((b.drop a).take m)⟩).2;unfold X1;generalize Es l ⟨k,m,⟨#[]⟩⟩=A at *
 obtain ⟨A1,A2⟩:=A;have eB:ByteArray.mk (List.toArray (((b.drop a).take m).map fun n=>n.toNat.toUInt8))=Bo ((b.drop a).take m):=rfl
 have bo:=Ft ((b.drop a).take m);have tk:List.take m (List.drop a (Ai .u8 b))=Ai .u8 ((b.drop a).take m):=by rw [E2,D3]
 have lq:(Ai .u8 ((b.drop a).take m)).length=min m (b.length-a):=by rw [Aq,List.length_take,List.length_drop]
 have Lb:=Aq .u8 b;generalize Bo ((b.drop a).take m)=S at *
 generalize Es l ⟨k,0,S⟩=B' at *
 obtain ⟨B1,B2⟩:=B';generalize (b.drop a).take m=q at *
 unfold M7 It.cells at ac1 B;simp only at ac1 B LA tA LB tB;have w1:wrap .i64 ((b.length:Int)-(a:Int))=((b.length-a:Nat):Int):=by rw [At (by omega) (by omega)];omega
 have w2:m<=1024->wrap .i64 (m:Int)=m:=fun h=>At (by omega) (by omega)
 have w3:m<=1024->wrap .i64 ((a:Int)+(m:Int))=((a+m:Nat):Int):=fun h=>by rw [At (by omega) (by omega)];omega
 have w4:a+m-a=m:=by omega
 try unfold Aa
 repeat' first
  |((with_reducible first|apply Ap|apply Ag|apply Am|apply Az|apply Bh|apply Cf|apply Ah);· first|with_reducible rfl|(simp (disch:=first|with_reducible assumption|omega) only [hd,e00,ad,L,t,ac1,LA,tA,B,LB,tB,w1,w2,w3,w4,tk,bo,lq,eB,Hc,Bj,Bv]<;>with_reducible rfl))
  |((with_reducible first|apply Ak|apply Al);· first|with_reducible rfl|with_reducible assumption|omega|(simp (disch:=first|with_reducible assumption|omega) only [gT,hd,e00,ad,L,t,ac1,LA,tA,B,LB,tB,w1,w2,w3,w4,tk,bo,lq,eB,Hc,Bj,Bv]<;>omega))
  |(with_reducible apply Ao;· first|with_reducible rfl|with_reducible assumption|(simp (disch:=first|with_reducible assumption|omega) only [gF,hd,e00,ad,L,t,ac1,LA,tA,B,LB,tB,w1,w2,w3,w4,tk,bo,lq,eB,Hc,Bj,Bv]<;>omega))
  |(with_reducible refine Akd ?_ ?_<;>intro hb<;>try simp only [decide_eq_true_eq,decide_eq_false_iff_not,beq_iff_eq,beq_eq_false_iff_ne,bne_iff_ne,bne_eq_false_iff_eq,ne_eq,Bool.not_eq_true',Bool.not_eq_false',Bool.not_eq_true,Bool.not_eq_false] at hb)
  |(with_reducible refine YH ?_ ?_)
 all_goals try simp (disch:=first|with_reducible assumption|omega) only [hd,e00,ad,L,t,ac1,LA,tA,B,LB,tB,w1,w2,w3,w4,tk,bo,lq,eB,Hc,Bj,Bv,Bl,A3]
 all_goals rfl
end
end
section
open Go.IntKind (wrap)
def VM (l:List Hs)(cnt:Int):Bool:=decide (cnt>0)&&((l.length:Int)==0)
def Ls:Nat->List Hs->Int->List Int->Nat->List It->List It × Nat × Int
 |0,_,_,_,_,_=>([],0,2)
 |m+1,l,cnt,b,at_,its=>if VM l cnt=true then (its,at_,0) else
  if (Ge l cnt b at_).e≠0 then ([],0,(Ge l cnt b at_).e) else Ls m (Ge l cnt b at_).l (Ge l cnt b at_).cnt b (Ge l cnt b at_).at_ (its++[(Ge l cnt b at_).x])
def FY (r:List It × Nat × Int):List PV:=[.own 3 r.1.length (Bq r.1),.sc (.int .i64 r.2.1),.sc (.int .i64 r.2.2)]
theorem Aoh (l:List Hs):(LL l).length<=l.length:=by
 unfold LL;rw [List.length_reverse];have:=(List.dropWhile_sublist (l:=l.reverse) fun f=>f.left==0).length_le
 rw [List.length_reverse] at this;exact this
theorem UQ (l:List Hs)(x:It):(Gf l x).length<=l.length+1:=by
 unfold Gf;refine Nat.le_trans (Aoh _) ?_;have:=RI l;unfold VY
 repeat' split
 all_goals simp
 all_goals omega
theorem Ad7 (l:List Hs)(k:List Int):(Lh l k).length=l.length:=by
 rcases Pp l with rfl|⟨l',f,rfl⟩
 ·rfl
 ·rw [Ph];simp
theorem Abf (l:List Hs)(x:It):(Es l x).2.length<=l.length+1:=by
 unfold Es;have h1:=UQ l x;have h2:=UQ (Lh l (Bw x)) x;rw [Ad7] at h2
 repeat' split
 all_goals simp only
 all_goals omega
structure OkX (x:It):Prop where
 k1:1<=x.k
 k8:x.k<=8
 n0:0<=x.n
 n1:x.n<=18446744073709551615
 s1:x.s.size<=1024
theorem Akf {l:List Hs}{cnt k:Int}(h:Ld l cnt k=0):cnt<512∧l.length<=8:=by
 unfold Ld at h
 repeat' split at h
 all_goals first
  |(cases h;done)
  |omega
theorem RJ {l:List Hs}{cnt:Int}{x:It}{at_:Nat}(hx:OkX x)(h:(X1 l cnt x at_).e=0):(X1 l cnt x at_).cnt=cnt+1∧(X1 l cnt x at_).l.length<=l.length+1∧(X1 l cnt x at_).at_=at_∧OkX (X1 l cnt x at_).x:=by
 have:=Abf l x;unfold X1 at h ⊢;by_cases hz:(Es l x).1=0
 ·rw [Bl hz];exact ⟨rfl,this,rfl,hx⟩
 ·rw [A3 hz] at h;exact absurd h hz
theorem WH {l:List Hs}{cnt:Int}{b:List Int}{at_:Nat}(hb:G9 b)(ha:at_<=b.length)(h:(Ge l cnt b at_).e=0):
  cnt<512∧(Ge l cnt b at_).cnt=cnt+1∧(Ge l cnt b at_).l.length<=9∧at_<(Ge l cnt b at_).at_∧(Ge l cnt b at_).at_<=b.length∧OkX (Ge l cnt b at_).x:=by
 have hk:=Rl hb ha;unfold Ge at h ⊢;generalize Bg b at_=q at h hk ⊢;obtain ⟨k,n,e,a⟩:=q;obtain ⟨ka,hk⟩:=hk;unfold XM at h ⊢;simp only at h hk ka ⊢;by_cases he:e=0
 rotate_left
 ·rw [Bl he] at h;exact absurd h he
 subst he;obtain ⟨k1,k8,n0,n1,hlt⟩:=hk rfl;rw [A3 (by simp)] at h ⊢
 by_cases hm:Ld l cnt k=0
 rotate_left
 ·rw [Bl hm] at h;exact absurd h hm
 obtain ⟨c1,c2⟩:=Akf hm;rw [A3 (by simp [hm])] at h ⊢
 have z:(ByteArray.mk #[]).size<=1024:=Nat.zero_le _;by_cases h56:k=5∨k=6
 ·rw [Bl h56] at h ⊢;by_cases hn:n>512
  ·rw [Bl hn] at h;exact absurd h (by simp)
  ·rw [A3 hn] at h ⊢;obtain ⟨p1,p2,p3,p4⟩:=RJ ⟨k1,k8,n0,n1,z⟩ h;exact ⟨c1,p1,by omega,by omega,by omega,p4⟩
 ·rw [A3 h56] at h ⊢;by_cases h34:k=3∨k=4
  ·rw [Bl h34] at h ⊢;by_cases hn:n>1024
   ·rw [Bl hn] at h;exact absurd h (by simp)
   ·rw [A3 hn] at h ⊢;by_cases hr:b.length-a<n.toNat
    ·rw [Bl hr] at h;exact absurd h (by simp)
    ·rw [A3 hr] at h ⊢;obtain ⟨p1,p2,p3,p4⟩:=RJ ⟨k1,k8,by simp,by simp,by rw [Ez,List.length_take];omega⟩ h
     exact ⟨c1,p1,by omega,by omega,by omega,p4⟩
  ·rw [A3 h34] at h ⊢;obtain ⟨p1,p2,p3,p4⟩:=RJ ⟨k1,k8,n0,n1,z⟩ h;exact ⟨c1,p1,by omega,by omega,by omega,p4⟩
theorem IW {b:List Int}(hb:G9 b):∀(m:Nat)(l:List Hs)(cnt:Int)(at_:Nat)(its:List It),at_<=b.length->(∀x∈its,OkX x)->(Ls m l cnt b at_ its).2.1<=b.length∧∀x∈(Ls m l cnt b at_ its).1,OkX x
 |0,l,cnt,at_,its,h,hi=>⟨by simp [Ls],by intro x hx;simp [Ls] at hx⟩
 |m+1,l,cnt,at_,its,h,hi=>by
  unfold Ls;by_cases hd:VM l cnt=true
  ·rw [Bl hd];exact ⟨h,hi⟩
  ·rw [A3 hd];by_cases he:(Ge l cnt b at_).e=0
   ·rw [A3 (by simp [he])]
    obtain ⟨_,_,_,_,p,q⟩:=WH hb h he;refine IW hb m _ _ _ _ p ?_;intro x hx;rcases List.mem_append.1 hx with hx|hx
    ·exact hi x hx
    ·simp at hx;subst hx;exact q
   ·rw [Bl he];exact ⟨by simp,by intro x hx;simp at hx⟩
section
variable {fu d:Nat}
theorem Abv (hfu:1000<=fu){a0n:Nat}{a0:List PV}{b:List Int}(hb:G9 b)(hl:b.length<=1000000):∀(nn:Nat)(l:List Hs)(cnt:Int)(at_:Nat)(its:List It),0<=cnt->cnt<=512->512-cnt<nn->l.length<=9->at_<=b.length->its.length=cnt.toNat ->
  M3 fu (Ae C0 Tryz.prog fu (d+4)) a0n a0 nn its.length (Bq its) l.length cnt b.length (Ai .u8 b) (at_:Int) (Fz l)=some ⟨FY (Ls nn l cnt b at_ its),[]⟩
 |0,_,_,_,_,_,_,h,_,_,_=>by omega
 |nn+1,l,cnt,at_,its,h0,h1,hn,hf,ha,hi=>by
  have dn:=ZF (fu:=fu) (d:=d+3) l cnt;have ri:=Ak8 (fu:=fu) (d:=d) (l:=l) (cnt:=cnt) (b:=b) (at_:=at_) hfu hb hl ha (by omega) h0 (by omega)
  have ok:=WH (l:=l) (cnt:=cnt) hb ha;have L:=Ds l;have t:=D8 l;have LT:=En its;have tT:List.take (its.length*3) (Bq its)=Bq its:=I0 (by omega)
  have ih:=Abv hfu (a0n:=a0n) (a0:=a0) hb hl nn;rw [LV];unfold Ls;unfold M7 at dn;change _=some (A0.mk [.sc (.bool (VM l cnt))] _) at dn;generalize Ge l cnt b at_=r at ri ok ⊢;obtain ⟨x,e,l2,cnt2,at2⟩:=r;simp only at ri ok ⊢;cases hd:VM l cnt
  ·rw [hd] at dn;rw [A3 (by simp)]
   by_cases he:e=0
   ·subst he;obtain ⟨p1,rfl,p3,p4,p5,p6⟩:=ok rfl;have q:=ih l2 (cnt+1) at2 (its++[x]) (by omega) (by omega) (by omega) p3 p5 (by simp;omega)
    rw [A3 (by simp),←q,HP,H1]
    have e1:Bq [x]=x.cells:=by simp [Bq]
    rw [e1];obtain ⟨xk,xn,xs⟩:=x;unfold It.cells at ri ⊢;have e00:((0:Int) != 0)=false:=rfl
    try unfold Aa
    repeat first
     |((with_reducible first|apply Ap|apply Ag|apply Am|apply As|apply Ax|apply Az|apply Bh|apply A6|apply Ah);· first|with_reducible rfl|(simp (disch:=omega) only [dn,ri,e00,L,t,LT,tT]<;>with_reducible rfl))
     |((with_reducible first|apply Ak|apply Al);· first|with_reducible rfl|omega|(simp (disch:=omega) only [gT,dn,ri,e00,L,t,LT,tT]<;>omega))
     |(with_reducible apply Ao;· first|with_reducible rfl|(simp (disch:=omega) only [gF,dn,ri,e00,L,t,LT,tT]<;>omega))
    try simp (disch:=omega) only [dn,ri,e00,L,t,LT,tT]
    all_goals rfl
   ·have he':(e != 0)=true:=by simp [he]
    rw [Bl he];obtain ⟨xk,xn,xs⟩:=x;unfold It.cells at ri
    try unfold Aa
    repeat first
     |((with_reducible first|apply Ap|apply Ag|apply Am|apply As|apply Ax|apply Az|apply Bh|apply A6|apply Ah);· first|with_reducible rfl|(simp (disch:=omega) only [dn,ri,he',L,t,LT,tT]<;>with_reducible rfl))
     |((with_reducible first|apply Ak|apply Al);· first|with_reducible rfl|omega|(simp (disch:=omega) only [gT,dn,ri,he',L,t,LT,tT]<;>omega))
     |(with_reducible apply Ao;· first|with_reducible rfl|(simp (disch:=omega) only [gF,dn,ri,he',L,t,LT,tT]<;>omega))
    try simp (disch:=omega) only [dn,ri,he',L,t,LT,tT]
    all_goals rfl
  ·rw [hd] at dn;rw [Bl rfl]
   try unfold Aa
   repeat first
    |((with_reducible first|apply Ap|apply Ag|apply Am|apply As|apply Ax|apply Az|apply Bh|apply A6|apply Ah);· first|with_reducible rfl|(simp (disch:=omega) only [dn,L,t,LT,tT]<;>with_reducible rfl))
    |((with_reducible first|apply Ak|apply Al);· first|with_reducible rfl|omega|(simp (disch:=omega) only [gT,dn,L,t,LT,tT]<;>omega))
    |(with_reducible apply Ao;· first|with_reducible rfl|(simp (disch:=omega) only [gF,dn,L,t,LT,tT]<;>omega))
   try simp (disch:=omega) only [dn,L,t,LT,tT]
   all_goals rfl
theorem Ajg (hfu:1000<=fu){b:List Int}(hb:G9 b)(hl:b.length<=1000000):
  Ae C0 Tryz.prog fu (d+5) EC [.lst false 1 b.length (Ai .u8 b)]=some ⟨FY (Ls fu [] 0 b 0 []),[]⟩:=by
 rw [TO];exact Abv hfu hb hl fu [] 0 0 [] (by omega) (by omega) (by omega) (by simp) (by omega) (by simp)
end
end
section
open Go.IntKind (wrap)
theorem Aph {n:Int}(h0:0<=n):(n<256->CK (tb n 1)=n)∧(n<65536->CK (tb n 2)=n)∧(n<4294967296->CK (tb n 4)=n)∧(n<=18446744073709551615->CK (tb n 8)=n):=by
 have st:∀(k:Nat) (D:Int),n<=18446744073709551615->k<8->(2:Int) ^ (56-8*k)=D->0<D->Fc (n / D / 256) (Dw n k)=n / D:=by
  intro k D h1 hk hD hp;rw [WA k hk,hD];exact Aqn (Int.ediv_nonneg h0 (Int.le_of_lt hp)) (Int.le_trans (Int.ediv_le_self _ h0) h1)
 refine ⟨fun h=>?_,fun h=>?_,fun h=>?_,fun h=>CD h0 h⟩
 ·have s7:=st 7 1 (by omega) (by omega) (by decide) (by omega)
  rw [show n / 1 / 256=0 by omega,show n / 1=n by omega] at s7
  exact s7
 ·have s6:=st 6 256 (by omega) (by omega) (by decide) (by omega)
  have s7:=st 7 1 (by omega) (by omega) (by decide) (by omega)
  rw [show n / 256 / 256=0 by omega] at s6
  rw [show n / 1 / 256=n / 256 by omega,show n / 1=n by omega] at s7
  show Fc (Fc 0 (Dw n 6)) (Dw n 7)=n;rw [s6,s7]
 ·have s4:=st 4 16777216 (by omega) (by omega) (by decide) (by omega)
  have s5:=st 5 65536 (by omega) (by omega) (by decide) (by omega)
  have s6:=st 6 256 (by omega) (by omega) (by decide) (by omega)
  have s7:=st 7 1 (by omega) (by omega) (by decide) (by omega)
  rw [show n / 16777216 / 256=0 by omega] at s4
  rw [show n / 65536 / 256=n / 16777216 by omega] at s5
  rw [show n / 256 / 256=n / 65536 by omega] at s6
  rw [show n / 1 / 256=n / 256 by omega,show n / 1=n by omega] at s7
  show Fc (Fc (Fc (Fc 0 (Dw n 4)) (Dw n 5)) (Dw n 6)) (Dw n 7)=n;rw [s4,s5,s6,s7]
theorem BT {b:List Int}{at_:Nat}{mj n low:Int}{k:Nat}{rest:List Int}(m0:0<=mj)(m5:mj<=5)(l0:24<=low)(l1:low<=27)(hk:XD low=k)(h:b.drop (at_+1)=tb n k++rest) (hd:CK (tb n k)=n) (hs:¬(M4 n<(k:Int))):
  Vx b at_ (32*mj+low)=⟨1+mj,n,0,at_+1+k⟩:=by
 have e1:(32*mj+low) / 32=mj:=by omega
 have e2:(32*mj+low) % 32=low:=by omega
 have e3:(b.drop (at_+1)).take k=tb n k:=by rw [h,List.take_left' (GJ n k)]
 have e4:k<=b.length-(at_+1):=by
  have:=congrArg List.length h;rw [List.length_drop,H1,GJ] at this;omega
 unfold Vx;rw [e1,e2,hk,e3,hd,A3 (by omega),A3 (by omega),A3 (by omega),A3 (by omega),A3 (by omega),A3 (by omega),A3 (by omega),A3 hs]
theorem ES {b:List Int}{at_:Nat}{mj n:Int}{rest:List Int}(h:b.drop at_=Dr mj n++rest)(m0:0<=mj)(m5:mj<=5)(n0:0<=n)(n1:n<=18446744073709551615):
  Bg b at_=⟨1+mj,n,0,at_+(Dr mj n).length⟩:=by
 obtain ⟨d1,d2,d4,d8⟩:=Aph n0;unfold Bg;unfold Dr at h ⊢;by_cases c1:n<24
 ·rw [Bl c1] at h ⊢;obtain ⟨_,g,_⟩:=Cg h;rw [g];show Vx b at_ (32*mj+n)=_;unfold Vx;have e1:(32*mj+n) / 32=mj:=by omega
  have e2:(32*mj+n) % 32=n:=by omega
  rw [e1,e2,A3 (by omega),A3 (by omega),A3 (by omega),A3 (by omega),A3 (by omega),Bl c1]
  rfl
 rw [A3 c1] at h ⊢;by_cases c2:n<256
 ·rw [Bl c2] at h ⊢;obtain ⟨_,g,g2⟩:=Cg h;rw [g];have:=BT (at_:=at_) m0 m5 (low:=24) (by omega) (by omega) (k:=1) (by decide) g2 (d1 c2) (by unfold M4;rw [A3 c1,Bl c2];omega)
  show Vx b at_ (32*mj+24)=_;rw [this,Ib,GJ]
 rw [A3 c2] at h ⊢;by_cases c3:n<65536
 ·rw [Bl c3] at h ⊢;obtain ⟨_,g,g2⟩:=Cg h;rw [g];have:=BT (at_:=at_) m0 m5 (low:=25) (by omega) (by omega) (k:=2) (by decide) g2 (d2 c3) (by unfold M4;rw [A3 c1,A3 c2,Bl c3];omega)
  show Vx b at_ (32*mj+25)=_;rw [this,Ib,GJ]
 rw [A3 c3] at h ⊢;by_cases c4:n<4294967296
 ·rw [Bl c4] at h ⊢;obtain ⟨_,g,g2⟩:=Cg h;rw [g];have:=BT (at_:=at_) m0 m5 (low:=26) (by omega) (by omega) (k:=4) (by decide) g2 (d4 c4) (by unfold M4;rw [A3 c1,A3 c2,A3 c3,Bl c4];omega)
  show Vx b at_ (32*mj+26)=_;rw [this,Ib,GJ]
 ·rw [A3 c4] at h ⊢;obtain ⟨_,g,g2⟩:=Cg h;rw [g];have:=BT (at_:=at_) m0 m5 (low:=27) (by omega) (by omega) (k:=8) (by decide) g2 (d8 n1) (by unfold M4;rw [A3 c1,A3 c2,A3 c3,A3 c4];omega)
  show Vx b at_ (32*mj+27)=_;rw [this,Ib,GJ]
theorem XU {s:ByteArray}(h:GY s=true):s=⟨#[]⟩:=by
 unfold GY at h;have:=eq_of_beq h;apply ByteArray.ext;exact Array.toList_inj.1 this
def ZY (x:It):Int:=if x.k=3∨x.k=4 then (x.s.size:Int) else x.n
theorem GF {x:It}{b:List Int}{at_:Nat}{rest:List Int}(hsh:Hj x=true)(k1:1<=x.k)(k8:x.k<=8)(n0:0<=x.n)(n1:x.n<=18446744073709551615)(hs:x.s.size<=1024)(h:b.drop at_=Bw x++rest):
  Bg b at_=⟨x.k,ZY x,0,at_+((Bw x).length-x.s.size)⟩∧(x.k=3∨x.k=4->x.n=0∧b.drop (at_+((Bw x).length-x.s.size))=B4 x.s++rest)∧(¬(x.k=3∨x.k=4)->x.s=⟨#[]⟩)∧x.s.size<=(Bw x).length:=by
 obtain ⟨k,n,s⟩:=x;have z:(ByteArray.mk #[]).size=0:=rfl;simp only at k1 k8 n0 n1 hs ⊢;unfold Hj at hsh;simp only at hsh;have L:=C9 s;have E7:k=7->Bw ⟨k,n,s⟩=[wrap .u8 (244+wrap .u8 n)]:=fun e=>by unfold Bw;rw [Bl e]
 have E8:k=8->Bw ⟨k,n,s⟩=[246]:=fun e=>by subst e;rfl
 have E3:k=3->Bw ⟨k,n,s⟩=Dr 2 s.size++B4 s:=fun e=>by subst e;rfl
 have E4:k=4->Bw ⟨k,n,s⟩=Dr 3 s.size++B4 s:=fun e=>by subst e;rfl
 have E0:k≠7->k≠8->k≠3->k≠4->Bw ⟨k,n,s⟩=Dr (k-1) n:=fun a b c d=>by unfold Bw;rw [A3 a,A3 b,A3 c,A3 d]
 have N34:k=3∨k=4->ZY ⟨k,n,s⟩=s.size:=fun e=>by unfold ZY;rw [Bl e]
 have N0:¬(k=3∨k=4)->ZY ⟨k,n,s⟩=n:=fun e=>by unfold ZY;rw [A3 e]
 by_cases c7:k=7
 ·subst c7;simp at hsh;obtain ⟨hn,hs⟩:=hsh;obtain rfl:=XU hs;rw [E7 rfl] at h ⊢;rw [N0 (by omega)]
  obtain ⟨_,g,_⟩:=Cg h;refine ⟨?_,fun h=>by omega,fun _=>rfl,Nat.zero_le _⟩
  have:n=0∨n=1:=by omega
  unfold Bg;rw [g];rcases this with rfl|rfl
  ·rfl
  ·rfl
 by_cases c8:k=8
 ·subst c8;simp at hsh;obtain ⟨rfl,hs⟩:=hsh;obtain rfl:=XU hs;rw [E8 rfl] at h ⊢;rw [N0 (by omega)]
  obtain ⟨_,g,_⟩:=Cg h;refine ⟨?_,fun h=>by omega,fun _=>rfl,Nat.zero_le _⟩
  unfold Bg;rw [g];rfl
 by_cases c3:k=3
 ·subst c3;simp at hsh;subst hsh;rw [E3 rfl] at h ⊢;rw [N34 (by omega)]
  rw [Zzv] at h;have q:=ES h (by omega) (by omega) (by omega) (by omega)
  have e:(Dr 2 (s.size:Int)++B4 s).length-s.size=(Dr 2 (s.size:Int)).length:=by rw [H1,L];omega
  rw [e];refine ⟨q,fun _=>⟨rfl,?_⟩,fun h=>by omega,by rw [H1,L];omega⟩
  rw [←List.drop_drop,h,List.drop_left' rfl]
 by_cases c4:k=4
 ·subst c4;simp at hsh;subst hsh;rw [E4 rfl] at h ⊢;rw [N34 (by omega)]
  rw [Zzv] at h;have q:=ES h (by omega) (by omega) (by omega) (by omega)
  have e:(Dr 3 (s.size:Int)++B4 s).length-s.size=(Dr 3 (s.size:Int)).length:=by rw [H1,L];omega
  rw [e];refine ⟨q,fun _=>⟨rfl,?_⟩,fun h=>by omega,by rw [H1,L];omega⟩
  rw [←List.drop_drop,h,List.drop_left' rfl]
 rw [A3 c3,A3 c4,A3 c8,A3 c7] at hsh;obtain rfl:=XU hsh;rw [E0 c7 c8 c3 c4] at h ⊢;rw [N0 (by omega)]
 have q:=ES h (by omega) (by omega) n0 n1
 refine ⟨?_,fun h=>by omega,fun _=>rfl,by rw [z];omega⟩
 rw [q,z,Nat.sub_zero]
 congr 1
 omega
theorem Aep {l:List Hs}{cnt:Int}{x:It}{b:List Int}{at_:Nat}{rest:List Int}(g:Aqk l cnt x)(n0:0<=x.n)(n1:x.n<=18446744073709551615)(h:b.drop at_=Bw x++rest):
  Ge l cnt b at_=⟨x,0,Gf l x,cnt+1,at_+(Bw x).length⟩:=by
 have k18:1<=x.k∧x.k<=8:=by
  have hm:=g.hm;unfold Ld at hm
  repeat' split at hm
  all_goals first
   |(cases hm;done)
   |omega
 obtain ⟨q1,q2,q3,q4⟩:=GF g.hsh k18.1 k18.2 n0 n1 g.hs h
 have ac:∀a:Nat,X1 l cnt x a=⟨x,0,Gf l x,cnt+1,a⟩:=by
  intro a
  have:Es l x=(0,Gf l x):=by
   unfold Es;rw [A3,A3 (by simp [g.ha])]
   intro hh;have:=g.hv hh.1;exact absurd hh.2 (by simp [TH,this])
  unfold X1;rw [this];rfl
 have ln:b.length-(at_+((Bw x).length-x.s.size))>=x.s.size:=by
  have:=congrArg List.length h;rw [List.length_drop,H1] at this;omega
 unfold Ge;rw [q1];unfold XM;simp only;rw [A3 (by simp),g.hm,A3 (by simp)]
 have hs:=g.hs;have hn:=g.hn;obtain ⟨k,n,s⟩:=x;simp only at *
 by_cases c34:k=3∨k=4
 ·obtain ⟨rfl,q2⟩:=q2 c34;have N:ZY ⟨k,0,s⟩=s.size:=by unfold ZY;rw [Bl c34]
  rw [N,A3 (by omega),Bl c34,A3 (by omega),Hc,A3 (by omega),q2,List.take_left' (C9 s),Q8,ac]
  congr 1
  omega
 ·obtain rfl:=q3 c34;have z:(ByteArray.mk #[]).size=0:=rfl;have N:ZY ⟨k,n,⟨#[]⟩⟩=n:=by unfold ZY;rw [A3 c34]
  rw [N,A3 c34,z,Nat.sub_zero];by_cases c56:k=5∨k=6
  ·rw [Bl c56,A3 (by omega),ac]
  ·rw [A3 c56,ac]
theorem WK {b:List Int}{rest:List Int}:∀(its:List It)(l:List Hs)(cnt:Int)(at_ m:Nat)(acc:List It),Sm l cnt its->(∀x∈its,0<=x.n∧x.n<=18446744073709551615)->b.drop at_=Bc its++rest->its.length<m ->
  Ls m l cnt b at_ acc=(acc++its,at_+(Bc its).length,0)
 |[],l,cnt,at_,m,acc,hg,hn,h,hm=>by
  obtain ⟨rfl,hc⟩:=hg;obtain ⟨m,rfl⟩:∃k,m=k+1:=⟨m-1,by omega⟩
  unfold Ls;rw [Bl (by simp [VM,hc])]
  simp [Bc]
 |x::its,l,cnt,at_,m,acc,hg,hn,h,hm=>by
  obtain ⟨g,hg⟩:=hg;obtain ⟨m,rfl⟩:∃k,m=k+1:=⟨m-1,by simp at hm;omega⟩
  have e:Bc (x::its)=Bw x++Bc its:=by simp [Bc]
  rw [e,Zzv] at h;have r:=Aep g (hn x (by simp)).1 (hn x (by simp)).2 h
  have h':b.drop (at_+(Bw x).length)=Bc its++rest:=by rw [←List.drop_drop,h,List.drop_left' rfl]
  have ih:=WK its (Gf l x) (cnt+1) (at_+(Bw x).length) m (acc++[x]) hg (fun y hy=>hn y (List.mem_cons_of_mem _ hy)) h' (by simp at hm;omega)
  unfold Ls;have hd:VM l cnt=false:=g.hd;rw [A3 (by simp [hd]),r]
  simp only;rw [A3 (by simp),ih,e]
  simp;omega
end
section
open Go.IntKind (wrap)
abbrev ZX (x:Int):Prop:=0<=x∧x<=18446744073709551615
abbrev isW (l:List Int):Prop:=∀x∈l,ZX x
theorem Abh (l:List Int)(i:Nat):ZX (Kb l i):=Z4 _ 0 (by omega) (by omega)
theorem Acb (l:List Int):isW (Fl l):=by
 intro x hx;obtain ⟨k,_,rfl⟩:=List.mem_map.1 hx;exact Abh l k
theorem W5:∀{ws:List Int}{i:Nat}{w:Int},isW ws->ws[i]?=some w->Kb (A7 ws) i=w
 |[],i,w,_,h=>by simp at h
 |a::ws,0,w,hw,h=>by
  simp at h;subst h;have e:A7 (a::ws)=Ci a++A7 ws:=rfl;unfold Kb;rw [Nat.mul_zero,B8,e,List.take_left' (C3 a)];have:=hw a (by simp)
  exact CD this.1 this.2
 |a::ws,i+1,w,hw,h=>by
  simp at h;have ih:=W5 (ws:=ws) (fun x hx=>hw x (List.mem_cons_of_mem _ hx)) h
  have e:A7 (a::ws)=Ci a++A7 ws:=rfl;unfold Kb at ih ⊢;rw [show 8*(i+1)=(Ci a).length+8*i by rw [C3];omega,e,←List.drop_drop,List.drop_left' rfl]
  exact ih
theorem GU {ws:List Int}(hw:isW ws):Fl (A7 ws)=ws:=by
 have hl:(A7 ws).length / 8=ws.length:=by rw [Dd];omega
 apply List.ext_getElem?;intro i;unfold Fl;rw [hl];by_cases h:i<ws.length
 ·rw [List.getElem?_map,List.getElem?_range h,List.getElem?_eq_getElem h];simp only [Option.map_some];rw [W5 hw (List.getElem?_eq_getElem h)]
 ·rw [List.getElem?_eq_none (by simp;omega),List.getElem?_eq_none (by omega)]
theorem UZ {k:Ky}(hh:Df k.h=false)(hr:ZX k.root):DK (G0 k)=some k:=by
 obtain ⟨h,r⟩:=k;have hb:=Gr hh;simp only at hb hr hh;have w:wrap .u8 h=h:=Gn (by omega) (by omega)
 have w1:A7 [r]=Ci r:=by simp [A7]
 have:=W5 (ws:=[r]) (i:=0) (w:=r) (by intro x hx;simp at hx;subst hx;exact hr) rfl
 rw [w1] at this;unfold DK G0;simp only [w,List.getD_cons_zero,List.drop_succ_cons,B8,this,Ib,C3,hh,and_self,if_true]
theorem Adt {k:Ky}:G9 (G0 k):=by
 intro x hx;rcases List.mem_cons.1 hx with rfl|hx
 ·have:∀v:Int,0<=wrap .u8 v∧wrap .u8 v<=255:=by
   intro v;simp only [wrap,IntKind.signed,IntKind.bits];simp;omega
  exact this _
 ·exact CI _ x hx
theorem IP {l:List Int}{k:Ky}(h:DK l=some k):Df k.h=false∧ZX k.root:=by
 unfold DK at h;split at h
 ·rename_i hh;cases h;exact ⟨hh.2,Abh _ _⟩
 ·cases h
structure Sg.ok (s:Sg):Prop where
 ch:isW s.chains
 pa:isW s.path
theorem Aqb (s:Sg):G9 (M6 s):=by
 have w8:∀v:Int,0<=wrap .u8 v∧wrap .u8 v<=255:=by
  intro v;simp only [wrap,IntKind.signed,IntKind.bits];simp;omega
 intro x hx;unfold M6 at hx;rcases List.mem_cons.1 hx with rfl|hx
 ·exact w8 _
 rcases List.mem_cons.1 hx with rfl|hx
 ·exact w8 _
 rcases List.mem_append.1 hx with hx|hx
 ·exact Wh _ x hx
 ·exact Wh _ x hx
theorem Afo {s:Sg}(hs:s.ok)(h1:Df s.path.length=false)(h2:Gc s.leaf s.path.length=false)(h3:s.chains.length=18):OG (M6 s)=some s:=by
 obtain ⟨leaf,ch,pa⟩:=s;obtain ⟨hc,hp⟩:=hs;simp only at h1 h2 h3 hc hp;have hb:=Gr h1;have ho:=Aen hb.1 hb.2 h2;have h16:=Arg hb.1 hb.2;have w1:wrap .u8 leaf=leaf:=Gn (by omega) (by omega)
 have w2:wrap .u8 (pa.length:Int)=pa.length:=Gn (by omega) (by omega)
 have lc:(A7 ch).length=144:=by rw [Dd];omega
 have lp:(A7 pa).length=8*pa.length:=Dd pa
 have len:(M6 ⟨leaf,ch,pa⟩).length=2+144+8*pa.length:=by
  unfold M6;simp only [Ib,H1,lc,lp];omega
 have g0:(M6 ⟨leaf,ch,pa⟩).getD 0 0=leaf:=w1;have g1:(M6 ⟨leaf,ch,pa⟩).getD 1 0=pa.length:=w2;have d2:(M6 ⟨leaf,ch,pa⟩).drop 2=A7 ch++A7 pa:=rfl
 have d146:(M6 ⟨leaf,ch,pa⟩).drop 146=A7 pa:=by
  rw [show 146=2+144 from rfl,←List.drop_drop,d2,List.drop_left' lc]
 unfold OG;rw [Bl ⟨by omega,by rw [g1];exact h1,by rw [g0,g1];exact h2,by rw [g1,len];omega⟩,g0,d2,d146,List.take_left' lc,GU hc,GU hp]
theorem RB {l:List Int}{s:Sg}(h:OG l=some s):s.ok∧s.path.length<=4∧s.chains.length=18:=by
 unfold OG at h;split at h
 ·rename_i hh;cases h;have hb:=Gr hh.2.1;refine ⟨⟨Acb _,Acb _⟩,?_,?_⟩
  ·simp only [Sp,List.length_drop];omega
  ·simp only [Sp,List.length_take,List.length_drop];omega
 ·cases h
end
section
open Go.IntKind (wrap)
set_option maxRecDepth 100000
abbrev Ss:FuncId:=111
noncomputable def F6 (fu:Nat)(call:Ar)(a0_0 a0_1:ByteArray)(a0_2 a0_3:Int)(a0_4 a0_5 a0_6:Int)(a0_7:Bool)(a0_8 a0_9 a0_10:Int)(a0_11n:Nat)(a0_11:List PV)(a0_12n:Nat)(a0_12:List PV)(nn:Nat)(y0 y1:ByteArray)(y2:Int)(y3 y4:ByteArray)(y5 y6:Int)(y7 y8 y9:Int)(y10:Bool)(Ej E5 Ic:Int)(J1:Nat)(I1:List PV)(I2:Nat)(Jk:List PV):Option A0:=Cz C0 Tryz.prog fu call 111 Tryz.f111 (B9 Tryz.f111) [.agg [.sc (.string a0_0),.sc (.string a0_1),.sc (.int .u64 a0_2),.sc (.int .i64 a0_3),.sc (.int .u64 a0_4),.sc (.int .i64 a0_5),.sc (.int .i64 a0_6),.sc (.bool a0_7),.sc (.int .i64 a0_8),.sc (.int .u64 a0_9),.sc (.int .i64 a0_10),.lst false 1 a0_11n a0_11,.lst false 1 a0_12n a0_12]] [.r,.l,.r,.l] nn ⟨lk [(1,(.ptr 1 0)),(13,(.agg [(.sc (.string y0)),(.sc (.string y1))])),(14,(.sc (.int .i64 y2)))],Gl [(1,(.st [(.sc (.string y3)),(.sc (.string y4)),(.sc (.int .u64 y5)),(.sc (.int .i64 y6)),(.sc (.int .u64 y7)),(.sc (.int .i64 y8)),(.sc (.int .i64 y9)),(.sc (.bool y10)),(.sc (.int .i64 Ej)),(.sc (.int .u64 E5)),(.sc (.int .i64 Ic)),(.lst false 1 J1 I1),(.lst false 1 I2 Jk)]))]⟩
theorem Fi (fu:Nat)(call:Ar)(a0_0 a0_1:ByteArray)(a0_2 a0_3:Int)(a0_4 a0_5 a0_6:Int)(a0_7:Bool)(a0_8 a0_9 a0_10:Int)(a0_11n:Nat)(a0_11:List PV)(a0_12n:Nat)(a0_12:List PV)(nn:Nat)(y0 y1:ByteArray)(y2:Int)(y3 y4:ByteArray)(y5 y6:Int)(y7 y8 y9:Int)(y10:Bool)(Ej E5 Ic:Int)(J1:Nat)(I1:List PV)(I2:Nat)(Jk:List PV):F6 fu call a0_0 a0_1 a0_2 a0_3 a0_4 a0_5 a0_6 a0_7 a0_8 a0_9 a0_10 a0_11n a0_11 a0_12n a0_12 (nn+1) y0 y1 y2 y3 y4 y5 y6 y7 y8 y9 y10 Ej E5 Ic J1 I1 I2 Jk=(A4 (decide (y2<2)) (Ay (decide (0<=y2)&&decide (y2<2)&&true)<|Co (List.getD [.sc (.string y0),.sc (.string y1)] (Int.toNat y2*1) .top) fun x1=>A4 (decide ((↑(ByteArray.size x1):Int)<1)) (some (A0.mk [.own 1 0 [],.sc (.int .i64 9)] [])) (A4 (decide ((↑(ByteArray.size x1):Int)>32)) (some (A0.mk [.own 1 0 [],.sc (.int .i64 9)] [])) (Aa (wrap .i64 (y2+1)) fun x2=>F6 fu call a0_0 a0_1 a0_2 a0_3 a0_4 a0_5 a0_6 a0_7 a0_8 a0_9 a0_10 a0_11n a0_11 a0_12n a0_12 (nn) (y0) (y1) x2 (y3) (y4) (y5) (y6) (y7) (y8) (y9) (y10) (Ej) (E5) (Ic) (J1) (I1) (I2) (Jk)))) (Aj (call 67 [.sc (.string y3)]) fun x3 x4=>Ac x4<|Ab x3 fun x5 x6=>Bx x5 fun x7=>Ac x6<|A4 (!x7) (some (A0.mk [.own 1 0 [],.sc (.int .i64 6)] [])) (Aj (call 67 [.sc (.string y4)]) fun x8 x9=>Ac x9<|Ab x8 fun Ck Bn=>Bx Ck fun Cw=>Ac Bn<|A4 (!Cw) (some (A0.mk [.own 1 0 [],.sc (.int .i64 6)] [])) (Aj (call 123 [.agg [.sc (.int .i64 y6),.sc (.int .u64 y7)]]) fun Da Cq=>Ac Cq<|Ab Da fun Cy Db=>Dc 1 Cy fun Dq D2=>Ab Db fun D0 D9=>Af .i64 D0 fun Fj=>Ac D9<|A4 (Fj != 0) (some (A0.mk [.own 1 0 [],.sc (.int .i64 Fj)] [])) (A4 (decide (y8<0)) (some (A0.mk [.own 1 0 [],.sc (.int .i64 9)] [])) (A4 (decide (y8>y9)) (some (A0.mk [.own 1 0 [],.sc (.int .i64 9)] [])) (A4 (decide (y9>1099511627776)) (some (A0.mk [.own 1 0 [],.sc (.int .i64 9)] [])) (A4 (decide (Ej<0)) (some (A0.mk [.own 1 0 [],.sc (.int .i64 9)] [])) (A4 (decide (Ej>2)) (some (A0.mk [.own 1 0 [],.sc (.int .i64 9)] [])) (A4 (Ej != 0) (A4 (!y10) (some (A0.mk [.own 1 0 [],.sc (.int .i64 4)] [])) (Aj (call 125 [.sc (.string y3)]) fun Cn Fn=>Ac Fn<|Ab Cn fun Dj B3=>Dc 3 Dj fun Et F1=>Ac B3<|Aj (call 125 [.sc (.string y4)]) fun Bm Cj=>Ac Cj<|Ab Bm fun Gt Gu=>Dc 3 Gt fun Hz Ha=>Ac Gu<|Aj (call 126 [.sc (.int .u64 y5)]) fun Il G4=>Ac G4<|Ab Il fun Ir Kr=>Dc 3 Ir fun F0 H2=>Ac Kr<|Ay (decide (0+Dq*1<=D2.length))<|Aj (call 127 [.lst false 1 Dq (List.take (Dq*1) (List.drop 0 D2))]) fun Nc Ot=>Ac Ot<|Ab Nc fun Kc J5=>Dc 3 Kc fun Nk Md=>Ac J5<|Aa (wrap .u64 y8) fun Oo=>Aj (call 126 [.sc (.int .u64 Oo)]) fun Py Pw=>Ac Pw<|Ab Py fun Ox Rb=>Dc 3 Ox fun Q5 Q0=>Ac Rb<|Aa (wrap .u64 y9) fun Ks=>Aj (call 126 [.sc (.int .u64 Ks)]) fun S9 Ql=>Ac Ql<|Ab S9 fun Ru Nz=>Dc 3 Ru fun Pz Q9=>Ac Nz<|Aj (call 128 [.sc (.bool y10)]) fun Rk Pr=>Ac Pr<|Ab Rk fun Te Uv=>Dc 3 Te fun S7 Rz=>Ac Uv<|Aa (wrap .u64 Ej) fun Ro=>Aj (call 126 [.sc (.int .u64 Ro)]) fun Q7 Vv=>Ac Vv<|Ab Q7 fun Tn S5=>Dc 3 Tn fun Tj Uz=>Ac S5<|Aj (call 126 [.sc (.int .u64 E5)]) fun Tm S8=>Ac S8<|Ab Tm fun Rr Vg=>Dc 3 Rr fun T0 Vl=>Ac Vg<|Ay (decide (0+Et*3<=F1.length))<|Ay (decide (0+Hz*3<=Ha.length))<|Ay (decide (0+F0*3<=H2.length))<|Ay (decide (0+Nk*3<=Md.length))<|Ay (decide (0+Q5*3<=Q0.length))<|Ay (decide (0+Pz*3<=Q9.length))<|Ay (decide (0+S7*3<=Rz.length))<|Ay (decide (0+Tj*3<=Uz.length))<|Ay (decide (0+T0*3<=Vl.length))<|Aj (call 124 [.lst false 1 9 [.lst false 3 Et (List.take (Et*3) (List.drop 0 F1)),.lst false 3 Hz (List.take (Hz*3) (List.drop 0 Ha)),.lst false 3 F0 (List.take (F0*3) (List.drop 0 H2)),.lst false 3 Nk (List.take (Nk*3) (List.drop 0 Md)),.lst false 3 Q5 (List.take (Q5*3) (List.drop 0 Q0)),.lst false 3 Pz (List.take (Pz*3) (List.drop 0 Q9)),.lst false 3 S7 (List.take (S7*3) (List.drop 0 Rz)),.lst false 3 Tj (List.take (Tj*3) (List.drop 0 Uz)),.lst false 3 T0 (List.take (T0*3) (List.drop 0 Vl))]]) fun W8 Wv=>Ac Wv<|Ab W8 fun Yq Wu=>Dc 3 Yq fun X5 Xq=>Ab Wu fun Y5 Z3=>Af .i64 Y5 fun AL=>Ac Z3<|A4 (AL != 0) (some (A0.mk [.own 1 0 [],.sc (.int .i64 AL)] [])) (Ay (decide (0+X5*3<=Xq.length))<|Aj (call 129 [.lst false 3 X5 (List.take (X5*3) (List.drop 0 Xq))]) fun Re S6=>Ac S6<|Ab Re fun Uc GO=>Dc 1 Uc fun DV FL=>Ab GO fun JV MP=>Af .i64 JV fun OZ=>Ac MP<|Ay (decide (DV*1<=FL.length))<|some (A0.mk [.own 1 DV (List.take (DV*1) FL),.sc (.int .i64 OZ)] [])))) (Aj (call 125 [.sc (.string y3)]) fun NC OC=>Ac OC<|Ab NC fun NL S0=>Dc 3 NL fun Px Gw=>Ac S0<|Aj (call 125 [.sc (.string y4)]) fun Iz Vh=>Ac Vh<|Ab Iz fun P6 Oh=>Dc 3 P6 fun J9 Vk=>Ac Oh<|Aj (call 126 [.sc (.int .u64 y5)]) fun Xx Ve=>Ac Ve<|Ab Xx fun Vj Ig=>Dc 3 Vj fun Ko Zp=>Ac Ig<|Ay (decide (0+Dq*1<=D2.length))<|Aj (call 127 [.lst false 1 Dq (List.take (Dq*1) (List.drop 0 D2))]) fun Y8 M8=>Ac M8<|Ab Y8 fun Q6 Zn=>Dc 3 Q6 fun Xh Ym=>Ac Zn<|Aa (wrap .u64 y8) fun Yz=>Aj (call 126 [.sc (.int .u64 Yz)]) fun AG Yy=>Ac Yy<|Ab AG fun Zb Yg=>Dc 3 Zb fun P5 U0=>Ac Yg<|Aa (wrap .u64 y9) fun Zx=>Aj (call 126 [.sc (.int .u64 Zx)]) fun Zz Xo=>Ac Xo<|Ab Zz fun FZ Yu=>Dc 3 FZ fun W1 Z5=>Ac Yu<|Aj (call 128 [.sc (.bool y10)]) fun GB EM=>Ac EM<|Ab GB fun FM GI=>Dc 3 FM fun Xd Ys=>Ac GI<|Aa (wrap .u64 Ej) fun BD=>Aj (call 126 [.sc (.int .u64 BD)]) fun DG FC=>Ac FC<|Ab DG fun AM V3=>Dc 3 AM fun Yr DN=>Ac V3<|Aj (call 126 [.sc (.int .u64 E5)]) fun GK OA=>Ac OA<|Ab GK fun OT LH=>Dc 3 OT fun Z2 FI=>Ac LH<|Ay (decide (0+Px*3<=Gw.length))<|Ay (decide (0+J9*3<=Vk.length))<|Ay (decide (0+Ko*3<=Zp.length))<|Ay (decide (0+Xh*3<=Ym.length))<|Ay (decide (0+P5*3<=U0.length))<|Ay (decide (0+W1*3<=Z5.length))<|Ay (decide (0+Xd*3<=Ys.length))<|Ay (decide (0+Yr*3<=DN.length))<|Ay (decide (0+Z2*3<=FI.length))<|Aj (call 124 [.lst false 1 9 [.lst false 3 Px (List.take (Px*3) (List.drop 0 Gw)),.lst false 3 J9 (List.take (J9*3) (List.drop 0 Vk)),.lst false 3 Ko (List.take (Ko*3) (List.drop 0 Zp)),.lst false 3 Xh (List.take (Xh*3) (List.drop 0 Ym)),.lst false 3 P5 (List.take (P5*3) (List.drop 0 U0)),.lst false 3 W1 (List.take (W1*3) (List.drop 0 Z5)),.lst false 3 Xd (List.take (Xd*3) (List.drop 0 Ys)),.lst false 3 Yr (List.take (Yr*3) (List.drop 0 DN)),.lst false 3 Z2 (List.take (Z2*3) (List.drop 0 FI))]]) fun GC GQ=>Ac GQ<|Ab GC fun MB GT=>Dc 3 MB fun IJ HQ=>Ab GT fun LJ KY=>Af .i64 LJ fun JM=>Ac KY<|A4 (JM != 0) (some (A0.mk [.own 1 0 [],.sc (.int .i64 JM)] [])) (Ay (decide (0+IJ*3<=HQ.length))<|Aj (call 129 [.lst false 3 IJ (List.take (IJ*3) (List.drop 0 HQ))]) fun KG EK=>Ac EK<|Ab KG fun IC OK=>Dc 1 IC fun FR HN=>Ab OK fun EN GM=>Af .i64 EN fun KU=>Ac GM<|Ay (decide (FR*1<=HN.length))<|some (A0.mk [.own 1 FR (List.take (FR*1) HN),.sc (.int .i64 KU)] []))))))))))))):=by kernel_rfl
theorem ER (fu d:Nat)(a0_0 a0_1:ByteArray)(a0_2 a0_3:Int)(a0_4 a0_5 a0_6:Int)(a0_7:Bool)(a0_8 a0_9 a0_10:Int)(a0_11n:Nat)(a0_11:List PV)(a0_12n:Nat)(a0_12:List PV):Ae C0 Tryz.prog fu (d+1) Ss [.agg [.sc (.string a0_0),.sc (.string a0_1),.sc (.int .u64 a0_2),.sc (.int .i64 a0_3),.sc (.int .u64 a0_4),.sc (.int .i64 a0_5),.sc (.int .i64 a0_6),.sc (.bool a0_7),.sc (.int .i64 a0_8),.sc (.int .u64 a0_9),.sc (.int .i64 a0_10),.lst false 1 a0_11n a0_11,.lst false 1 a0_12n a0_12]]=(fun (call:Ar)=>F6 fu call a0_0 a0_1 a0_2 a0_3 a0_4 a0_5 a0_6 a0_7 a0_8 a0_9 a0_10 a0_11n a0_11 a0_12n a0_12 (fu) (a0_0) (a0_1) 0 (a0_0) (a0_1) (a0_2) (a0_3) (a0_4) (a0_5) (a0_6) (a0_7) (a0_8) (a0_9) (a0_10) (a0_11n) (a0_11) (a0_12n) (a0_12)) (Ae C0 Tryz.prog fu d):=by kernel_rfl
abbrev Sh:FuncId:=113
theorem FW (fu d:Nat)(a0_0 a0_1:ByteArray)(a0_2 a0_3:Int)(a0_4 a0_5 a0_6:Int)(a0_7:Bool)(a0_8 a0_9 a0_10:Int)(a0_11n:Nat)(a0_11:List PV)(a0_12n:Nat)(a0_12:List PV):Ae C0 Tryz.prog fu (d+1) Sh [.agg [.sc (.string a0_0),.sc (.string a0_1),.sc (.int .u64 a0_2),.sc (.int .i64 a0_3),.sc (.int .u64 a0_4),.sc (.int .i64 a0_5),.sc (.int .i64 a0_6),.sc (.bool a0_7),.sc (.int .i64 a0_8),.sc (.int .u64 a0_9),.sc (.int .i64 a0_10),.lst false 1 a0_11n a0_11,.lst false 1 a0_12n a0_12]]=(fun (call:Ar)=>Aj (call 111 [.agg [.sc (.string a0_0),.sc (.string a0_1),.sc (.int .u64 a0_2),.sc (.int .i64 a0_3),.sc (.int .u64 a0_4),.sc (.int .i64 a0_5),.sc (.int .i64 a0_6),.sc (.bool a0_7),.sc (.int .i64 a0_8),.sc (.int .u64 a0_9),.sc (.int .i64 a0_10),.lst false 1 a0_11n a0_11,.lst false 1 a0_12n a0_12]]) fun x1 x2=>Ac x2<|Ab x1 fun x3 x4=>Dc 1 x3 fun x5 x6=>Ab x4 fun x7 x8=>Af .i64 x7 fun x9=>Ac x8<|A4 (x9 != 0) (some (A0.mk [.sc (.int .u64 0),.sc (.int .i64 x9)] [])) (Ay (decide (0+x5*1<=x6.length))<|Aj (call 107 [.sc (.int .i64 14),.lst false 1 x5 (List.take (x5*1) (List.drop 0 x6))]) fun Ck Bn=>Ac Bn<|Ab Ck fun Cw Da=>Af .u64 Cw fun Cq=>Ac Da<|some (A0.mk [.sc (.int .u64 Cq),.sc (.int .i64 0)] []))) (Ae C0 Tryz.prog fu d):=by kernel_rfl
abbrev O2:FuncId:=92
theorem AY (fu d:Nat)(a0_0 a0_1:ByteArray)(a0_2 a0_3:Int)(a0_4 a0_5 a0_6:Int)(a0_7:Bool)(a0_8 a0_9 a0_10:Int)(a0_11n:Nat)(a0_11:List PV)(a0_12n:Nat)(a0_12:List PV)(a1_0 a1_1:Int):Ae C0 Tryz.prog fu (d+1) O2 [.agg [.sc (.string a0_0),.sc (.string a0_1),.sc (.int .u64 a0_2),.sc (.int .i64 a0_3),.sc (.int .u64 a0_4),.sc (.int .i64 a0_5),.sc (.int .i64 a0_6),.sc (.bool a0_7),.sc (.int .i64 a0_8),.sc (.int .u64 a0_9),.sc (.int .i64 a0_10),.lst false 1 a0_11n a0_11,.lst false 1 a0_12n a0_12],.agg [.sc (.int .i64 a1_0),.sc (.int .u64 a1_1)]]=(fun (call:Ar)=>Aj (call 113 [.agg [.sc (.string a0_0),.sc (.string a0_1),.sc (.int .u64 a0_2),.sc (.int .i64 a0_3),.sc (.int .u64 a0_4),.sc (.int .i64 a0_5),.sc (.int .i64 a0_6),.sc (.bool a0_7),.sc (.int .i64 a0_8),.sc (.int .u64 a0_9),.sc (.int .i64 a0_10),.lst false 1 a0_11n a0_11,.lst false 1 a0_12n a0_12]]) fun x1 x2=>Ac x2<|Ab x1 fun x3 x4=>Af .u64 x3 fun x5=>Ab x4 fun x6 x7=>Af .i64 x6 fun x8=>Ac x7<|A4 (x8 != 0) (some (A0.mk [.sc (.int .i64 x8)] [])) (Aj (call 56 [.agg [.sc (.int .i64 a1_0),.sc (.int .u64 a1_1)],.sc (.int .u64 x5),.agg [.sc (.int .i64 a0_10),.lst false 1 a0_11n a0_11,.lst false 1 a0_12n a0_12]]) fun x9 Ck=>Ac Ck<|Ab x9 fun Bn Cw=>Af .i64 Bn fun Da=>Ac Cw<|some (A0.mk [.sc (.int .i64 Da)] []))) (Ae C0 Tryz.prog fu d):=by kernel_rfl
abbrev Pj:FuncId:=89
theorem BC (fu d:Nat)(a0_0 a0_1:ByteArray)(a0_2 a0_3:Int)(a0_4 a0_5 a0_6:Int)(a0_7:Bool)(a0_8 a0_9 a0_10:Int)(a0_11n:Nat)(a0_11:List PV)(a0_12n:Nat)(a0_12:List PV):Ae C0 Tryz.prog fu (d+1) Pj [.agg [.sc (.string a0_0),.sc (.string a0_1),.sc (.int .u64 a0_2),.sc (.int .i64 a0_3),.sc (.int .u64 a0_4),.sc (.int .i64 a0_5),.sc (.int .i64 a0_6),.sc (.bool a0_7),.sc (.int .i64 a0_8),.sc (.int .u64 a0_9),.sc (.int .i64 a0_10),.lst false 1 a0_11n a0_11,.lst false 1 a0_12n a0_12]]=(fun (call:Ar)=>Aj (call 111 [.agg [.sc (.string a0_0),.sc (.string a0_1),.sc (.int .u64 a0_2),.sc (.int .i64 a0_3),.sc (.int .u64 a0_4),.sc (.int .i64 a0_5),.sc (.int .i64 a0_6),.sc (.bool a0_7),.sc (.int .i64 a0_8),.sc (.int .u64 a0_9),.sc (.int .i64 a0_10),.lst false 1 a0_11n a0_11,.lst false 1 a0_12n a0_12]]) fun x1 x2=>Ac x2<|Ab x1 fun x3 x4=>Dc 1 x3 fun x5 x6=>Ab x4 fun x7 x8=>Af .i64 x7 fun x9=>Ac x8<|A4 (x9 != 0) (some (A0.mk [.own 1 0 [],.sc (.int .i64 x9)] [])) (Aj (call 112 [.agg [.sc (.int .i64 a0_10),.lst false 1 a0_11n a0_11,.lst false 1 a0_12n a0_12]]) fun Ck Bn=>Ac Bn<|Ab Ck fun Cw Da=>Dc 1 Cw fun Cq Cy=>Ab Da fun Db Dq=>Af .i64 Db fun D2=>Ac Dq<|A4 (D2 != 0) (some (A0.mk [.own 1 0 [],.sc (.int .i64 D2)] [])) (Ay (decide (0+Cq*1<=Cy.length))<|Ay (decide (x5*1<=x6.length)&&decide (List.length (List.take (Cq*1) (List.drop 0 Cy))=Cq*1)&&decide ((x5+Cq)*1<=1099511627776)&&decide (x5+Cq<=1099511627776))<|Aa (x5+Cq) fun D0=>Aa (List.take (x5*1) x6++List.take (Cq*1) (List.drop 0 Cy)) fun D9=>Ay (decide (D0*1<=D9.length))<|some (A0.mk [.own 1 D0 (List.take (D0*1) D9),.sc (.int .i64 0)] [])))) (Ae C0 Tryz.prog fu d):=by kernel_rfl
abbrev Pf:FuncId:=87
noncomputable def Iq (fu:Nat)(call:Ar)(a0n:Nat)(a0:List PV)(nn y0:Nat)(y1:List PV):Option A0:=Cz C0 Tryz.prog fu call 87 Tryz.f87 (B9 Tryz.f87) [.lst false 3 a0n a0] [] nn ⟨lk [(0,(.lst false 3 y0 y1))],Gl []⟩
noncomputable def Nb (fu:Nat)(call:Ar)(a0n:Nat)(a0:List PV)(nn y0:Nat)(y1 y2:List PV):Option A0:=Cz C0 Tryz.prog fu call 87 Tryz.f87 (B9 Tryz.f87) [.lst false 3 a0n a0] [.r] nn ⟨lk [(0,(.lst false 3 y0 y1)),(3,(.ptr 3 0))],Gl [(3,(.ar false y2))]⟩
noncomputable def Gm (fu:Nat)(call:Ar)(a0n:Nat)(a0:List PV)(nn y0:Nat)(y1:List PV)(y2 y3:Int)(y4:List PV):Option A0:=Cz C0 Tryz.prog fu call 87 Tryz.f87 (B9 Tryz.f87) [.lst false 3 a0n a0] [.r,.r,.r,.l,.r,.l] nn ⟨lk [(3,(.ptr 3 0)),(10,(.lst false 3 y0 y1)),(11,(.sc (.int .i64 y2))),(12,(.sc (.int .i64 y3)))],Gl [(3,(.ar false y4))]⟩
theorem Vs (fu:Nat)(call:Ar)(a0n:Nat)(a0:List PV)(nn:Nat)(hnn:0<nn)(y0:Nat)(y1:List PV):Iq fu call a0n a0 nn y0 y1=(Nb fu call a0n a0 (fu) (y0) (y1) ([.sc (.int .i64 5),.sc (.int .i64 4),.sc (.int .i64 4),.sc (.int .i64 1),.sc (.int .i64 3),.sc (.int .i64 1),.sc (.int .i64 1),.sc (.int .i64 7),.sc (.int .i64 1),.sc (.int .i64 1)])):=by cases nn with|zero=>exact absurd hnn (Nat.lt_irrefl 0)|succ nn=>kernel_rfl
theorem Wk (fu:Nat)(call:Ar)(a0n:Nat)(a0:List PV)(nn:Nat)(hnn:0<nn)(y0:Nat)(y1 y2:List PV):Nb fu call a0n a0 nn y0 y1 y2=(A4 ((↑y0:Int) != 10) (some (A0.mk [.sc (.bool false)] [])) (Gm fu call a0n a0 (fu) (y0) (y1) ((↑y0:Int)) 0 (y2))):=by cases nn with|zero=>exact absurd hnn (Nat.lt_irrefl 0)|succ nn=>kernel_rfl
theorem Lw (fu:Nat)(call:Ar)(a0n:Nat)(a0:List PV)(nn y0:Nat)(y1:List PV)(y2 y3:Int)(y4:List PV):Gm fu call a0n a0 (nn+1) y0 y1 y2 y3 y4=(A4 (decide (y3<y2)) (Ay (decide (0<=y3)&&decide (y3<(↑y0:Int)))<|Af .i64 (List.getD y1 (Int.toNat y3*3) .top) fun x1=>Af .u64 (List.getD y1 (Int.toNat y3*3+1) .top) fun x2=>Co (List.getD y1 (Int.toNat y3*3+1+1) .top) fun x3=>Ay (decide (0<=y3)&&decide (y3<10))<|Af .i64 (List.getD y4 (0+Int.toNat y3*1) .top) fun x4=>A4 (x1 != x4) (some (A0.mk [.sc (.bool false)] [])) (Aa (wrap .i64 (y3+1)) fun x5=>Gm fu call a0n a0 (nn) (y0) (y1) (y2) x5 (y4))) (some (A0.mk [.sc (.bool true)] []))):=by kernel_rfl
theorem Zc (fu d a0n:Nat)(a0:List PV):Ae C0 Tryz.prog fu (d+1) Pf [.lst false 3 a0n a0]=(fun (call:Ar)=>Iq fu call a0n a0 (fu) (a0n) (a0)) (Ae C0 Tryz.prog fu d):=by kernel_rfl
abbrev Jh:FuncId:=57
theorem Za (fu d a0n:Nat)(a0:List PV):Ae C0 Tryz.prog fu (d+1) Jh [.lst false 1 a0n a0]=(fun (call:Ar)=>A4 (decide ((↑a0n:Int)>512)) (some (A0.mk [.agg [.sc (.string (ByteArray.mk #[])),.sc (.string (ByteArray.mk #[])),.sc (.int .u64 0),.sc (.int .i64 0),.sc (.int .u64 0),.sc (.int .i64 0),.sc (.int .i64 0),.sc (.bool false),.sc (.int .i64 0),.sc (.int .u64 0),.sc (.int .i64 0),.lst false 1 0 [],.lst false 1 0 []],.sc (.int .i64 8)] [])) (Aj (call 86 [.lst false 1 a0n a0]) fun x1 x2=>Ac x2<|Ab x1 fun x3 x4=>Dc 3 x3 fun x5 x6=>Ab x4 fun x7 x8=>Af .i64 x7 fun x9=>Ab x8 fun Ck Bn=>Af .i64 Ck fun Cw=>Ac Bn<|A4 (Cw != 0) (some (A0.mk [.agg [.sc (.string (ByteArray.mk #[])),.sc (.string (ByteArray.mk #[])),.sc (.int .u64 0),.sc (.int .i64 0),.sc (.int .u64 0),.sc (.int .i64 0),.sc (.int .i64 0),.sc (.bool false),.sc (.int .i64 0),.sc (.int .u64 0),.sc (.int .i64 0),.lst false 1 0 [],.lst false 1 0 []],.sc (.int .i64 2)] [])) (Ay (decide (0+x5*3<=x6.length))<|Aj (call 87 [.lst false 3 x5 (List.take (x5*3) (List.drop 0 x6))]) fun Da Cq=>Ac Cq<|Ab Da fun Cy Db=>Bx Cy fun Dq=>Ac Db<|A4 (!Dq) (some (A0.mk [.agg [.sc (.string (ByteArray.mk #[])),.sc (.string (ByteArray.mk #[])),.sc (.int .u64 0),.sc (.int .i64 0),.sc (.int .u64 0),.sc (.int .i64 0),.sc (.int .i64 0),.sc (.bool false),.sc (.int .i64 0),.sc (.int .u64 0),.sc (.int .i64 0),.lst false 1 0 [],.lst false 1 0 []],.sc (.int .i64 2)] [])) (Ay (decide (4<(↑x5:Int)))<|Co (List.getD x6 14 .top) fun D2=>Ay (decide (ByteArray.size D2<=1099511627776))<|Ay (decide (0+ByteArray.size D2*1<=List.length (Ct D2)))<|Aj (call 88 [.lst false 1 (ByteArray.size D2) (List.take (ByteArray.size D2*1) (List.drop 0 (Ct D2)))]) fun D0 D9=>Ac D9<|Ab D0 fun Fj Cn=>C2 Fj fun Fn=>Ab Fn fun Dj B3=>Af .i64 Dj fun Et=>Ab B3 fun F1 Bm=>Af .u64 F1 fun Cj=>Ac Bm<|Ab Cn fun Gt Gu=>Af .i64 Gt fun Hz=>Ac Gu<|A4 (Hz != 0) (some (A0.mk [.agg [.sc (.string (ByteArray.mk #[])),.sc (.string (ByteArray.mk #[])),.sc (.int .u64 0),.sc (.int .i64 0),.sc (.int .u64 0),.sc (.int .i64 0),.sc (.int .i64 0),.sc (.bool false),.sc (.int .i64 0),.sc (.int .u64 0),.sc (.int .i64 0),.lst false 1 0 [],.lst false 1 0 []],.sc (.int .i64 2)] [])) (Ay (decide (0<=x9))<|Ay (decide (Int.toNat x9<=a0n)&&decide (a0n<=a0n))<|Aa (a0n-Int.toNat x9) fun Ha=>Aa (List.take (Ha*1) (List.drop (Int.toNat x9*1) a0)) fun Il=>Aj (call 55 [.lst false 1 Ha Il]) fun G4 Ir=>Ac Ir<|Ab G4 fun Kr F0=>C2 Kr fun H2=>Ab H2 fun Nc Ot=>Af .i64 Nc fun Kc=>Ab Ot fun J5 Nk=>Dc 1 J5 fun Md Oo=>Ab Nk fun Py Pw=>Dc 1 Py fun Ox Rb=>Ac Pw<|Ab F0 fun Q5 Q0=>Af .i64 Q5 fun Ks=>Ac Q0<|A4 (Ks != 0) (some (A0.mk [.agg [.sc (.string (ByteArray.mk #[])),.sc (.string (ByteArray.mk #[])),.sc (.int .u64 0),.sc (.int .i64 0),.sc (.int .u64 0),.sc (.int .i64 0),.sc (.int .i64 0),.sc (.bool false),.sc (.int .i64 0),.sc (.int .u64 0),.sc (.int .i64 0),.lst false 1 0 [],.lst false 1 0 []],.sc (.int .i64 2)] [])) (Ay (decide (1<(↑x5:Int)))<|Co (List.getD x6 5 .top) fun S9=>Ay (decide (2<(↑x5:Int)))<|Co (List.getD x6 8 .top) fun Ql=>Ay (decide (3<(↑x5:Int)))<|Af .u64 (List.getD x6 10 .top) fun Ru=>Ay (decide (5<(↑x5:Int)))<|Af .u64 (List.getD x6 16 .top) fun Nz=>Aa (wrap .i64 Nz) fun Pz=>Ay (decide (6<(↑x5:Int)))<|Af .u64 (List.getD x6 19 .top) fun Q9=>Aa (wrap .i64 Q9) fun Rk=>Ay (decide (7<(↑x5:Int)))<|Af .u64 (List.getD x6 22 .top) fun Pr=>Ay (decide (8<(↑x5:Int)))<|Af .u64 (List.getD x6 25 .top) fun Te=>Aa (wrap .i64 Te) fun Uv=>Ay (decide (9<(↑x5:Int)))<|Af .u64 (List.getD x6 28 .top) fun S7=>Ay (decide (0+Md*1<=Oo.length))<|Ay (decide (0+Ox*1<=Rb.length))<|Aj (call 89 [.agg [.sc (.string S9),.sc (.string Ql),.sc (.int .u64 Ru),.sc (.int .i64 Et),.sc (.int .u64 Cj),.sc (.int .i64 Pz),.sc (.int .i64 Rk),.sc (.bool (Pr==1)),.sc (.int .i64 Uv),.sc (.int .u64 S7),.sc (.int .i64 Kc),.lst false 1 Md (List.take (Md*1) (List.drop 0 Oo)),.lst false 1 Ox (List.take (Ox*1) (List.drop 0 Rb))]]) fun Rz Ro=>Ac Ro<|Ab Rz fun Q7 Vv=>Dc 1 Q7 fun Tn S5=>Ab Vv fun Tj Uz=>Af .i64 Tj fun Tm=>Ac Uz<|A4 (Tm != 0) (some (A0.mk [.agg [.sc (.string (ByteArray.mk #[])),.sc (.string (ByteArray.mk #[])),.sc (.int .u64 0),.sc (.int .i64 0),.sc (.int .u64 0),.sc (.int .i64 0),.sc (.int .i64 0),.sc (.bool false),.sc (.int .i64 0),.sc (.int .u64 0),.sc (.int .i64 0),.lst false 1 0 [],.lst false 1 0 []],.sc (.int .i64 2)] [])) (Ay (decide (0+Tn*1<=S5.length))<|Aj (call 90 [.lst false 1 Tn (List.take (Tn*1) (List.drop 0 S5)),.lst false 1 a0n a0]) fun S8 Rr=>Ac Rr<|Ab S8 fun Vg T0=>Bx Vg fun Vl=>Ac T0<|A4 (!Vl) (some (A0.mk [.agg [.sc (.string (ByteArray.mk #[])),.sc (.string (ByteArray.mk #[])),.sc (.int .u64 0),.sc (.int .i64 0),.sc (.int .u64 0),.sc (.int .i64 0),.sc (.int .i64 0),.sc (.bool false),.sc (.int .i64 0),.sc (.int .u64 0),.sc (.int .i64 0),.lst false 1 0 [],.lst false 1 0 []],.sc (.int .i64 2)] [])) (Ay (decide (0+Md*1<=Oo.length))<|Ay (decide (0+Ox*1<=Rb.length))<|some (A0.mk [.agg [.sc (.string S9),.sc (.string Ql),.sc (.int .u64 Ru),.sc (.int .i64 Et),.sc (.int .u64 Cj),.sc (.int .i64 Pz),.sc (.int .i64 Rk),.sc (.bool (Pr==1)),.sc (.int .i64 Uv),.sc (.int .u64 S7),.sc (.int .i64 Kc),.lst false 1 Md (List.take (Md*1) (List.drop 0 Oo)),.lst false 1 Ox (List.take (Ox*1) (List.drop 0 Rb))],.sc (.int .i64 0)] []))))))))) (Ae C0 Tryz.prog fu d):=by kernel_rfl
abbrev Ma:FuncId:=91
noncomputable def C8 (fu:Nat)(call:Ar)(a0_0 a0_1:ByteArray)(a0_2 a0_3:Int)(a0_4 a0_5 a0_6:Int)(a0_7:Bool)(a0_8 a0_9 a0_10:Int)(a0_11n:Nat)(a0_11:List PV)(a0_12n:Nat)(a0_12:List PV)(a1:Int)(a2n:Nat)(a2:List PV)(a3:Int)(nn:Nat)(y0:Int)(y1:Nat)(y2:List PV)(y3 y4:Int)(y5 y6:ByteArray)(y7 y8:Int)(y9 y10 Ej:Int)(E5:Bool)(Ic J1 I1:Int)(I2:Nat)(Jk:List PV)(Ov:Nat)(P4:List PV):Option A0:=Cz C0 Tryz.prog fu call 91 Tryz.f91 (B9 Tryz.f91) [.agg [.sc (.string a0_0),.sc (.string a0_1),.sc (.int .u64 a0_2),.sc (.int .i64 a0_3),.sc (.int .u64 a0_4),.sc (.int .i64 a0_5),.sc (.int .i64 a0_6),.sc (.bool a0_7),.sc (.int .i64 a0_8),.sc (.int .u64 a0_9),.sc (.int .i64 a0_10),.lst false 1 a0_11n a0_11,.lst false 1 a0_12n a0_12],.sc (.int .i64 a1),.lst false 3 a2n a2,.sc (.int .i64 a3)] [.r,.r,.r,.r,.l,.r,.l] nn ⟨lk [(3,(.sc (.int .i64 y0))),(4,(.ptr 4 0)),(45,(.lst false 3 y1 y2)),(46,(.sc (.int .i64 y3))),(47,(.sc (.int .i64 y4)))],Gl [(4,(.st [(.sc (.string y5)),(.sc (.string y6)),(.sc (.int .u64 y7)),(.sc (.int .i64 y8)),(.sc (.int .u64 y9)),(.sc (.int .i64 y10)),(.sc (.int .i64 Ej)),(.sc (.bool E5)),(.sc (.int .i64 Ic)),(.sc (.int .u64 J1)),(.sc (.int .i64 I1)),(.lst false 1 I2 Jk),(.lst false 1 Ov P4)]))]⟩
theorem I4 (fu:Nat)(call:Ar)(a0_0 a0_1:ByteArray)(a0_2 a0_3:Int)(a0_4 a0_5 a0_6:Int)(a0_7:Bool)(a0_8 a0_9 a0_10:Int)(a0_11n:Nat)(a0_11:List PV)(a0_12n:Nat)(a0_12:List PV)(a1:Int)(a2n:Nat)(a2:List PV)(a3:Int)(nn:Nat)(y0:Int)(y1:Nat)(y2:List PV)(y3 y4:Int)(y5 y6:ByteArray)(y7 y8:Int)(y9 y10 Ej:Int)(E5:Bool)(Ic J1 I1:Int)(I2:Nat)(Jk:List PV)(Ov:Nat)(P4:List PV):C8 fu call a0_0 a0_1 a0_2 a0_3 a0_4 a0_5 a0_6 a0_7 a0_8 a0_9 a0_10 a0_11n a0_11 a0_12n a0_12 a1 a2n a2 a3 (nn+1) y0 y1 y2 y3 y4 y5 y6 y7 y8 y9 y10 Ej E5 Ic J1 I1 I2 Jk Ov P4=(A4 (decide (y4<y3)) (Ay (decide (0<=y4)&&decide (y4<(↑y1:Int)))<|Co (List.getD y2 (Int.toNat y4*3) .top) fun Bn=>Af .u64 (List.getD y2 (Int.toNat y4*3+1) .top) fun Cw=>Af .i64 (List.getD y2 (Int.toNat y4*3+1+1) .top) fun Da=>A4 (Array.toList (ByteArray.data Bn)==Array.toList (ByteArray.data y6)) (A4 (Cw==y7) (A4 (decide (Da<=y0)) (some (A0.mk [.sc (.int .i64 39)] [])) (Aa (wrap .i64 (y4+1)) fun Cq=>C8 fu call a0_0 a0_1 a0_2 a0_3 a0_4 a0_5 a0_6 a0_7 a0_8 a0_9 a0_10 a0_11n a0_11 a0_12n a0_12 a1 a2n a2 a3 (nn) (y0) (y1) (y2) (y3) Cq (y5) (y6) (y7) (y8) (y9) (y10) (Ej) (E5) (Ic) (J1) (I1) (I2) (Jk) (Ov) (P4))) (Aa (wrap .i64 (y4+1)) fun Cy=>C8 fu call a0_0 a0_1 a0_2 a0_3 a0_4 a0_5 a0_6 a0_7 a0_8 a0_9 a0_10 a0_11n a0_11 a0_12n a0_12 a1 a2n a2 a3 (nn) (y0) (y1) (y2) (y3) Cy (y5) (y6) (y7) (y8) (y9) (y10) (Ej) (E5) (Ic) (J1) (I1) (I2) (Jk) (Ov) (P4))) (Aa (wrap .i64 (y4+1)) fun Db=>C8 fu call a0_0 a0_1 a0_2 a0_3 a0_4 a0_5 a0_6 a0_7 a0_8 a0_9 a0_10 a0_11n a0_11 a0_12n a0_12 a1 a2n a2 a3 (nn) (y0) (y1) (y2) (y3) Db (y5) (y6) (y7) (y8) (y9) (y10) (Ej) (E5) (Ic) (J1) (I1) (I2) (Jk) (Ov) (P4))) (some (A0.mk [.sc (.int .i64 0)] []))):=by kernel_rfl
theorem Wf (fu d:Nat)(a0_0 a0_1:ByteArray)(a0_2 a0_3:Int)(a0_4 a0_5 a0_6:Int)(a0_7:Bool)(a0_8 a0_9 a0_10:Int)(a0_11n:Nat)(a0_11:List PV)(a0_12n:Nat)(a0_12:List PV)(a1:Int)(a2n:Nat)(a2:List PV)(a3:Int):Ae C0 Tryz.prog fu (d+1) Ma [.agg [.sc (.string a0_0),.sc (.string a0_1),.sc (.int .u64 a0_2),.sc (.int .i64 a0_3),.sc (.int .u64 a0_4),.sc (.int .i64 a0_5),.sc (.int .i64 a0_6),.sc (.bool a0_7),.sc (.int .i64 a0_8),.sc (.int .u64 a0_9),.sc (.int .i64 a0_10),.lst false 1 a0_11n a0_11,.lst false 1 a0_12n a0_12],.sc (.int .i64 a1),.lst false 3 a2n a2,.sc (.int .i64 a3)]=(fun (call:Ar)=>Aj (call 111 [.agg [.sc (.string a0_0),.sc (.string a0_1),.sc (.int .u64 a0_2),.sc (.int .i64 a0_3),.sc (.int .u64 a0_4),.sc (.int .i64 a0_5),.sc (.int .i64 a0_6),.sc (.bool a0_7),.sc (.int .i64 a0_8),.sc (.int .u64 a0_9),.sc (.int .i64 a0_10),.lst false 1 a0_11n a0_11,.lst false 1 a0_12n a0_12]]) fun x1 x2=>Ac x2<|Ab x1 fun x3 x4=>Dc 1 x3 fun x5 x6=>Ab x4 fun x7 x8=>Af .i64 x7 fun x9=>Ac x8<|A4 (x9 != 0) (some (A0.mk [.sc (.int .i64 x9)] [])) (A4 (decide (a3<a0_5)) (some (A0.mk [.sc (.int .i64 38)] [])) (A4 (decide (a3>a0_6)) (some (A0.mk [.sc (.int .i64 38)] [])) (A4 (decide (a1>0)) (A4 (!a0_7) (some (A0.mk [.sc (.int .i64 38)] [])) (Aa (wrap .i64 (a1-1)) fun Ck=>A4 (decide (a0_8<Ck)) (some (A0.mk [.sc (.int .i64 38)] [])) (C8 fu call a0_0 a0_1 a0_2 a0_3 a0_4 a0_5 a0_6 a0_7 a0_8 a0_9 a0_10 a0_11n a0_11 a0_12n a0_12 a1 a2n a2 a3 (fu) (a3) (a2n) (a2) ((↑a2n:Int)) 0 (a0_0) (a0_1) (a0_2) (a0_3) (a0_4) (a0_5) (a0_6) (a0_7) (a0_8) (a0_9) (a0_10) (a0_11n) (a0_11) (a0_12n) (a0_12)))) (C8 fu call a0_0 a0_1 a0_2 a0_3 a0_4 a0_5 a0_6 a0_7 a0_8 a0_9 a0_10 a0_11n a0_11 a0_12n a0_12 a1 a2n a2 a3 (fu) (a3) (a2n) (a2) ((↑a2n:Int)) 0 (a0_0) (a0_1) (a0_2) (a0_3) (a0_4) (a0_5) (a0_6) (a0_7) (a0_8) (a0_9) (a0_10) (a0_11n) (a0_11) (a0_12n) (a0_12)))))) (Ae C0 Tryz.prog fu d):=by kernel_rfl
abbrev Sj:FuncId:=58
noncomputable def He (fu:Nat)(call:Ar)(a0n:Nat)(a0:List PV)(a1n:Nat)(a1:List PV)(a2n:Nat)(a2:List PV)(a3:Int)(nn y0:Nat)(y1:List PV)(y2:Nat)(y3:List PV)(y4:Nat)(y5:List PV)(y6:Int)(y7:Nat)(y8:List PV)(y9 y10:Int):Option A0:=Cz C0 Tryz.prog fu call 58 Tryz.f58 (B9 Tryz.f58) [.lst false 13 a0n a0,.lst false 3 a1n a1,.lst false 3 a2n a2,.sc (.int .i64 a3)] [.r,.r,.r,.l,.r,.l] nn ⟨lk [(0,(.lst false 13 y0 y1)),(1,(.lst false 3 y2 y3)),(2,(.lst false 3 y4 y5)),(3,(.sc (.int .i64 y6))),(31,(.lst false 13 y7 y8)),(32,(.sc (.int .i64 y9))),(33,(.sc (.int .i64 y10)))],Gl []⟩
noncomputable def E1 (fu:Nat)(call:Ar)(a0n:Nat)(a0:List PV)(a1n:Nat)(a1:List PV)(a2n:Nat)(a2:List PV)(a3:Int)(nn y0:Nat)(y1:List PV)(y2 y3:Int)(y4 y5:ByteArray)(y6 y7:Int)(y8 y9 y10:Int)(Ej:Bool)(E5 Ic J1:Int)(I1:Nat)(I2:List PV)(Jk:Nat)(Ov:List PV):Option A0:=Cz C0 Tryz.prog fu call 58 Tryz.f58 (B9 Tryz.f58) [.lst false 13 a0n a0,.lst false 3 a1n a1,.lst false 3 a2n a2,.sc (.int .i64 a3)] [.r,.r,.r,.r,.r,.l,.r,.l] nn ⟨lk [(14,(.ptr 14 0)),(78,(.lst false 3 y0 y1)),(79,(.sc (.int .i64 y2))),(80,(.sc (.int .i64 y3)))],Gl [(14,(.st [(.sc (.string y4)),(.sc (.string y5)),(.sc (.int .u64 y6)),(.sc (.int .i64 y7)),(.sc (.int .u64 y8)),(.sc (.int .i64 y9)),(.sc (.int .i64 y10)),(.sc (.bool Ej)),(.sc (.int .i64 E5)),(.sc (.int .u64 Ic)),(.sc (.int .i64 J1)),(.lst false 1 I1 I2),(.lst false 1 Jk Ov)]))]⟩
theorem Nx (fu:Nat)(call:Ar)(a0n:Nat)(a0:List PV)(a1n:Nat)(a1:List PV)(a2n:Nat)(a2:List PV)(a3:Int)(nn y0:Nat)(y1:List PV)(y2:Nat)(y3:List PV)(y4:Nat)(y5:List PV)(y6:Int)(y7:Nat)(y8:List PV)(y9 y10:Int):He fu call a0n a0 a1n a1 a2n a2 a3 (nn+1) y0 y1 y2 y3 y4 y5 y6 y7 y8 y9 y10=(A4 (decide (y10<y9)) (Ay (decide (0<=y10)&&decide (y10<(↑y7:Int)))<|Co (List.getD y8 (Int.toNat y10*13) .top) fun x1=>Co (List.getD y8 (Int.toNat y10*13+1) .top) fun x2=>Af .u64 (List.getD y8 (Int.toNat y10*13+1+1) .top) fun x3=>Af .i64 (List.getD y8 (Int.toNat y10*13+1+1+1) .top) fun x4=>Af .u64 (List.getD y8 (Int.toNat y10*13+1+1+1+1) .top) fun x5=>Af .i64 (List.getD y8 (Int.toNat y10*13+1+1+1+1+1) .top) fun x6=>Af .i64 (List.getD y8 (Int.toNat y10*13+1+1+1+1+1+1) .top) fun x7=>Bx (List.getD y8 (Int.toNat y10*13+1+1+1+1+1+1+1) .top) fun x8=>Af .i64 (List.getD y8 (Int.toNat y10*13+1+1+1+1+1+1+1+1) .top) fun x9=>Af .u64 (List.getD y8 (Int.toNat y10*13+1+1+1+1+1+1+1+1+1) .top) fun Ck=>Af .i64 (List.getD y8 (Int.toNat y10*13+1+1+1+1+1+1+1+1+1+1) .top) fun Bn=>F8 1 (List.getD y8 (Int.toNat y10*13+1+1+1+1+1+1+1+1+1+1+1) .top) fun Cw Da Cq=>F8 1 (List.getD y8 (Int.toNat y10*13+1+1+1+1+1+1+1+1+1+1+1+1) .top) fun Cy Db Dq=>Aj (call 91 [.agg [.sc (.string x1),.sc (.string x2),.sc (.int .u64 x3),.sc (.int .i64 x4),.sc (.int .u64 x5),.sc (.int .i64 x6),.sc (.int .i64 x7),.sc (.bool x8),.sc (.int .i64 x9),.sc (.int .u64 Ck),.sc (.int .i64 Bn),.lst false 1 Da Cq,.lst false 1 Db Dq],.sc (.int .i64 y10),.lst false 3 y4 y5,.sc (.int .i64 y6)]) fun D2 D0=>Ac D0<|Ab D2 fun D9 Fj=>Af .i64 D9 fun Cn=>Ac Fj<|A4 (Cn != 0) (some (A0.mk [.sc (.int .i64 0),.sc (.int .i64 Cn)] [])) (Aa (wrap .i64 ((↑y0:Int)-1)) fun Fn=>A4 (y10==Fn) (Aa (wrap .i64 ((↑y0:Int)-1)) fun Dj=>Ay (decide (0<=Dj)&&decide (Dj<(↑y0:Int)))<|Co (List.getD y1 (Int.toNat Dj*13) .top) fun B3=>Co (List.getD y1 (Int.toNat Dj*13+1) .top) fun Et=>Af .u64 (List.getD y1 (Int.toNat Dj*13+1+1) .top) fun F1=>Af .i64 (List.getD y1 (Int.toNat Dj*13+1+1+1) .top) fun Bm=>Af .u64 (List.getD y1 (Int.toNat Dj*13+1+1+1+1) .top) fun Cj=>Af .i64 (List.getD y1 (Int.toNat Dj*13+1+1+1+1+1) .top) fun Gt=>Af .i64 (List.getD y1 (Int.toNat Dj*13+1+1+1+1+1+1) .top) fun Gu=>Bx (List.getD y1 (Int.toNat Dj*13+1+1+1+1+1+1+1) .top) fun Hz=>Af .i64 (List.getD y1 (Int.toNat Dj*13+1+1+1+1+1+1+1+1) .top) fun Ha=>Af .u64 (List.getD y1 (Int.toNat Dj*13+1+1+1+1+1+1+1+1+1) .top) fun Il=>Af .i64 (List.getD y1 (Int.toNat Dj*13+1+1+1+1+1+1+1+1+1+1) .top) fun G4=>F8 1 (List.getD y1 (Int.toNat Dj*13+1+1+1+1+1+1+1+1+1+1+1) .top) fun Ir Kr F0=>F8 1 (List.getD y1 (Int.toNat Dj*13+1+1+1+1+1+1+1+1+1+1+1+1) .top) fun H2 Nc Ot=>E1 fu call a0n a0 a1n a1 a2n a2 a3 (fu) (y2) (y3) ((↑y2:Int)) 0 B3 Et F1 Bm Cj Gt Gu Hz Ha Il G4 Kr F0 Nc Ot) (Aa (wrap .i64 (y10+1)) fun Kc=>Ay (decide (0<=Kc)&&decide (Kc<(↑y0:Int)))<|Co (List.getD y1 (Int.toNat Kc*13+0) .top) fun J5=>A4 (!Array.toList (ByteArray.data x2)==Array.toList (ByteArray.data J5)) (some (A0.mk [.sc (.int .i64 0),.sc (.int .i64 38)] [])) (Aa (wrap .i64 (y10+1)) fun Nk=>Ay (decide (0<=Nk)&&decide (Nk<(↑y0:Int)))<|Af .i64 (List.getD y1 (Int.toNat Nk*13+3) .top) fun Md=>Af .u64 (List.getD y1 (Int.toNat Nk*13+3+1) .top) fun Oo=>Aj (call 92 [.agg [.sc (.string x1),.sc (.string x2),.sc (.int .u64 x3),.sc (.int .i64 x4),.sc (.int .u64 x5),.sc (.int .i64 x6),.sc (.int .i64 x7),.sc (.bool x8),.sc (.int .i64 x9),.sc (.int .u64 Ck),.sc (.int .i64 Bn),.lst false 1 Da Cq,.lst false 1 Db Dq],.agg [.sc (.int .i64 Md),.sc (.int .u64 Oo)]]) fun Py Pw=>Ac Pw<|Ab Py fun Ox Rb=>Af .i64 Ox fun Q5=>Ac Rb<|A4 (Q5 != 0) (some (A0.mk [.sc (.int .i64 0),.sc (.int .i64 Q5)] [])) (Aa (wrap .i64 (y10+1)) fun Q0=>He fu call a0n a0 a1n a1 a2n a2 a3 (nn) (y0) (y1) (y2) (y3) (y4) (y5) (y6) (y7) (y8) (y9) Q0))))) (Aa (wrap .i64 ((↑y0:Int)-1)) fun Ks=>Ay (decide (0<=Ks)&&decide (Ks<(↑y0:Int)))<|Co (List.getD y1 (Int.toNat Ks*13) .top) fun S9=>Co (List.getD y1 (Int.toNat Ks*13+1) .top) fun Ql=>Af .u64 (List.getD y1 (Int.toNat Ks*13+1+1) .top) fun Ru=>Af .i64 (List.getD y1 (Int.toNat Ks*13+1+1+1) .top) fun Nz=>Af .u64 (List.getD y1 (Int.toNat Ks*13+1+1+1+1) .top) fun Pz=>Af .i64 (List.getD y1 (Int.toNat Ks*13+1+1+1+1+1) .top) fun Q9=>Af .i64 (List.getD y1 (Int.toNat Ks*13+1+1+1+1+1+1) .top) fun Rk=>Bx (List.getD y1 (Int.toNat Ks*13+1+1+1+1+1+1+1) .top) fun Pr=>Af .i64 (List.getD y1 (Int.toNat Ks*13+1+1+1+1+1+1+1+1) .top) fun Te=>Af .u64 (List.getD y1 (Int.toNat Ks*13+1+1+1+1+1+1+1+1+1) .top) fun Uv=>Af .i64 (List.getD y1 (Int.toNat Ks*13+1+1+1+1+1+1+1+1+1+1) .top) fun S7=>F8 1 (List.getD y1 (Int.toNat Ks*13+1+1+1+1+1+1+1+1+1+1+1) .top) fun Rz Ro Q7=>F8 1 (List.getD y1 (Int.toNat Ks*13+1+1+1+1+1+1+1+1+1+1+1+1) .top) fun Vv Tn S5=>E1 fu call a0n a0 a1n a1 a2n a2 a3 (fu) (y2) (y3) ((↑y2:Int)) 0 S9 Ql Ru Nz Pz Q9 Rk Pr Te Uv S7 Ro Q7 Tn S5)):=by kernel_rfl
theorem Nu (fu:Nat)(call:Ar)(a0n:Nat)(a0:List PV)(a1n:Nat)(a1:List PV)(a2n:Nat)(a2:List PV)(a3:Int)(nn y0:Nat)(y1:List PV)(y2 y3:Int)(y4 y5:ByteArray)(y6 y7:Int)(y8 y9 y10:Int)(Ej:Bool)(E5 Ic J1:Int)(I1:Nat)(I2:List PV)(Jk:Nat)(Ov:List PV):E1 fu call a0n a0 a1n a1 a2n a2 a3 (nn+1) y0 y1 y2 y3 y4 y5 y6 y7 y8 y9 y10 Ej E5 Ic J1 I1 I2 Jk Ov=(A4 (decide (y3<y2)) (Ay (decide (0<=y3)&&decide (y3<(↑y0:Int)))<|Co (List.getD y1 (Int.toNat y3*3) .top) fun Tj=>Af .i64 (List.getD y1 (Int.toNat y3*3+1) .top) fun Uz=>Af .u64 (List.getD y1 (Int.toNat y3*3+1+1) .top) fun Tm=>A4 (Array.toList (ByteArray.data Tj)==Array.toList (ByteArray.data y5)) (Aj (call 92 [.agg [.sc (.string y4),.sc (.string y5),.sc (.int .u64 y6),.sc (.int .i64 y7),.sc (.int .u64 y8),.sc (.int .i64 y9),.sc (.int .i64 y10),.sc (.bool Ej),.sc (.int .i64 E5),.sc (.int .u64 Ic),.sc (.int .i64 J1),.lst false 1 I1 I2,.lst false 1 Jk Ov],.agg [.sc (.int .i64 Uz),.sc (.int .u64 Tm)]]) fun S8 Rr=>Ac Rr<|Ab S8 fun Vg T0=>Af .i64 Vg fun Vl=>Ac T0<|A4 (Vl==0) (some (A0.mk [.sc (.int .i64 y3),.sc (.int .i64 0)] [])) (Aa (wrap .i64 (y3+1)) fun W8=>E1 fu call a0n a0 a1n a1 a2n a2 a3 (nn) (y0) (y1) (y2) W8 (y4) (y5) (y6) (y7) (y8) (y9) (y10) (Ej) (E5) (Ic) (J1) (I1) (I2) (Jk) (Ov))) (Aa (wrap .i64 (y3+1)) fun Wv=>E1 fu call a0n a0 a1n a1 a2n a2 a3 (nn) (y0) (y1) (y2) Wv (y4) (y5) (y6) (y7) (y8) (y9) (y10) (Ej) (E5) (Ic) (J1) (I1) (I2) (Jk) (Ov))) (some (A0.mk [.sc (.int .i64 0),.sc (.int .i64 38)] []))):=by kernel_rfl
theorem FX (fu d a0n:Nat)(a0:List PV)(a1n:Nat)(a1:List PV)(a2n:Nat)(a2:List PV)(a3:Int):Ae C0 Tryz.prog fu (d+1) Sj [.lst false 13 a0n a0,.lst false 3 a1n a1,.lst false 3 a2n a2,.sc (.int .i64 a3)]=(fun (call:Ar)=>A4 (decide (a3<0)) (some (A0.mk [.sc (.int .i64 0),.sc (.int .i64 9)] [])) (A4 (decide (a3>1099511627776)) (some (A0.mk [.sc (.int .i64 0),.sc (.int .i64 9)] [])) (A4 (decide ((↑a0n:Int)<1)) (some (A0.mk [.sc (.int .i64 0),.sc (.int .i64 38)] [])) (A4 (decide ((↑a0n:Int)>3)) (some (A0.mk [.sc (.int .i64 0),.sc (.int .i64 38)] [])) (He fu call a0n a0 a1n a1 a2n a2 a3 (fu) (a0n) (a0) (a1n) (a1) (a2n) (a2) (a3) (a0n) (a0) ((↑a0n:Int)) 0))))) (Ae C0 Tryz.prog fu d):=by kernel_rfl
abbrev DR:FuncId:=90
theorem UG (fu d a0n:Nat)(a0:List PV)(a1n:Nat)(a1:List PV):Ae C0 Tryz.prog fu (d+1) DR [.lst false 1 a0n a0,.lst false 1 a1n a1]=(fun (call:Ar)=>Ay (decide (a0.length=a0n))<|Fd (bytesOf a0) fun x1=>Ay (decide (a1.length=a1n))<|Fd (bytesOf a1) fun x2=>some (A0.mk [.sc (.bool (Array.toList (ByteArray.data (ByteArray.mk (List.toArray x1)))==Array.toList (ByteArray.data (ByteArray.mk (List.toArray x2)))))] [])) (Ae C0 Tryz.prog fu d):=by kernel_rfl
end
section
open Go.IntKind (wrap)
theorem Abb {c:Ce}{e:Int}(h:Bf c=e)(he:e≠0):G3 c=[.own 1 0 [],.sc (.int .i64 e)]:=by
 unfold G3;rw [h,A3 he]
theorem Fq {c:Ce}{e:Int}(h:Bf c=e)(he:e≠0):some (A0.mk [.own 1 0 [],.sc (.int .i64 e)] [])=some (A0.mk (G3 c) []):=by
 rw [Abb h he]
def Mf (c:Ce):List It:=[⟨4,0,c.subj⟩,⟨4,0,c.iss⟩,⟨1,c.serial,C5⟩,⟨3,0,Bo (G0 c.key)⟩,⟨1,c.fr,C5⟩,⟨1,c.un,C5⟩,⟨7,(if c.auth=true then 1 else 0),C5⟩,⟨1,c.path,C5⟩,⟨1,c.model,C5⟩]
theorem Zf {c:Ce}(hw:c.wf)(h:Bf c=0):∀x∈Mf c,XF x:=by
 unfold Bf at h;have kl:(Bo (G0 c.key)).size=9:=by rw [Ez];rfl
 have ns:C5.size=0:=rfl;have hs:=hw.ser;have hm:=hw.mod;have es:GY C5=true:=rfl;by_cases e1:c.subj.size<1∨32<c.subj.size
 ·rw [Bl e1] at h;cases h
 rw [A3 e1] at h;by_cases e2:c.iss.size<1∨32<c.iss.size
 ·rw [Bl e2] at h;cases h
 rw [A3 e2] at h;by_cases e3:TH c.subj=false
 ·rw [Bl e3] at h;cases h
 rw [A3 e3] at h;by_cases e4:TH c.iss=false
 ·rw [Bl e4] at h;cases h
 rw [A3 e4] at h
 repeat' (split at h;· cases h)
 rw [Bool.not_eq_false] at e3 e4;intro x hx;simp only [Mf,List.mem_cons,List.not_mem_nil,or_false] at hx;rcases hx with rfl|rfl|rfl|rfl|rfl|rfl|rfl|rfl|rfl
 ·exact ⟨by simp,by simp only;omega,fun _=>e3,by simp [Hj],by simp⟩
 ·exact ⟨by simp,by simp only;omega,fun _=>e4,by simp [Hj],by simp⟩
 ·exact ⟨by simp,by simp only [ns];omega,fun h=>by simp at h,by simp [Hj,es],hs⟩
 ·exact ⟨by simp,by simp only [kl];omega,fun h=>by simp at h,by simp [Hj],by simp⟩
 ·exact ⟨by simp,by simp only [ns];omega,fun h=>by simp at h,by simp [Hj,es],by simp only;omega⟩
 ·exact ⟨by simp,by simp only [ns];omega,fun h=>by simp at h,by simp [Hj,es],by simp only;omega⟩
 ·exact ⟨by simp,by simp only [ns];omega,fun h=>by simp at h,by simp [Hj,es];split<;>omega,by simp only;split<;>omega⟩
 ·exact ⟨by simp,by simp only [ns];omega,fun h=>by simp at h,by simp [Hj,es],by simp only;omega⟩
 ·exact ⟨by simp,by simp only [ns];omega,fun h=>by simp at h,by simp [Hj,es],hm⟩
theorem EQ {c:Ce}(hw:c.wf)(h:Bf c=0):Sm [] 0 (Bb c):=Ajc (r:=Mf c) (by simp [Mf]) (by simp [Mf]) (Zf hw h)
section
variable {fu d:Nat}
theorem Ab6 (s:ByteArray):Ae C0 Tryz.prog fu (d+1) NQ [.sc (.string s)]=some ⟨[.own 3 1 (Bq [⟨4,0,s⟩])],[]⟩:=by rw [Aav];rfl
theorem AV (n:Int):Ae C0 Tryz.prog fu (d+1) MX [.sc (.int .u64 n)]=some ⟨[.own 3 1 (Bq [⟨1,n,C5⟩])],[]⟩:=by rw [Abz];rfl
theorem Aoa (b:Bool):Ae C0 Tryz.prog fu (d+1) ML [.sc (.bool b)]=some ⟨[.own 3 1 (Bq [⟨7,(if b=true then 1 else 0),C5⟩])],[]⟩:=by rw [Ab2];cases b<;>rfl
theorem Ain (l:List Int):Ae C0 Tryz.prog fu (d+1) JL [.lst false 1 l.length (Ai .u8 l)]=some ⟨[.own 3 1 (Bq [⟨3,0,Bo l⟩])],[]⟩:=by
 rw [ZJ];have L:=Aq .u8 l;have bo:=Ft l;simp (disch:=omega) only [B6,L,bo];rfl
theorem Adl (hfu:1000<=fu){c:Ce}(hw:c.wf)(hs1:c.subj.size<=9223372036854775807)(hs2:c.iss.size<=9223372036854775807)(e1:¬(c.subj.size<1∨32<c.subj.size)) (e2:¬(c.iss.size<1∨32<c.iss.size)) (nn:Nat):
  F6 fu (Ae C0 Tryz.prog fu (d+6)) c.subj c.iss c.serial c.key.h c.key.root c.fr c.un c.auth c.path c.model c.sig.leaf c.sig.chains.length (Ai .u64 c.sig.chains) c.sig.path.length (Ai .u64 c.sig.path) (nn+1) c.subj c.iss 2 c.subj c.iss c.serial c.key.h c.key.root c.fr c.un c.auth c.path c.model c.sig.leaf c.sig.chains.length (Ai .u64 c.sig.chains) c.sig.path.length (Ai .u64 c.sig.path)=some ⟨G3 c,[]⟩:=by
 have v1:=M1 (fu:=fu) (d:=d+5) c.subj hs1;have v2:=M1 (fu:=fu) (d:=d+5) c.iss hs2;have ek:=Ahc (fu:=fu) (d:=d+4) hfu c.key;simp only [Ky.cells] at ek;have e90:((9:Int) != 0)=true:=rfl;have e00:((0:Int) != 0)=false:=rfl;rw [Fi,Dt _ _ _ (by omega)]
 cases e3:TH c.subj
 ·have hb:Bf c=6:=by unfold Bf;rw [A3 e1,A3 e2,Bl e3]
  rw [e3] at v1;rw [←Fq hb (by omega)]
  try unfold Aa
  repeat first
   |((with_reducible first|apply Ap|apply Ag|apply Am|apply As|apply Ax|apply Az|apply Cf|apply Ah);· first|with_reducible rfl|(simp (disch:=omega) only [v1,Bp,Br]<;>with_reducible rfl))
   |((with_reducible first|apply Ak|apply Al);· first|with_reducible rfl|omega|(simp (disch:=omega) only [gT,v1,Bp,Br]<;>omega))
   |(with_reducible apply Ao;· first|with_reducible rfl|(simp (disch:=omega) only [gF,v1,Bp,Br]<;>omega))
  try simp (disch:=omega) only [v1,Bp,Br]
 rw [e3] at v1;cases e4:TH c.iss
 ·have hb:Bf c=6:=by unfold Bf;rw [A3 e1,A3 e2,A3 (by simp [e3]),Bl e4]
  rw [e4] at v2;rw [←Fq hb (by omega)]
  try unfold Aa
  repeat first
   |((with_reducible first|apply Ap|apply Ag|apply Am|apply As|apply Ax|apply Az|apply Cf|apply Ah);· first|with_reducible rfl|(simp (disch:=omega) only [v1,v2,Bp,Br]<;>with_reducible rfl))
   |((with_reducible first|apply Ak|apply Al);· first|with_reducible rfl|omega|(simp (disch:=omega) only [gT,v1,v2,Bp,Br]<;>omega))
   |(with_reducible apply Ao;· first|with_reducible rfl|(simp (disch:=omega) only [gF,v1,v2,Bp,Br]<;>omega))
  try simp (disch:=omega) only [v1,v2,Bp,Br]
 rw [e4] at v2;cases e5:Df c.key.h
 rotate_left
 ·have hb:Bf c=9:=by unfold Bf;rw [A3 e1,A3 e2,A3 (by simp [e3]),A3 (by simp [e4]),Bl e5]
  rw [e5,Bl rfl] at ek;rw [←Fq hb (by omega)]
  try unfold Aa
  repeat first
   |((with_reducible first|apply Ap|apply Ag|apply Am|apply As|apply Ax|apply Az|apply Cf|apply Ah);· first|with_reducible rfl|(simp (disch:=omega) only [v1,v2,ek,e90,Bp,Br]<;>with_reducible rfl))
   |((with_reducible first|apply Ak|apply Al);· first|with_reducible rfl|omega|(simp (disch:=omega) only [gT,v1,v2,ek,e90,Bp,Br]<;>omega))
   |(with_reducible apply Ao;· first|with_reducible rfl|(simp (disch:=omega) only [gF,v1,v2,ek,e90,Bp,Br]<;>omega))
  try simp (disch:=omega) only [v1,v2,ek,e90,Bp,Br]
 rw [e5,A3 (by simp)] at ek
 have B0:Bf c=if c.fr<0 then 9 else if c.un<c.fr then 9 else if c.un>1099511627776 then 9 else if c.path<0∨2<c.path then 9 else if c.path≠0∧c.auth=false then 4 else 0:=by
  unfold Bf;rw [A3 e1,A3 e2,A3 (by simp [e3]),A3 (by simp [e4]),A3 (by simp [e5])]
 by_cases e6:c.fr<0
 ·have hb:Bf c=9:=by rw [B0,Bl e6]
  rw [←Fq hb (by omega)]
  try unfold Aa
  repeat first
   |((with_reducible first|apply Ap|apply Ag|apply Am|apply As|apply Ax|apply Az|apply Cf|apply Ah);· first|with_reducible rfl|(simp (disch:=omega) only [v1,v2,ek,e00,Bp,Br]<;>with_reducible rfl))
   |((with_reducible first|apply Ak|apply Al);· first|with_reducible rfl|omega|(simp (disch:=omega) only [gT,v1,v2,ek,e00,Bp,Br]<;>omega))
   |(with_reducible apply Ao;· first|with_reducible rfl|(simp (disch:=omega) only [gF,v1,v2,ek,e00,Bp,Br]<;>omega))
  try simp (disch:=omega) only [v1,v2,ek,e00,Bp,Br]
 by_cases e7:c.un<c.fr
 ·have hb:Bf c=9:=by rw [B0,A3 e6,Bl e7]
  rw [←Fq hb (by omega)]
  try unfold Aa
  repeat first
   |((with_reducible first|apply Ap|apply Ag|apply Am|apply As|apply Ax|apply Az|apply Cf|apply Ah);· first|with_reducible rfl|(simp (disch:=omega) only [v1,v2,ek,e00,Bp,Br]<;>with_reducible rfl))
   |((with_reducible first|apply Ak|apply Al);· first|with_reducible rfl|omega|(simp (disch:=omega) only [gT,v1,v2,ek,e00,Bp,Br]<;>omega))
   |(with_reducible apply Ao;· first|with_reducible rfl|(simp (disch:=omega) only [gF,v1,v2,ek,e00,Bp,Br]<;>omega))
  try simp (disch:=omega) only [v1,v2,ek,e00,Bp,Br]
 by_cases e8:c.un>1099511627776
 ·have hb:Bf c=9:=by rw [B0,A3 e6,A3 e7,Bl e8]
  rw [←Fq hb (by omega)]
  try unfold Aa
  repeat first
   |((with_reducible first|apply Ap|apply Ag|apply Am|apply As|apply Ax|apply Az|apply Cf|apply Ah);· first|with_reducible rfl|(simp (disch:=omega) only [v1,v2,ek,e00,Bp,Br]<;>with_reducible rfl))
   |((with_reducible first|apply Ak|apply Al);· first|with_reducible rfl|omega|(simp (disch:=omega) only [gT,v1,v2,ek,e00,Bp,Br]<;>omega))
   |(with_reducible apply Ao;· first|with_reducible rfl|(simp (disch:=omega) only [gF,v1,v2,ek,e00,Bp,Br]<;>omega))
  try simp (disch:=omega) only [v1,v2,ek,e00,Bp,Br]
 by_cases e9:c.path<0∨2<c.path
 ·have hb:Bf c=9:=by rw [B0,A3 e6,A3 e7,A3 e8,Bl e9]
  rw [←Fq hb (by omega)]
  by_cases e9':c.path<0
  ·skip
   try unfold Aa
   repeat first
    |((with_reducible first|apply Ap|apply Ag|apply Am|apply As|apply Ax|apply Az|apply Cf|apply Ah);· first|with_reducible rfl|(simp (disch:=omega) only [v1,v2,ek,e00,Bp,Br]<;>with_reducible rfl))
    |((with_reducible first|apply Ak|apply Al);· first|with_reducible rfl|omega|(simp (disch:=omega) only [gT,v1,v2,ek,e00,Bp,Br]<;>omega))
    |(with_reducible apply Ao;· first|with_reducible rfl|(simp (disch:=omega) only [gF,v1,v2,ek,e00,Bp,Br]<;>omega))
   try simp (disch:=omega) only [v1,v2,ek,e00,Bp,Br]
  ·skip
   try unfold Aa
   repeat first
    |((with_reducible first|apply Ap|apply Ag|apply Am|apply As|apply Ax|apply Az|apply Cf|apply Ah);· first|with_reducible rfl|(simp (disch:=omega) only [v1,v2,ek,e00,Bp,Br]<;>with_reducible rfl))
    |((with_reducible first|apply Ak|apply Al);· first|with_reducible rfl|omega|(simp (disch:=omega) only [gT,v1,v2,ek,e00,Bp,Br]<;>omega))
    |(with_reducible apply Ao;· first|with_reducible rfl|(simp (disch:=omega) only [gF,v1,v2,ek,e00,Bp,Br]<;>omega))
   try simp (disch:=omega) only [v1,v2,ek,e00,Bp,Br]
 by_cases e10:c.path≠0∧c.auth=false
 ·have hb:Bf c=4:=by rw [B0,A3 e6,A3 e7,A3 e8,A3 e9,Bl e10]
  have ea:=e10.2;have ep:(c.path != 0)=true:=by simp [e10.1]
  rw [←Fq hb (by omega)]
  try unfold Aa
  repeat first
   |((with_reducible first|apply Ap|apply Ag|apply Am|apply As|apply Ax|apply Az|apply Cf|apply Ah);· first|with_reducible rfl|(simp (disch:=omega) only [v1,v2,ek,e00,ep,ea,Bp,Br]<;>with_reducible rfl))
   |((with_reducible first|apply Ak|apply Al);· first|with_reducible rfl|omega|(simp (disch:=omega) only [gT,v1,v2,ek,e00,ep,ea,Bp,Br]<;>omega))
   |(with_reducible apply Ao;· first|with_reducible rfl|(simp (disch:=omega) only [gF,v1,v2,ek,e00,ep,ea,Bp,Br]<;>omega))
  try simp (disch:=omega) only [v1,v2,ek,e00,ep,ea,Bp,Br]
 have hz:Bf c=0:=by rw [B0,A3 e6,A3 e7,A3 e8,A3 e9,A3 e10]
 have hfl:=Zf hw hz
 have ar:=Ad9 (fu:=fu) (d:=d) hfu (vs:=(Mf c).map fun x=>[x]) (by
  intro v hv;obtain ⟨x,hx,rfl⟩:=List.mem_map.1 hv;exact ⟨Ahu (hfl x hx),by simp⟩) (by simp [Mf]) (EQ hw hz) (by simp [Mf])
 have en:=Ac0 (fu:=fu) (d:=d+1) hfu (l:=Bb c) (by simp [Bb]) (by simp [Bb];omega) (EQ hw hz) (fun x hx=>(EY hw hz x hx).1) (Nat.le_trans (I8 hz) (by omega))
 have ar':Ae C0 Tryz.prog fu (d+6) Xb [.lst false 1 9 [.lst false 3 1 (Bq [⟨4,0,c.subj⟩]),.lst false 3 1 (Bq [⟨4,0,c.iss⟩]),.lst false 3 1 (Bq [⟨1,c.serial,C5⟩]),.lst false 3 1 (Bq [⟨3,0,Bo (G0 c.key)⟩]),.lst false 3 1 (Bq [⟨1,c.fr,C5⟩]),.lst false 3 1 (Bq [⟨1,c.un,C5⟩]),.lst false 3 1 (Bq [⟨7,(if c.auth=true then 1 else 0),C5⟩]),.lst false 3 1 (Bq [⟨1,c.path,C5⟩]),.lst false 3 1 (Bq [⟨1,c.model,C5⟩])]]=some ⟨[.own 3 10 (Bq (Bb c)),.sc (.int .i64 0)],[]⟩:=ar
 have en':Ae C0 Tryz.prog fu (d+1+5) U6 [.lst false 3 10 (Bq (Bb c))]=some ⟨[.own 1 (Bc (Bb c)).length (Ai .u8 (Bc (Bb c))),.sc (.int .i64 0)],[]⟩:=en;clear ar en hfl;have t1:=Ab6 (fu:=fu) (d:=d+5) c.subj;have t2:=Ab6 (fu:=fu) (d:=d+5) c.iss;have u1:=AV (fu:=fu) (d:=d+5) c.serial;have u2:=AV (fu:=fu) (d:=d+5) c.fr;have u3:=AV (fu:=fu) (d:=d+5) c.un;have u4:=AV (fu:=fu) (d:=d+5) c.path;have u5:=AV (fu:=fu) (d:=d+5) c.model;have bo:=Aoa (fu:=fu) (d:=d+5) c.auth;have by_:=Ain (fu:=fu) (d:=d+5) (G0 c.key);have k9:(G0 c.key).length=9:=rfl;rw [k9] at by_;have L9:=Aq .u8 (G0 c.key);rw [k9] at L9;have tk9:List.take 9 (Ai .u8 (G0 c.key))=Ai .u8 (G0 c.key):=I0 (by omega)
 have wf:wrap .u64 c.fr=c.fr:=B5 (by omega) (by omega)
 have wu:wrap .u64 c.un=c.un:=B5 (by omega) (by omega)
 have wp:wrap .u64 c.path=c.path:=B5 (by omega) (by omega)
 have R:G3 c=[.own 1 (Bc (Bb c)).length (Ai .u8 (Bc (Bb c))),.sc (.int .i64 0)]:=by unfold G3;rw [hz,Bl rfl]
 have LB:=Aq .u8 (Bc (Bb c));have tB:=Gd .u8 (Bc (Bb c));rw [R];generalize Bc (Bb c)=W at en' LB tB ⊢;have LI:(Bq (Bb c)).length=30:=rfl;have tI:List.take 30 (Bq (Bb c))=Bq (Bb c):=rfl;generalize Bq (Bb c)=I at ar' en' LI tI;have K:∀x:It,List.take 3 (Bq [x])=Bq [x]:=fun _=>rfl
 have N:∀x:It,(Bq [x]).length=3:=fun _=>rfl
 have K1:=K ⟨4,0,c.subj⟩;have K2:=K ⟨4,0,c.iss⟩;have K3:=K ⟨1,c.serial,C5⟩;have K4:=K ⟨3,0,Bo (G0 c.key)⟩;have K5:=K ⟨1,c.fr,C5⟩;have K6:=K ⟨1,c.un,C5⟩;have K7:=K ⟨7,(if c.auth=true then 1 else 0),C5⟩
 have K8:=K ⟨1,c.path,C5⟩;have K9:=K ⟨1,c.model,C5⟩;have N1:=N ⟨4,0,c.subj⟩;have N2:=N ⟨4,0,c.iss⟩;have N3:=N ⟨1,c.serial,C5⟩;have N4:=N ⟨3,0,Bo (G0 c.key)⟩;have N5:=N ⟨1,c.fr,C5⟩;have N6:=N ⟨1,c.un,C5⟩;have N7:=N ⟨7,(if c.auth=true then 1 else 0),C5⟩
 have N8:=N ⟨1,c.path,C5⟩;have N9:=N ⟨1,c.model,C5⟩;generalize Bq [⟨4,0,c.subj⟩]=T1 at *
 generalize Bq [⟨4,0,c.iss⟩]=T2 at *
 generalize Bq [⟨1,c.serial,C5⟩]=T3 at *
 generalize Bq [⟨3,0,Bo (G0 c.key)⟩]=T4 at *
 generalize Bq [⟨1,c.fr,C5⟩]=T5 at *
 generalize Bq [⟨1,c.un,C5⟩]=T6 at *
 generalize Bq [⟨7,(if c.auth=true then 1 else 0),C5⟩]=T7 at *
 generalize Bq [⟨1,c.path,C5⟩]=T8 at *
 generalize Bq [⟨1,c.model,C5⟩]=T9 at *
 generalize Ai .u8 (G0 c.key)=KB at *
 by_cases ep:c.path=0
 ·have ep':(c.path != 0)=false:=by simp [ep]
  try unfold Aa
  repeat first
   |((with_reducible first|apply Ap|apply Ag|apply Am|apply As|apply Ax|apply Az|apply Cf|apply Ah);· first|with_reducible rfl|(simp (disch:=omega) only [v1,v2,ek,e00,ep',t1,t2,u1,u2,u3,u4,u5,bo,by_,wf,wu,wp,L9,tk9,K1,K2,K3,K4,K5,K6,K7,K8,K9,N1,N2,N3,N4,N5,N6,N7,N8,N9,Bv,Nat.one_mul,Bj,Nat.reduceMul,B8,ar',LI,tI,en',LB,tB,Bp,Br]<;>with_reducible rfl))
   |((with_reducible first|apply Ak|apply Al);· first|with_reducible rfl|omega|(simp (disch:=omega) only [gT,v1,v2,ek,e00,ep',t1,t2,u1,u2,u3,u4,u5,bo,by_,wf,wu,wp,L9,tk9,K1,K2,K3,K4,K5,K6,K7,K8,K9,N1,N2,N3,N4,N5,N6,N7,N8,N9,Bv,Nat.one_mul,Bj,Nat.reduceMul,B8,ar',LI,tI,en',LB,tB,Bp,Br]<;>omega))
   |(with_reducible apply Ao;· first|with_reducible rfl|(simp (disch:=omega) only [gF,v1,v2,ek,e00,ep',t1,t2,u1,u2,u3,u4,u5,bo,by_,wf,wu,wp,L9,tk9,K1,K2,K3,K4,K5,K6,K7,K8,K9,N1,N2,N3,N4,N5,N6,N7,N8,N9,Bv,Nat.one_mul,Bj,Nat.reduceMul,B8,ar',LI,tI,en',LB,tB,Bp,Br]<;>omega))
  try simp (disch:=omega) only [v1,v2,ek,e00,ep',t1,t2,u1,u2,u3,u4,u5,bo,by_,wf,wu,wp,L9,tk9,K1,K2,K3,K4,K5,K6,K7,K8,K9,N1,N2,N3,N4,N5,N6,N7,N8,N9,Bv,Nat.one_mul,Bj,Nat.reduceMul,B8,ar',LI,tI,en',LB,tB,Bp,Br]
 ·have ea:c.auth=true:=by
   cases h:c.auth
   ·exact absurd ⟨ep,h⟩ e10
   ·rfl
  have ep':(c.path != 0)=true:=by simp [ep]
  rw [ea] at bo
  try unfold Aa
  repeat first
   |((with_reducible first|apply Ap|apply Ag|apply Am|apply As|apply Ax|apply Az|apply Cf|apply Ah);· first|with_reducible rfl|(simp (disch:=omega) only [v1,v2,ek,e00,ep',ea,t1,t2,u1,u2,u3,u4,u5,bo,by_,wf,wu,wp,L9,tk9,K1,K2,K3,K4,K5,K6,K7,K8,K9,N1,N2,N3,N4,N5,N6,N7,N8,N9,Bv,Nat.one_mul,Bj,Nat.reduceMul,B8,ar',LI,tI,en',LB,tB,Bp,Br]<;>with_reducible rfl))
   |((with_reducible first|apply Ak|apply Al);· first|with_reducible rfl|omega|(simp (disch:=omega) only [gT,v1,v2,ek,e00,ep',ea,t1,t2,u1,u2,u3,u4,u5,bo,by_,wf,wu,wp,L9,tk9,K1,K2,K3,K4,K5,K6,K7,K8,K9,N1,N2,N3,N4,N5,N6,N7,N8,N9,Bv,Nat.one_mul,Bj,Nat.reduceMul,B8,ar',LI,tI,en',LB,tB,Bp,Br]<;>omega))
   |(with_reducible apply Ao;· first|with_reducible rfl|(simp (disch:=omega) only [gF,v1,v2,ek,e00,ep',ea,t1,t2,u1,u2,u3,u4,u5,bo,by_,wf,wu,wp,L9,tk9,K1,K2,K3,K4,K5,K6,K7,K8,K9,N1,N2,N3,N4,N5,N6,N7,N8,N9,Bv,Nat.one_mul,Bj,Nat.reduceMul,B8,ar',LI,tI,en',LB,tB,Bp,Br]<;>omega))
  try simp (disch:=omega) only [v1,v2,ek,e00,ep',ea,t1,t2,u1,u2,u3,u4,u5,bo,by_,wf,wu,wp,L9,tk9,K1,K2,K3,K4,K5,K6,K7,K8,K9,N1,N2,N3,N4,N5,N6,N7,N8,N9,Bv,Nat.one_mul,Bj,Nat.reduceMul,B8,ar',LI,tI,en',LB,tB,Bp,Br]
theorem Ady (hfu:1000<=fu){c:Ce}(hw:c.wf)(hs1:c.subj.size<=9223372036854775807)(hs2:c.iss.size<=9223372036854775807)(nn:Nat)(hn:3<=nn):
  F6 fu (Ae C0 Tryz.prog fu (d+6)) c.subj c.iss c.serial c.key.h c.key.root c.fr c.un c.auth c.path c.model c.sig.leaf c.sig.chains.length (Ai .u64 c.sig.chains) c.sig.path.length (Ai .u64 c.sig.path) nn c.subj c.iss 0 c.subj c.iss c.serial c.key.h c.key.root c.fr c.un c.auth c.path c.model c.sig.leaf c.sig.chains.length (Ai .u64 c.sig.chains) c.sig.path.length (Ai .u64 c.sig.path)=some ⟨G3 c,[]⟩:=by
 obtain ⟨m,rfl⟩:∃m,nn=m+1+1+1:=⟨nn-3,by omega⟩
 have g0:List.getD [PV.sc (Value.string c.subj),PV.sc (Value.string c.iss)] (Int.toNat (0:Int)*1) PV.top=.sc (.string c.subj):=rfl;have g1:List.getD [PV.sc (Value.string c.subj),PV.sc (Value.string c.iss)] (Int.toNat (1:Int)*1) PV.top=.sc (.string c.iss):=rfl;have i1:wrap .i64 ((0:Int)+1)=1:=rfl;have i2:wrap .i64 ((1:Int)+1)=2:=rfl;by_cases e1:c.subj.size<1∨32<c.subj.size
 ·have hb:Bf c=9:=by unfold Bf;rw [Bl e1]
  rw [←Fq hb (by omega),Fi]
  by_cases e1':c.subj.size<1
  ·skip
   try unfold Aa
   repeat first
    |((with_reducible first|apply Ap|apply Ag|apply Am|apply As|apply Ax|apply Az|apply Cf|apply Ah);· first|with_reducible rfl|(simp (disch:=omega) only [g0]<;>with_reducible rfl))
    |((with_reducible first|apply Ak|apply Al);· first|with_reducible rfl|omega|(simp (disch:=omega) only [gT,g0]<;>omega))
    |(with_reducible apply Ao;· first|with_reducible rfl|(simp (disch:=omega) only [gF,g0]<;>omega))
   try simp (disch:=omega) only [g0]
  ·skip
   try unfold Aa
   repeat first
    |((with_reducible first|apply Ap|apply Ag|apply Am|apply As|apply Ax|apply Az|apply Cf|apply Ah);· first|with_reducible rfl|(simp (disch:=omega) only [g0]<;>with_reducible rfl))
    |((with_reducible first|apply Ak|apply Al);· first|with_reducible rfl|omega|(simp (disch:=omega) only [gT,g0]<;>omega))
    |(with_reducible apply Ao;· first|with_reducible rfl|(simp (disch:=omega) only [gF,g0]<;>omega))
   try simp (disch:=omega) only [g0]
 rw [Fi];by_cases e2:c.iss.size<1∨32<c.iss.size
 ·have hb:Bf c=9:=by unfold Bf;rw [A3 e1,Bl e2]
  rw [←Fq hb (by omega)]
  try unfold Aa
  repeat first
   |((with_reducible first|apply Ap|apply Ag|apply Am|apply As|apply Ax|apply Az|apply Cf|apply Ah);· first|with_reducible rfl|(simp (disch:=omega) only [g0,i1]<;>with_reducible rfl))
   |((with_reducible first|apply Ak|apply Al);· first|with_reducible rfl|omega|(simp (disch:=omega) only [gT,g0,i1]<;>omega))
   |(with_reducible apply Ao;· first|with_reducible rfl|(simp (disch:=omega) only [gF,g0,i1]<;>omega))
  try simp (disch:=omega) only [g0,i1]
  rw [Fi];by_cases e2':c.iss.size<1
  ·skip
   try unfold Aa
   repeat first
    |((with_reducible first|apply Ap|apply Ag|apply Am|apply As|apply Ax|apply Az|apply Cf|apply Ah);· first|with_reducible rfl|(simp (disch:=omega) only [g1]<;>with_reducible rfl))
    |((with_reducible first|apply Ak|apply Al);· first|with_reducible rfl|omega|(simp (disch:=omega) only [gT,g1]<;>omega))
    |(with_reducible apply Ao;· first|with_reducible rfl|(simp (disch:=omega) only [gF,g1]<;>omega))
   try simp (disch:=omega) only [g1]
  ·skip
   try unfold Aa
   repeat first
    |((with_reducible first|apply Ap|apply Ag|apply Am|apply As|apply Ax|apply Az|apply Cf|apply Ah);· first|with_reducible rfl|(simp (disch:=omega) only [g1]<;>with_reducible rfl))
    |((with_reducible first|apply Ak|apply Al);· first|with_reducible rfl|omega|(simp (disch:=omega) only [gT,g1]<;>omega))
    |(with_reducible apply Ao;· first|with_reducible rfl|(simp (disch:=omega) only [gF,g1]<;>omega))
   try simp (disch:=omega) only [g1]
 try unfold Aa
 repeat first
  |((with_reducible first|apply Ap|apply Ag|apply Am|apply As|apply Ax|apply Az|apply Cf|apply Ah);· first|with_reducible rfl|(simp (disch:=omega) only [g0,i1]<;>with_reducible rfl))
  |((with_reducible first|apply Ak|apply Al);· first|with_reducible rfl|omega|(simp (disch:=omega) only [gT,g0,i1]<;>omega))
  |(with_reducible apply Ao;· first|with_reducible rfl|(simp (disch:=omega) only [gF,g0,i1]<;>omega))
 try simp (disch:=omega) only [g0,i1]
 rw [Fi]
 try unfold Aa
 repeat first
  |((with_reducible first|apply Ap|apply Ag|apply Am|apply As|apply Ax|apply Az|apply Cf|apply Ah);· first|with_reducible rfl|(simp (disch:=omega) only [g1,i2]<;>with_reducible rfl))
  |((with_reducible first|apply Ak|apply Al);· first|with_reducible rfl|omega|(simp (disch:=omega) only [gT,g1,i2]<;>omega))
  |(with_reducible apply Ao;· first|with_reducible rfl|(simp (disch:=omega) only [gF,g1,i2]<;>omega))
 try simp (disch:=omega) only [g1,i2]
 exact Adl hfu hw hs1 hs2 e1 e2 m
theorem SW (hfu:1000<=fu){c:Ce}(hw:c.wf)(hs1:c.subj.size<=9223372036854775807)(hs2:c.iss.size<=9223372036854775807):Ae C0 Tryz.prog fu (d+7) Ss [.agg c.cells]=some ⟨G3 c,[]⟩:=
 (ER fu (d+6) c.subj c.iss c.serial c.key.h c.key.root c.fr c.un c.auth c.path c.model c.sig.leaf c.sig.chains.length (Ai .u64 c.sig.chains) c.sig.path.length (Ai .u64 c.sig.path)).trans (Ady hfu hw hs1 hs2 fu (by omega))
end
end
section
open Go.IntKind (wrap)
def YV (c:Ce):List PV:=if Bf c=0 then [.sc (.int .u64 (Sb c)),.sc (.int .i64 0)] else [.sc (.int .u64 0),.sc (.int .i64 (Bf c))]
section
variable {fu d:Nat} {c:Ce}
theorem An1 (hfu:1000<=fu)(hw:c.wf)(hs1:c.subj.size<=9223372036854775807)(hs2:c.iss.size<=9223372036854775807):Ae C0 Tryz.prog fu (d+8) Sh [.agg c.cells]=some ⟨YV c,[]⟩:=by
 refine (FW fu (d+7) c.subj c.iss c.serial c.key.h c.key.root c.fr c.un c.auth c.path c.model c.sig.leaf c.sig.chains.length (Ai .u64 c.sig.chains) c.sig.path.length (Ai .u64 c.sig.path)).trans ?_;have bq:=SW (fu:=fu) (d:=d) hfu hw hs1 hs2;simp only [Ce.cells] at bq;unfold G3 at bq;unfold YV;by_cases h0:Bf c=0
 ·have lb:=I8 h0;rw [Bl h0] at bq;rw [Bl h0];have e00:((0:Int) != 0)=false:=rfl;have hh:=Ag4 (fu:=fu) (d:=d+2) (BW hw h0) (by omega) (by omega) (by omega) 14
  have eW:Em 14 (Bc (Bb c))=Sb c:=rfl;rw [eW] at hh;have L1:=Aq .u8 (Bc (Bb c));have t1:=Gd .u8 (Bc (Bb c));generalize (Bc (Bb c)).length=n1 at *
  generalize Ai .u8 (Bc (Bb c))=c1 at *
  try unfold Aa
  repeat first
   |((with_reducible first|apply Ap|apply Ag|apply Am|apply Az|apply Ah);· first|with_reducible rfl|(simp (disch:=omega) only [bq,e00,Bj,Bv,B8,L1,t1,hh]<;>with_reducible rfl))
   |((with_reducible first|apply Ak|apply Al);· first|with_reducible rfl|omega|(simp (disch:=omega) only [gT,bq,e00,Bj,Bv,B8,L1,t1,hh]<;>omega))
   |(with_reducible apply Ao;· first|with_reducible rfl|(simp (disch:=omega) only [gF,bq,e00,Bj,Bv,B8,L1,t1,hh]<;>omega))
  try simp (disch:=omega) only [bq,e00,Bj,Bv,B8,L1,t1,hh]
  all_goals rfl
 ·have hne:(Bf c != 0)=true:=by simp [h0]
  rw [A3 h0] at bq;rw [A3 h0]
  try unfold Aa
  repeat first
   |((with_reducible first|apply Ap|apply Ag|apply Am|apply Az|apply Ah);· first|with_reducible rfl|(simp (disch:=omega) only [bq,hne]<;>with_reducible rfl))
   |((with_reducible first|apply Ak|apply Al);· first|with_reducible rfl|omega|(simp (disch:=omega) only [gT,bq,hne]<;>omega))
   |(with_reducible apply Ao;· first|with_reducible rfl|(simp (disch:=omega) only [gF,bq,hne]<;>omega))
  try simp (disch:=omega) only [bq,hne]
  all_goals rfl
theorem Ab5 (hfu:1000<=fu)(hw:c.wf)(hs1:c.subj.size<=9223372036854775807)(hs2:c.iss.size<=9223372036854775807)(k:Ky):Ae C0 Tryz.prog fu (d+9) O2 [.agg c.cells,.agg k.cells]=some ⟨[.sc (.int .i64 (Od c k))],[]⟩:=by
 refine (AY fu (d+8) c.subj c.iss c.serial c.key.h c.key.root c.fr c.un c.auth c.path c.model c.sig.leaf c.sig.chains.length (Ai .u64 c.sig.chains) c.sig.path.length (Ai .u64 c.sig.path) k.h k.root).trans ?_;have bq:=An1 (fu:=fu) (d:=d) hfu hw hs1 hs2;simp only [Ce.cells] at bq;unfold YV at bq;unfold Od;by_cases h0:Bf c=0
 ·rw [Bl h0] at bq;rw [Bl h0];have e00:((0:Int) != 0)=false:=rfl;have vr:=LF (fu:=fu) (d:=d) hfu k (Sb c) c.sig;simp only [Ky.cells,Sg.cells] at vr
  try unfold Aa
  repeat first
   |((with_reducible first|apply Ap|apply Ag|apply Am|apply Az|apply Ah);· first|with_reducible rfl|(simp (disch:=omega) only [bq,e00,vr]<;>with_reducible rfl))
   |((with_reducible first|apply Ak|apply Al);· first|with_reducible rfl|omega|(simp (disch:=omega) only [gT,bq,e00,vr]<;>omega))
   |(with_reducible apply Ao;· first|with_reducible rfl|(simp (disch:=omega) only [gF,bq,e00,vr]<;>omega))
  try simp (disch:=omega) only [bq,e00,vr]
  all_goals rfl
 ·have hne:(Bf c != 0)=true:=by simp [h0]
  rw [A3 h0] at bq;rw [A3 h0]
  try unfold Aa
  repeat first
   |((with_reducible first|apply Ap|apply Ag|apply Am|apply Az|apply Ah);· first|with_reducible rfl|(simp (disch:=omega) only [bq,hne]<;>with_reducible rfl))
   |((with_reducible first|apply Ak|apply Al);· first|with_reducible rfl|omega|(simp (disch:=omega) only [gT,bq,hne]<;>omega))
   |(with_reducible apply Ao;· first|with_reducible rfl|(simp (disch:=omega) only [gF,bq,hne]<;>omega))
  try simp (disch:=omega) only [bq,hne]
  all_goals rfl
theorem Aov (hfu:1000<=fu)(hw:c.wf)(hs1:c.subj.size<=9223372036854775807)(hs2:c.iss.size<=9223372036854775807)(hp:c.sig.path.length<=1000000000)(hf:c.sig.path.length<fu):Ae C0 Tryz.prog fu (d+8) Pj [.agg c.cells]=some ⟨FU c,[]⟩:=by
 refine (BC fu (d+7) c.subj c.iss c.serial c.key.h c.key.root c.fr c.un c.auth c.path c.model c.sig.leaf c.sig.chains.length (Ai .u64 c.sig.chains) c.sig.path.length (Ai .u64 c.sig.path)).trans ?_;have bq:=SW (fu:=fu) (d:=d) hfu hw hs1 hs2;simp only [Ce.cells] at bq;have es:=Ah0 (fu:=fu) (d:=d+5) hfu c.sig hp hf;simp only [Sg.cells] at es;unfold G3 at bq;unfold FU Dy;by_cases h0:Bf c=0
 ·have lb:=I8 h0;rw [Bl h0] at bq;rw [Bl h0];have L1:=Aq .u8 (Bc (Bb c));have t1:=Gd .u8 (Bc (Bb c));have e00:((0:Int) != 0)=false:=rfl;have e90:((9:Int) != 0)=true:=rfl;have e40:((4:Int) != 0)=true:=rfl;unfold KH;by_cases g1:Df c.sig.path.length=true
  ·rw [Bl g1] at es;rw [Bl g1,A3 (by omega)]
   try unfold Aa
   repeat first
    |((with_reducible first|apply Ap|apply Ag|apply Am|apply Az|apply Ah);· first|with_reducible rfl|(simp (disch:=omega) only [bq,es,e00,e90]<;>with_reducible rfl))
    |((with_reducible first|apply Ak|apply Al);· first|with_reducible rfl|omega|(simp (disch:=omega) only [gT,bq,es,e00,e90]<;>omega))
    |(with_reducible apply Ao;· first|with_reducible rfl|(simp (disch:=omega) only [gF,bq,es,e00,e90]<;>omega))
   try simp (disch:=omega) only [bq,es,e00,e90]
   all_goals rfl
  rw [A3 g1] at es;rw [A3 g1];by_cases g2:Gc c.sig.leaf c.sig.path.length=true
  ·rw [Bl g2] at es;rw [Bl g2,A3 (by omega)]
   try unfold Aa
   repeat first
    |((with_reducible first|apply Ap|apply Ag|apply Am|apply Az|apply Ah);· first|with_reducible rfl|(simp (disch:=omega) only [bq,es,e00,e90]<;>with_reducible rfl))
    |((with_reducible first|apply Ak|apply Al);· first|with_reducible rfl|omega|(simp (disch:=omega) only [gT,bq,es,e00,e90]<;>omega))
    |(with_reducible apply Ao;· first|with_reducible rfl|(simp (disch:=omega) only [gF,bq,es,e00,e90]<;>omega))
   try simp (disch:=omega) only [bq,es,e00,e90]
   all_goals rfl
  rw [A3 g2] at es;rw [A3 g2];by_cases g3:c.sig.chains.length≠18
  ·rw [Bl g3] at es;rw [Bl g3,A3 (by omega)]
   try unfold Aa
   repeat first
    |((with_reducible first|apply Ap|apply Ag|apply Am|apply Az|apply Ah);· first|with_reducible rfl|(simp (disch:=omega) only [bq,es,e00,e40]<;>with_reducible rfl))
    |((with_reducible first|apply Ak|apply Al);· first|with_reducible rfl|omega|(simp (disch:=omega) only [gT,bq,es,e00,e40]<;>omega))
    |(with_reducible apply Ao;· first|with_reducible rfl|(simp (disch:=omega) only [gF,bq,es,e00,e40]<;>omega))
   try simp (disch:=omega) only [bq,es,e00,e40]
   all_goals rfl
  rw [A3 g3] at es;rw [A3 g3,Bl rfl];have hb4:=Gr (h:=c.sig.path.length) (by simpa using g1)
  have ls:(M6 c.sig).length=2+8*c.sig.chains.length+8*c.sig.path.length:=by
   unfold M6;simp only [Ib,H1,Dd];omega
  have L2:=Aq .u8 (M6 c.sig);have t2:=Gd .u8 (M6 c.sig)
  have ea:Ai .u8 (Bc (Bb c))++Ai .u8 (M6 c.sig)=Ai .u8 (Eu c):=by
   unfold Eu;rw [Ai,Ai,Ai,List.flatMap_append]
  have le:(Eu c).length=(Bc (Bb c)).length+(M6 c.sig).length:=by unfold Eu;rw [H1]
  have L3:=Aq .u8 (Eu c);have t3:List.take ((Bc (Bb c)).length+(M6 c.sig).length) (Ai .u8 (Eu c))=Ai .u8 (Eu c):=I0 (by omega)
  rw [le] at L3 ⊢;generalize (Bc (Bb c)).length=n1 at *
  generalize (M6 c.sig).length=n2 at *
  generalize Ai .u8 (Bc (Bb c))=c1 at *
  generalize Ai .u8 (M6 c.sig)=c2 at *
  try unfold Aa
  repeat first
   |((with_reducible first|apply Ap|apply Ag|apply Am|apply Az|apply Ah);· first|with_reducible rfl|(simp (disch:=omega) only [bq,es,e00,Bj,Bv,B8,L1,t1,L2,t2,ea,L3,t3]<;>with_reducible rfl))
   |((with_reducible first|apply Ak|apply Al);· first|with_reducible rfl|omega|(simp (disch:=omega) only [gT,bq,es,e00,Bj,Bv,B8,L1,t1,L2,t2,ea,L3,t3]<;>omega))
   |(with_reducible apply Ao;· first|with_reducible rfl|(simp (disch:=omega) only [gF,bq,es,e00,Bj,Bv,B8,L1,t1,L2,t2,ea,L3,t3]<;>omega))
  try simp (disch:=omega) only [bq,es,e00,Bj,Bv,B8,L1,t1,L2,t2,ea,L3,t3]
  all_goals rfl
 ·have hne:(Bf c != 0)=true:=by simp [h0]
  rw [A3 h0] at bq;rw [A3 h0,A3 h0]
  try unfold Aa
  repeat first
   |((with_reducible first|apply Ap|apply Ag|apply Am|apply Az|apply Ah);· first|with_reducible rfl|(simp (disch:=omega) only [bq,hne]<;>with_reducible rfl))
   |((with_reducible first|apply Ak|apply Al);· first|with_reducible rfl|omega|(simp (disch:=omega) only [gT,bq,hne]<;>omega))
   |(with_reducible apply Ao;· first|with_reducible rfl|(simp (disch:=omega) only [gF,bq,hne]<;>omega))
  try simp (disch:=omega) only [bq,hne]
  all_goals rfl
end
end
section
open Go.IntKind (wrap)
theorem aci {its:List It}{i:Nat}{x:It}(h:its[i]?=some x):(Bq its).getD (i*3) .top=.sc (.int .i64 x.k)∧(Bq its).getD (i*3+1) .top=.sc (.int .u64 x.n)∧(Bq its).getD (i*3+2) .top=.sc (.string x.s):=
 ⟨Ex It.cells_len h (j:=0) (by omega),Ex It.cells_len h (j:=1) (by omega),Ex It.cells_len h (j:=2) (by omega)⟩
def P7:List Int:=[5,4,4,1,3,1,1,7,1,1]
def W7 (its:List It):Bool:=its.map (·.k)==P7
section
variable {fu d:Nat}
theorem MY {call:Ar}{a0n:Nat}{a0:List PV}{its:List It}(h10:its.length=10):∀(r:List It)(rk:List Int)(i nn:Nat),its.drop i=r->P7.drop i=rk->r.length<nn->i<=10 ->
  Gm fu call a0n a0 nn its.length (Bq its) (its.length:Int) (i:Int) (Ai .i64 P7)=some ⟨[.sc (.bool (r.map (·.k)==rk))],[]⟩
 |_,_,_,0,_,_,h,_=>by omega
 |[],rk,i,nn+1,h,hk,hn,hi=>by
  have:=drop_nil h;obtain rfl:i=10:=by omega
  subst hk;rw [Lw,Dt _ _ _ (by omega)]
  rfl
 |x::r,rk,i,nn+1,h,hk,hn,hi=>by
  obtain ⟨h1,h2,h3⟩:=Cg h;simp only [Ib] at hn;obtain ⟨k,hk1⟩:∃k,P7[i]?=some k:=⟨_,List.getElem?_eq_getElem (by show i<10;omega)⟩
  have hk2:rk=k::P7.drop (i+1):=by
   rw [←hk,List.drop_eq_getElem_cons (by show i<10;omega)]
   congr 1
   rw [List.getElem?_eq_getElem (by show i<10;omega)] at hk1
   injection hk1
  subst hk2;have w:wrap .i64 ((i:Int)+1)=((i+1:Nat):Int):=by rw [At (by omega) (by omega)];omega
  obtain ⟨c0,c1,c2⟩:=aci h2;have ck:=Qb (k:=.i64) hk1;have ih:=MY (call:=call) (a0n:=a0n) (a0:=a0) h10 r _ (i+1) nn h3 rfl (by omega) (by omega)
  rw [Lw,Zzw];by_cases e:x.k=k
  ·have b0:(x.k != k)=false:=by simp [e]
   have e1:(x.k::List.map (·.k) r==k::P7.drop (i+1))=(List.map (·.k) r==P7.drop (i+1)):=by simp [e]
   rw [e1,←ih];simp (disch:=omega) only [B6,Hc,Bj,Bv,c0,c1,c2,ck,b0,w]
  ·have b0:(x.k != k)=true:=by simp [e]
   have e1:(x.k::List.map (·.k) r==k::P7.drop (i+1))=false:=by simp [e]
   rw [e1];simp (disch:=omega) only [B6,Hc,Bj,Bv,c0,c1,c2,ck,b0,w]
theorem Ahm (hfu:1000<=fu)(its:List It):Ae C0 Tryz.prog fu (d+1) Pf [.lst false 3 its.length (Bq its)]=some ⟨[.sc (.bool (W7 its))],[]⟩:=by
 rw [Zc];show Iq _ _ _ _ _ _ _=_;rw [Vs (hnn:=by omega),Wk (hnn:=by omega)]
 by_cases h:its.length=10
 ·have b0:((its.length:Int) != 10)=false:=by simp;omega
  rw [b0,QO];exact MY (call:=Ae C0 Tryz.prog fu d) h its P7 0 fu rfl rfl (by omega) (by omega)
 ·have b0:((its.length:Int) != 10)=true:=by simp;omega
  have e:W7 its=false:=by
   unfold W7;cases q:(its.map (·.k)==P7)
   ·rfl
   ·have:=congrArg List.length (eq_of_beq q);simp [P7] at this;omega
  rw [b0,Aff,e]
theorem Ad1 {a b:List Int}(ha:G9 a)(hb:G9 b)(h:(a.map fun n=>n.toNat.toUInt8)=(b.map fun n=>n.toNat.toUInt8)):a=b:=by
 have e:Bo a=Bo b:=by unfold Bo;rw [h]
 rw [←Mn ha,←Mn hb,e]
theorem Atp {a b:List Int}(ha:G9 a)(hb:G9 b):(Array.toList (ByteArray.data (ByteArray.mk (List.toArray (a.map fun n=>n.toNat.toUInt8))))==Array.toList (ByteArray.data (ByteArray.mk (List.toArray (b.map fun n=>n.toNat.toUInt8)))))=decide (a=b):=by
 by_cases h:a=b
 ·subst h;simp
 ·have:(List.map (fun n=>n.toNat.toUInt8) a)≠(List.map (fun n=>n.toNat.toUInt8) b):=fun e=>h (Ad1 ha hb e)
  simp only [h,decide_false]
  simpa using this
theorem TJ {a b:List Int}(ha:G9 a)(hb:G9 b):Ae C0 Tryz.prog fu (d+1) DR [.lst false 1 a.length (Ai .u8 a),.lst false 1 b.length (Ai .u8 b)]=some ⟨[.sc (.bool (decide (a=b)))],[]⟩:=by
 rw [UG];have La:=Aq .u8 a;have Lb:=Aq .u8 b;have ba:=Ft a;have bb:=Ft b;have q:=Atp ha hb;simp (disch:=omega) only [B6,La,Lb,ba,bb,q]
end
structure Ce.ok (c:Ce):Prop where
 ser:ZX c.serial
 mod:ZX c.model
 root:ZX c.key.root
 sg:c.sig.ok
theorem Ce.ok.wf {c:Ce}(h:c.ok):c.wf:=⟨h.ser.1,h.mod.1⟩
def G8 (x1 x2 x3 x5 x6 x7 x8 x9:It)(k:Ky)(s:Sg):Ce:=⟨x1.s,x2.s,x3.n,k,wrap .i64 x5.n,wrap .i64 x6.n,x7.n==1,wrap .i64 x8.n,x9.n,s⟩
def VH (b:List Int):Option Ce:=
 if (Ls 1000 [] 0 b 0 []).2.2≠0 then none else
 match (Ls 1000 [] 0 b 0 []).1 with
 |[_,x1,x2,x3,x4,x5,x6,x7,x8,x9]=>(match DK (B4 x4.s),OG (b.drop (Ls 1000 [] 0 b 0 []).2.1) with|some k,some s=>some (G8 x1 x2 x3 x5 x6 x7 x8 x9 k s)|_,_=>none)
 |_=>none
def J8 (b:List Int):Ce × Int:=
 if b.length>512 then (DJ,8) else match VH b with|some c=>if Dy c=0∧Eu c=b∧c.serial<=18446744073709551615∧c.model<=18446744073709551615 then (c,0) else (DJ,2)|none=>(DJ,2)
theorem Mi {c:Ce}(h:Dy c=0):Bf c=0∧Df c.key.h=false∧Df c.sig.path.length=false∧Gc c.sig.leaf c.sig.path.length=false∧c.sig.chains.length=18∧0<=c.fr∧c.fr<=c.un∧c.un<=1099511627776∧0<=c.path∧c.path<=2:=by
 unfold Dy at h;by_cases h0:Bf c=0
 rotate_left
 ·rw [A3 h0] at h;exact absurd h h0
 rw [Bl h0] at h;unfold KH at h;have hb:=h0;unfold Bf at hb
 repeat' (split at h;· cases h)
 repeat' (split at hb;· cases hb)
 refine ⟨h0,by simp_all,by simp_all,by simp_all,by omega,by omega,by omega,by omega,by omega,by omega⟩
theorem Aa2 {c:Ce}(hc:c.ok)(h:Dy c=0){m:Nat}(hm:10<m):Ls m [] 0 (Eu c) 0 []=(Bb c,(Bc (Bb c)).length,0):=by
 obtain ⟨h0,h1,h2,h3,h4,h5,h6,h7,h8,h9⟩:=Mi h
 have r:=WK (b:=Eu c) (rest:=M6 c.sig) (Bb c) [] 0 0 m [] (EQ hc.wf h0) (by
  intro x hx;have u1:=hc.ser;have u2:=hc.mod;simp only [Bb,List.mem_cons,List.not_mem_nil,or_false] at hx;rcases hx with rfl|rfl|rfl|rfl|rfl|rfl|rfl|rfl|rfl|rfl
  all_goals simp only
  all_goals try split
  all_goals omega) rfl (by simpa [Bb] using hm)
 simpa using r
theorem EP {c:Ce}(h:Dy c=0):G8 ⟨4,0,c.subj⟩ ⟨4,0,c.iss⟩ ⟨1,c.serial,C5⟩ ⟨1,c.fr,C5⟩ ⟨1,c.un,C5⟩ ⟨7,(if c.auth=true then 1 else 0),C5⟩ ⟨1,c.path,C5⟩ ⟨1,c.model,C5⟩ c.key c.sig=c:=by
 obtain ⟨h0,h1,h2,h3,h4,h5,h6,h7,h8,h9⟩:=Mi h;obtain ⟨subj,iss,serial,key,fr,un,auth,path,model,sig⟩:=c;simp only at *
 unfold G8;simp only;rw [At (by omega) (by omega),At (by omega) (by omega),At (by omega) (by omega)]
 cases auth<;>rfl
theorem GV {c:Ce}(h:Dy c=0):(Eu c).length<=400:=by
 obtain ⟨h0,h1,h2,h3,h4,h5,h6,h7,h8,h9⟩:=Mi h;have:=I8 h0;have hb:=Gr h2;unfold Eu M6;simp only [H1,Ib,Dd];omega
theorem Ae7 {c:Ce}(hw:c.wf)(h:Dy c=0):G9 (Eu c):=by
 intro x hx;rcases List.mem_append.1 hx with hx|hx
 ·exact BW hw (Mi h).1 x hx
 ·exact Aqb _ x hx
theorem Adz {c:Ce}(hc:c.ok)(h:Dy c=0):DK (B4 (Bo (G0 c.key)))=some c.key:=by
 rw [Mn Adt];exact UZ (Mi h).2.1 hc.root
theorem Aog {c:Ce}(hc:c.ok)(h:Dy c=0):OG ((Eu c).drop (Bc (Bb c)).length)=some c.sig:=by
 obtain ⟨h0,h1,h2,h3,h4,h5,h6,h7,h8,h9⟩:=Mi h;unfold Eu;rw [List.drop_left' rfl];exact Afo hc.sg h2 h3 h4
theorem PZ {c:Ce}(hc:c.ok)(h:Dy c=0):J8 (Eu c)=(c,0):=by
 have r:=Aa2 hc h (m:=1000) (by omega)
 have k:=Adz hc h;have s:=Aog hc h;have cs:=EP h;have l:=GV h;have u1:=hc.ser;have u2:=hc.mod
 have:VH (Eu c)=some c:=by
  unfold VH;rw [r];simp only [Bb];simp only [Bb] at s;rw [A3 (by simp),k,s]
  simp only [cs]
 unfold J8;rw [A3 (by omega),this]
 simp only;rw [Bl ⟨h,by trivial,u1.2,u2.2⟩]
theorem Zj {x1 x2 x3 x5 x6 x7 x8 x9:It}{k:Ky}{s:Sg}(h3:OkX x3)(h9:OkX x9)(hk:ZX k.root)(hs:s.ok):(G8 x1 x2 x3 x5 x6 x7 x8 x9 k s).ok:=⟨⟨h3.n0,h3.n1⟩,⟨h9.n0,h9.n1⟩,hk,hs⟩
theorem Acu {b:List Int}(hb:G9 b){c:Ce}(h:VH b=some c):c.ok:=by
 have ok:=(IW hb 1000 [] 0 0 [] (by omega) (by simp)).2
 unfold VH at h;split at h
 ·cases h
 ·split at h
  ·rename_i e;rw [e] at ok;split at h
   ·rename_i hk hs;cases h;exact Zj (ok _ (by simp)) (ok _ (by simp)) (IP hk).2 (RB hs).1
   ·cases h
  ·cases h
theorem WP {b:List Int}(hB:G9 b)(hl:b.length<=512)(hn:∀c:Ce,c.ok->Dy c=0->Eu c≠b):J8 b=(DJ,2):=by
 unfold J8;rw [A3 (by omega)]
 cases h:VH b with
 |none=>rfl
 |some c=>
  simp only;rw [A3];intro ⟨h1,h2,_⟩;exact hn c (Acu hB h) h1 h2
theorem Aox {b:List Int}(hB:G9 b):(J8 b).1.ok∧((J8 b).2=0->Dy (J8 b).1=0∧Eu (J8 b).1=b):=by
 have z:DJ.ok:=⟨⟨by decide,by decide⟩,⟨by decide,by decide⟩,⟨by decide,by decide⟩,⟨(by intro x hx;cases hx),(by intro x hx;cases hx)⟩⟩
 unfold J8;split
 ·exact ⟨z,fun h=>by simp at h⟩
 ·split
  ·rename_i c hc;split
   ·rename_i h;exact ⟨Acu hB hc,fun _=>⟨h.1,h.2.1⟩⟩
   ·exact ⟨z,fun h=>by simp at h⟩
  ·exact ⟨z,fun h=>by simp at h⟩
end
section
open Go.IntKind (wrap)
def Ahx (b:List Int)(used:Nat):List It->Ce × Int
 |[_,x1,x2,x3,x4,x5,x6,x7,x8,x9]=>(match DK (B4 x4.s),OG (b.drop used) with
  |some k,some s=>if Dy (G8 x1 x2 x3 x5 x6 x7 x8 x9 k s)=0∧Eu (G8 x1 x2 x3 x5 x6 x7 x8 x9 k s)=b then (G8 x1 x2 x3 x5 x6 x7 x8 x9 k s,0) else (DJ,2)
  |_,_=>(DJ,2))
 |_=>(DJ,2)
def MD (b:List Int)(r:List It × Nat × Int):Ce × Int:=
 if b.length>512 then (DJ,8) else if r.2.2≠0 then (DJ,2) else if W7 r.1=false then (DJ,2) else Ahx b r.2.1 r.1
theorem Ab9 {its:List It}(h:W7 its=true):its.length=10:=by
 have:=congrArg List.length (eq_of_beq h)
 simpa [P7] using this
theorem Acq {its:List It}(h:its.length=10):∃x0 x1 x2 x3 x4 x5 x6 x7 x8 x9,its=[x0,x1,x2,x3,x4,x5,x6,x7,x8,x9]:=by
 match its,h with
 |[x0,x1,x2,x3,x4,x5,x6,x7,x8,x9],_=>exact ⟨x0,x1,x2,x3,x4,x5,x6,x7,x8,x9,rfl⟩
theorem Ak2 {c:Ce}(hc:c.ok)(h:Dy c=0):Ahx (Eu c) (Bc (Bb c)).length (Bb c)=(c,0):=by
 have k:=Adz hc h;have s:=Aog hc h;have cs:=EP h
 have e:Ahx (Eu c) (Bc (Bb c)).length (Bb c)=(match DK (B4 (Bo (G0 c.key))),OG ((Eu c).drop (Bc (Bb c)).length) with
  |some k,some s=>if Dy (G8 ⟨4,0,c.subj⟩ ⟨4,0,c.iss⟩ ⟨1,c.serial,C5⟩ ⟨1,c.fr,C5⟩ ⟨1,c.un,C5⟩ ⟨7,(if c.auth=true then 1 else 0),C5⟩ ⟨1,c.path,C5⟩ ⟨1,c.model,C5⟩ k s)=0∧Eu (G8 ⟨4,0,c.subj⟩ ⟨4,0,c.iss⟩ ⟨1,c.serial,C5⟩ ⟨1,c.fr,C5⟩ ⟨1,c.un,C5⟩ ⟨7,(if c.auth=true then 1 else 0),C5⟩ ⟨1,c.path,C5⟩ ⟨1,c.model,C5⟩ k s)=Eu c then (G8 ⟨4,0,c.subj⟩ ⟨4,0,c.iss⟩ ⟨1,c.serial,C5⟩ ⟨1,c.fr,C5⟩ ⟨1,c.un,C5⟩ ⟨7,(if c.auth=true then 1 else 0),C5⟩ ⟨1,c.path,C5⟩ ⟨1,c.model,C5⟩ k s,0) else (DJ,2)
  |_,_=>(DJ,2)):=rfl
 rw [e,k,s];simp only [cs];rw [Bl ⟨h,by trivial⟩]
theorem Ah2 {b:List Int}{used:Nat}{its:List It}(hx:∀x∈its,OkX x)(hn:∀c:Ce,c.ok->Dy c=0->Eu c≠b):Ahx b used its=(DJ,2):=by
 unfold Ahx;split
 ·split
  ·rename_i hk hs;rw [A3];intro ⟨h1,h2⟩;exact hn _ (Zj (hx _ (by simp)) (hx _ (by simp)) (IP hk).2 (RB hs).1) h1 h2
  ·rfl
 ·rfl
theorem Ahh (c:Ce):W7 (Bb c)=true:=rfl
theorem Akn {b:List Int}(hb:G9 b){r:List It × Nat × Int}(hx:∀x∈r.1,OkX x)(hc:∀c:Ce,c.ok->Dy c=0->Eu c=b->r=(Bb c,(Bc (Bb c)).length,0)):MD b r=J8 b:=by
 by_cases h5:b.length>512
 ·unfold MD J8;rw [Bl h5,Bl h5]
 by_cases hex:∃c:Ce,c.ok∧Dy c=0∧Eu c=b
 ·obtain ⟨c,c1,c2,c3⟩:=hex;have e:=hc c c1 c2 c3;subst c3;rw [PZ c1 c2,e];unfold MD;rw [A3 h5,A3 (by simp),A3 (by simp [Ahh])]
  exact Ak2 c1 c2
 ·have hn:∀c:Ce,c.ok->Dy c=0->Eu c≠b:=fun c h1 h2 h3=>hex ⟨c,h1,h2,h3⟩
  rw [WP hb (by omega) hn]
  unfold MD;rw [A3 h5,Ah2 hx hn];split
  ·rfl
  ·split<;>rfl
section
variable {fu d:Nat}
theorem Aiy (hfu:1000<=fu){b:List Int}(hb:G9 b)(hl:b.length<=1000000):
  Ae C0 Tryz.prog fu (d+9) Jh [.lst false 1 b.length (Ai .u8 b)]=some ⟨[.agg (MD b (Ls fu [] 0 b 0 [])).1.cells,.sc (.int .i64 (MD b (Ls fu [] 0 b 0 [])).2)],[]⟩:=by
 refine (Za fu (d+8) b.length (Ai .u8 b)).trans ?_;have dec:=Ajg (fu:=fu) (d:=d+3) hfu hb hl;obtain ⟨hat,hox⟩:=IW hb fu [] 0 0 [] (by omega) (by simp)
 generalize Ls fu [] 0 b 0 []=r at dec hat hox ⊢;obtain ⟨its,used,e⟩:=r;simp only at hat hox;unfold FY at dec;simp only at dec;unfold MD;simp only;by_cases h5:b.length>512
 ·rw [Bl h5]
  try unfold Aa
  repeat first
   |((with_reducible first|apply Ap|apply Ag|apply Am|apply As|apply Ax|apply Az|apply A6|apply Ah);· first|with_reducible rfl|(simp (disch:=omega) only [Bj]<;>with_reducible rfl))
   |((with_reducible first|apply Ak|apply Al);· first|with_reducible rfl|omega|(simp (disch:=omega) only [gT,Bj]<;>omega))
   |(with_reducible apply Ao;· first|with_reducible rfl|(simp (disch:=omega) only [gF,Bj]<;>omega))
  try simp (disch:=omega) only [Bj]
  all_goals rfl
 rw [A3 h5];by_cases he:e=0
 rotate_left
 ·rw [Bl he];have he':(e != 0)=true:=by simp [he]
  try unfold Aa
  repeat first
   |((with_reducible first|apply Ap|apply Ag|apply Am|apply As|apply Ax|apply Az|apply A6|apply Ah);· first|with_reducible rfl|(simp (disch:=omega) only [dec,he']<;>with_reducible rfl))
   |((with_reducible first|apply Ak|apply Al);· first|with_reducible rfl|omega|(simp (disch:=omega) only [gT,dec,he']<;>omega))
   |(with_reducible apply Ao;· first|with_reducible rfl|(simp (disch:=omega) only [gF,dec,he']<;>omega))
  try simp (disch:=omega) only [dec,he']
  all_goals rfl
 rw [A3 (by simp [he])]
 subst he;have e00:((0:Int) != 0)=false:=rfl;have e20:((2:Int) != 0)=true:=rfl;have ib:=Ahm (fu:=fu) (d:=d+7) hfu its;have LT:=En its;have tT:List.take (its.length*3) (Bq its)=Bq its:=I0 (by omega)
 cases hib:W7 its
 ·rw [hib] at ib;rw [Bl rfl]
  try unfold Aa
  repeat first
   |((with_reducible first|apply Ap|apply Ag|apply Am|apply As|apply Ax|apply Az|apply A6|apply Ah);· first|with_reducible rfl|(simp (disch:=omega) only [dec,e00,B8,Bv,LT,tT,ib,Bp,Br]<;>with_reducible rfl))
   |((with_reducible first|apply Ak|apply Al);· first|with_reducible rfl|omega|(simp (disch:=omega) only [gT,dec,e00,B8,Bv,LT,tT,ib,Bp,Br]<;>omega))
   |(with_reducible apply Ao;· first|with_reducible rfl|(simp (disch:=omega) only [gF,dec,e00,B8,Bv,LT,tT,ib,Bp,Br]<;>omega))
  try simp (disch:=omega) only [dec,e00,B8,Bv,LT,tT,ib,Bp,Br]
  all_goals rfl
 rw [hib] at ib;rw [A3 (by simp)]
 have h10:=Ab9 hib;obtain ⟨x0,x1,x2,x3,x4,x5,x6,x7,x8,x9,rfl⟩:=Acq h10;clear hib;have o1:=hox x1 (by simp)
 have o2:=hox x2 (by simp)
 have o3:=hox x3 (by simp)
 have o4:=hox x4 (by simp)
 have o9:=hox x9 (by simp)
 clear hox;have g14:List.getD (Bq [x0,x1,x2,x3,x4,x5,x6,x7,x8,x9]) 14 .top=.sc (.string x4.s):=rfl;have g5:List.getD (Bq [x0,x1,x2,x3,x4,x5,x6,x7,x8,x9]) 5 .top=.sc (.string x1.s):=rfl;have g8:List.getD (Bq [x0,x1,x2,x3,x4,x5,x6,x7,x8,x9]) 8 .top=.sc (.string x2.s):=rfl;have g10:List.getD (Bq [x0,x1,x2,x3,x4,x5,x6,x7,x8,x9]) 10 .top=.sc (.int .u64 x3.n):=rfl;have g16:List.getD (Bq [x0,x1,x2,x3,x4,x5,x6,x7,x8,x9]) 16 .top=.sc (.int .u64 x5.n):=rfl;have g19:List.getD (Bq [x0,x1,x2,x3,x4,x5,x6,x7,x8,x9]) 19 .top=.sc (.int .u64 x6.n):=rfl;have g22:List.getD (Bq [x0,x1,x2,x3,x4,x5,x6,x7,x8,x9]) 22 .top=.sc (.int .u64 x7.n):=rfl;have g25:List.getD (Bq [x0,x1,x2,x3,x4,x5,x6,x7,x8,x9]) 25 .top=.sc (.int .u64 x8.n):=rfl;have g28:List.getD (Bq [x0,x1,x2,x3,x4,x5,x6,x7,x8,x9]) 28 .top=.sc (.int .u64 x9.n):=rfl;have ln:[x0,x1,x2,x3,x4,x5,x6,x7,x8,x9].length=10:=rfl
 rw [ln] at dec ib LT tT;generalize Bq [x0,x1,x2,x3,x4,x5,x6,x7,x8,x9]=T at *
 clear h10;have hs4:=o4.s1;have L4:(Ct x4.s).length=x4.s.size:=by rw [Fw,Aq,C9]
 have t4:List.take x4.s.size (Ct x4.s)=Ai .u8 (B4 x4.s):=by rw [Fw,I0 (by rw [Aq,C9];omega)]
 have dk:=Aja (fu:=fu) (d:=d+6) hfu (Sl x4.s);rw [C9] at dk;unfold Ahx;simp only;cases hk:DK (B4 x4.s) with
 |none=>
  rw [hk] at dk;simp only [FT,Ky.cells] at dk
  try unfold Aa
  repeat first
   |((with_reducible first|apply Ap|apply Ag|apply Am|apply As|apply Ax|apply Az|apply A6|apply Ah);· first|with_reducible rfl|(simp (disch:=omega) only [dec,e00,e20,B8,Bv,Bj,Nat.reduceMul,LT,tT,ib,g14,L4,t4,dk,Bp,Br]<;>with_reducible rfl))
   |((with_reducible first|apply Ak|apply Al);· first|with_reducible rfl|omega|(simp (disch:=omega) only [gT,dec,e00,e20,B8,Bv,Bj,Nat.reduceMul,LT,tT,ib,g14,L4,t4,dk,Bp,Br]<;>omega))
   |(with_reducible apply Ao;· first|with_reducible rfl|(simp (disch:=omega) only [gF,dec,e00,e20,B8,Bv,Bj,Nat.reduceMul,LT,tT,ib,g14,L4,t4,dk,Bp,Br]<;>omega))
  try simp (disch:=omega) only [dec,e00,e20,B8,Bv,Bj,Nat.reduceMul,LT,tT,ib,g14,L4,t4,dk,Bp,Br]
  all_goals rfl
 |some k=>
  rw [hk] at dk;simp only [FT,Ky.cells] at dk;obtain ⟨k1,k2⟩:=IP hk;have ds:=LU (fu:=fu) (d:=d+6) hfu (l:=b.drop used) (fun x hx=>hb x (List.mem_of_mem_drop hx))
  rw [List.length_drop] at ds;have tb:List.take (b.length-used) (List.drop used (Ai .u8 b))=Ai .u8 (b.drop used):=by rw [E2,I0 (by rw [Aq,List.length_drop];omega)]
  have nu:Int.toNat (used:Int)=used:=Hc used;cases hs:OG (b.drop used) with
  |none=>
   rw [hs] at ds;simp only [Si,Sg.owned] at ds
   try unfold Aa
   repeat first
    |((with_reducible first|apply Ap|apply Ag|apply Am|apply As|apply Ax|apply Az|apply A6|apply Ah);· first|with_reducible rfl|(simp (disch:=omega) only [dec,e00,e20,B8,Bv,Bj,Nat.reduceMul,LT,tT,ib,g14,L4,t4,dk,nu,tb,ds,Bp,Br]<;>with_reducible rfl))
    |((with_reducible first|apply Ak|apply Al);· first|with_reducible rfl|omega|(simp (disch:=omega) only [gT,dec,e00,e20,B8,Bv,Bj,Nat.reduceMul,LT,tT,ib,g14,L4,t4,dk,nu,tb,ds,Bp,Br]<;>omega))
    |(with_reducible apply Ao;· first|with_reducible rfl|(simp (disch:=omega) only [gF,dec,e00,e20,B8,Bv,Bj,Nat.reduceMul,LT,tT,ib,g14,L4,t4,dk,nu,tb,ds,Bp,Br]<;>omega))
   try simp (disch:=omega) only [dec,e00,e20,B8,Bv,Bj,Nat.reduceMul,LT,tT,ib,g14,L4,t4,dk,nu,tb,ds,Bp,Br]
   all_goals rfl
  |some s=>
   rw [hs] at ds;simp only [Si,Sg.owned] at ds;obtain ⟨s1,s2,s3⟩:=RB hs;have cok:(G8 x1 x2 x3 x5 x6 x7 x8 x9 k s).ok:=Zj o3 o9 k2 s1;have en:=Aov (fu:=fu) (d:=d) (c:=G8 x1 x2 x3 x5 x6 x7 x8 x9 k s) hfu cok.wf (Nat.le_trans o1.s1 (by omega)) (Nat.le_trans o2.s1 (by omega)) (Nat.le_trans s2 (by omega)) (Nat.lt_of_le_of_lt s2 (by omega))
   have ec:(G8 x1 x2 x3 x5 x6 x7 x8 x9 k s).cells=[.sc (.string x1.s),.sc (.string x2.s),.sc (.int .u64 x3.n),.sc (.int .i64 k.h),.sc (.int .u64 k.root),.sc (.int .i64 (wrap .i64 x5.n)),.sc (.int .i64 (wrap .i64 x6.n)),.sc (.bool (x7.n==1)),.sc (.int .i64 (wrap .i64 x8.n)),.sc (.int .u64 x9.n),.sc (.int .i64 s.leaf),.lst false 1 s.chains.length (Ai .u64 s.chains),.lst false 1 s.path.length (Ai .u64 s.path)]:=rfl;have eB:=fun h=>Ae7 (c:=G8 x1 x2 x3 x5 x6 x7 x8 x9 k s) cok.wf h
   have eL:=fun h=>GV (c:=G8 x1 x2 x3 x5 x6 x7 x8 x9 k s) h
   have Lc:=Aq .u64 s.chains;have Lp:=Aq .u64 s.path;have tc:=Gd .u64 s.chains;have tp:=Gd .u64 s.path;simp only;generalize G8 x1 x2 x3 x5 x6 x7 x8 x9 k s=c at *
   rw [ec] at en;unfold FU at en;by_cases hz:Dy c=0
   rotate_left
   ·have hz':(Dy c != 0)=true:=by simp [hz]
    rw [A3 hz] at en;rw [A3 (fun h=>hz h.1)]
    try unfold Aa
    repeat first
     |((with_reducible first|apply Ap|apply Ag|apply Am|apply As|apply Ax|apply Az|apply A6|apply Ah);· first|with_reducible rfl|(simp (disch:=omega) only [dec,e00,e20,B8,Bv,Bj,Nat.reduceMul,LT,tT,ib,g14,L4,t4,dk,nu,tb,ds,g5,g8,g10,g16,g19,g22,g25,g28,Lc,Lp,tc,tp,en,hz',Bp,Br]<;>with_reducible rfl))
     |((with_reducible first|apply Ak|apply Al);· first|with_reducible rfl|omega|(simp (disch:=omega) only [gT,dec,e00,e20,B8,Bv,Bj,Nat.reduceMul,LT,tT,ib,g14,L4,t4,dk,nu,tb,ds,g5,g8,g10,g16,g19,g22,g25,g28,Lc,Lp,tc,tp,en,hz',Bp,Br]<;>omega))
     |(with_reducible apply Ao;· first|with_reducible rfl|(simp (disch:=omega) only [gF,dec,e00,e20,B8,Bv,Bj,Nat.reduceMul,LT,tT,ib,g14,L4,t4,dk,nu,tb,ds,g5,g8,g10,g16,g19,g22,g25,g28,Lc,Lp,tc,tp,en,hz',Bp,Br]<;>omega))
    try simp (disch:=omega) only [dec,e00,e20,B8,Bv,Bj,Nat.reduceMul,LT,tT,ib,g14,L4,t4,dk,nu,tb,ds,g5,g8,g10,g16,g19,g22,g25,g28,Lc,Lp,tc,tp,en,hz',Bp,Br]
    all_goals rfl
   rw [Bl hz] at en;have be:=TJ (fu:=fu) (d:=d+7) (eB hz) hb;have LE:=Aq .u8 (Eu c);have tE:=Gd .u8 (Eu c);by_cases hq:Eu c=b
   ·rw [Bl ⟨hz,hq⟩];simp only [hq,decide_true] at be en LE tE;simp only [ec]
    try unfold Aa
    repeat first
     |((with_reducible first|apply Ap|apply Ag|apply Am|apply As|apply Ax|apply Az|apply A6|apply Ah);· first|with_reducible rfl|(simp (disch:=omega) only [dec,e00,e20,B8,Bv,Bj,Nat.reduceMul,LT,tT,ib,g14,L4,t4,dk,nu,tb,ds,g5,g8,g10,g16,g19,g22,g25,g28,Lc,Lp,tc,tp,en,LE,tE,be,Bp,Br]<;>with_reducible rfl))
     |((with_reducible first|apply Ak|apply Al);· first|with_reducible rfl|omega|(simp (disch:=omega) only [gT,dec,e00,e20,B8,Bv,Bj,Nat.reduceMul,LT,tT,ib,g14,L4,t4,dk,nu,tb,ds,g5,g8,g10,g16,g19,g22,g25,g28,Lc,Lp,tc,tp,en,LE,tE,be,Bp,Br]<;>omega))
     |(with_reducible apply Ao;· first|with_reducible rfl|(simp (disch:=omega) only [gF,dec,e00,e20,B8,Bv,Bj,Nat.reduceMul,LT,tT,ib,g14,L4,t4,dk,nu,tb,ds,g5,g8,g10,g16,g19,g22,g25,g28,Lc,Lp,tc,tp,en,LE,tE,be,Bp,Br]<;>omega))
    try simp (disch:=omega) only [dec,e00,e20,B8,Bv,Bj,Nat.reduceMul,LT,tT,ib,g14,L4,t4,dk,nu,tb,ds,g5,g8,g10,g16,g19,g22,g25,g28,Lc,Lp,tc,tp,en,LE,tE,be,Bp,Br]
    all_goals rfl
   ·rw [A3 (fun h=>hq h.2)]
    simp only [hq,decide_false] at be
    try unfold Aa
    repeat first
     |((with_reducible first|apply Ap|apply Ag|apply Am|apply As|apply Ax|apply Az|apply A6|apply Ah);· first|with_reducible rfl|(simp (disch:=omega) only [dec,e00,e20,B8,Bv,Bj,Nat.reduceMul,LT,tT,ib,g14,L4,t4,dk,nu,tb,ds,g5,g8,g10,g16,g19,g22,g25,g28,Lc,Lp,tc,tp,en,LE,tE,be,Bp,Br]<;>with_reducible rfl))
     |((with_reducible first|apply Ak|apply Al);· first|with_reducible rfl|omega|(simp (disch:=omega) only [gT,dec,e00,e20,B8,Bv,Bj,Nat.reduceMul,LT,tT,ib,g14,L4,t4,dk,nu,tb,ds,g5,g8,g10,g16,g19,g22,g25,g28,Lc,Lp,tc,tp,en,LE,tE,be,Bp,Br]<;>omega))
     |(with_reducible apply Ao;· first|with_reducible rfl|(simp (disch:=omega) only [gF,dec,e00,e20,B8,Bv,Bj,Nat.reduceMul,LT,tT,ib,g14,L4,t4,dk,nu,tb,ds,g5,g8,g10,g16,g19,g22,g25,g28,Lc,Lp,tc,tp,en,LE,tE,be,Bp,Br]<;>omega))
    try simp (disch:=omega) only [dec,e00,e20,B8,Bv,Bj,Nat.reduceMul,LT,tT,ib,g14,L4,t4,dk,nu,tb,ds,g5,g8,g10,g16,g19,g22,g25,g28,Lc,Lp,tc,tp,en,LE,tE,be,Bp,Br]
    all_goals rfl
theorem Apx (hfu:1000<=fu){b:List Int}(hb:G9 b)(hl:b.length<=1000000):
  Ae C0 Tryz.prog fu (d+9) Jh [.lst false 1 b.length (Ai .u8 b)]=some ⟨[.agg (J8 b).1.cells,.sc (.int .i64 (J8 b).2)],[]⟩:=by
 have e:MD b (Ls fu [] 0 b 0 [])=J8 b:=Akn hb (IW hb fu [] 0 0 [] (by omega) (by simp)).2 (fun c c1 c2 c3=>by subst c3;exact Aa2 c1 c2 (by omega))
 rw [←e];exact Aiy hfu hb hl
end
end
end Go.Proofs.YtgfgmbpmghgbkaaGreatDoor.Pv
