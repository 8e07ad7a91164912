/-
  The proof of CertificateDecodes, part 5.
-/
import Derived.Test.YtdjihiphpgkfmaaGreatDoorDD
import Derived.Test.YtdjihiphpgkfmaaGreatDoorRows
set_option linter.unusedSimpArgs false
set_option linter.unusedVariables false
namespace Go.Proofs.YtdjihiphpgkfmaaGreatDoor.Pv
section
open Go.IntKind (wrap)
set_option maxRecDepth 100000
abbrev Ls:FuncId:=48
theorem V6 (fu d:Nat)(a0 a1 a2:Int):Ad C0 Tryz.prog fu (d+1) Ls [.sc (.int .i64 a0),.sc (.int .i64 a1),.sc (.int .i64 a2)]=(fun (call:Ah)=>A3 (decide (a0>=a1)) (some (Aw.mk [.sc (.bool (decide (a0<=a2)))] [])) (some (Aw.mk [.sc (.bool false)] []))) (Ad C0 Tryz.prog fu d):=by kernel_rfl
abbrev Nt:FuncId:=59
theorem W6 (fu d:Nat)(a0:Int):Ad C0 Tryz.prog fu (d+1) Nt [.sc (.int .i64 a0)]=(fun (call:Ah)=>Aa (wrap .u64 a0) fun x1=>some (Aw.mk [.agg [.sc (.int .i64 5),.sc (.int .u64 x1),.sc (.string (ByteArray.mk #[]))]] [])) (Ad C0 Tryz.prog fu d):=by kernel_rfl
abbrev Ov:FuncId:=60
theorem Zw (fu d:Nat)(a0:ByteArray):Ad C0 Tryz.prog fu (d+1) Ov [.sc (.string a0)]=(fun (call:Ah)=>some (Aw.mk [.agg [.sc (.int .i64 4),.sc (.int .u64 0),.sc (.string a0)]] [])) (Ad C0 Tryz.prog fu d):=by kernel_rfl
abbrev Lu:FuncId:=61
theorem V5 (fu d:Nat)(a0:Int):Ad C0 Tryz.prog fu (d+1) Lu [.sc (.int .u64 a0)]=(fun (call:Ah)=>some (Aw.mk [.agg [.sc (.int .i64 1),.sc (.int .u64 a0),.sc (.string (ByteArray.mk #[]))]] [])) (Ad C0 Tryz.prog fu d):=by kernel_rfl
abbrev Oq:FuncId:=62
theorem AA (fu d a0n:Nat)(a0:List PV):Ad C0 Tryz.prog fu (d+1) Oq [.lst false 1 a0n a0]=(fun (call:Ah)=>Ap (decide (a0.length=a0n))<|Ev (bytesOf a0) fun x1=>some (Aw.mk [.agg [.sc (.int .i64 3),.sc (.int .u64 0),.sc (.string (ByteArray.mk (List.toArray x1)))]] [])) (Ad C0 Tryz.prog fu d):=by kernel_rfl
abbrev Kx:FuncId:=63
theorem Uv (fu d:Nat)(a0:Bool):Ad C0 Tryz.prog fu (d+1) Kx [.sc (.bool a0)]=(fun (call:Ah)=>A3 (a0) (some (Aw.mk [.agg [.sc (.int .i64 7),.sc (.int .u64 1),.sc (.string (ByteArray.mk #[]))]] [])) (some (Aw.mk [.agg [.sc (.int .i64 7),.sc (.int .u64 0),.sc (.string (ByteArray.mk #[]))]] []))) (Ad C0 Tryz.prog fu d):=by kernel_rfl
abbrev M7:FuncId:=58
noncomputable def F3 (fu:Nat)(call:Ah)(a0n:Nat)(a0:List PV)(nn y0:Nat)(y1:List PV)(y2:Nat)(y3:Int)(y4:List PV):Option Aw:=C6 CB Tryz.prog fu call 58 Tryz.f58 (Cb Tryz.f58) [.lst false 3 a0n a0] [.r,.r,.l,.r,.l] nn ⟨lk [(0,(.lst false 3 y0 y1)),(3,(.view 3 1 0 y2)),(4,(.sc (.int .i64 y3)))],Cj [(3,(.ar false y4))]⟩
theorem Jz (fu:Nat)(call:Ah)(a0n:Nat)(a0:List PV)(nn y0:Nat)(y1:List PV)(y2:Nat)(y3:Int)(y4:List PV):F3 fu call a0n a0 (nn+1) y0 y1 y2 y3 y4=(A3 (decide (y3<(↑y0:Int))) (Ap (decide (0<=y3)&&decide (y3<(↑y0:Int)))<|Ae .i64 (List.getD y1 (Int.toNat y3*3) .top) fun x1=>Ae .u64 (List.getD y1 (Int.toNat y3*3+1) .top) fun x2=>Cr (List.getD y1 (Int.toNat y3*3+1+1) .top) fun x3=>Ag (call 94 [.agg [.sc (.int .i64 x1),.sc (.int .u64 x2),.sc (.string x3)]]) fun x4 x5=>Ac x5<|Ab x4 fun x6 x7=>Cr x6 fun x8=>Ac x7<|Ap (decide (y2*1<=y4.length)&&decide (List.length (Dh x8)=ByteArray.size x8*1)&&decide ((y2+ByteArray.size x8)*1<=1099511627776)&&decide (y2+ByteArray.size x8<=1099511627776))<|Aa (y2+ByteArray.size x8) fun x9=>Aa (List.take (y2*1) y4++Dh x8) fun Cm=>Aa (wrap .i64 (y3+1)) fun Bq=>F3 fu call a0n a0 (nn) (y0) (y1) x9 Bq Cm) (Ap (decide (y2*1<=y4.length))<|some (Aw.mk [.own 1 y2 (List.take (y2*1) y4)] []))):=by kernel_rfl
theorem Xd (fu d a0n:Nat)(a0:List PV):Ad C0 Tryz.prog fu (d+1) M7 [.lst false 3 a0n a0]=(fun (call:Ah)=>F3 fu call a0n a0 (fu) (a0n) (a0) 0 0 ([])) (Ad C0 Tryz.prog fu d):=by kernel_rfl
abbrev O5:FuncId:=32
theorem Zp (fu d:Nat)(a0_0 a0_1:ByteArray)(a0_2 a0_3:Int)(a0_4 a0_5 a0_6:Int)(a0_7:Bool)(a0_8 a0_9 a0_10:Int)(a0_11n:Nat)(a0_11:List PV)(a0_12n:Nat)(a0_12:List PV):Ad C0 Tryz.prog fu (d+1) O5 [.agg [.sc (.string a0_0),.sc (.string a0_1),.sc (.int .u64 a0_2),.sc (.int .i64 a0_3),.sc (.int .u64 a0_4),.sc (.int .i64 a0_5),.sc (.int .i64 a0_6),.sc (.bool a0_7),.sc (.int .i64 a0_8),.sc (.int .u64 a0_9),.sc (.int .i64 a0_10),.lst false 1 a0_11n a0_11,.lst false 1 a0_12n a0_12]]=(fun (call:Ah)=>Ag (call 48 [.sc (.int .i64 (↑(ByteArray.size a0_0):Int)),.sc (.int .i64 1),.sc (.int .i64 32)]) fun x1 x2=>Ac x2<|Ab x1 fun x3 x4=>Br x3 fun x5=>Ac x4<|A3 (!x5) (some (Aw.mk [.own 1 0 [],.sc (.int .i64 9)] [])) (Ag (call 48 [.sc (.int .i64 (↑(ByteArray.size a0_1):Int)),.sc (.int .i64 1),.sc (.int .i64 32)]) fun x6 x7=>Ac x7<|Ab x6 fun x8 x9=>Br x8 fun Cm=>Ac x9<|A3 (!Cm) (some (Aw.mk [.own 1 0 [],.sc (.int .i64 9)] [])) (Ag (call 56 [.sc (.string a0_0)]) fun Bq Dm=>Ac Dm<|Ab Bq fun Ds Cu=>Br Ds fun Dw=>Ac Cu<|A3 (!Dw) (some (Aw.mk [.own 1 0 [],.sc (.int .i64 6)] [])) (Ag (call 56 [.sc (.string a0_1)]) fun Ea Ef=>Ac Ef<|Ab Ea fun Ew Ej=>Br Ew fun Fb=>Ac Ej<|A3 (!Fb) (some (Aw.mk [.own 1 0 [],.sc (.int .i64 6)] [])) (Ag (call 57 [.agg [.sc (.int .i64 a0_3),.sc (.int .u64 a0_4)]]) fun G9 Cp=>Ac Cp<|Ab G9 fun Hb Dx=>D4 1 Hb fun B4 Ft=>Ab Dx fun Hn Bk=>Ae .i64 Hn fun Ci=>Ac Bk<|A3 (Ci != 0) (some (Aw.mk [.own 1 0 [],.sc (.int .i64 Ci)] [])) (A3 (decide (a0_5<0)) (some (Aw.mk [.own 1 0 [],.sc (.int .i64 9)] [])) (A3 (decide (a0_6<a0_5)) (some (Aw.mk [.own 1 0 [],.sc (.int .i64 9)] [])) (A3 (decide (a0_6>1099511627776)) (some (Aw.mk [.own 1 0 [],.sc (.int .i64 9)] [])) (Ag (call 48 [.sc (.int .i64 a0_8),.sc (.int .i64 0),.sc (.int .i64 2)]) fun I1 Jd=>Ac Jd<|Ab I1 fun J9 Kc=>Br J9 fun Lx=>Ac Kc<|A3 (!Lx) (some (Aw.mk [.own 1 0 [],.sc (.int .i64 9)] [])) (A3 (a0_8 != 0) (A3 (!a0_7) (some (Aw.mk [.own 1 0 [],.sc (.int .i64 4)] [])) (Ag (call 59 [.sc (.int .i64 9)]) fun Ob Pt=>Ac Pt<|Ab Ob fun Q5 Gn=>Dt Q5 fun Ie=>Ab Ie fun Sv Wg=>Ae .i64 Sv fun Kd=>Ab Wg fun S1 Sd=>Ae .u64 S1 fun Re=>Ab Sd fun Sf Vp=>Cr Sf fun V9=>Ac Vp<|Ac Gn<|Ag (call 60 [.sc (.string a0_0)]) fun Q8 Ud=>Ac Ud<|Ab Q8 fun Vo Vx=>Dt Vo fun Nn=>Ab Nn fun Vt AC=>Ae .i64 Vt fun Ye=>Ab AC fun Up R7=>Ae .u64 Up fun Vl=>Ab R7 fun Wu Su=>Cr Wu fun Rg=>Ac Su<|Ac Vx<|Ag (call 60 [.sc (.string a0_1)]) fun Wn Wc=>Ac Wc<|Ab Wn fun Yb Uj=>Dt Yb fun Uc=>Ab Uc fun Z9 Wy=>Ae .i64 Z9 fun Wk=>Ab Wy fun Vu Ze=>Ae .u64 Vu fun AL=>Ab Ze fun Yz Z8=>Cr Yz fun BK=>Ac Z8<|Ac Uj<|Ag (call 61 [.sc (.int .u64 a0_2)]) fun Y0 Tw=>Ac Tw<|Ab Y0 fun DU GI=>Dt DU fun PL=>Ab PL fun MH LD=>Ae .i64 MH fun HV=>Ab LD fun KR ON=>Ae .u64 KR fun HO=>Ab ON fun Vy BA=>Cr Vy fun Y1=>Ac BA<|Ac GI<|Ap (decide (0+B4*1<=Ft.length))<|Ag (call 62 [.lst false 1 B4 (List.take (B4*1) (List.drop 0 Ft))]) fun QU RY=>Ac RY<|Ab QU fun RP GG=>Dt RP fun UW=>Ab UW fun VV RF=>Ae .i64 VV fun SN=>Ab RF fun CW Us=>Ae .u64 CW fun Sq=>Ab Us fun Hc I0=>Cr Hc fun We=>Ac I0<|Ac GG<|Aa (wrap .u64 a0_5) fun Pe=>Ag (call 61 [.sc (.int .u64 Pe)]) fun Pd Ja=>Ac Ja<|Ab Pd fun V7 W9=>Dt V7 fun Xy=>Ab Xy fun X4 Ik=>Ae .i64 X4 fun Jp=>Ab Ik fun Xs Ys=>Ae .u64 Xs fun W0=>Ab Ys fun BT Yj=>Cr BT fun Wm=>Ac Yj<|Ac W9<|Aa (wrap .u64 a0_6) fun Wa=>Ag (call 61 [.sc (.int .u64 Wa)]) fun V8 Wq=>Ac Wq<|Ab V8 fun Yq Yd=>Dt Yq fun Oa=>Ab Oa fun Pa Sk=>Ae .i64 Pa fun Xb=>Ab Sk fun Yv Ko=>Ae .u64 Yv fun CF=>Ab Ko fun Xr Uf=>Cr Xr fun AD=>Ac Uf<|Ac Yd<|Ag (call 63 [.sc (.bool a0_7)]) fun FY BC=>Ac BC<|Ab FY fun DQ BX=>Dt DQ fun Xu=>Ab Xu fun Zv CV=>Ae .i64 Zv fun CZ=>Ab CV fun BW Xo=>Ae .u64 BW fun AB=>Ab Xo fun BH Z1=>Cr BH fun CR=>Ac Z1<|Ac BX<|Aa (wrap .u64 a0_8) fun IA=>Ag (call 61 [.sc (.int .u64 IA)]) fun KP HZ=>Ac HZ<|Ab KP fun Wb CO=>Dt Wb fun GL=>Ab GL fun LC Va=>Ae .i64 LC fun LF=>Ab Va fun HJ KW=>Ae .u64 HJ fun PX=>Ab KW fun Gb Oe=>Cr Gb fun MJ=>Ac Oe<|Ac CO<|Ag (call 61 [.sc (.int .u64 a0_9)]) fun HK NA=>Ac NA<|Ab HK fun RC HN=>Dt RC fun KI=>Ab KI fun MB KN=>Ae .i64 MB fun MY=>Ab KN fun XJ VP=>Ae .u64 XJ fun WA=>Ab VP fun KQ IE=>Cr KQ fun WV=>Ac IE<|Ac HN<|Ag (call 58 [.lst false 3 10 [.sc (.int .i64 Kd),.sc (.int .u64 Re),.sc (.string V9),.sc (.int .i64 Ye),.sc (.int .u64 Vl),.sc (.string Rg),.sc (.int .i64 Wk),.sc (.int .u64 AL),.sc (.string BK),.sc (.int .i64 HV),.sc (.int .u64 HO),.sc (.string Y1),.sc (.int .i64 SN),.sc (.int .u64 Sq),.sc (.string We),.sc (.int .i64 Jp),.sc (.int .u64 W0),.sc (.string Wm),.sc (.int .i64 Xb),.sc (.int .u64 CF),.sc (.string AD),.sc (.int .i64 CZ),.sc (.int .u64 AB),.sc (.string CR),.sc (.int .i64 LF),.sc (.int .u64 PX),.sc (.string MJ),.sc (.int .i64 MY),.sc (.int .u64 WA),.sc (.string WV)]]) fun QZ VL=>Ac VL<|Ab QZ fun Abq KS=>D4 1 Abq fun Uy KV=>Ac KS<|Ap (decide (Uy*1<=KV.length))<|some (Aw.mk [.own 1 Uy (List.take (Uy*1) KV),.sc (.int .i64 0)] []))) (Ag (call 59 [.sc (.int .i64 9)]) fun Adz Ahr=>Ac Ahr<|Ab Adz fun NS Adj=>Dt NS fun Ady=>Ab Ady fun Ade Acs=>Ae .i64 Ade fun Aca=>Ab Acs fun RE Adr=>Ae .u64 RE fun Abp=>Ab Adr fun VN VS=>Cr VN fun Ahw=>Ac VS<|Ac Adj<|Ag (call 60 [.sc (.string a0_0)]) fun OU MW=>Ac MW<|Ab OU fun Aco ZR=>Dt Aco fun PR=>Ab PR fun Ac2 Ahp=>Ae .i64 Ac2 fun Ak8=>Ab Ahp fun Aju RB=>Ae .u64 Aju fun Abn=>Ab RB fun Amw Alv=>Cr Amw fun Ajv=>Ac Alv<|Ac ZR<|Ag (call 60 [.sc (.string a0_1)]) fun An6 Amh=>Ac Amh<|Ab An6 fun Ajx Afv=>Dt Ajx fun Ajt=>Ab Ajt fun Akl Acp=>Ae .i64 Akl fun Ama=>Ab Acp fun Ag9 Akv=>Ae .u64 Ag9 fun Ali=>Ab Akv fun Ag8 Akg=>Cr Ag8 fun Alh=>Ac Akg<|Ac Afv<|Ag (call 61 [.sc (.int .u64 a0_2)]) fun Aax Acj=>Ac Acj<|Ab Aax fun Aml Art=>Dt Aml fun Ar4=>Ab Ar4 fun Arg Aqy=>Ae .i64 Arg fun Atc=>Ab Aqy fun Atb Asl=>Ae .u64 Atb fun Aq4=>Ab Asl fun Apx Asf=>Cr Apx fun Ap5=>Ac Asf<|Ac Art<|Ap (decide (0+B4*1<=Ft.length))<|Ag (call 62 [.lst false 1 B4 (List.take (B4*1) (List.drop 0 Ft))]) fun Aq8 Aqg=>Ac Aqg<|Ab Aq8 fun Aqv VQ=>Dt Aqv fun Alq=>Ab Alq fun Ajb Aom=>Ae .i64 Ajb fun Ap2=>Ab Aom fun Ari Aqu=>Ae .u64 Ari fun Aqj=>Ab Aqu fun Arx Ara=>Cr Arx fun Arf=>Ac Ara<|Ac VQ<|Aa (wrap .u64 a0_5) fun Aql=>Ag (call 61 [.sc (.int .u64 Aql)]) fun Aqk VO=>Ac VO<|Ab Aqk fun Als Ait=>Dt Als fun Anz=>Ab Anz fun Ar1 Aro=>Ae .i64 Ar1 fun Aq3=>Ab Aro fun Arz Aq0=>Ae .u64 Arz fun Arb=>Ab Aq0 fun Aqq Arp=>Cr Aqq fun Aqs=>Ac Arp<|Ac Ait<|Aa (wrap .u64 a0_6) fun Ars=>Ag (call 61 [.sc (.int .u64 Ars)]) fun Au9 At2=>Ac At2<|Ab Au9 fun Aut Aux=>Dt Aut fun Avh=>Ab Avh fun Aug Auv=>Ae .i64 Aug fun Au4=>Ab Auv fun Atz At5=>Ae .u64 Atz fun Avf=>Ab At5 fun Ats At7=>Cr Ats fun Au2=>Ac At7<|Ac Aux<|Ag (call 63 [.sc (.bool a0_7)]) fun Aui Au3=>Ac Au3<|Ab Aui fun Avo Aur=>Dt Avo fun Atw=>Ab Atw fun Auz At4=>Ae .i64 Auz fun Ava=>Ab At4 fun Aty Auy=>Ae .u64 Aty fun Au1=>Ab Auy fun Atm At3=>Cr Atm fun Avm=>Ac At3<|Ac Aur<|Aa (wrap .u64 a0_8) fun Att=>Ag (call 61 [.sc (.int .u64 Att)]) fun Avq Aue=>Ac Aue<|Ab Avq fun Aus Avb=>Dt Aus fun Atv=>Ab Atv fun Au6 Ato=>Ae .i64 Au6 fun Aul=>Ab Ato fun Auq Avi=>Ae .u64 Auq fun Aup=>Ab Avi fun Auo Aud=>Cr Auo fun Avl=>Ac Aud<|Ac Avb<|Ag (call 61 [.sc (.int .u64 a0_9)]) fun At6 Au0=>Ac Au0<|Ab At6 fun Auu Atq=>Dt Auu fun Au8=>Ab Au8 fun Avc At0=>Ae .i64 Avc fun Avd=>Ab At0 fun At9 Avg=>Ae .u64 At9 fun Aun=>Ab Avg fun At1 Atu=>Cr At1 fun At8=>Ac Atu<|Ac Atq<|Ag (call 58 [.lst false 3 10 [.sc (.int .i64 Aca),.sc (.int .u64 Abp),.sc (.string Ahw),.sc (.int .i64 Ak8),.sc (.int .u64 Abn),.sc (.string Ajv),.sc (.int .i64 Ama),.sc (.int .u64 Ali),.sc (.string Alh),.sc (.int .i64 Atc),.sc (.int .u64 Aq4),.sc (.string Ap5),.sc (.int .i64 Ap2),.sc (.int .u64 Aqj),.sc (.string Arf),.sc (.int .i64 Aq3),.sc (.int .u64 Arb),.sc (.string Aqs),.sc (.int .i64 Au4),.sc (.int .u64 Avf),.sc (.string Au2),.sc (.int .i64 Ava),.sc (.int .u64 Au1),.sc (.string Avm),.sc (.int .i64 Aul),.sc (.int .u64 Aup),.sc (.string Avl),.sc (.int .i64 Avd),.sc (.int .u64 Aun),.sc (.string At8)]]) fun Atr Au7=>Ac Au7<|Ab Atr fun Atn Auf=>D4 1 Atn fun Arq Ash=>Ac Auf<|Ap (decide (Arq*1<=Ash.length))<|some (Aw.mk [.own 1 Arq (List.take (Arq*1) Ash),.sc (.int .i64 0)] [])))))))))))) (Ad C0 Tryz.prog fu d):=by kernel_rfl
abbrev Oi:FuncId:=13
theorem Zt (fu d:Nat)(a0_0 a0_1:ByteArray)(a0_2 a0_3:Int)(a0_4 a0_5 a0_6:Int)(a0_7:Bool)(a0_8 a0_9 a0_10:Int)(a0_11n:Nat)(a0_11:List PV)(a0_12n:Nat)(a0_12:List PV)(a1 a2 a3:Int):Ad C0 Tryz.prog fu (d+1) Oi [.agg [.sc (.string a0_0),.sc (.string a0_1),.sc (.int .u64 a0_2),.sc (.int .i64 a0_3),.sc (.int .u64 a0_4),.sc (.int .i64 a0_5),.sc (.int .i64 a0_6),.sc (.bool a0_7),.sc (.int .i64 a0_8),.sc (.int .u64 a0_9),.sc (.int .i64 a0_10),.lst false 1 a0_11n a0_11,.lst false 1 a0_12n a0_12],.sc (.int .u64 a1),.sc (.int .i64 a2),.sc (.int .i64 a3)]=(fun (call:Ah)=>Ag (call 32 [.agg [.sc (.string a0_0),.sc (.string a0_1),.sc (.int .u64 a0_2),.sc (.int .i64 a0_3),.sc (.int .u64 a0_4),.sc (.int .i64 a0_5),.sc (.int .i64 a0_6),.sc (.bool a0_7),.sc (.int .i64 a0_8),.sc (.int .u64 a0_9),.sc (.int .i64 a0_10),.lst false 1 a0_11n a0_11,.lst false 1 a0_12n a0_12]]) fun x1 x2=>Ac x2<|Ab x1 fun x3 x4=>D4 1 x3 fun x5 x6=>Ab x4 fun x7 x8=>Ae .i64 x7 fun x9=>Ac x8<|A3 (x9 != 0) (some (Aw.mk [.agg [.sc (.string (ByteArray.mk #[])),.sc (.string (ByteArray.mk #[])),.sc (.int .u64 0),.sc (.int .i64 0),.sc (.int .u64 0),.sc (.int .i64 0),.sc (.int .i64 0),.sc (.bool false),.sc (.int .i64 0),.sc (.int .u64 0),.sc (.int .i64 0),.lst false 1 0 [],.lst false 1 0 []],.sc (.int .i64 x9)] [])) (Ap (decide (0+x5*1<=x6.length))<|Ag (call 34 [.sc (.int .i64 14),.lst false 1 x5 (List.take (x5*1) (List.drop 0 x6))]) fun Cm Bq=>Ac Bq<|Ab Cm fun Dm Ds=>Ae .u64 Dm fun Cu=>Ac Ds<|Ag (call 33 [.sc (.int .u64 a1),.sc (.int .i64 a2),.sc (.int .i64 a3),.sc (.int .u64 Cu)]) fun Dw Ea=>Ac Ea<|Ab Dw fun Ef Ew=>Dt Ef fun Ej=>Ab Ej fun Fb G9=>Ae .i64 Fb fun Cp=>Ab G9 fun Hb Dx=>D4 1 Hb fun B4 Ft=>Ab Dx fun Hn Bk=>D4 1 Hn fun Ci I1=>Ac Bk<|Ab Ew fun Jd J9=>Ae .i64 Jd fun Kc=>Ac J9<|A3 (Kc != 0) (some (Aw.mk [.agg [.sc (.string (ByteArray.mk #[])),.sc (.string (ByteArray.mk #[])),.sc (.int .u64 0),.sc (.int .i64 0),.sc (.int .u64 0),.sc (.int .i64 0),.sc (.int .i64 0),.sc (.bool false),.sc (.int .i64 0),.sc (.int .u64 0),.sc (.int .i64 0),.lst false 1 0 [],.lst false 1 0 []],.sc (.int .i64 Kc)] [])) (Ap (decide (0+B4*1<=Ft.length))<|Ap (decide (0+Ci*1<=I1.length))<|some (Aw.mk [.agg [.sc (.string a0_0),.sc (.string a0_1),.sc (.int .u64 a0_2),.sc (.int .i64 a0_3),.sc (.int .u64 a0_4),.sc (.int .i64 a0_5),.sc (.int .i64 a0_6),.sc (.bool a0_7),.sc (.int .i64 a0_8),.sc (.int .u64 a0_9),.sc (.int .i64 Cp),.lst false 1 B4 (List.take (B4*1) (List.drop 0 Ft)),.lst false 1 Ci (List.take (Ci*1) (List.drop 0 I1))],.sc (.int .i64 0)] [])))) (Ad C0 Tryz.prog fu d):=by kernel_rfl
abbrev L8:FuncId:=22
theorem Wh (fu d:Nat)(a0_0 a0_1:ByteArray)(a0_2 a0_3:Int)(a0_4 a0_5 a0_6:Int)(a0_7:Bool)(a0_8 a0_9 a0_10:Int)(a0_11n:Nat)(a0_11:List PV)(a0_12n:Nat)(a0_12:List PV):Ad C0 Tryz.prog fu (d+1) L8 [.agg [.sc (.string a0_0),.sc (.string a0_1),.sc (.int .u64 a0_2),.sc (.int .i64 a0_3),.sc (.int .u64 a0_4),.sc (.int .i64 a0_5),.sc (.int .i64 a0_6),.sc (.bool a0_7),.sc (.int .i64 a0_8),.sc (.int .u64 a0_9),.sc (.int .i64 a0_10),.lst false 1 a0_11n a0_11,.lst false 1 a0_12n a0_12]]=(fun (call:Ah)=>Ag (call 32 [.agg [.sc (.string a0_0),.sc (.string a0_1),.sc (.int .u64 a0_2),.sc (.int .i64 a0_3),.sc (.int .u64 a0_4),.sc (.int .i64 a0_5),.sc (.int .i64 a0_6),.sc (.bool a0_7),.sc (.int .i64 a0_8),.sc (.int .u64 a0_9),.sc (.int .i64 a0_10),.lst false 1 a0_11n a0_11,.lst false 1 a0_12n a0_12]]) fun x1 x2=>Ac x2<|Ab x1 fun x3 x4=>D4 1 x3 fun x5 x6=>Ab x4 fun x7 x8=>Ae .i64 x7 fun x9=>Ac x8<|A3 (x9 != 0) (some (Aw.mk [.own 1 0 [],.sc (.int .i64 x9)] [])) (Ag (call 43 [.agg [.sc (.int .i64 a0_10),.lst false 1 a0_11n a0_11,.lst false 1 a0_12n a0_12]]) fun Cm Bq=>Ac Bq<|Ab Cm fun Dm Ds=>D4 1 Dm fun Cu Dw=>Ab Ds fun Ea Ef=>Ae .i64 Ea fun Ew=>Ac Ef<|A3 (Ew != 0) (some (Aw.mk [.own 1 0 [],.sc (.int .i64 Ew)] [])) (Ap (decide (0+Cu*1<=Dw.length))<|Ap (decide (x5*1<=x6.length)&&decide (List.length (List.take (Cu*1) (List.drop 0 Dw))=Cu*1)&&decide ((x5+Cu)*1<=1099511627776)&&decide (x5+Cu<=1099511627776))<|Aa (x5+Cu) fun Ej=>Aa (List.take (x5*1) x6++List.take (Cu*1) (List.drop 0 Dw)) fun Fb=>Ap (decide (Ej*1<=Fb.length))<|some (Aw.mk [.own 1 Ej (List.take (Ej*1) Fb),.sc (.int .i64 0)] [])))) (Ad C0 Tryz.prog fu d):=by kernel_rfl
abbrev Hx:FuncId:=44
theorem Wi (fu d a0n:Nat)(a0:List PV):Ad C0 Tryz.prog fu (d+1) Hx [.lst false 1 a0n a0]=(fun (call:Ah)=>A3 (decide ((↑a0n:Int)>512)) (some (Aw.mk [.agg [.sc (.string (ByteArray.mk #[])),.sc (.string (ByteArray.mk #[])),.sc (.int .u64 0),.sc (.int .i64 0),.sc (.int .u64 0),.sc (.int .i64 0),.sc (.int .i64 0),.sc (.bool false),.sc (.int .i64 0),.sc (.int .u64 0),.sc (.int .i64 0),.lst false 1 0 [],.lst false 1 0 []],.sc (.int .i64 8)] [])) (Ag (call 85 [.lst false 1 a0n a0]) fun x1 x2=>Ac x2<|Ab x1 fun x3 x4=>D4 3 x3 fun x5 x6=>Ab x4 fun x7 x8=>Ae .i64 x7 fun x9=>Ab x8 fun Cm Bq=>Ae .i64 Cm fun Dm=>Ac Bq<|A3 (Dm != 0) (some (Aw.mk [.agg [.sc (.string (ByteArray.mk #[])),.sc (.string (ByteArray.mk #[])),.sc (.int .u64 0),.sc (.int .i64 0),.sc (.int .u64 0),.sc (.int .i64 0),.sc (.int .i64 0),.sc (.bool false),.sc (.int .i64 0),.sc (.int .u64 0),.sc (.int .i64 0),.lst false 1 0 [],.lst false 1 0 []],.sc (.int .i64 2)] [])) (A3 ((↑x5:Int) != 10) (some (Aw.mk [.agg [.sc (.string (ByteArray.mk #[])),.sc (.string (ByteArray.mk #[])),.sc (.int .u64 0),.sc (.int .i64 0),.sc (.int .u64 0),.sc (.int .i64 0),.sc (.int .i64 0),.sc (.bool false),.sc (.int .i64 0),.sc (.int .u64 0),.sc (.int .i64 0),.lst false 1 0 [],.lst false 1 0 []],.sc (.int .i64 2)] [])) (Ap (decide (0<(↑x5:Int)))<|Ae .i64 (List.getD x6 0 .top) fun Ds=>Ae .u64 (List.getD x6 1 .top) fun Cu=>Cr (List.getD x6 2 .top) fun Dw=>Ag (call 59 [.sc (.int .i64 9)]) fun Ea Ef=>Ac Ef<|Ab Ea fun Ew Ej=>Dt Ew fun Fb=>Ab Fb fun G9 Cp=>Ae .i64 G9 fun Hb=>Ab Cp fun Dx B4=>Ae .u64 Dx fun Ft=>Ab B4 fun Hn Bk=>Cr Hn fun Ci=>Ac Bk<|Ac Ej<|A3 (!(Ds==Hb&&(Cu==Ft&&(Dw==Ci&&true)))) (some (Aw.mk [.agg [.sc (.string (ByteArray.mk #[])),.sc (.string (ByteArray.mk #[])),.sc (.int .u64 0),.sc (.int .i64 0),.sc (.int .u64 0),.sc (.int .i64 0),.sc (.int .i64 0),.sc (.bool false),.sc (.int .i64 0),.sc (.int .u64 0),.sc (.int .i64 0),.lst false 1 0 [],.lst false 1 0 []],.sc (.int .i64 2)] [])) (Ap (decide (4<(↑x5:Int)))<|Cr (List.getD x6 14 .top) fun I1=>Ap (decide (ByteArray.size I1<=1099511627776))<|Ap (decide (0+ByteArray.size I1*1<=List.length (Dh I1)))<|Ag (call 86 [.lst false 1 (ByteArray.size I1) (List.take (ByteArray.size I1*1) (List.drop 0 (Dh I1)))]) fun Jd J9=>Ac J9<|Ab Jd fun Kc Lx=>Dt Kc fun Ob=>Ab Ob fun Pt Q5=>Ae .i64 Pt fun Gn=>Ab Q5 fun Ie Sv=>Ae .u64 Ie fun Wg=>Ac Sv<|Ab Lx fun Kd S1=>Ae .i64 Kd fun Sd=>Ac S1<|A3 (Sd != 0) (some (Aw.mk [.agg [.sc (.string (ByteArray.mk #[])),.sc (.string (ByteArray.mk #[])),.sc (.int .u64 0),.sc (.int .i64 0),.sc (.int .u64 0),.sc (.int .i64 0),.sc (.int .i64 0),.sc (.bool false),.sc (.int .i64 0),.sc (.int .u64 0),.sc (.int .i64 0),.lst false 1 0 [],.lst false 1 0 []],.sc (.int .i64 2)] [])) (Ap (decide (0<=x9))<|Ap (decide (Int.toNat x9<=a0n)&&decide (a0n<=a0n))<|Aa (a0n-Int.toNat x9) fun Re=>Aa (List.take (Re*1) (List.drop (Int.toNat x9*1) a0)) fun Sf=>Ag (call 87 [.lst false 1 Re Sf]) fun Vp V9=>Ac V9<|Ab Vp fun Q8 Ud=>Dt Q8 fun Vo=>Ab Vo fun Vx Nn=>Ae .i64 Vx fun Vt=>Ab Nn fun AC Ye=>D4 1 AC fun Up R7=>Ab Ye fun Vl Wu=>D4 1 Vl fun Su Rg=>Ac Wu<|Ab Ud fun Wn Wc=>Ae .i64 Wn fun Yb=>Ac Wc<|A3 (Yb != 0) (some (Aw.mk [.agg [.sc (.string (ByteArray.mk #[])),.sc (.string (ByteArray.mk #[])),.sc (.int .u64 0),.sc (.int .i64 0),.sc (.int .u64 0),.sc (.int .i64 0),.sc (.int .i64 0),.sc (.bool false),.sc (.int .i64 0),.sc (.int .u64 0),.sc (.int .i64 0),.lst false 1 0 [],.lst false 1 0 []],.sc (.int .i64 2)] [])) (Ap (decide (5<(↑x5:Int)))<|Ae .u64 (List.getD x6 16 .top) fun Uj=>A3 (decide (Uj>1099511627776)) (some (Aw.mk [.agg [.sc (.string (ByteArray.mk #[])),.sc (.string (ByteArray.mk #[])),.sc (.int .u64 0),.sc (.int .i64 0),.sc (.int .u64 0),.sc (.int .i64 0),.sc (.int .i64 0),.sc (.bool false),.sc (.int .i64 0),.sc (.int .u64 0),.sc (.int .i64 0),.lst false 1 0 [],.lst false 1 0 []],.sc (.int .i64 2)] [])) (Ap (decide (6<(↑x5:Int)))<|Ae .u64 (List.getD x6 19 .top) fun Uc=>A3 (decide (Uc>1099511627776)) (some (Aw.mk [.agg [.sc (.string (ByteArray.mk #[])),.sc (.string (ByteArray.mk #[])),.sc (.int .u64 0),.sc (.int .i64 0),.sc (.int .u64 0),.sc (.int .i64 0),.sc (.int .i64 0),.sc (.bool false),.sc (.int .i64 0),.sc (.int .u64 0),.sc (.int .i64 0),.lst false 1 0 [],.lst false 1 0 []],.sc (.int .i64 2)] [])) (Ap (decide (8<(↑x5:Int)))<|Ae .u64 (List.getD x6 25 .top) fun Z9=>A3 (decide (Z9>2)) (some (Aw.mk [.agg [.sc (.string (ByteArray.mk #[])),.sc (.string (ByteArray.mk #[])),.sc (.int .u64 0),.sc (.int .i64 0),.sc (.int .u64 0),.sc (.int .i64 0),.sc (.int .i64 0),.sc (.bool false),.sc (.int .i64 0),.sc (.int .u64 0),.sc (.int .i64 0),.lst false 1 0 [],.lst false 1 0 []],.sc (.int .i64 2)] [])) (Ap (decide (1<(↑x5:Int)))<|Cr (List.getD x6 5 .top) fun Wy=>Ap (decide (2<(↑x5:Int)))<|Cr (List.getD x6 8 .top) fun Wk=>Ap (decide (3<(↑x5:Int)))<|Ae .u64 (List.getD x6 10 .top) fun Vu=>Ap (decide (5<(↑x5:Int)))<|Ae .u64 (List.getD x6 16 .top) fun Ze=>Aa (wrap .i64 Ze) fun AL=>Ap (decide (6<(↑x5:Int)))<|Ae .u64 (List.getD x6 19 .top) fun Yz=>Aa (wrap .i64 Yz) fun Z8=>Ap (decide (7<(↑x5:Int)))<|Ae .u64 (List.getD x6 22 .top) fun BK=>Ap (decide (8<(↑x5:Int)))<|Ae .u64 (List.getD x6 25 .top) fun Y0=>Aa (wrap .i64 Y0) fun Tw=>Ap (decide (9<(↑x5:Int)))<|Ae .u64 (List.getD x6 28 .top) fun DU=>Ap (decide (0+Up*1<=R7.length))<|Ap (decide (0+Su*1<=Rg.length))<|Ag (call 22 [.agg [.sc (.string Wy),.sc (.string Wk),.sc (.int .u64 Vu),.sc (.int .i64 Gn),.sc (.int .u64 Wg),.sc (.int .i64 AL),.sc (.int .i64 Z8),.sc (.bool (BK==1)),.sc (.int .i64 Tw),.sc (.int .u64 DU),.sc (.int .i64 Vt),.lst false 1 Up (List.take (Up*1) (List.drop 0 R7)),.lst false 1 Su (List.take (Su*1) (List.drop 0 Rg))]]) fun GI PL=>Ac PL<|Ab GI fun MH LD=>D4 1 MH fun HV KR=>Ab LD fun ON HO=>Ae .i64 ON fun Vy=>Ac HO<|A3 (Vy != 0) (some (Aw.mk [.agg [.sc (.string (ByteArray.mk #[])),.sc (.string (ByteArray.mk #[])),.sc (.int .u64 0),.sc (.int .i64 0),.sc (.int .u64 0),.sc (.int .i64 0),.sc (.int .i64 0),.sc (.bool false),.sc (.int .i64 0),.sc (.int .u64 0),.sc (.int .i64 0),.lst false 1 0 [],.lst false 1 0 []],.sc (.int .i64 2)] [])) (Ap (decide (0+HV*1<=KR.length))<|Ap (decide (List.length (List.take (HV*1) (List.drop 0 KR))=HV))<|Ev (bytesOf (List.take (HV*1) (List.drop 0 KR))) fun BA=>Ap (decide (a0.length=a0n))<|Ev (bytesOf a0) fun Y1=>A3 (!Array.toList (ByteArray.data (ByteArray.mk (List.toArray BA)))==Array.toList (ByteArray.data (ByteArray.mk (List.toArray Y1)))) (some (Aw.mk [.agg [.sc (.string (ByteArray.mk #[])),.sc (.string (ByteArray.mk #[])),.sc (.int .u64 0),.sc (.int .i64 0),.sc (.int .u64 0),.sc (.int .i64 0),.sc (.int .i64 0),.sc (.bool false),.sc (.int .i64 0),.sc (.int .u64 0),.sc (.int .i64 0),.lst false 1 0 [],.lst false 1 0 []],.sc (.int .i64 2)] [])) (Ap (decide (0+Up*1<=R7.length))<|Ap (decide (0+Su*1<=Rg.length))<|some (Aw.mk [.agg [.sc (.string Wy),.sc (.string Wk),.sc (.int .u64 Vu),.sc (.int .i64 Gn),.sc (.int .u64 Wg),.sc (.int .i64 AL),.sc (.int .i64 Z8),.sc (.bool (BK==1)),.sc (.int .i64 Tw),.sc (.int .u64 DU),.sc (.int .i64 Vt),.lst false 1 Up (List.take (Up*1) (List.drop 0 R7)),.lst false 1 Su (List.take (Su*1) (List.drop 0 Rg))],.sc (.int .i64 0)] []))))))))))))) (Ad C0 Tryz.prog fu d):=by kernel_rfl
abbrev Gw:FuncId:=19
theorem Mq (fu d:Nat)(a0_0 a0_1:ByteArray)(a0_2 a0_3:Int)(a0_4 a0_5 a0_6:Int)(a0_7:Bool)(a0_8 a0_9 a0_10:Int)(a0_11n:Nat)(a0_11:List PV)(a0_12n:Nat)(a0_12:List PV)(a1_0 a1_1:ByteArray)(a1_2 Ajk:Int)(Ai0 Akz Al6:Int)(All:Bool)(Ajg Aiw YH:Int)(Akh:Nat)(XS:List PV)(Am0:Nat)(Abj:List PV):Ad C0 Tryz.prog fu (d+1) Gw [.agg [.sc (.string a0_0),.sc (.string a0_1),.sc (.int .u64 a0_2),.sc (.int .i64 a0_3),.sc (.int .u64 a0_4),.sc (.int .i64 a0_5),.sc (.int .i64 a0_6),.sc (.bool a0_7),.sc (.int .i64 a0_8),.sc (.int .u64 a0_9),.sc (.int .i64 a0_10),.lst false 1 a0_11n a0_11,.lst false 1 a0_12n a0_12],.agg [.sc (.string a1_0),.sc (.string a1_1),.sc (.int .u64 a1_2),.sc (.int .i64 Ajk),.sc (.int .u64 Ai0),.sc (.int .i64 Akz),.sc (.int .i64 Al6),.sc (.bool All),.sc (.int .i64 Ajg),.sc (.int .u64 Aiw),.sc (.int .i64 YH),.lst false 1 Akh XS,.lst false 1 Am0 Abj]]=(fun (call:Ah)=>A3 (Array.toList (ByteArray.data a0_0)==Array.toList (ByteArray.data a1_0)) (A3 (Array.toList (ByteArray.data a0_1)==Array.toList (ByteArray.data a1_1)) (A3 (a0_2==a1_2) (A3 (a0_3==Ajk&&(a0_4==Ai0&&true)) (A3 (a0_5==Akz) (A3 (a0_6==Al6) (A3 (a0_7==All) (A3 (a0_8==Ajg) (A3 (a0_9==Aiw) (Ag (call 40 [.agg [.sc (.int .i64 a0_10),.lst false 1 a0_11n a0_11,.lst false 1 a0_12n a0_12],.agg [.sc (.int .i64 YH),.lst false 1 Akh XS,.lst false 1 Am0 Abj]]) fun x1 x2=>Ac x2<|Ab x1 fun x3 x4=>Br x3 fun x5=>Ac x4<|some (Aw.mk [.sc (.bool x5)] [])) (some (Aw.mk [.sc (.bool false)] []))) (some (Aw.mk [.sc (.bool false)] []))) (some (Aw.mk [.sc (.bool false)] []))) (some (Aw.mk [.sc (.bool false)] []))) (some (Aw.mk [.sc (.bool false)] []))) (some (Aw.mk [.sc (.bool false)] []))) (some (Aw.mk [.sc (.bool false)] []))) (some (Aw.mk [.sc (.bool false)] []))) (some (Aw.mk [.sc (.bool false)] []))) (Ad C0 Tryz.prog fu d):=by kernel_rfl
end
section
open Go.IntKind (wrap)
def Tc (x:It):List Int:=
 if x.k=7 then [wrap .u8 (244+wrap .u8 x.n)] else if x.k=8 then [246] else if x.k=3 then Dc 2 x.s.size else if x.k=4 then Dc 3 x.s.size else Dc (x.k-1) x.n
def It.dat (x:It):Prop:=x.k=3∨x.k=4∨Cg x.s=[]
theorem Ahb {x:It}(h:x.dat):Bp x=Tc x++Cg x.s:=by
 unfold Bp Tc;by_cases c7:x.k=7
 ·rcases h with h|h|h
  ·omega
  ·omega
  ·simp [c7,h]
 ·by_cases c8:x.k=8
  ·rcases h with h|h|h
   ·omega
   ·omega
   ·simp [c8,h]
  ·by_cases c3:x.k=3
   ·simp [c3]
   ·by_cases c4:x.k=4
    ·simp [c4]
    ·rcases h with h|h|h
     ·omega
     ·omega
     ·simp [c7,c8,c3,c4,h]
theorem Af3 (x:It):(Tc x).length<=9:=by
 have h2:=Hw 2 x.s.size;have h3:=Hw 3 x.s.size;have h4:=Hw (x.k-1) x.n;unfold Tc
 repeat' split
 all_goals try simp only [Kb,ED]
 all_goals omega
theorem Amq (v:Int):Ei .u64 v 0=v:=by
 show v.fdiv (2 ^ (min (0:Int).toNat IntKind.u64.bits))=v;have:(2:Int) ^ (min (0:Int).toNat IntKind.u64.bits)=1:=by decide
 rw [this,Int.fdiv_one]
theorem tb1 (v:Int):tb v 1=[wrap .u8 v]:=by
 show [wrap .u8 (Ei .u64 v (56-8*((7:Nat):Int)))]=_;rw [show (56:Int)-8*((7:Nat):Int)=0 by omega,Amq]
theorem tb2 (v:Int):tb v 2=[wrap .u8 (Ei .u64 v 8),wrap .u8 v]:=by
 show [wrap .u8 (Ei .u64 v (56-8*((6:Nat):Int))),wrap .u8 (Ei .u64 v (56-8*((7:Nat):Int)))]=_;rw [show (56:Int)-8*((7:Nat):Int)=0 by omega,show (56:Int)-8*((6:Nat):Int)=8 by omega,Amq]
theorem tb4 (v:Int):tb v 4=[wrap .u8 (Ei .u64 v 24),wrap .u8 (Ei .u64 v 16),wrap .u8 (Ei .u64 v 8),wrap .u8 v]:=by
 show [wrap .u8 (Ei .u64 v (56-8*((4:Nat):Int))),wrap .u8 (Ei .u64 v (56-8*((5:Nat):Int))),wrap .u8 (Ei .u64 v (56-8*((6:Nat):Int))),wrap .u8 (Ei .u64 v (56-8*((7:Nat):Int)))]=_;rw [show (56:Int)-8*((7:Nat):Int)=0 by omega,show (56:Int)-8*((6:Nat):Int)=8 by omega,show (56:Int)-8*((5:Nat):Int)=16 by omega,show (56:Int)-8*((4:Nat):Int)=24 by omega,Amq]
theorem tb8 (v:Int):tb v 8=Dq v:=rfl
section
variable {fu d:Nat}
theorem Alc (hfu:1000<=fu){k n:Int}{s:ByteArray}{nn:Nat}(hn:0<nn){mj v:Int}(h0:0<=mj)(h1:mj<=5)(hv:0<=v):
  Dj fu (Ad C0 Tryz.prog fu (d+1)) k n s nn v (32*mj)=some ⟨[.own 1 (Dc mj v).length (Af .u8 (Dc mj v))],[]⟩:=by
 rw [Wj (hnn:=hn)];have w24:wrap .u8 (32*mj+24)=32*mj+24:=F1 (by omega) (by omega)
 have w25:wrap .u8 (32*mj+25)=32*mj+25:=F1 (by omega) (by omega)
 have w26:wrap .u8 (32*mj+26)=32*mj+26:=F1 (by omega) (by omega)
 have w27:wrap .u8 (32*mj+27)=32*mj+27:=F1 (by omega) (by omega)
 unfold Dc;by_cases c1:v<24
 ·have wn:wrap .u8 v=v:=F1 (by omega) (by omega)
  have ws:wrap .u8 (32*mj+v)=32*mj+v:=F1 (by omega) (by omega)
  rw [Bv c1];simp (disch:=omega) only [Bx,wn,ws];rfl
 ·by_cases c2:v<256
  ·rw [Az c1,Bv c2,tb1];simp (disch:=omega) only [Bx,w24];rfl
  ·by_cases c3:v<65536
   ·rw [Az c1,Az c2,Bv c3,tb2];simp (disch:=omega) only [Bx,w25];rfl
   ·by_cases c4:v<4294967296
    ·rw [Az c1,Az c2,Az c3,Bv c4,tb4];simp (disch:=omega) only [Bx,w26];rfl
    ·have wd:=Anm (fu:=fu) (d:=d) hfu v;have L:=Al .u8 (Dq v);rw [D1] at L;have t8:List.take 8 (Af .u8 (Dq v))=Af .u8 (Dq v):=Jv (by omega)
     have eC:[PV.sc (.int .u8 (32*mj+27))]++Af .u8 (Dq v)=Af .u8 ((32*mj+27)::Dq v):=rfl;have L9:(Af .u8 ((32*mj+27)::Dq v)).length=9:=by rw [Al,Kb,D1]
     have t9:List.take 9 (Af .u8 ((32*mj+27)::Dq v))=Af .u8 ((32*mj+27)::Dq v):=Jv (by omega)
     rw [Az c1,Az c2,Az c3,Az c4,tb8,Kb,D1];simp (disch:=omega) only [Bx,w27,wd,Bz,Ck,Di,L,t8,eC,Nat.reduceAdd,L9,t9]
theorem Ak4 (hfu:1000<=fu){x:It}(hx:x.ok):Ad C0 Tryz.prog fu (d+2) Qh [.agg x.cells]=some ⟨[.own 1 (Tc x).length (Af .u8 (Tc x))],[]⟩:=by
 obtain ⟨k,n,s⟩:=x;obtain ⟨k1,k8,n0,s0⟩:=hx;simp only at k1 k8 n0 s0;refine (BJ fu (d+1) k n s).trans ?_;have wsz:wrap .u64 (s.size:Int)=s.size:=Ch (by omega) (by omega)
 have J:=fun (mj v:Int) (h0:0<=mj) (h1:mj<=5) (hv:0<=v)=>Alc (fu:=fu) (d:=d) hfu (k:=k) (n:=n) (s:=s) (nn:=fu) (by omega) h0 h1 hv
 have j0:=J 0 n (by omega) (by omega) n0
 have j1:=J 1 n (by omega) (by omega) n0
 have j2:=J 2 s.size (by omega) (by omega) (by omega)
 have j3:=J 3 s.size (by omega) (by omega) (by omega)
 have j4:=J 4 n (by omega) (by omega) n0
 have j5:=J 5 n (by omega) (by omega) n0
 rw [show (32:Int)*0=0 by omega] at j0
 rw [show (32:Int)*1=32 by omega] at j1
 rw [show (32:Int)*2=64 by omega] at j2
 rw [show (32:Int)*3=96 by omega] at j3
 rw [show (32:Int)*4=128 by omega] at j4
 rw [show (32:Int)*5=160 by omega] at j5
 unfold Tc;simp only;have:k=1∨k=2∨k=3∨k=4∨k=5∨k=6∨k=7∨k=8:=by omega
 rcases this with rfl|rfl|rfl|rfl|rfl|rfl|rfl|rfl
 ·simp only [Bx,Fo,Int.reduceEq,if_true,if_false,Int.reduceSub,j0]
 ·simp only [Bx,Fo,Int.reduceEq,if_true,if_false,Int.reduceSub,j1]
 ·simp only [Bx,Fo,Int.reduceEq,if_true,if_false,Int.reduceSub,wsz,j2]
 ·simp only [Bx,Fo,Int.reduceEq,if_true,if_false,Int.reduceSub,wsz,j3]
 ·simp only [Bx,Fo,Int.reduceEq,if_true,if_false,Int.reduceSub,j4]
 ·simp only [Bx,Fo,Int.reduceEq,if_true,if_false,Int.reduceSub,j5]
 ·simp only [Bx,Fo,Int.reduceEq,if_true,if_false];rfl
 ·simp only [Bx,Fo,Int.reduceEq,if_true,if_false];rfl
theorem Zj (hfu:1000<=fu){x:It}(hx:x.ok)(hd:x.dat):Ad C0 Tryz.prog fu (d+3) Ou [.agg x.cells]=some ⟨[.sc (.string (Bj (Bp x)))],[]⟩:=by
 refine (Zs fu (d+2) x.k x.n x.s).trans ?_;have hr:=Ak4 (fu:=fu) (d:=d) hfu hx;have L:=Al .u8 (Tc x);have l9:=Af3 x;have bo:=Ff (Tc x);have eA:ByteArray.mk (List.map (fun n:Int=>n.toNat.toUInt8) (Tc x)).toArray=Bj (Tc x):=rfl
 have sz:=Ek (Tc x);have s0:=hx.s0;have ap:Bj (Tc x)++x.s=Bj (Bp x):=by rw [YY,Ahb hd]
 simp only [It.cells] at hr;simp (disch:=omega) only [Bx,hr,Bz,Ck,Di,Ii,L,bo,eA,sz,ap]
def Bl (its:List It):List PV:=its.flatMap It.cells
theorem It.cells_len (x:It):x.cells.length=3:=rfl
def Bb (its:List It):List Int:=its.flatMap Bp
theorem JJ {a0n:Nat}{a0:List PV}{its:List It}(hk:∀x∈its,x.ok∧x.dat)(hl:its.length<=1000)(hfu:1000<=fu):∀(r:List It)(i nn:Nat)(b:List Int),its.drop i=r->r.length<nn->b.length+500010*r.length<=1000000000 ->
  F3 fu (Ad C0 Tryz.prog fu (d+3)) a0n a0 nn its.length (Bl its) b.length i (Af .u8 b)=some ⟨[.own 1 (b++Bb r).length (Af .u8 (b++Bb r))],[]⟩
 |_,_,0,_,_,h,_=>by omega
 |[],i,nn+1,b,h,hn,hb=>by
  have:=drop_nil h;have L:=Al .u8 b;rw [Jz,Dv _ _ _ (by omega)]
  simp (disch:=omega) only [Bx,Bz,Ii,L];simp [Bb]
 |x::r,i,nn+1,b,h,hn,hb=>by
  obtain ⟨h1,h2,h3⟩:=Cz h;simp only [Kb] at hn hb;obtain ⟨ok,dt⟩:=hk x (List.mem_of_getElem? h2);have hil:=G3 x;have hs0:=ok.s0;have g0:(Bl its).getD (i*3) .top=.sc (.int .i64 x.k):=Ep It.cells_len h2 (j:=0) (by omega)
  have g1:(Bl its).getD (i*3+1) .top=.sc (.int .u64 x.n):=Ep It.cells_len h2 (j:=1) (by omega)
  have g2:(Bl its).getD (i*3+1+1) .top=.sc (.string x.s):=Ep It.cells_len h2 (j:=2) (by omega)
  have by_:=Zj (fu:=fu) (d:=d) hfu ok dt;simp only [It.cells] at by_;have ih:=JJ (a0n:=a0n) (a0:=a0) hk hl hfu r (i+1) nn (b++Bp x) h3 (by omega) (by rw [Hz];omega)
  have w:wrap .i64 ((i:Int)+1)=((i+1:Nat):Int):=by rw [Ak (by omega) (by omega)];omega
  have L:=Al .u8 b;have hB:=Aeq ok.k1 ok.k8 ok.n0;have sc:Dh (Bj (Bp x))=Af .u8 (Bp x):=by rw [Ib,Ld hB]
  have sz:=Ek (Bp x);have Li:=Al .u8 (Bp x);have ea:Af .u8 b++Af .u8 (Bp x)=Af .u8 (b++Bp x):=by rw [Af,Af,Af,List.flatMap_append]
  have ei:Bb (x::r)=Bp x++Bb r:=rfl;rw [ei,←Zzv,←ih,Jz];simp (disch:=omega) only [Bx,Hi,g0,g1,g2,by_,sc,sz,Li,Bz,Ii,L,ea,w,Hz]
theorem Agg {its:List It}(hk:∀x∈its,x.ok∧x.dat)(hl:its.length<=900)(hfu:1000<=fu):Ad C0 Tryz.prog fu (d+4) M7 [.lst false 3 its.length (Bl its)]=some ⟨[.own 1 (Bb its).length (Af .u8 (Bb its))],[]⟩:=by
 rw [Xd];exact JJ (fu:=fu) (d:=d) (a0n:=its.length) (a0:=Bl its) hk (by omega) hfu its 0 fu [] rfl (by omega) (by simp;omega)
end
end
section
open Go.IntKind (wrap)
structure Ce where
 subj:ByteArray
 iss:ByteArray
 serial:Int
 key:Ky
 fr:Int
 un:Int
 auth:Bool
 path:Int
 model:Int
 sig:Sg
def Ce.cells (c:Ce):List PV:=[.sc (.string c.subj),.sc (.string c.iss),.sc (.int .u64 c.serial),.sc (.int .i64 c.key.h),.sc (.int .u64 c.key.root),.sc (.int .i64 c.fr),.sc (.int .i64 c.un),.sc (.bool c.auth),.sc (.int .i64 c.path),.sc (.int .u64 c.model),.sc (.int .i64 c.sig.leaf),.lst false 1 c.sig.chains.length (Af .u64 c.sig.chains),.lst false 1 c.sig.path.length (Af .u64 c.sig.path)]
abbrev RH (s:ByteArray):Bool:=Lib.validD s.data.toList
abbrev C1:ByteArray:=⟨#[]⟩
def Bd (c:Ce):Int:=
 if c.subj.size<1∨32<c.subj.size then 9 else if c.iss.size<1∨32<c.iss.size then 9 else if RH c.subj=false then 6 else if RH c.iss=false then 6 else
 if C4 c.key.h=true then 9 else if c.fr<0 then 9 else if c.un<c.fr then 9 else if c.un>1099511627776 then 9 else if c.path<0∨2<c.path then 9 else if c.path≠0∧c.auth=false then 4 else 0
def A9 (c:Ce):List It:=[⟨5,9,C1⟩,⟨4,0,c.subj⟩,⟨4,0,c.iss⟩,⟨1,c.serial,C1⟩,⟨3,0,Bj (I7 c.key)⟩,⟨1,c.fr,C1⟩,⟨1,c.un,C1⟩,⟨7,(if c.auth=true then 1 else 0),C1⟩,⟨1,c.path,C1⟩,⟨1,c.model,C1⟩]
structure Ce.wf (c:Ce):Prop where
 ser:0<=c.serial
 mod:0<=c.model
def Hk (c:Ce):List PV:=if Bd c=0 then [.own 1 (Bb (A9 c)).length (Af .u8 (Bb (A9 c))),.sc (.int .i64 0)] else [.own 1 0 [],.sc (.int .i64 (Bd c))]
theorem CA {c:Ce}(hw:c.wf)(h:Bd c=0):∀x∈A9 c,x.ok∧x.dat:=by
 unfold Bd at h;have kl:(Bj (I7 c.key)).size=9:=by rw [Ek];rfl
 have ns:C1.size=0:=rfl;have hs:=hw.ser;have hm:=hw.mod
 repeat' (split at h;· cases h)
 intro x hx;simp only [A9,List.mem_cons,List.not_mem_nil,or_false] at hx;rcases hx with rfl|rfl|rfl|rfl|rfl|rfl|rfl|rfl|rfl|rfl
 ·exact ⟨⟨by simp,by simp,by simp,by simp [ns]⟩,.inr (.inr rfl)⟩
 ·exact ⟨⟨by simp,by simp,by simp,by simp only;omega⟩,.inr (.inl rfl)⟩
 ·exact ⟨⟨by simp,by simp,by simp,by simp only;omega⟩,.inr (.inl rfl)⟩
 ·exact ⟨⟨by simp,by simp,hs,by simp [ns]⟩,.inr (.inr rfl)⟩
 ·exact ⟨⟨by simp,by simp,by simp,by simp only [kl];omega⟩,.inl rfl⟩
 ·exact ⟨⟨by simp,by simp,by simp only;omega,by simp [ns]⟩,.inr (.inr rfl)⟩
 ·exact ⟨⟨by simp,by simp,by simp only;omega,by simp [ns]⟩,.inr (.inr rfl)⟩
 ·exact ⟨⟨by simp,by simp,by simp only;split<;>omega,by simp [ns]⟩,.inr (.inr rfl)⟩
 ·exact ⟨⟨by simp,by simp,by simp only;omega,by simp [ns]⟩,.inr (.inr rfl)⟩
 ·exact ⟨⟨by simp,by simp,hm,by simp [ns]⟩,.inr (.inr rfl)⟩
section
variable {fu d:Nat}
theorem Ks (s:ByteArray)(h:s.size<=9223372036854775807):Ad C0 Tryz.prog fu (d+1) 56 [.sc (.string s)]=some ⟨[.sc (.bool (RH s))],[]⟩:=by
 show MK [.sc (.string s)]=_;unfold MK;simp [h]
theorem IK (n lo hi:Int):Ad C0 Tryz.prog fu (d+1) Ls [.sc (.int .i64 n),.sc (.int .i64 lo),.sc (.int .i64 hi)]=some ⟨[.sc (.bool (decide (lo<=n)&&decide (n<=hi)))],[]⟩:=by
 rw [V6];by_cases h:lo<=n
 ·simp (disch:=omega) only [Bx,h,decide_true,Bool.true_and]
 ·simp (disch:=omega) only [Bx,h,decide_false,Bool.false_and]
theorem SQ (n:Int)(h0:0<=n)(h1:n<=1000):Ad C0 Tryz.prog fu (d+1) Nt [.sc (.int .i64 n)]=some ⟨[.agg [.sc (.int .i64 5),.sc (.int .u64 n),.sc (.string C1)]],[]⟩:=by
 rw [W6];have w:wrap .u64 n=n:=Ch (by omega) (by omega)
 simp only [Bx,w]
theorem XU (s:ByteArray):Ad C0 Tryz.prog fu (d+1) Ov [.sc (.string s)]=some ⟨[.agg [.sc (.int .i64 4),.sc (.int .u64 0),.sc (.string s)]],[]⟩:=by
 rw [Zw]
theorem Acc (n:Int):Ad C0 Tryz.prog fu (d+1) Lu [.sc (.int .u64 n)]=some ⟨[.agg [.sc (.int .i64 1),.sc (.int .u64 n),.sc (.string C1)]],[]⟩:=by
 rw [V5]
theorem Ak7 (l:List Int):Ad C0 Tryz.prog fu (d+1) Oq [.lst false 1 l.length (Af .u8 l)]=some ⟨[.agg [.sc (.int .i64 3),.sc (.int .u64 0),.sc (.string (Bj l))]],[]⟩:=by
 rw [AA];have L:=Al .u8 l;have bo:=Ff l;simp (disch:=omega) only [Bx,L,bo];rfl
theorem Aaw (b:Bool):Ad C0 Tryz.prog fu (d+1) Kx [.sc (.bool b)]=some ⟨[.agg [.sc (.int .i64 7),.sc (.int .u64 (if b=true then 1 else 0)),.sc (.string C1)]],[]⟩:=by
 rw [Uv];cases b<;>rfl
theorem ZS (hfu:1000<=fu){c:Ce}(hw:c.wf)(hs1:c.subj.size<=9223372036854775807)(hs2:c.iss.size<=9223372036854775807):Ad C0 Tryz.prog fu (d+5) O5 [.agg c.cells]=some ⟨Hk c,[]⟩:=by
 refine (Zp fu (d+4) c.subj c.iss c.serial c.key.h c.key.root c.fr c.un c.auth c.path c.model c.sig.leaf c.sig.chains.length (Af .u64 c.sig.chains) c.sig.path.length (Af .u64 c.sig.path)).trans ?_;have n1:=IK (fu:=fu) (d:=d+3) c.subj.size 1 32;have n2:=IK (fu:=fu) (d:=d+3) c.iss.size 1 32;have n3:=IK (fu:=fu) (d:=d+3) c.path 0 2;have v1:=Ks (fu:=fu) (d:=d+3) c.subj hs1;have v2:=Ks (fu:=fu) (d:=d+3) c.iss hs2;have ek:=Acu (fu:=fu) (d:=d+2) hfu c.key;have e90:((9:Int) != 0)=true:=rfl;have e00:((0:Int) != 0)=false:=rfl;simp only [Ky.cells] at ek;unfold Hk;by_cases e1:c.subj.size<1∨32<c.subj.size
 ·have hb:Bd c=9:=by unfold Bd;rw [Bv e1]
  have:(decide ((1:Int)<=c.subj.size)&&decide ((c.subj.size:Int)<=32))=false:=by simp;omega
  rw [this] at n1;rw [hb,Az (by omega)]
  try unfold Aa
  repeat first
   |((with_reducible first|apply At|apply Ao|apply Aq|apply A6|apply A0|apply Ba|apply Bi|apply B8|apply Am);· first|with_reducible rfl|(simp (disch:=omega) only [n1,Int.reduceEq,Bw,B5]<;>with_reducible rfl))
   |((with_reducible first|apply Ar|apply As);· first|with_reducible rfl|omega|(simp (disch:=omega) only [gT,n1,Int.reduceEq,Bw,B5]<;>omega))
   |(with_reducible apply Au;· first|with_reducible rfl|(simp (disch:=omega) only [gF,n1,Int.reduceEq,Bw,B5]<;>omega))
  try simp (disch:=omega) only [n1,Int.reduceEq,Bw,B5]
  all_goals rfl
 have q1:(decide ((1:Int)<=c.subj.size)&&decide ((c.subj.size:Int)<=32))=true:=by simp;omega
 rw [q1] at n1;by_cases e2:c.iss.size<1∨32<c.iss.size
 ·have hb:Bd c=9:=by unfold Bd;rw [Az e1,Bv e2]
  have:(decide ((1:Int)<=c.iss.size)&&decide ((c.iss.size:Int)<=32))=false:=by simp;omega
  rw [this] at n2;rw [hb,Az (by omega)]
  try unfold Aa
  repeat first
   |((with_reducible first|apply At|apply Ao|apply Aq|apply A6|apply A0|apply Ba|apply Bi|apply B8|apply Am);· first|with_reducible rfl|(simp (disch:=omega) only [n1,n2,Int.reduceEq,Bw,B5]<;>with_reducible rfl))
   |((with_reducible first|apply Ar|apply As);· first|with_reducible rfl|omega|(simp (disch:=omega) only [gT,n1,n2,Int.reduceEq,Bw,B5]<;>omega))
   |(with_reducible apply Au;· first|with_reducible rfl|(simp (disch:=omega) only [gF,n1,n2,Int.reduceEq,Bw,B5]<;>omega))
  try simp (disch:=omega) only [n1,n2,Int.reduceEq,Bw,B5]
  all_goals rfl
 have q2:(decide ((1:Int)<=c.iss.size)&&decide ((c.iss.size:Int)<=32))=true:=by simp;omega
 rw [q2] at n2;cases e3:RH c.subj
 ·have hb:Bd c=6:=by unfold Bd;rw [Az e1,Az e2,Bv e3]
  rw [e3] at v1;rw [hb,Az (by omega)]
  try unfold Aa
  repeat first
   |((with_reducible first|apply At|apply Ao|apply Aq|apply A6|apply A0|apply Ba|apply Bi|apply B8|apply Am);· first|with_reducible rfl|(simp (disch:=omega) only [n1,n2,v1,Int.reduceEq,Bw,B5]<;>with_reducible rfl))
   |((with_reducible first|apply Ar|apply As);· first|with_reducible rfl|omega|(simp (disch:=omega) only [gT,n1,n2,v1,Int.reduceEq,Bw,B5]<;>omega))
   |(with_reducible apply Au;· first|with_reducible rfl|(simp (disch:=omega) only [gF,n1,n2,v1,Int.reduceEq,Bw,B5]<;>omega))
  try simp (disch:=omega) only [n1,n2,v1,Int.reduceEq,Bw,B5]
  all_goals rfl
 rw [e3] at v1;cases e4:RH c.iss
 ·have hb:Bd c=6:=by unfold Bd;rw [Az e1,Az e2,Az (by simp [e3]),Bv e4]
  rw [e4] at v2;rw [hb,Az (by omega)]
  try unfold Aa
  repeat first
   |((with_reducible first|apply At|apply Ao|apply Aq|apply A6|apply A0|apply Ba|apply Bi|apply B8|apply Am);· first|with_reducible rfl|(simp (disch:=omega) only [n1,n2,v1,v2,Int.reduceEq,Bw,B5]<;>with_reducible rfl))
   |((with_reducible first|apply Ar|apply As);· first|with_reducible rfl|omega|(simp (disch:=omega) only [gT,n1,n2,v1,v2,Int.reduceEq,Bw,B5]<;>omega))
   |(with_reducible apply Au;· first|with_reducible rfl|(simp (disch:=omega) only [gF,n1,n2,v1,v2,Int.reduceEq,Bw,B5]<;>omega))
  try simp (disch:=omega) only [n1,n2,v1,v2,Int.reduceEq,Bw,B5]
  all_goals rfl
 rw [e4] at v2;cases e5:C4 c.key.h
 rotate_left
 ·have hb:Bd c=9:=by unfold Bd;rw [Az e1,Az e2,Az (by simp [e3]),Az (by simp [e4]),Bv e5]
  rw [e5,Bv rfl] at ek;rw [hb,Az (by omega)]
  try unfold Aa
  repeat first
   |((with_reducible first|apply At|apply Ao|apply Aq|apply A6|apply A0|apply Ba|apply Bi|apply B8|apply Am);· first|with_reducible rfl|(simp (disch:=omega) only [n1,n2,v1,v2,ek,e90,e00,Int.reduceEq,Bw,B5]<;>with_reducible rfl))
   |((with_reducible first|apply Ar|apply As);· first|with_reducible rfl|omega|(simp (disch:=omega) only [gT,n1,n2,v1,v2,ek,e90,e00,Int.reduceEq,Bw,B5]<;>omega))
   |(with_reducible apply Au;· first|with_reducible rfl|(simp (disch:=omega) only [gF,n1,n2,v1,v2,ek,e90,e00,Int.reduceEq,Bw,B5]<;>omega))
  try simp (disch:=omega) only [n1,n2,v1,v2,ek,e90,e00,Int.reduceEq,Bw,B5]
  all_goals rfl
 rw [e5,Az (by simp)] at ek
 have B0:Bd c=if c.fr<0 then 9 else if c.un<c.fr then 9 else if c.un>1099511627776 then 9 else if c.path<0∨2<c.path then 9 else if c.path≠0∧c.auth=false then 4 else 0:=by
  unfold Bd;rw [Az e1,Az e2,Az (by simp [e3]),Az (by simp [e4]),Az (by simp [e5])]
 by_cases e6:c.fr<0
 ·have hb:Bd c=9:=by rw [B0,Bv e6]
  rw [hb,Az (by omega)]
  try unfold Aa
  repeat first
   |((with_reducible first|apply At|apply Ao|apply Aq|apply A6|apply A0|apply Ba|apply Bi|apply B8|apply Am);· first|with_reducible rfl|(simp (disch:=omega) only [n1,n2,v1,v2,ek,e90,e00,Int.reduceEq,Bw,B5]<;>with_reducible rfl))
   |((with_reducible first|apply Ar|apply As);· first|with_reducible rfl|omega|(simp (disch:=omega) only [gT,n1,n2,v1,v2,ek,e90,e00,Int.reduceEq,Bw,B5]<;>omega))
   |(with_reducible apply Au;· first|with_reducible rfl|(simp (disch:=omega) only [gF,n1,n2,v1,v2,ek,e90,e00,Int.reduceEq,Bw,B5]<;>omega))
  try simp (disch:=omega) only [n1,n2,v1,v2,ek,e90,e00,Int.reduceEq,Bw,B5]
  all_goals rfl
 by_cases e7:c.un<c.fr
 ·have hb:Bd c=9:=by rw [B0,Az e6,Bv e7]
  rw [hb,Az (by omega)]
  try unfold Aa
  repeat first
   |((with_reducible first|apply At|apply Ao|apply Aq|apply A6|apply A0|apply Ba|apply Bi|apply B8|apply Am);· first|with_reducible rfl|(simp (disch:=omega) only [n1,n2,v1,v2,ek,e90,e00,Int.reduceEq,Bw,B5]<;>with_reducible rfl))
   |((with_reducible first|apply Ar|apply As);· first|with_reducible rfl|omega|(simp (disch:=omega) only [gT,n1,n2,v1,v2,ek,e90,e00,Int.reduceEq,Bw,B5]<;>omega))
   |(with_reducible apply Au;· first|with_reducible rfl|(simp (disch:=omega) only [gF,n1,n2,v1,v2,ek,e90,e00,Int.reduceEq,Bw,B5]<;>omega))
  try simp (disch:=omega) only [n1,n2,v1,v2,ek,e90,e00,Int.reduceEq,Bw,B5]
  all_goals rfl
 by_cases e8:c.un>1099511627776
 ·have hb:Bd c=9:=by rw [B0,Az e6,Az e7,Bv e8]
  rw [hb,Az (by omega)]
  try unfold Aa
  repeat first
   |((with_reducible first|apply At|apply Ao|apply Aq|apply A6|apply A0|apply Ba|apply Bi|apply B8|apply Am);· first|with_reducible rfl|(simp (disch:=omega) only [n1,n2,v1,v2,ek,e90,e00,Int.reduceEq,Bw,B5]<;>with_reducible rfl))
   |((with_reducible first|apply Ar|apply As);· first|with_reducible rfl|omega|(simp (disch:=omega) only [gT,n1,n2,v1,v2,ek,e90,e00,Int.reduceEq,Bw,B5]<;>omega))
   |(with_reducible apply Au;· first|with_reducible rfl|(simp (disch:=omega) only [gF,n1,n2,v1,v2,ek,e90,e00,Int.reduceEq,Bw,B5]<;>omega))
  try simp (disch:=omega) only [n1,n2,v1,v2,ek,e90,e00,Int.reduceEq,Bw,B5]
  all_goals rfl
 by_cases e9:c.path<0∨2<c.path
 ·have hb:Bd c=9:=by rw [B0,Az e6,Az e7,Az e8,Bv e9]
  have:(decide ((0:Int)<=c.path)&&decide (c.path<=2))=false:=by simp;omega
  rw [this] at n3;rw [hb,Az (by omega)]
  try unfold Aa
  repeat first
   |((with_reducible first|apply At|apply Ao|apply Aq|apply A6|apply A0|apply Ba|apply Bi|apply B8|apply Am);· first|with_reducible rfl|(simp (disch:=omega) only [n1,n2,v1,v2,ek,e90,e00,n3,Int.reduceEq,Bw,B5]<;>with_reducible rfl))
   |((with_reducible first|apply Ar|apply As);· first|with_reducible rfl|omega|(simp (disch:=omega) only [gT,n1,n2,v1,v2,ek,e90,e00,n3,Int.reduceEq,Bw,B5]<;>omega))
   |(with_reducible apply Au;· first|with_reducible rfl|(simp (disch:=omega) only [gF,n1,n2,v1,v2,ek,e90,e00,n3,Int.reduceEq,Bw,B5]<;>omega))
  try simp (disch:=omega) only [n1,n2,v1,v2,ek,e90,e00,n3,Int.reduceEq,Bw,B5]
  all_goals rfl
 have q9:(decide ((0:Int)<=c.path)&&decide (c.path<=2))=true:=by simp;omega
 rw [q9] at n3;by_cases e10:c.path≠0∧c.auth=false
 ·have hb:Bd c=4:=by rw [B0,Az e6,Az e7,Az e8,Az e9,Bv e10]
  have ea:=e10.2;have ep:(c.path != 0)=true:=by simp [e10.1]
  rw [hb,Az (by omega)]
  try unfold Aa
  repeat first
   |((with_reducible first|apply At|apply Ao|apply Aq|apply A6|apply A0|apply Ba|apply Bi|apply B8|apply Am);· first|with_reducible rfl|(simp (disch:=omega) only [n1,n2,v1,v2,ek,e90,e00,n3,ep,ea,Int.reduceEq,Bw,B5]<;>with_reducible rfl))
   |((with_reducible first|apply Ar|apply As);· first|with_reducible rfl|omega|(simp (disch:=omega) only [gT,n1,n2,v1,v2,ek,e90,e00,n3,ep,ea,Int.reduceEq,Bw,B5]<;>omega))
   |(with_reducible apply Au;· first|with_reducible rfl|(simp (disch:=omega) only [gF,n1,n2,v1,v2,ek,e90,e00,n3,ep,ea,Int.reduceEq,Bw,B5]<;>omega))
  try simp (disch:=omega) only [n1,n2,v1,v2,ek,e90,e00,n3,ep,ea,Int.reduceEq,Bw,B5]
  all_goals rfl
 have hb:Bd c=0:=by rw [B0,Az e6,Az e7,Az e8,Az e9,Az e10]
 rw [hb,Bv rfl];have a0:=SQ (fu:=fu) (d:=d+3) 9 (by omega) (by omega)
 have t1:=XU (fu:=fu) (d:=d+3) c.subj;have t2:=XU (fu:=fu) (d:=d+3) c.iss;have nu:=fun n=>Acc (fu:=fu) (d:=d+3) n
 have da:=Ak7 (fu:=fu) (d:=d+3) (I7 c.key);have k9:(I7 c.key).length=9:=rfl;rw [k9] at da;have bo:=Aaw (fu:=fu) (d:=d+3) c.auth;have wf:wrap .u64 c.fr=c.fr:=Ch (by omega) (by omega)
 have wu:wrap .u64 c.un=c.un:=Ch (by omega) (by omega)
 have wp:wrap .u64 c.path=c.path:=Ch (by omega) (by omega)
 have bi:=Agg (fu:=fu) (d:=d) (CA hw hb) (by simp [A9]) hfu
 have L9:=Al .u8 (I7 c.key);rw [k9] at L9;have tk9:List.take 9 (Af .u8 (I7 c.key))=Af .u8 (I7 c.key):=Jv (by omega)
 have LB:=Al .u8 (Bb (A9 c));have tB:=Ii .u8 (Bb (A9 c));generalize Bb (A9 c)=W at bi LB tB ⊢;simp only [A9,Bl,List.flatMap_cons,List.flatMap_nil,It.cells,List.cons_append,Zzq,List.append_nil,Kb,ED,Ck,Nat.reduceAdd] at bi;have w0:wrap .u64 (0:Int)=0:=rfl;by_cases ep:c.path=0
 ·rw [ep] at bi n3
  try unfold Aa
  repeat first
   |((with_reducible first|apply At|apply Ao|apply Aq|apply A6|apply A0|apply Ba|apply Bi|apply B8|apply Am);· first|with_reducible rfl|(simp (disch:=omega) only [n1,n2,v1,v2,ek,e90,e00,n3,ep,w0,a0,t1,t2,nu,Bz,Ck,Di,L9,tk9,da,wf,wu,bo,bi,LB,tB,Int.reduceEq,Bw,B5]<;>with_reducible rfl))
   |((with_reducible first|apply Ar|apply As);· first|with_reducible rfl|omega|(simp (disch:=omega) only [gT,n1,n2,v1,v2,ek,e90,e00,n3,ep,w0,a0,t1,t2,nu,Bz,Ck,Di,L9,tk9,da,wf,wu,bo,bi,LB,tB,Int.reduceEq,Bw,B5]<;>omega))
   |(with_reducible apply Au;· first|with_reducible rfl|(simp (disch:=omega) only [gF,n1,n2,v1,v2,ek,e90,e00,n3,ep,w0,a0,t1,t2,nu,Bz,Ck,Di,L9,tk9,da,wf,wu,bo,bi,LB,tB,Int.reduceEq,Bw,B5]<;>omega))
  try simp (disch:=omega) only [n1,n2,v1,v2,ek,e90,e00,n3,ep,w0,a0,t1,t2,nu,Bz,Ck,Di,L9,tk9,da,wf,wu,bo,bi,LB,tB,Int.reduceEq,Bw,B5]
  all_goals rfl
 ·have ea:c.auth=true:=by
   cases h:c.auth
   ·exact absurd ⟨ep,h⟩ e10
   ·rfl
  rw [ea,Bv rfl] at bo bi;have ep:(c.path != 0)=true:=by simp [ep]
  try unfold Aa
  repeat first
   |((with_reducible first|apply At|apply Ao|apply Aq|apply A6|apply A0|apply Ba|apply Bi|apply B8|apply Am);· first|with_reducible rfl|(simp (disch:=omega) only [n1,n2,v1,v2,ek,e90,e00,n3,ep,ea,a0,t1,t2,nu,Bz,Ck,Di,L9,tk9,da,wf,wu,wp,bo,bi,LB,tB,Int.reduceEq,Bw,B5]<;>with_reducible rfl))
   |((with_reducible first|apply Ar|apply As);· first|with_reducible rfl|omega|(simp (disch:=omega) only [gT,n1,n2,v1,v2,ek,e90,e00,n3,ep,ea,a0,t1,t2,nu,Bz,Ck,Di,L9,tk9,da,wf,wu,wp,bo,bi,LB,tB,Int.reduceEq,Bw,B5]<;>omega))
   |(with_reducible apply Au;· first|with_reducible rfl|(simp (disch:=omega) only [gF,n1,n2,v1,v2,ek,e90,e00,n3,ep,ea,a0,t1,t2,nu,Bz,Ck,Di,L9,tk9,da,wf,wu,wp,bo,bi,LB,tB,Int.reduceEq,Bw,B5]<;>omega))
  try simp (disch:=omega) only [n1,n2,v1,v2,ek,e90,e00,n3,ep,ea,a0,t1,t2,nu,Bz,Ck,Di,L9,tk9,da,wf,wu,wp,bo,bi,LB,tB,Int.reduceEq,Bw,B5]
  all_goals rfl
end
end
section
open Go.IntKind (wrap)
def GJ (s:Sg):Int:=if C4 s.path.length=true then 9 else if Hp s.leaf s.path.length=true then 9 else if s.chains.length≠18 then 4 else 0
def Dn (c:Ce):Int:=if Bd c=0 then GJ c.sig else Bd c
def En (c:Ce):List Int:=Bb (A9 c)++Sm c.sig
def Uo (c:Ce):List PV:=if Dn c=0 then [.own 1 (En c).length (Af .u8 (En c)),.sc (.int .i64 0)] else [.own 1 0 [],.sc (.int .i64 (Dn c))]
def M8 (c:Ce):Int:=Ol 14 (Bb (A9 c))
def IC (c:Ce)(k:Ky):Int:=if Bd c=0 then Aaf k (M8 c) c.sig else Bd c
def V0:Ce:=⟨C1,C1,0,⟨0,0⟩,0,0,false,0,0,⟨0,[],[]⟩⟩
def Qd (c:Ce)(seed h leaf:Int):Ce × Int:=
 if Bd c=0 then (match EM seed h leaf (M8 c) with|some s=>({ c with sig:=s },0)|none=>(V0,9)) else (V0,Bd c)
theorem Js {c:Ce}(h:Bd c=0):(Bb (A9 c)).length<=200:=by
 have k9:(Bj (I7 c.key)).size=9:=by rw [Ek];rfl
 have ns:C1.size=0:=rfl;unfold Bd at h
 have hs:c.subj.size<=32∧c.iss.size<=32:=by
  split at h
  ·cases h
  ·split at h
   ·cases h
   ·omega
 have e:Bb (A9 c)=Bp ⟨5,9,C1⟩++(Bp ⟨4,0,c.subj⟩++(Bp ⟨4,0,c.iss⟩++(Bp ⟨1,c.serial,C1⟩++(Bp ⟨3,0,Bj (I7 c.key)⟩++(Bp ⟨1,c.fr,C1⟩++(Bp ⟨1,c.un,C1⟩++(Bp ⟨7,(if c.auth=true then 1 else 0),C1⟩++(Bp ⟨1,c.path,C1⟩++(Bp ⟨1,c.model,C1⟩++[]))))))))):=rfl
 rw [e];simp only [Hz,ED];have i1:=G3 ⟨5,9,C1⟩;have i2:=G3 ⟨4,0,c.subj⟩;have i3:=G3 ⟨4,0,c.iss⟩;have i4:=G3 ⟨1,c.serial,C1⟩;have i5:=G3 ⟨3,0,Bj (I7 c.key)⟩;have i6:=G3 ⟨1,c.fr,C1⟩;have i7:=G3 ⟨1,c.un,C1⟩;have i8:=G3 ⟨7,(if c.auth=true then 1 else 0),C1⟩
 have i9:=G3 ⟨1,c.path,C1⟩;have i0:=G3 ⟨1,c.model,C1⟩;simp only [ns,k9] at i1 i2 i3 i4 i5 i6 i7 i8 i9 i0;omega
theorem HB {c:Ce}(hw:c.wf)(h:Bd c=0):Hg (Bb (A9 c)):=by
 intro y hy;obtain ⟨x,hx,hy⟩:=List.mem_flatMap.1 hy;have:=(CA hw h x hx).1;exact Aeq this.k1 this.k8 this.n0 y hy
theorem TN {seed h leaf m:Int}{s:Sg}(e:EM seed h leaf m=some s):s.chains.length=18∧s.path.length<=4:=by
 unfold EM at e;split at e
 ·cases e
 ·rename_i hh;split at e
  ·cases e
  ·cases e;have:=H7 (by simpa using hh)
   simp [Jc];omega
section
variable {fu d:Nat} {c:Ce}
theorem Aea (hfu:1000<=fu)(hw:c.wf)(hs1:c.subj.size<=9223372036854775807)(hs2:c.iss.size<=9223372036854775807)(hp:c.sig.path.length<=1000000000):Ad C0 Tryz.prog fu (d+6) L8 [.agg c.cells]=some ⟨Uo c,[]⟩:=by
 refine (Wh fu (d+5) c.subj c.iss c.serial c.key.h c.key.root c.fr c.un c.auth c.path c.model c.sig.leaf c.sig.chains.length (Af .u64 c.sig.chains) c.sig.path.length (Af .u64 c.sig.path)).trans ?_;have bq:=ZS (fu:=fu) (d:=d) hfu hw hs1 hs2;simp only [Ce.cells] at bq;have es:=Acv (fu:=fu) (d:=d+3) hfu c.sig hp;simp only [Sg.cells] at es;unfold Hk at bq;unfold Uo Dn;by_cases h0:Bd c=0
 ·have lb:=Js h0;rw [Bv h0] at bq;rw [Bv h0];have L1:=Al .u8 (Bb (A9 c));have t1:=Ii .u8 (Bb (A9 c));have e00:((0:Int) != 0)=false:=rfl;have e90:((9:Int) != 0)=true:=rfl;have e40:((4:Int) != 0)=true:=rfl;unfold GJ;by_cases g1:C4 c.sig.path.length=true
  ·rw [Bv g1] at es;rw [Bv g1,Az (by omega)]
   try unfold Aa
   repeat first
    |((with_reducible first|apply At|apply Ao|apply Aq|apply Ba|apply Bi|apply Am);· first|with_reducible rfl|(simp (disch:=omega) only [bq,es,e00,e90]<;>with_reducible rfl))
    |((with_reducible first|apply Ar|apply As);· first|with_reducible rfl|omega|(simp (disch:=omega) only [gT,bq,es,e00,e90]<;>omega))
    |(with_reducible apply Au;· first|with_reducible rfl|(simp (disch:=omega) only [gF,bq,es,e00,e90]<;>omega))
   try simp (disch:=omega) only [bq,es,e00,e90]
   all_goals rfl
  rw [Az g1] at es;rw [Az g1];by_cases g2:Hp c.sig.leaf c.sig.path.length=true
  ·rw [Bv g2] at es;rw [Bv g2,Az (by omega)]
   try unfold Aa
   repeat first
    |((with_reducible first|apply At|apply Ao|apply Aq|apply Ba|apply Bi|apply Am);· first|with_reducible rfl|(simp (disch:=omega) only [bq,es,e00,e90]<;>with_reducible rfl))
    |((with_reducible first|apply Ar|apply As);· first|with_reducible rfl|omega|(simp (disch:=omega) only [gT,bq,es,e00,e90]<;>omega))
    |(with_reducible apply Au;· first|with_reducible rfl|(simp (disch:=omega) only [gF,bq,es,e00,e90]<;>omega))
   try simp (disch:=omega) only [bq,es,e00,e90]
   all_goals rfl
  rw [Az g2] at es;rw [Az g2];by_cases g3:c.sig.chains.length≠18
  ·rw [Bv g3] at es;rw [Bv g3,Az (by omega)]
   try unfold Aa
   repeat first
    |((with_reducible first|apply At|apply Ao|apply Aq|apply Ba|apply Bi|apply Am);· first|with_reducible rfl|(simp (disch:=omega) only [bq,es,e00,e40]<;>with_reducible rfl))
    |((with_reducible first|apply Ar|apply As);· first|with_reducible rfl|omega|(simp (disch:=omega) only [gT,bq,es,e00,e40]<;>omega))
    |(with_reducible apply Au;· first|with_reducible rfl|(simp (disch:=omega) only [gF,bq,es,e00,e40]<;>omega))
   try simp (disch:=omega) only [bq,es,e00,e40]
   all_goals rfl
  rw [Az g3] at es;rw [Az g3,Bv rfl];have hb4:=H7 (h:=c.sig.path.length) (by simpa using g1)
  have ls:(Sm c.sig).length=2+8*c.sig.chains.length+8*c.sig.path.length:=by
   unfold Sm;simp only [Kb,Hz,Cy];omega
  have L2:=Al .u8 (Sm c.sig);have t2:=Ii .u8 (Sm c.sig)
  have ea:Af .u8 (Bb (A9 c))++Af .u8 (Sm c.sig)=Af .u8 (En c):=by
   unfold En;rw [Af,Af,Af,List.flatMap_append]
  have le:(En c).length=(Bb (A9 c)).length+(Sm c.sig).length:=by unfold En;rw [Hz]
  have L3:=Al .u8 (En c);have t3:List.take ((Bb (A9 c)).length+(Sm c.sig).length) (Af .u8 (En c))=Af .u8 (En c):=Jv (by omega)
  rw [le] at L3 ⊢;generalize (Bb (A9 c)).length=n1 at *
  generalize (Sm c.sig).length=n2 at *
  generalize Af .u8 (Bb (A9 c))=c1 at *
  generalize Af .u8 (Sm c.sig)=c2 at *
  try unfold Aa
  repeat first
   |((with_reducible first|apply At|apply Ao|apply Aq|apply Ba|apply Bi|apply Am);· first|with_reducible rfl|(simp (disch:=omega) only [bq,es,e00,Bz,Ck,Di,L1,t1,L2,t2,ea,L3,t3]<;>with_reducible rfl))
   |((with_reducible first|apply Ar|apply As);· first|with_reducible rfl|omega|(simp (disch:=omega) only [gT,bq,es,e00,Bz,Ck,Di,L1,t1,L2,t2,ea,L3,t3]<;>omega))
   |(with_reducible apply Au;· first|with_reducible rfl|(simp (disch:=omega) only [gF,bq,es,e00,Bz,Ck,Di,L1,t1,L2,t2,ea,L3,t3]<;>omega))
  try simp (disch:=omega) only [bq,es,e00,Bz,Ck,Di,L1,t1,L2,t2,ea,L3,t3]
  all_goals rfl
 ·have hne:(Bd c != 0)=true:=by simp [h0]
  rw [Az h0] at bq;rw [Az h0,Az h0]
  try unfold Aa
  repeat first
   |((with_reducible first|apply At|apply Ao|apply Aq|apply Ba|apply Bi|apply Am);· first|with_reducible rfl|(simp (disch:=omega) only [bq,hne]<;>with_reducible rfl))
   |((with_reducible first|apply Ar|apply As);· first|with_reducible rfl|omega|(simp (disch:=omega) only [gT,bq,hne]<;>omega))
   |(with_reducible apply Au;· first|with_reducible rfl|(simp (disch:=omega) only [gF,bq,hne]<;>omega))
  try simp (disch:=omega) only [bq,hne]
  all_goals rfl
theorem Ahg (hfu:1000<=fu)(hw:c.wf)(hs1:c.subj.size<=9223372036854775807)(hs2:c.iss.size<=9223372036854775807)(seed h leaf:Int):Ad C0 Tryz.prog fu (d+13) Oi [.agg c.cells,.sc (.int .u64 seed),.sc (.int .i64 h),.sc (.int .i64 leaf)]=some ⟨[.agg (Qd c seed h leaf).1.cells,.sc (.int .i64 (Qd c seed h leaf).2)],[]⟩:=by
 refine (Zt fu (d+12) c.subj c.iss c.serial c.key.h c.key.root c.fr c.un c.auth c.path c.model c.sig.leaf c.sig.chains.length (Af .u64 c.sig.chains) c.sig.path.length (Af .u64 c.sig.path) seed h leaf).trans ?_;have bq:=ZS (fu:=fu) (d:=d+7) hfu hw hs1 hs2;simp only [Ce.cells] at bq;unfold Hk at bq;unfold Qd;by_cases h0:Bd c=0
 ·have lb:=Js h0;rw [Bv h0] at bq;rw [Bv h0];have e00:((0:Int) != 0)=false:=rfl;have e90:((9:Int) != 0)=true:=rfl;have hh:=Aae (xs:=Is) (fu:=fu) (d:=d+8) (HB hw h0) (by omega) (by omega) (by omega) 14
  have sg:=Ala (fu:=fu) (d:=d) hfu seed h leaf (M8 c);have eW:Ol 14 (Bb (A9 c))=M8 c:=rfl;rw [eW] at hh;have L1:=Al .u8 (Bb (A9 c));have t1:=Ii .u8 (Bb (A9 c));generalize (Bb (A9 c)).length=n1 at *
  generalize Af .u8 (Bb (A9 c))=c1 at *
  cases hs:EM seed h leaf (M8 c) with
  |none=>
   rw [hs] at sg;simp only [WB,Sg.owned,ED] at sg
   try unfold Aa
   repeat first
    |((with_reducible first|apply At|apply Ao|apply Aq|apply Ba|apply Bi|apply Am);· first|with_reducible rfl|(simp (disch:=omega) only [bq,e00,e90,Bz,Ck,Di,L1,t1,hh,sg]<;>with_reducible rfl))
    |((with_reducible first|apply Ar|apply As);· first|with_reducible rfl|omega|(simp (disch:=omega) only [gT,bq,e00,e90,Bz,Ck,Di,L1,t1,hh,sg]<;>omega))
    |(with_reducible apply Au;· first|with_reducible rfl|(simp (disch:=omega) only [gF,bq,e00,e90,Bz,Ck,Di,L1,t1,hh,sg]<;>omega))
   try simp (disch:=omega) only [bq,e00,e90,Bz,Ck,Di,L1,t1,hh,sg]
   all_goals rfl
  |some s=>
   rw [hs] at sg;simp only [WB,Sg.owned] at sg;have hl:=TN hs;have La:=Al .u64 s.chains;have Lb:=Al .u64 s.path;have ta:=Ii .u64 s.chains;have tb:=Ii .u64 s.path
   try unfold Aa
   repeat first
    |((with_reducible first|apply At|apply Ao|apply Aq|apply Ba|apply Bi|apply Am);· first|with_reducible rfl|(simp (disch:=omega) only [bq,e00,Bz,Ck,Di,L1,t1,hh,sg,La,Lb,ta,tb]<;>with_reducible rfl))
    |((with_reducible first|apply Ar|apply As);· first|with_reducible rfl|omega|(simp (disch:=omega) only [gT,bq,e00,Bz,Ck,Di,L1,t1,hh,sg,La,Lb,ta,tb]<;>omega))
    |(with_reducible apply Au;· first|with_reducible rfl|(simp (disch:=omega) only [gF,bq,e00,Bz,Ck,Di,L1,t1,hh,sg,La,Lb,ta,tb]<;>omega))
   try simp (disch:=omega) only [bq,e00,Bz,Ck,Di,L1,t1,hh,sg,La,Lb,ta,tb]
   all_goals rfl
 ·have hne:(Bd c != 0)=true:=by simp [h0]
  rw [Az h0] at bq;rw [Az h0]
  try unfold Aa
  repeat first
   |((with_reducible first|apply At|apply Ao|apply Aq|apply Ba|apply Bi|apply Am);· first|with_reducible rfl|(simp (disch:=omega) only [bq,hne]<;>with_reducible rfl))
   |((with_reducible first|apply Ar|apply As);· first|with_reducible rfl|omega|(simp (disch:=omega) only [gT,bq,hne]<;>omega))
   |(with_reducible apply Au;· first|with_reducible rfl|(simp (disch:=omega) only [gF,bq,hne]<;>omega))
  try simp (disch:=omega) only [bq,hne]
  all_goals rfl
end
end
section
open Go.IntKind (wrap)
structure G8 where
 p:Bool
 left:Int
 last:List Int
def G8.cells (f:G8):List PV:=[.sc (.bool f.p),.sc (.int .i64 f.left),.lst false 1 f.last.length (Af .u8 f.last)]
def Fc (l:List G8):List PV:=l.flatMap G8.cells
theorem G8.cells_len (f:G8):f.cells.length=3:=rfl
theorem Df (l:List G8):(Fc l).length=l.length*3:=WO G8.cells_len l
theorem Du (l:List G8):List.take (l.length*3) (Fc l)=Fc l:=Jv (by rw [Df];omega)
def Sl (l:List G8):Bool:=match l.getLast? with|some f=>f.p&&(Int.tmod f.left 2==0)|none=>false
def Jm (l:List G8)(cnt k:Int):Int:=
 if cnt>=512 then 8 else if k<1 then 3 else if k>8 then 3 else if Sl l=true∧k≠1∧k≠2∧k≠4 then 3 else if (l.length:Int)>8 then 5 else 0
abbrev Lj (l:List G8)(cnt:Int):List PV:=[.own 3 l.length (Fc l),.sc (.int .i64 cnt)]
section
variable {fu d:Nat}
theorem XM (l:List G8)(cnt:Int):Ad C0 Tryz.prog fu (d+1) Tk [.pbox (Lj l cnt)]=some ⟨[.sc (.bool (decide (cnt>0)&&((l.length:Int)==0)))],[Lj l cnt]⟩:=by
 rw [GM];have L:=Df l;have t:=Du l;by_cases h:cnt>0
 ·simp (disch:=omega) only [Bx,h,decide_true,Bool.true_and,L,t]
 ·simp (disch:=omega) only [Bx,h,decide_false,Bool.false_and,L,t]
theorem MI {l:List G8}(hl:l.length<=1000000)(cnt:Int):Ad C0 Tryz.prog fu (d+1) Rw [.pbox (Lj l cnt)]=some ⟨[.sc (.bool (Sl l))],[Lj l cnt]⟩:=by
 rw [GF];have L:=Df l;have t:=Du l;unfold Sl;rcases List.eq_nil_or_concat l with rfl|⟨l',f,rfl⟩
 ·have e0:¬(((([]:List G8).length:Nat):Int)>0):=by simp
  simp (disch:=first|assumption|omega) only [Bx,L,t]
  first|done|rfl
 ·have hn:(l'.concat f).length=l'.length+1:=by simp
  have hx:(l'.concat f)[l'.length]?=some f:=by simp
  have gl:(l'.concat f).getLast?=some f:=by simp
  have w:wrap .i64 (((l'.concat f).length:Int)-1)=(l'.length:Int):=by rw [Ak (by omega) (by omega)];omega
  have g0:(Fc (l'.concat f)).getD (l'.length*3) .top=.sc (.bool f.p):=Ep G8.cells_len hx (j:=0) (by omega)
  have g1:(Fc (l'.concat f)).getD (l'.length*3+1) .top=.sc (.int .i64 f.left):=Ep G8.cells_len hx (j:=1) (by omega)
  rw [gl];cases hp:f.p
  ·rw [hp] at g0;simp (disch:=omega) only [Bx,w,Hi,Ck,QH,g0,L,t,hp,Bool.false_and]
  ·rw [hp] at g0;simp (disch:=omega) only [Bx,w,Hi,Ck,QH,g0,g1,L,t,hp,Bool.true_and]
theorem ZD {l:List G8}(hl:l.length<=1000000)(cnt k:Int):Ad C0 Tryz.prog fu (d+2) R2 [.pbox (Lj l cnt),.sc (.int .i64 k)]=some ⟨[.sc (.int .i64 (Jm l cnt k))],[Lj l cnt]⟩:=by
 refine (FL fu (d+1) l.length (Fc l) cnt k).trans ?_;have L:=Df l;have t:=Du l;have ak:=MI (fu:=fu) (d:=d) hl cnt;unfold Lj at ak;unfold Jm;by_cases c1:cnt>=512
 ·rw [Bv c1];simp (disch:=omega) only [Bx,L,t]
 rw [Az c1];by_cases c2:k<1
 ·rw [Bv c2];simp (disch:=omega) only [Bx,L,t]
 rw [Az c2];by_cases c3:k>8
 ·rw [Bv c3];simp (disch:=omega) only [Bx,L,t]
 rw [Az c3];cases ha:Sl l
 ·rw [ha] at ak;rw [Az (by simp)]
  by_cases c5:(l.length:Int)>8
  ·rw [Bv c5];simp (disch:=omega) only [Bx,L,t,ak]
  ·rw [Az c5];simp (disch:=omega) only [Bx,L,t,ak]
 ·rw [ha] at ak;by_cases c4:k≠1∧k≠2∧k≠4
  ·rw [Bv ⟨rfl,c4⟩];simp (disch:=omega) only [Bx,L,t,ak,D6];rw [Az c4.1,Az c4.2.1,Az c4.2.2]
  ·rw [Az (fun h=>c4 h.2)]
   have hk:k=1∨k=2∨k=4:=by omega
   by_cases c5:(l.length:Int)>8
   ·rw [Bv c5];rcases hk with rfl|rfl|rfl<;>simp (disch:=omega) only [Bx,L,t,ak,D6,Int.reduceEq,if_true,if_false]
   ·rw [Az c5];rcases hk with rfl|rfl|rfl<;>simp (disch:=omega) only [Bx,L,t,ak,D6,Int.reduceEq,if_true,if_false]
end
end
section
open Go.IntKind (wrap)
theorem Nh (l:List G8):l=[]∨∃l' f,l=l'++[f]:=by
 rcases List.eq_nil_or_concat l with h|⟨a,b,h⟩
 ·exact .inl h
 ·exact .inr ⟨a,b,by simpa using h⟩
def HI (l:List G8):List G8:=(l.reverse.dropWhile fun f=>f.left==0).reverse
theorem TC {l:List G8}{f:G8}(h:f.left=0):HI (l++[f])=HI l:=by
 unfold HI;rw [List.reverse_append,List.reverse_singleton,List.singleton_append,List.dropWhile_cons_of_pos (by simp [h])]
theorem OR {l:List G8}{f:G8}(h:f.left≠0):HI (l++[f])=l++[f]:=by
 unfold HI;rw [List.reverse_append,List.reverse_singleton,List.singleton_append,List.dropWhile_cons_of_neg (by simp [h])]
 simp
def PK (l:List G8):List G8:=match l.getLast? with|some f=>l.dropLast++[⟨f.p,wrap .i64 (f.left-1),f.last⟩]|none=>[]
def UO (l:List G8)(x:It):List G8:=
 if x.k=5∧x.n>0 then l++[⟨false,wrap .i64 x.n,[]⟩] else if x.k=6∧x.n>0 then l++[⟨true,wrap .i64 (2*wrap .i64 x.n),[]⟩] else l
def Fu (l:List G8)(x:It):List G8:=HI (UO (PK l) x)
theorem Xi (l:List G8)(f:G8):PK (l++[f])=l++[⟨f.p,wrap .i64 (f.left-1),f.last⟩]:=by
 unfold PK;simp
theorem PA (l:List G8):(PK l).length=l.length:=by
 rcases Nh l with rfl|⟨l',f,rfl⟩
 ·rfl
 ·rw [Xi];simp
theorem Tu (a b:List G8):Fc (a++b)=Fc a++Fc b:=by
 unfold Fc;rw [List.flatMap_append]
theorem Tb (f:G8):Fc [f]=f.cells:=by
 unfold Fc;simp
section
variable {fu d:Nat}
theorem TK {call:Ah}{a0_0n:Nat}{a0_0:List PV}{a0_1 a1_0 a1_1:Int}{a1_2:ByteArray}{c:Int}:∀(n:Nat)(l:List G8)(r:List PV)(nn:Nat),l.length=n->n<nn->n<=1000000 ->
  Bf fu call a0_0n a0_0 a0_1 a1_0 a1_1 a1_2 nn (l.length:Int) l.length c (Fc l++r)=some ⟨[],[Lj (HI l) c]⟩:=by
 intro n
 induction n with
 |zero=>
  intro l r nn hl hn _;obtain rfl:l=[]:=List.eq_nil_of_length_eq_zero hl;obtain ⟨m,rfl⟩:∃m,nn=m+1:=⟨nn-1,by omega⟩
  have e0:¬(((([]:List G8).length:Nat):Int)>0):=by simp
  have e1:([]:List G8).length*3<=(Fc []++r).length:=by simp
  rw [O8];simp (disch:=first|assumption|omega) only [Bx];rfl
 |succ n ih=>
  intro l r nn hl hn hm;obtain ⟨m,rfl⟩:∃m,nn=m+1:=⟨nn-1,by omega⟩
  rcases Nh l with rfl|⟨l',f,rfl⟩
  ·simp at hl
  have hn':(l'++[f]).length=l'.length+1:=by simp
  have hx:(l'++[f])[l'.length]?=some f:=by simp
  have w:wrap .i64 (((l'++[f]).length:Int)-1)=(l'.length:Int):=by rw [Ak (by omega) (by omega)];omega
  have L:=Df (l'++[f]);have L2:(Fc (l'++[f])++r).length=(l'++[f]).length*3+r.length:=by rw [Hz,L]
  have t:List.take ((l'++[f]).length*3) (Fc (l'++[f])++r)=Fc (l'++[f]):=by rw [←L,List.take_left'];rfl
  have g1:(Fc (l'++[f])++r).getD (l'.length*3+1) .top=.sc (.int .i64 f.left):=by
   have:=Ep (f:=G8.cells) G8.cells_len hx (j:=1) (by omega)
   rw [List.getD_eq_getElem?_getD,List.getElem?_append_left (by rw [L];omega),←List.getD_eq_getElem?_getD]
   exact this
  rw [O8];by_cases hz:f.left=0
  ·have e:Fc (l'++[f])++r=Fc l'++(f.cells++r):=by rw [Tu,Tb,Zzv]
   have q:=ih l' (f.cells++r) m (by omega) (by omega) (by omega)
   rw [←e] at q;rw [TC hz];have hb:(f.left==(0:Int))=true:=by simp [hz]
   simp (disch:=omega) only [Bx,w,Hi,Ck,Nat.sub_zero,g1,hb,q]
  ·rw [OR hz];have hb:(f.left==(0:Int))=false:=by simp [hz]
   simp (disch:=omega) only [Bx,w,Hi,Ck,g1,hb,L2,t]
theorem Afh {l:List G8}{x:It}{cnt:Int}(hl:l.length<=100000)(hf:l.length+1<fu)(h0:0<=cnt)(h1:cnt<=1000000):
  Ad C0 Tryz.prog fu (d+1) Tx [.pbox (Lj l cnt),.agg x.cells]=some ⟨[],[Lj (Fu l x) (cnt+1)]⟩:=by
 obtain ⟨k,v,s⟩:=x;refine (HL fu d l.length (Fc l) cnt k v s).trans ?_;have w1:wrap .i64 (cnt+1)=cnt+1:=Ak (by omega) (by omega)
 unfold Fu UO;have DL:=PA l;generalize hD:PK l=l1 at DL ⊢;have L1:(Fc l1).length=l.length*3:=by rw [Df,DL]
 have t1:List.take (l.length*3) (Fc l1)=Fc l1:=Jv (by omega)
 have p5:∀b u,Fc l1++[.sc (.bool b),.sc (.int .i64 u),.lst false 1 0 []]=Fc (l1++[⟨b,u,[]⟩]):=by
  intro b u;rw [Tu,Tb];rfl
 have lp0:∀call,Bf fu call l.length (Fc l) cnt k v s fu (l.length:Int) l.length (cnt+1) (Fc l1)=some ⟨[],[Lj (HI l1) (cnt+1)]⟩:=by
  intro call;have:=TK (fu:=fu) (call:=call) (a0_0n:=l.length) (a0_0:=Fc l) (a0_1:=cnt) (a1_0:=k) (a1_1:=v) (a1_2:=s) (c:=cnt+1) _ l1 [] fu rfl (by omega) (by omega)
  rw [List.append_nil,DL] at this;exact this
 have lp1:∀call f,Bf fu call l.length (Fc l) cnt k v s fu ((l.length+1:Nat):Int) (l.length+1) (cnt+1) (Fc (l1++[f]))=some ⟨[],[Lj (HI (l1++[f])) (cnt+1)]⟩:=by
  intro call f;have ll:(l1++[f]).length=l.length+1:=by simp [DL]
  have:=TK (fu:=fu) (call:=call) (a0_0n:=l.length) (a0_0:=Fc l) (a0_1:=cnt) (a1_0:=k) (a1_1:=v) (a1_2:=s) (c:=cnt+1) _ (l1++[f]) [] fu rfl (by omega) (by omega)
  rw [List.append_nil,ll] at this;exact this
 rcases Nh l with rfl|⟨l',f,rfl⟩
 ·have e0:¬(((([]:List G8).length:Nat):Int)>0):=by simp
  obtain rfl:l1=[]:=by rw [←hD];rfl
  by_cases k5:k=5
  ·subst k5;by_cases hv:v>0
   ·rw [Bv ⟨rfl,hv⟩];simp (disch:=first|assumption|omega) only [Bx,w1,L1,t1,p5,lp1,Int.reduceBEq]
   ·rw [Az (fun h=>hv h.2),Az (fun h=>hv h.2)]
    simp (disch:=first|assumption|omega) only [Bx,w1,L1,t1,p5,lp0,Int.reduceBEq]
  ·have b5:(k==(5:Int))=false:=by simp [k5]
   rw [Az (fun h=>k5 h.1)]
   by_cases k6:k=6
   ·subst k6;by_cases hv:v>0
    ·rw [Bv ⟨rfl,hv⟩];simp (disch:=first|assumption|omega) only [Bx,w1,L1,t1,p5,lp1,Int.reduceBEq]
    ·rw [Az (fun h=>hv h.2)]
     simp (disch:=first|assumption|omega) only [Bx,w1,L1,t1,p5,lp0,Int.reduceBEq]
   ·have b6:(k==(6:Int))=false:=by simp [k6]
    rw [Az (fun h=>k6 h.1)]
    simp (disch:=first|assumption|omega) only [Bx,w1,L1,t1,p5,lp0,b5,b6]
 ·have hn':(l'++[f]).length=l'.length+1:=by simp
  have hx:(l'++[f])[l'.length]?=some f:=by simp
  have w:wrap .i64 (((l'++[f]).length:Int)-1)=(l'.length:Int):=by rw [Ak (by omega) (by omega)];omega
  have L:=Df (l'++[f]);have g1:(Fc (l'++[f])).getD (l'.length*3+1) .top=.sc (.int .i64 f.left):=Ep G8.cells_len hx (j:=1) (by omega)
  have sp:Bo (Fc (l'++[f])) [.sc (.int .i64 (wrap .i64 (f.left-1)))] (l'.length*3+1)=Fc l1:=by
   rw [Fj (by omega),←hD,Xi,Tu,Tu,Tb,Tb]
   have:=Df l';rw [List.set_append_right _ _ (by omega)]
   have:l'.length*3+1-(Fc l').length=1:=by omega
   rw [this];rfl
  by_cases k5:k=5
  ·subst k5;by_cases hv:v>0
   ·rw [Bv ⟨rfl,hv⟩];simp (disch:=first|assumption|omega) only [Bx,w,w1,Hi,Ck,g1,sp,L1,t1,p5,lp1,Int.reduceBEq]
   ·rw [Az (fun h=>hv h.2),Az (fun h=>hv h.2)]
    simp (disch:=first|assumption|omega) only [Bx,w,w1,Hi,Ck,g1,sp,L1,t1,p5,lp0,Int.reduceBEq]
  ·have b5:(k==(5:Int))=false:=by simp [k5]
   rw [Az (fun h=>k5 h.1)]
   by_cases k6:k=6
   ·subst k6;by_cases hv:v>0
    ·rw [Bv ⟨rfl,hv⟩];simp (disch:=first|assumption|omega) only [Bx,w,w1,Hi,Ck,g1,sp,L1,t1,p5,lp1,Int.reduceBEq]
    ·rw [Az (fun h=>hv h.2)]
     simp (disch:=first|assumption|omega) only [Bx,w,w1,Hi,Ck,g1,sp,L1,t1,p5,lp0,Int.reduceBEq]
   ·have b6:(k==(6:Int))=false:=by simp [k6]
    rw [Az (fun h=>k6 h.1)]
    simp (disch:=first|assumption|omega) only [Bx,w,w1,Hi,Ck,g1,sp,L1,t1,p5,lp0,b5,b6]
end
end
section
open Go.IntKind (wrap)
def EE (s:ByteArray):Bool:=Array.toList (ByteArray.data s)==Array.toList (ByteArray.data (ByteArray.mk #[]))
def Gr (x:It):Bool:=
 if x.k=3 then x.n==0 else if x.k=4 then x.n==0 else if x.k=8 then (x.n==0)&&EE x.s else if x.k=7 then decide (x.n<=1)&&EE x.s else EE x.s
section
variable {fu d:Nat}
theorem Ahe (x:It):Ad C0 Tryz.prog fu (d+1) AK [.agg x.cells]=some ⟨[.sc (.bool (Gr x))],[]⟩:=by
 obtain ⟨k,n,s⟩:=x;refine (RL fu d k n s).trans ?_;unfold Gr;show _=some (⟨[.sc (.bool (if k=3 then n==0 else if k=4 then n==0 else if k=8 then (n==0)&&EE s else if k=7 then decide (n<=1)&&EE s else EE s))],[]⟩:Aw)
 by_cases h3:k=3
 ·subst h3;simp only [Bx,Int.reduceBEq,if_true]
 by_cases h4:k=4
 ·subst h4;simp only [Bx,Int.reduceBEq,Int.reduceEq,if_true,if_false]
 have b3:(k==(3:Int))=false:=by simp [h3]
 have b4:(k==(4:Int))=false:=by simp [h4]
 by_cases h8:k=8
 ·subst h8;cases hn:n==0<;>simp only [Bx,Int.reduceBEq,Int.reduceEq,if_true,if_false,hn,Bool.true_and,Bool.false_and]<;>rfl
 have b8:(k==(8:Int))=false:=by simp [h8]
 by_cases h7:k=7
 ·subst h7;cases hn:decide (n<=1)<;>simp only [Bx,Int.reduceBEq,Int.reduceEq,if_true,if_false,hn,Bool.true_and,Bool.false_and]<;>rfl
 have b7:(k==(7:Int))=false:=by simp [h7]
 simp only [Bx,b3,b4,b8,b7,Az h3,Az h4,Az h8,Az h7];rfl
theorem IR {l:List G8}{x:It}{cnt:Int}(hl:l.length<=1000)(hf:l.length+1<fu)(h0:0<=cnt)(h1:cnt<=1000000)(ha:Sl l=false)
  (hs:x.s.size<=100000)(hv:x.k=4->Lib.validD x.s.data.toList=true):
  Ad C0 Tryz.prog fu (d+2) Ji [.pbox (Lj l cnt),.agg x.cells]=some ⟨[.sc (.int .i64 0)],[Lj (Fu l x) (cnt+1)]⟩:=by
 have st:=Afh (fu:=fu) (d:=d) (l:=l) (x:=x) (cnt:=cnt) (by omega) hf h0 h1
 have ak:=MI (fu:=fu) (d:=d) (l:=l) (by omega) cnt
 have L:=Df l;have t:=Du l;have L2:=Df (Fu l x);have t2:=Du (Fu l x);rw [ha] at ak;generalize hE:Fu l x=E at *
 obtain ⟨k,n,s⟩:=x;have va:=Ks (fu:=fu) (d:=d) s (Nat.le_trans hs (by omega))
 unfold RH at va;refine (Jo fu (d+1) l.length (Fc l) cnt k n s).trans ?_;unfold Lj It.cells at st;unfold Lj at ak;by_cases k4:k=4
 ·subst k4;rw [hv rfl] at va;simp (disch:=omega) only [Bx,Int.reduceBEq,va,Bw,L,t,ak,st,L2,t2]
 ·have b4:(k==(4:Int))=false:=by simp [k4]
  simp (disch:=omega) only [Bx,b4,L,t,ak,st,L2,t2]
theorem Ajo {l:List G8}{x:It}{cnt:Int}(hl:l.length<=1000)(hf:l.length+1<fu)(h0:0<=cnt)(h1:cnt<=1000000)(ha:Sl l=false)
  (hs:x.s.size<=1024)(hv:x.k=4->Lib.validD x.s.data.toList=true)(hd:(decide (cnt>0)&&((l.length:Int)==0))=false) (hm:Jm l cnt x.k=0)(hsh:Gr x=true)(hn:x.n<=512∨(x.k≠5∧x.k≠6)):
  Ad C0 Tryz.prog fu (d+3) O2 [.pbox (Lj l cnt),.agg x.cells]=some ⟨[.sc (.int .i64 0)],[Lj (Fu l x) (cnt+1)]⟩:=by
 have ac:=IR (fu:=fu) (d:=d) (l:=l) (x:=x) (cnt:=cnt) hl hf h0 h1 ha (by omega) hv
 have dn:=XM (fu:=fu) (d:=d+1) l cnt;have ad:=ZD (fu:=fu) (d:=d) (l:=l) (by omega) cnt x.k
 have sh:=Ahe (fu:=fu) (d:=d+1) x;rw [hd] at dn;rw [hm] at ad;rw [hsh] at sh;have L:=Df l;have t:=Du l;have L2:=Df (Fu l x);have t2:=Du (Fu l x);generalize hE:Fu l x=E at *
 obtain ⟨k,n,s⟩:=x;have hs':¬((s.size:Int)>1024):=by have:s.size<=1024:=hs;omega
 refine (Zx fu (d+2) l.length (Fc l) cnt k n s).trans ?_;unfold Lj It.cells at ac;unfold Lj at dn ad;unfold It.cells at sh;by_cases k5:k=5
 ·subst k5;have hn':¬(n>512):=hn.elim (fun h=>Int.not_lt.2 h) (fun h=>absurd rfl h.1)
  simp (disch:=first|assumption|omega) only [Bx,Int.reduceBEq,dn,ad,sh,ac,Bw,L,t,L2,t2,bne_self_eq_false]
 have b5:(k==(5:Int))=false:=by simp [k5]
 by_cases k6:k=6
 ·subst k6;have hn':¬(n>512):=hn.elim (fun h=>Int.not_lt.2 h) (fun h=>absurd rfl h.2)
  simp (disch:=first|assumption|omega) only [Bx,Int.reduceBEq,dn,ad,sh,ac,Bw,L,t,L2,t2,bne_self_eq_false]
 have b6:(k==(6:Int))=false:=by simp [k6]
 simp (disch:=first|assumption|omega) only [Bx,b5,b6,dn,ad,sh,ac,Bw,L,t,L2,t2,bne_self_eq_false]
end
end
section
open Go.IntKind (wrap)
theorem Ee (l:List It):(Bl l).length=l.length*3:=WO It.cells_len l
structure Apt (l:List G8) (cnt:Int) (x:It):Prop where
 hl:l.length<=100
 h0:0<=cnt
 h1:cnt<=1000
 ha:Sl l=false
 hs:x.s.size<=1024
 hv:x.k=4->Lib.validD x.s.data.toList=true
 hd:(decide (cnt>0)&&((l.length:Int)==0))=false
 hm:Jm l cnt x.k=0
 hsh:Gr x=true
 hn:x.n<=512∨(x.k≠5∧x.k≠6)
def P4:List G8->Int->List It->Prop
 |l,cnt,[]=>l=[]∧cnt>0
 |l,cnt,x::r=>Apt l cnt x∧P4 (Fu l x) (cnt+1) r
section
variable {fu d:Nat}
theorem QW (hfu:200<=fu){l:List It}(hl:l.length<=100000){a0n:Nat}{a0:List PV}:∀(r:List It)(i:Nat)(fs:List G8)(cnt:Int)(nn:Nat),l.drop i=r->i+r.length=l.length->r.length<nn->P4 fs cnt r ->
  Io fu (Ad C0 Tryz.prog fu (d+3)) a0n a0 nn l.length (Bl l) (l.length:Int) (i:Int) fs.length cnt (Fc fs)=some ⟨[.sc (.int .i64 0)],[]⟩:=by
 intro r
 induction r with
 |nil=>
  intro i fs cnt nn hd hi hn hg;obtain ⟨rfl,hc⟩:=hg;obtain ⟨m,rfl⟩:∃m,nn=m+1:=⟨nn-1,by omega⟩
  rw [ED,QH] at hi;rw [Qu];have dn:=XM (fu:=fu) (d:=d+2) [] cnt;have e:(decide (cnt>0)&&(((([]:List G8).length:Nat):Int)==0))=true:=by simp [hc]
  rw [e] at dn;unfold Lj at dn;have L:=Df [];have t:=Du [];have c:¬((i:Int)<(l.length:Int)):=by omega
  simp (disch:=first|assumption|omega) only [Bx,L,t,dn,Bw]
 |cons x r ih=>
  intro i fs cnt nn hd hi hn hg;obtain ⟨g,hg⟩:=hg;obtain ⟨m,rfl⟩:∃m,nn=m+1:=⟨nn-1,by omega⟩
  rw [Kb] at hi hn
  have hx:l[i]?=some x:=by
   have:=congrArg (fun q=>q[0]?) hd
   simpa using this
  have hd':l.drop (i+1)=r:=by
   have:=congrArg (List.drop 1) hd;rw [List.drop_drop] at this
   simpa using this
  have q:=ih (i+1) (Fu fs x) (cnt+1) m hd' (by omega) (by omega) hg
  have ck:=Ajo (fu:=fu) (d:=d) (l:=fs) (x:=x) (cnt:=cnt) (by have:=g.hl;omega) (by have:=g.hl;omega) g.h0 (by have:=g.h1;omega) g.ha g.hs g.hv g.hd g.hm g.hsh g.hn
  generalize Fu fs x=E at *
  have g0:(Bl l).getD (i*3) .top=.sc (.int .i64 x.k):=Ep It.cells_len hx (j:=0) (by omega)
  have g1:(Bl l).getD (i*3+1) .top=.sc (.int .u64 x.n):=Ep It.cells_len hx (j:=1) (by omega)
  have g2:(Bl l).getD (i*3+1+1) .top=.sc (.string x.s):=Ep It.cells_len hx (j:=2) (by omega)
  have L:=Df fs;have t:=Du fs;have w:wrap .i64 ((i:Int)+1)=((i+1:Nat):Int):=by rw [Ak (by omega) (by omega)];omega
  rw [Qu];unfold Lj It.cells at ck;simp (disch:=first|assumption|omega) only [Bx,Hi,g0,g1,g2,L,t,ck,bne_self_eq_false,w,q]
theorem Sn (hfu:200<=fu){l:List It}(hl:l.length<=100000)(hf:l.length<fu)(hg:P4 [] 0 l):Ad C0 Tryz.prog fu (d+4) Vw [.lst false 3 l.length (Bl l)]=some ⟨[.sc (.int .i64 0)],[]⟩:=by
 rw [KU];exact QW hfu hl l 0 [] 0 fu rfl (by omega) hf hg
end
end
section
open Go.IntKind (wrap)
section
variable {fu d:Nat}
theorem Aaq (hfu:1000<=fu){l:List It}(hl:l.length<=100000){a0n:Nat}{a0:List PV}:∀(r:List It)(i:Nat)(o:List Int)(nn:Nat),l.drop i=r->i+r.length=l.length->r.length<nn->(∀x∈r,x.ok)->(o++Bb r).length<=300000 ->
  Kz fu (Ad C0 Tryz.prog fu (d+2)) a0n a0 nn o.length l.length (Bl l) (l.length:Int) (i:Int) (Af .u8 o)=some ⟨[.own 1 (o++Bb r).length (Af .u8 (o++Bb r)),.sc (.int .i64 0)],[]⟩:=by
 intro r
 induction r with
 |nil=>
  intro i o nn hd hi hn hg hb;obtain ⟨m,rfl⟩:∃m,nn=m+1:=⟨nn-1,by omega⟩
  rw [ED,QH] at hi;have e:o++Bb []=o:=by simp [Bb]
  rw [e,Tr];have L:(Af .u8 o).length=o.length:=Al _ _;have t:List.take o.length (Af .u8 o)=Af .u8 o:=Jv (by omega)
  have c:¬((i:Int)<(l.length:Int)):=by omega
  simp (disch:=first|assumption|omega) only [Bx,Bz,L,t]
 |cons x r ih=>
  intro i o nn hd hi hn hg hb;obtain ⟨m,rfl⟩:∃m,nn=m+1:=⟨nn-1,by omega⟩
  rw [Kb] at hi hn
  have hx:l[i]?=some x:=by
   have:=congrArg (fun q=>q[0]?) hd
   simpa using this
  have hd':l.drop (i+1)=r:=by
   have:=congrArg (List.drop 1) hd;rw [List.drop_drop] at this
   simpa using this
  have e:o++Bb (x::r)=(o++Bp x)++Bb r:=by simp [Bb]
  rw [e] at hb ⊢
  have ho:o.length<=300000:=by
   rw [Hz,Hz] at hb;omega
  have q:=ih (i+1) (o++Bp x) m hd' (by omega) (by omega) (fun y hy=>hg y (List.mem_cons_of_mem _ hy)) hb
  have it:=Ae1 (fu:=fu) (d:=d) hfu (l:=o) ho (x:=x) (hg x (by simp))
  have g0:(Bl l).getD (i*3) .top=.sc (.int .i64 x.k):=Ep It.cells_len hx (j:=0) (by omega)
  have g1:(Bl l).getD (i*3+1) .top=.sc (.int .u64 x.n):=Ep It.cells_len hx (j:=1) (by omega)
  have g2:(Bl l).getD (i*3+1+1) .top=.sc (.string x.s):=Ep It.cells_len hx (j:=2) (by omega)
  have L:(Af .u8 o).length=o.length:=Al _ _;have t:List.take o.length (Af .u8 o)=Af .u8 o:=Jv (by omega)
  have w:wrap .i64 ((i:Int)+1)=((i+1:Nat):Int):=by rw [Ak (by omega) (by omega)];omega
  rw [Tr];unfold It.cells at it;simp (disch:=first|assumption|omega) only [Bx,Hi,Bz,g0,g1,g2,L,t,it,w,q]
theorem ZM (hfu:1000<=fu){l:List It}(hl:l.length<=100000)(hf:l.length<fu)(hg:P4 [] 0 l) (hk:∀x∈l,x.ok)(hb:(Bb l).length<=300000):
  Ad C0 Tryz.prog fu (d+5) Sh [.lst false 3 l.length (Bl l)]=some ⟨[.own 1 (Bb l).length (Af .u8 (Bb l)),.sc (.int .i64 0)],[]⟩:=by
 rw [RK];have v:=Sn (fu:=fu) (d:=d) (by omega) hl hf hg
 have q:=Aaq (fu:=fu) (d:=d+2) hfu hl (a0n:=l.length) (a0:=Bl l) l 0 [] fu rfl (by omega) hf hk (by simpa using hb)
 rw [Zzq] at q;simp only [Bx,v,bne_self_eq_false];exact q
end
end
section
open Go.IntKind (wrap)
section
variable {fu d:Nat}
theorem WN (hfu:200<=fu){l:List It}(hl:l.length<=100000)(hf:l.length<fu)(hg:P4 [] 0 l):
  Ad C0 Tryz.prog fu (d+5) X5 [.own 3 l.length (Bl l)]=some ⟨[.own 3 l.length (Bl l),.sc (.int .i64 0)],[]⟩:=by
 rw [PM];have v:=Sn (fu:=fu) (d:=d) hfu hl hf hg;have L:=Ee l;have t:List.take (l.length*3) (Bl l)=Bl l:=Jv (by omega)
 simp (disch:=omega) only [Bx,L,t,Di,v,bne_self_eq_false]
end
end
section
open Go.IntKind (wrap)
structure VJ (x:It):Prop where
 kd:x.k=1∨x.k=2∨x.k=3∨x.k=4∨x.k=7∨x.k=8
 hs:x.s.size<=1024
 hv:x.k=4->Lib.validD x.s.data.toList=true
 hsh:Gr x=true
 n0:0<=x.n
theorem VJ.ok {x:It}(h:VJ x):x.ok:=by
 have:=h.kd;have:=h.hs;exact ⟨by omega,by omega,h.n0,by omega⟩
theorem VJ.push {x:It}(h:VJ x)(l:List G8):UO l x=l:=by
 unfold UO;have:=h.kd;rw [Az (by omega),Az (by omega)]
theorem Ags {x:It}(h:VJ x):P4 [] 0 [x]:=by
 have hk:=h.kd;refine ⟨⟨by simp,by omega,by omega,rfl,h.hs,h.hv,rfl,?_,h.hsh,.inr (by omega)⟩,?_,?_⟩
 ·unfold Jm;rw [Az (by omega),Az (by omega),Az (by omega),Az (by intro q;exact absurd q.1 (by decide)),Az (by simp)]
 ·unfold Fu;rw [h.push];rfl
 ·omega
theorem NK:∀(r:List It)(cnt:Int),r≠[]->(∀x∈r,VJ x)->0<cnt->cnt+r.length<=500->P4 [⟨false,r.length,[]⟩] cnt r
 |[],_,h,_,_,_=>absurd rfl h
 |x::r,cnt,_,hf,hc,hl=>by
  have h:=hf x (by simp)
  have hk:=h.kd;simp only [Kb] at hl;refine ⟨⟨by simp,by omega,by omega,rfl,h.hs,h.hv,by simp,?_,h.hsh,.inr (by omega)⟩,?_⟩
  ·unfold Jm;rw [Az (by omega),Az (by omega),Az (by omega),Az (by intro q;exact absurd q.1 (by simp [Sl])),Az (by simp)]
  ·have w:wrap .i64 (((x::r).length:Int)-1)=(r.length:Int):=by
    rw [Ak (by simp only [Kb];omega) (by simp only [Kb];omega)]
    simp only [Kb];omega
   have e:Fu [⟨false,((x::r).length:Nat),[]⟩] x=HI [⟨false,(r.length:Nat),[]⟩]:=by
    unfold Fu;rw [h.push];have:=Xi [] ⟨false,((x::r).length:Nat),[]⟩;rw [Zzq,Zzq] at this;rw [this];simp only [w]
   rw [e];by_cases hr:r=[]
   ·subst hr;have:=TC (l:=[]) (f:=⟨false,(([]:List It).length:Nat),[]⟩) rfl;rw [Zzq] at this;rw [this];exact ⟨rfl,by omega⟩
   ·have:=OR (l:=[]) (f:=⟨false,(r.length:Nat),[]⟩) (by simp only;have:=List.length_pos_iff.2 hr;omega)
    rw [Zzq] at this;rw [this];exact NK r (cnt+1) hr (fun y hy=>hf y (List.mem_cons_of_mem _ hy)) (by omega) (by omega)
theorem Aif {r:List It}(hr:r≠[]) (hl:r.length<=400)(hf:∀x∈r,VJ x):P4 [] 0 (⟨5,r.length,⟨#[]⟩⟩::r):=by
 have hp:=List.length_pos_iff.2 hr;refine ⟨⟨by simp,by omega,by omega,rfl,Nat.zero_le _,(by intro h;cases h),rfl,?_,(by rfl),.inl (by simp only;omega)⟩,?_⟩
 ·unfold Jm;rw [Az (by omega),Az (by simp),Az (by simp),Az (by intro q;exact absurd q.1 (by decide)),Az (by simp)]
 ·have w:wrap .i64 (r.length:Int)=(r.length:Int):=Ak (by omega) (by omega)
  have e:Fu [] ⟨5,(r.length:Nat),⟨#[]⟩⟩=HI [⟨false,(r.length:Nat),[]⟩]:=by
   unfold Fu UO;rw [Bv ⟨rfl,by simp only;omega⟩]
   simp only [w];rfl
  have:=OR (l:=[]) (f:=⟨false,(r.length:Nat),[]⟩) (by simp only;omega)
  rw [Zzq] at this;rw [e,this];exact NK r _ hr hf (by omega) (by omega)
end
section
open Go.IntKind (wrap)
def Apk (v:List It):List PV:=[.lst false 3 v.length (Bl v)]
theorem Ah4 (v:List It):(Apk v).length=1:=rfl
def Af1 (l:List (List It)):List PV:=l.flatMap Apk
theorem atv {l:List (List It)} {i:Nat}{v:List It}(h:l[i]?=some v):(Af1 l).getD (i*1) .top=.lst false 3 v.length (Bl v):=by
 exact Ep Ah4 h (j:=0) (by omega)
section
variable {fu d:Nat}
theorem JM (hfu:1000<=fu){a0n:Nat}{a0:List PV}{vs:List (List It)} (hl:vs.length<=100000):∀(r:List (List It)) (i nn:Nat),vs.drop i=r->r.length<nn->(∀v∈r,P4 [] 0 v∧v.length<1000)->i<=vs.length ->
  Kq fu (Ad C0 Tryz.prog fu (d+4)) a0n a0 nn vs.length (Af1 vs) (vs.length:Int) (i:Int)=some ⟨[.sc (.int .i64 0)],[]⟩
 |_,_,0,_,h,_,_=>by omega
 |[],i,nn+1,h,hn,hg,hi=>by
  have:=drop_nil h;rw [S3,Dv _ _ _ (by omega)]
 |v::r,i,nn+1,h,hn,hg,hi=>by
  obtain ⟨h1,h2,h3⟩:=Cz h;simp only [Kb] at hn;have w:wrap .i64 ((i:Int)+1)=((i+1:Nat):Int):=by rw [Ak (by omega) (by omega)];omega
  have ih:=JM hfu (a0n:=a0n) (a0:=a0) hl r (i+1) nn h3 (by omega) (fun v hv=>hg v (List.mem_cons_of_mem _ hv)) (by omega)
  obtain ⟨g,gl⟩:=hg v (by simp)
  have vg:=Sn (fu:=fu) (d:=d) (by omega) (by omega) (by omega) g
  have g0:=atv h2;rw [S3];simp (disch:=omega) only [Bx,Hi,g0,vg,bne_self_eq_false,w,ih]
theorem Aat (hfu:1000<=fu){vs:List (List It)} (hl:vs.length<1000)(hg:∀v∈vs,P4 [] 0 v∧v.length<1000):
  Ad C0 Tryz.prog fu (d+5) AN [.lst false 1 vs.length (Af1 vs)]=some ⟨[.sc (.int .i64 0)],[]⟩:=by
 rw [QV];exact JM hfu (by omega) vs 0 fu rfl (by omega) hg (by omega)
theorem FG (a b:List It):Bl (a++b)=Bl a++Bl b:=by
 unfold Bl;rw [List.flatMap_append]
theorem OM (hfu:1000<=fu){a0n:Nat}{a0:List PV}{vs:List (List It)} (hl:vs.length<=100000):∀(r:List (List It)) (i nn:Nat)(o:List It),vs.drop i=r->r.length<nn->P4 [] 0 (o++r.flatten)->(o++r.flatten).length<=500->i<=vs.length ->
  M0 fu (Ad C0 Tryz.prog fu (d+5)) a0n a0 nn o.length vs.length (Af1 vs) (vs.length:Int) (i:Int) (Bl o)=some ⟨[.own 3 (o++r.flatten).length (Bl (o++r.flatten)),.sc (.int .i64 0)],[]⟩
 |_,_,0,_,_,h,_,_,_=>by omega
 |[],i,nn+1,o,h,hn,hg,hb,hi=>by
  have:=drop_nil h;have e:o++([]:List (List It)).flatten=o:=by simp
  rw [e] at hg hb ⊢;have L:=Ee o;have t:List.take (o.length*3) (Bl o)=Bl o:=Jv (by omega)
  have ck:=WN (fu:=fu) (d:=d) (by omega) (by omega) (by omega) hg
  rw [Vr,Dv _ _ _ (by omega)]
  simp (disch:=omega) only [Bx,L,t,ck]
 |v::r,i,nn+1,o,h,hn,hg,hb,hi=>by
  obtain ⟨h1,h2,h3⟩:=Cz h;simp only [Kb] at hn;have w:wrap .i64 ((i:Int)+1)=((i+1:Nat):Int):=by rw [Ak (by omega) (by omega)];omega
  have e:o++(v::r).flatten=(o++v)++r.flatten:=by simp
  rw [e] at hg hb ⊢
  have hb':o.length+v.length<=500:=by
   rw [Hz,Hz] at hb;omega
  have ih:=OM hfu (a0n:=a0n) (a0:=a0) hl r (i+1) nn (o++v) h3 (by omega) hg hb (by omega)
  have g0:=atv h2;have L:=Ee o;have Lv:=Ee v;have t:List.take (o.length*3) (Bl o)=Bl o:=Jv (by omega)
  rw [Hz,FG] at ih;rw [Vr];simp (disch:=omega) only [Bx,Hi,g0,L,Lv,t,w,ih]
theorem Ab9 (hfu:1000<=fu){vs:List (List It)} (hg:∀v∈vs,P4 [] 0 v∧v.length<1000) (hl:vs.length<=400)(ha:P4 [] 0 (⟨5,vs.length,⟨#[]⟩⟩::vs.flatten)) (hb:vs.flatten.length<=400):
  Ad C0 Tryz.prog fu (d+6) Uk [.lst false 1 vs.length (Af1 vs)]=some ⟨[.own 3 (vs.flatten.length+1) (Bl (⟨5,vs.length,⟨#[]⟩⟩::vs.flatten)),.sc (.int .i64 0)],[]⟩:=by
 rw [WJ];have f:=Aat (fu:=fu) (d:=d) hfu (by omega) hg
 have w:wrap .u64 (vs.length:Int)=vs.length:=Ch (by omega) (by omega)
 have q:=OM (fu:=fu) (d:=d) hfu (a0n:=vs.length) (a0:=Af1 vs) (by omega) vs 0 fu [⟨5,vs.length,⟨#[]⟩⟩] rfl (by omega) ha (by rw [Hz,List.length_singleton];omega) (by omega)
 simp only [Bx,f,bne_self_eq_false,w];exact q
end
end
section
open Go.IntKind (wrap)
def Atg (a b:List Int):Int:=Lib.compareBytes (a.map fun n=>n.toNat.toUInt8) (b.map fun n=>n.toNat.toUInt8)
def Tp (a b:List Int):Bool:=if a.length=b.length then decide (Atg a b<0) else decide (a.length<b.length)
def Jl (l:List G8)(key:List Int):List G8:=match l.getLast? with|some f=>l.dropLast++[⟨f.p,f.left,key⟩]|none=>l
theorem Ni (l:List G8)(f:G8)(key:List Int):Jl (l++[f]) key=l++[⟨f.p,f.left,key⟩]:=by
 unfold Jl;simp
def LX (l:List G8):List Int:=match l.getLast? with|some f=>f.last|none=>[]
theorem VT (l:List G8)(f:G8):LX (l++[f])=f.last:=by
 unfold LX;simp
def Eg (l:List G8)(x:It):Int × List G8:=
 if x.k=4∧RH x.s=false then (6,l)
 else if Sl l=true then (if LX l≠[]∧Tp (LX l) (Bp x)=false then (7,l) else (0,Fu (Jl l (Bp x)) x))
 else (0,Fu l x)
theorem Ah1 (x:It):1<=(Bp x).length:=by
 unfold Bp;have h2:=Hw 2 x.s.size;have h3:=Hw 3 x.s.size;have h4:=Hw (x.k-1) x.n
 repeat' split
 all_goals try simp only [Hz,Kb,ED]
 all_goals omega
section
variable {fu d:Nat}
theorem Ach (a b:List Int):Ad C0 Tryz.prog fu (d+1) 133 [.lst false 1 a.length (Af .u8 a),.lst false 1 b.length (Af .u8 b)]=some ⟨[.sc (.int .i64 (Atg a b))],[]⟩:=by
 have h:Ad C0 Tryz.prog fu (d+1) 133 [.lst false 1 a.length (Af .u8 a),.lst false 1 b.length (Af .u8 b)]=Wp [.lst false 1 a.length (Af .u8 a),.lst false 1 b.length (Af .u8 b)]:=by kernel_rfl
 rw [h];unfold Wp;simp only [Al,Nat.beq_refl,Bool.and_self,cond_true,Ff];rfl
theorem Adm (a b:List Int):Ad C0 Tryz.prog fu (d+2) Xg [.lst false 1 a.length (Af .u8 a),.lst false 1 b.length (Af .u8 b)]=some ⟨[.sc (.bool (Tp a b))],[]⟩:=by
 refine (NT fu (d+1) _ _ _ _).trans ?_;have c:=Ach (fu:=fu) (d:=d) a b;unfold Tp;by_cases h:a.length=b.length
 ·have b0:((a.length:Int) != (b.length:Int))=false:=by simp [h]
  rw [Bv h];simp only [Bx,b0,c]
 ·have b0:((a.length:Int) != (b.length:Int))=true:=by simp;omega
  rw [Az h];simp only [Bx,b0];simp
theorem SY {l:List G8}{x:It}{cnt:Int}(hfu:1000<=fu)(hl:l.length<=900)(h0:0<=cnt)(h1:cnt<=1000000)(hx:x.ok)(hs:x.s.size<=100000):
  Ad C0 Tryz.prog fu (d+3) Ji [.pbox (Lj l cnt),.agg x.cells]=some ⟨[.sc (.int .i64 (Eg l x).1)],[Lj (Eg l x).2 (if (Eg l x).1=0 then cnt+1 else cnt)]⟩:=by
 cases ha:Sl l with
 |false=>
  cases hv:(x.k==4) && !RH x.s with
  |false=>
   have e:Eg l x=(0,Fu l x):=by
    unfold Eg;rw [Az,Az (by simp [ha])]
    intro hh;simp [hh.1,hh.2] at hv
   have:=IR (fu:=fu) (d:=d+1) (l:=l) (x:=x) (cnt:=cnt) (by omega) (by omega) h0 h1 ha hs (by
    intro hk;simp [hk] at hv;exact hv)
   rw [e,this];rfl
  |true=>
   simp at hv
   have e:Eg l x=(6,l):=by
    unfold Eg;rw [Bv hv]
   rw [e];obtain ⟨k,n,s⟩:=x;have va:=Ks (fu:=fu) (d:=d+1) s (Nat.le_trans hs (by omega))
   simp only at hv;obtain ⟨rfl,hv⟩:=hv;rw [hv] at va;have L:=Df l;have t:=Du l;refine (Jo fu (d+2) l.length (Fc l) cnt 4 n s).trans ?_;simp (disch:=omega) only [Bx,Int.reduceBEq,va,L,t];rfl
 |true=>
  rcases Nh l with rfl|⟨l',f,rfl⟩
  ·exact absurd ha (by decide)
  have it:=Ae1 (fu:=fu) (d:=d) hfu (l:=[]) (by simp) hx
  rw [Zzq] at it;have hp:=Ah1 x;have sm:=Adm (fu:=fu) (d:=d) f.last (Bp x);have ak:=MI (fu:=fu) (d:=d+1) (l:=l'++[f]) (by omega) cnt
  rw [ha] at ak;have st:=Afh (fu:=fu) (d:=d+1) (l:=Jl (l'++[f]) (Bp x)) (x:=x) (cnt:=cnt) (by rw [Ni];simp at hl ⊢;omega) (by rw [Ni];simp at hl ⊢;omega) h0 h1
  have E:Eg (l'++[f]) x=(if x.k=4∧RH x.s=false then (6,l'++[f]) else if f.last≠[]∧Tp f.last (Bp x)=false then (7,l'++[f]) else (0,Fu (Jl (l'++[f]) (Bp x)) x)):=by
   unfold Eg;rw [ha,VT];simp only [if_true]
  have hn':(l'++[f]).length=l'.length+1:=by simp
  have hx':(l'++[f])[l'.length]?=some f:=by simp
  have w:wrap .i64 (((l'++[f]).length:Int)-1)=(l'.length:Int):=by rw [Ak (by omega) (by omega)];omega
  have L:=Df (l'++[f]);have t:=Du (l'++[f]);have g2:(Fc (l'++[f])).getD (l'.length*3+2) .top=.lst false 1 f.last.length (Af .u8 f.last):=Ep G8.cells_len hx' (j:=2) (by omega)
  have sp:Bo (Fc (l'++[f])) [.lst false 1 (Bp x).length (Af .u8 (Bp x))] (l'.length*3+2)=Fc (Jl (l'++[f]) (Bp x)):=by
   rw [Fj (by omega),Ni,Tu,Tu,Tb,Tb]
   have:=Df l';rw [List.set_append_right _ _ (by omega)]
   have:l'.length*3+2-(Fc l').length=2:=by omega
   rw [this];rfl
  have LK:=Df (Jl (l'++[f]) (Bp x));have tK:=Du (Jl (l'++[f]) (Bp x));have nK:(Jl (l'++[f]) (Bp x)).length=(l'++[f]).length:=by rw [Ni];simp
  rw [nK] at LK tK;have L2:=Df (Fu (Jl (l'++[f]) (Bp x)) x);have t2:=Du (Fu (Jl (l'++[f]) (Bp x)) x);have Lk:=Al .u8 (Bp x);have tk:=Ii .u8 (Bp x);unfold Lj at st ak ⊢;rw [nK] at st;rw [E];generalize Fu (Jl (l'++[f]) (Bp x)) x=S at *
  generalize Fc (Jl (l'++[f]) (Bp x))=K at *
  have hsm:f.last.length=0->Tp f.last (Bp x)=true:=by
   intro hz;unfold Tp;rw [Az (by omega)]
   simp;omega
  have hnil:f.last≠[]↔0<f.last.length:=by rw [List.length_pos_iff]
  generalize hKe:Bp x=key at *
  obtain ⟨k,n,s⟩:=x;have va:=Ks (fu:=fu) (d:=d+1) s (Nat.le_trans hs (by omega))
  unfold RH at va ⊢;unfold It.cells at st it ⊢;simp only at st it hs ⊢;refine (Jo fu (d+2) (l'++[f]).length (Fc (l'++[f])) cnt k n s).trans ?_;simp only [ED] at it;have it0:Af .u8 []=[]:=rfl;rw [it0] at it
  try unfold Aa
  repeat' first
   |((with_reducible first|apply At|apply Ao|apply Aq|apply A6|apply Ba|apply Dd|apply Am);· first|with_reducible rfl|(simp (disch:=first|with_reducible assumption|omega) only [va,L,t,ak,w,Hi,Ck,QH,it,g2,Bz,Di,Lk,tk,sm,sp,LK,tK,st,L2,t2]<;>with_reducible rfl))
   |((with_reducible first|apply Ar|apply As);· first|with_reducible rfl|with_reducible assumption|omega|(simp (disch:=first|with_reducible assumption|omega) only [gT,va,L,t,ak,w,Hi,Ck,QH,it,g2,Bz,Di,Lk,tk,sm,sp,LK,tK,st,L2,t2]<;>omega))
   |(with_reducible apply Au;· first|with_reducible rfl|with_reducible assumption|(simp (disch:=first|with_reducible assumption|omega) only [gF,va,L,t,ak,w,Hi,Ck,QH,it,g2,Bz,Di,Lk,tk,sm,sp,LK,tK,st,L2,t2]<;>omega))
   |(with_reducible refine Ai6 ?_ ?_<;>intro hb<;>try simp only [decide_eq_true_eq,decide_eq_false_iff_not,beq_iff_eq,beq_eq_false_iff_ne,bne_iff_ne,bne_eq_false_iff_eq,ne_eq,Bool.not_eq_true',Bool.not_eq_false',Bool.not_eq_true,Bool.not_eq_false] at hb)
   |(with_reducible refine VU ?_ ?_)
  all_goals try simp (disch:=first|with_reducible assumption|omega) only [va,L,t,ak,w,Hi,Ck,QH,it,g2,Bz,Di,Lk,tk,sm,sp,LK,tK,st,L2,t2]
  all_goals clear st it ak va sm L t g2 sp LK tK L2 t2 Lk tk it0 E ha hKe
  all_goals repeat' split
  all_goals first
   |rfl
   |(exfalso;simp_all;done)
   |(exfalso;simp_all;omega)
end
end
section
open Go.IntKind (wrap)
set_option maxRecDepth 100000
abbrev Pw:FuncId:=113
noncomputable def Gm (fu:Nat)(call:Ah)(a0_0n:Nat)(a0_0:List PV)(a0_1:Int)(a0_2n:Nat)(a0_2:List PV)(a0_3:Int)(nn:Nat)(y0 y1 y2:Int)(y3:Nat)(y4:List PV)(y5 y6:Int)(y7:Nat)(y8:Int)(y9:Nat)(y10:List PV)(F6:Int)(Hu:List PV):Option Aw:=C6 CB Tryz.prog fu call 113 Tryz.f113 (Cb Tryz.f113) [.pbox [.own 3 a0_0n a0_0,.sc (.int .i64 a0_1),.lst false 1 a0_2n a0_2,.sc (.int .i64 a0_3)]] [.r,.r,.r,.r,.r,.r,.r,.r,.r,.r,.r,.l,.r,.l] nn ⟨lk [(0,(.ptr 240000 0)),(2,(.sc (.int .i64 y0))),(3,(.sc (.int .u64 y1))),(8,(.sc (.int .i64 y2))),(94,(.lst false 1 y3 y4)),(95,(.sc (.int .i64 y5))),(96,(.sc (.int .i64 y6)))],Cj [(240000,(.st [(.view 240120 3 0 y7),(.sc (.int .i64 y8)),(.lst false 1 y9 y10),(.sc (.int .i64 F6))])),(240120,(.ar false Hu))]⟩
theorem Ly (fu:Nat)(call:Ah)(a0_0n:Nat)(a0_0:List PV)(a0_1:Int)(a0_2n:Nat)(a0_2:List PV)(a0_3:Int)(nn:Nat)(y0 y1 y2:Int)(y3:Nat)(y4:List PV)(y5 y6:Int)(y7:Nat)(y8:Int)(y9:Nat)(y10:List PV)(F6:Int)(Hu:List PV):Gm fu call a0_0n a0_0 a0_1 a0_2n a0_2 a0_3 (nn+1) y0 y1 y2 y3 y4 y5 y6 y7 y8 y9 y10 F6 Hu=(A3 (decide (y6<y5)) (Ap (decide (0<=y6)&&decide (y6<(↑y3:Int)))<|Ae .u8 (List.getD y4 (Int.toNat y6*1) .top) fun Ew=>Aa (Fp .u64 y1 8) fun Ej=>Aa (wrap .u64 Ew) fun Fb=>Aa (QI .u64 Ej Fb) fun G9=>Aa (wrap .i64 (y6+1)) fun Cp=>Gm fu call a0_0n a0_0 a0_1 a0_2n a0_2 a0_3 (nn) (y0) G9 (y2) (y3) (y4) (y5) Cp (y7) (y8) (y9) (y10) (F6) (Hu)) (Aa (wrap .i64 (F6+y2)) fun Hb=>Ag (call 127 [.sc (.int .u64 y1)]) fun Dx B4=>Ac B4<|Ab Dx fun Ft Hn=>Ae .i64 Ft fun Bk=>Ac Hn<|A3 (decide (Bk<y2)) (Ap (decide (y7*3<=Hu.length))<|some (Aw.mk [.sc (.int .i64 0),.sc (.int .u64 0),.sc (.int .i64 2)] [[.own 3 y7 (List.take (y7*3) Hu),.sc (.int .i64 y8),.lst false 1 y9 y10,.sc (.int .i64 Hb)]])) (Ap (decide (y7*3<=Hu.length))<|some (Aw.mk [.sc (.int .i64 y0),.sc (.int .u64 y1),.sc (.int .i64 0)] [[.own 3 y7 (List.take (y7*3) Hu),.sc (.int .i64 y8),.lst false 1 y9 y10,.sc (.int .i64 Hb)]])))):=by kernel_rfl
theorem CD (fu d a0_0n:Nat)(a0_0:List PV)(a0_1:Int)(a0_2n:Nat)(a0_2:List PV)(a0_3:Int):Ad C0 Tryz.prog fu (d+1) Pw [.pbox [.own 3 a0_0n a0_0,.sc (.int .i64 a0_1),.lst false 1 a0_2n a0_2,.sc (.int .i64 a0_3)]]=(fun (call:Ah)=>A3 (decide (a0_3>=(↑a0_2n:Int))) (Ap (decide (a0_0n*3<=a0_0.length))<|some (Aw.mk [.sc (.int .i64 0),.sc (.int .u64 0),.sc (.int .i64 1)] [[.own 3 a0_0n (List.take (a0_0n*3) a0_0),.sc (.int .i64 a0_1),.lst false 1 a0_2n a0_2,.sc (.int .i64 a0_3)]])) (Ap (decide (0<=a0_3)&&decide (a0_3<(↑a0_2n:Int)))<|Ae .u8 (List.getD a0_2 (Int.toNat a0_3*1) .top) fun x1=>Aa (wrap .i64 (a0_3+1)) fun x2=>A3 (x1==244) (Aa (wrap .u8 (x1-244)) fun x3=>Aa (wrap .u64 x3) fun x4=>Ap (decide (a0_0n*3<=a0_0.length))<|some (Aw.mk [.sc (.int .i64 7),.sc (.int .u64 x4),.sc (.int .i64 0)] [[.own 3 a0_0n (List.take (a0_0n*3) a0_0),.sc (.int .i64 a0_1),.lst false 1 a0_2n a0_2,.sc (.int .i64 x2)]])) (A3 (x1==245) (Aa (wrap .u8 (x1-244)) fun x5=>Aa (wrap .u64 x5) fun x6=>Ap (decide (a0_0n*3<=a0_0.length))<|some (Aw.mk [.sc (.int .i64 7),.sc (.int .u64 x6),.sc (.int .i64 0)] [[.own 3 a0_0n (List.take (a0_0n*3) a0_0),.sc (.int .i64 a0_1),.lst false 1 a0_2n a0_2,.sc (.int .i64 x2)]])) (A3 (x1==246) (Ap (decide (a0_0n*3<=a0_0.length))<|some (Aw.mk [.sc (.int .i64 8),.sc (.int .u64 0),.sc (.int .i64 0)] [[.own 3 a0_0n (List.take (a0_0n*3) a0_0),.sc (.int .i64 a0_1),.lst false 1 a0_2n a0_2,.sc (.int .i64 x2)]])) (Aa (Ei .u8 x1 5) fun x7=>Aa (Mj .u8 x1 31) fun x8=>A3 (decide (x7>5)) (Ap (decide (a0_0n*3<=a0_0.length))<|some (Aw.mk [.sc (.int .i64 0),.sc (.int .u64 0),.sc (.int .i64 2)] [[.own 3 a0_0n (List.take (a0_0n*3) a0_0),.sc (.int .i64 a0_1),.lst false 1 a0_2n a0_2,.sc (.int .i64 x2)]])) (A3 (decide (x8>27)) (Ap (decide (a0_0n*3<=a0_0.length))<|some (Aw.mk [.sc (.int .i64 0),.sc (.int .u64 0),.sc (.int .i64 2)] [[.own 3 a0_0n (List.take (a0_0n*3) a0_0),.sc (.int .i64 a0_1),.lst false 1 a0_2n a0_2,.sc (.int .i64 x2)]])) (Aa (wrap .i64 x7) fun x9=>Aa (wrap .i64 (1+x9)) fun Cm=>A3 (decide (x8<24)) (Aa (wrap .u64 x8) fun Bq=>Ap (decide (a0_0n*3<=a0_0.length))<|some (Aw.mk [.sc (.int .i64 Cm),.sc (.int .u64 Bq),.sc (.int .i64 0)] [[.own 3 a0_0n (List.take (a0_0n*3) a0_0),.sc (.int .i64 a0_1),.lst false 1 a0_2n a0_2,.sc (.int .i64 x2)]])) (Aa (wrap .u8 (x8-24)) fun Dm=>Ap (decide (0<=Dm))<|Aa (Fp .i64 1 Dm) fun Ds=>Aa (wrap .i64 ((↑a0_2n:Int)-x2)) fun Cu=>A3 (decide (Cu<Ds)) (Ap (decide (a0_0n*3<=a0_0.length))<|some (Aw.mk [.sc (.int .i64 0),.sc (.int .u64 0),.sc (.int .i64 1)] [[.own 3 a0_0n (List.take (a0_0n*3) a0_0),.sc (.int .i64 a0_1),.lst false 1 a0_2n a0_2,.sc (.int .i64 x2)]])) (Aa (wrap .i64 (x2+Ds)) fun Dw=>Ap (decide (0<=x2))<|Ap (decide (0<=Dw))<|Ap (decide (Int.toNat x2<=Int.toNat Dw)&&decide (Int.toNat Dw<=a0_2n))<|Aa (Int.toNat Dw-Int.toNat x2) fun Ea=>Aa (List.take (Ea*1) (List.drop (Int.toNat x2*1) a0_2)) fun Ef=>Gm fu call a0_0n a0_0 a0_1 a0_2n a0_2 a0_3 (fu) Cm 0 Ds Ea Ef ((↑Ea:Int)) 0 (a0_0n) (a0_1) (a0_2n) (a0_2) x2 (a0_0)))))))))) (Ad C0 Tryz.prog fu d):=by kernel_rfl
abbrev Qc:FuncId:=91
theorem BP (fu d a0_0n:Nat)(a0_0:List PV)(a0_1:Int)(a0_2n:Nat)(a0_2:List PV)(a0_3:Int):Ad C0 Tryz.prog fu (d+1) Qc [.pbox [.own 3 a0_0n a0_0,.sc (.int .i64 a0_1),.lst false 1 a0_2n a0_2,.sc (.int .i64 a0_3)]]=(fun (call:Ah)=>Ap (decide (a0_0n*3<=a0_0.length))<|Ag (call 113 [.pbox [.own 3 a0_0n (List.take (a0_0n*3) a0_0),.sc (.int .i64 a0_1),.lst false 1 a0_2n a0_2,.sc (.int .i64 a0_3)]]) fun x1 x2=>Ab x1 fun x3 x4=>Ae .i64 x3 fun x5=>Ab x4 fun x6 x7=>Ae .u64 x6 fun x8=>Ab x7 fun x9 Cm=>Ae .i64 x9 fun Bq=>Ac Cm<|Ab x2 fun Dm Ds=>Ab Dm fun Cu Dw=>D4 3 Cu fun Ea Ef=>Ab Dw fun Ew Ej=>Ae .i64 Ew fun Fb=>Ab Ej fun G9 Cp=>Ho 1 G9 fun Hb Dx B4=>Ab Cp fun Ft Hn=>Ae .i64 Ft fun Bk=>Ac Hn<|Ac Ds<|A3 (Bq != 0) (Ap (decide (Ea*3<=Ef.length))<|some (Aw.mk [.agg [.sc (.int .i64 0),.sc (.int .u64 0),.sc (.string (ByteArray.mk #[]))],.sc (.int .i64 Bq)] [[.own 3 Ea (List.take (Ea*3) Ef),.sc (.int .i64 Fb),.lst false 1 Dx B4,.sc (.int .i64 Bk)]])) (Ap (decide (Ea*3<=Ef.length))<|Ag (call 114 [.pbox [.own 3 Ea (List.take (Ea*3) Ef),.sc (.int .i64 Fb)],.sc (.int .i64 x5)]) fun Ci I1=>Ab Ci fun Jd J9=>Ae .i64 Jd fun Kc=>Ac J9<|Ab I1 fun Lx Ob=>Ab Lx fun Pt Q5=>D4 3 Pt fun Gn Ie=>Ab Q5 fun Sv Wg=>Ae .i64 Sv fun Kd=>Ac Wg<|Ac Ob<|A3 (Kc != 0) (Ap (decide (Gn*3<=Ie.length))<|some (Aw.mk [.agg [.sc (.int .i64 0),.sc (.int .u64 0),.sc (.string (ByteArray.mk #[]))],.sc (.int .i64 Kc)] [[.own 3 Gn (List.take (Gn*3) Ie),.sc (.int .i64 Kd),.lst false 1 Dx B4,.sc (.int .i64 Bk)]])) (A3 (x5==5) (A3 (decide (x8>512)) (Ap (decide (Gn*3<=Ie.length))<|some (Aw.mk [.agg [.sc (.int .i64 0),.sc (.int .u64 0),.sc (.string (ByteArray.mk #[]))],.sc (.int .i64 8)] [[.own 3 Gn (List.take (Gn*3) Ie),.sc (.int .i64 Kd),.lst false 1 Dx B4,.sc (.int .i64 Bk)]])) (Ap (decide (Gn*3<=Ie.length))<|Ag (call 115 [.pbox [.own 3 Gn (List.take (Gn*3) Ie),.sc (.int .i64 Kd)],.agg [.sc (.int .i64 x5),.sc (.int .u64 x8),.sc (.string (ByteArray.mk #[]))]]) fun S1 Sd=>Ab S1 fun Re Sf=>Ae .i64 Re fun Vp=>Ac Sf<|Ab Sd fun V9 Q8=>Ab V9 fun Ud Vo=>D4 3 Ud fun Vx Nn=>Ab Vo fun Vt AC=>Ae .i64 Vt fun Ye=>Ac AC<|Ac Q8<|A3 (Vp != 0) (Ap (decide (Vx*3<=Nn.length))<|some (Aw.mk [.agg [.sc (.int .i64 0),.sc (.int .u64 0),.sc (.string (ByteArray.mk #[]))],.sc (.int .i64 Vp)] [[.own 3 Vx (List.take (Vx*3) Nn),.sc (.int .i64 Ye),.lst false 1 Dx B4,.sc (.int .i64 Bk)]])) (Ap (decide (Vx*3<=Nn.length))<|some (Aw.mk [.agg [.sc (.int .i64 x5),.sc (.int .u64 x8),.sc (.string (ByteArray.mk #[]))],.sc (.int .i64 0)] [[.own 3 Vx (List.take (Vx*3) Nn),.sc (.int .i64 Ye),.lst false 1 Dx B4,.sc (.int .i64 Bk)]])))) (A3 (x5==6) (A3 (decide (x8>512)) (Ap (decide (Gn*3<=Ie.length))<|some (Aw.mk [.agg [.sc (.int .i64 0),.sc (.int .u64 0),.sc (.string (ByteArray.mk #[]))],.sc (.int .i64 8)] [[.own 3 Gn (List.take (Gn*3) Ie),.sc (.int .i64 Kd),.lst false 1 Dx B4,.sc (.int .i64 Bk)]])) (Ap (decide (Gn*3<=Ie.length))<|Ag (call 115 [.pbox [.own 3 Gn (List.take (Gn*3) Ie),.sc (.int .i64 Kd)],.agg [.sc (.int .i64 x5),.sc (.int .u64 x8),.sc (.string (ByteArray.mk #[]))]]) fun Up R7=>Ab Up fun Vl Wu=>Ae .i64 Vl fun Su=>Ac Wu<|Ab R7 fun Rg Wn=>Ab Rg fun Wc Yb=>D4 3 Wc fun Uj Uc=>Ab Yb fun Z9 Wy=>Ae .i64 Z9 fun Wk=>Ac Wy<|Ac Wn<|A3 (Su != 0) (Ap (decide (Uj*3<=Uc.length))<|some (Aw.mk [.agg [.sc (.int .i64 0),.sc (.int .u64 0),.sc (.string (ByteArray.mk #[]))],.sc (.int .i64 Su)] [[.own 3 Uj (List.take (Uj*3) Uc),.sc (.int .i64 Wk),.lst false 1 Dx B4,.sc (.int .i64 Bk)]])) (Ap (decide (Uj*3<=Uc.length))<|some (Aw.mk [.agg [.sc (.int .i64 x5),.sc (.int .u64 x8),.sc (.string (ByteArray.mk #[]))],.sc (.int .i64 0)] [[.own 3 Uj (List.take (Uj*3) Uc),.sc (.int .i64 Wk),.lst false 1 Dx B4,.sc (.int .i64 Bk)]])))) (A3 (x5==3) (A3 (decide (x8>1024)) (Ap (decide (Gn*3<=Ie.length))<|some (Aw.mk [.agg [.sc (.int .i64 0),.sc (.int .u64 0),.sc (.string (ByteArray.mk #[]))],.sc (.int .i64 8)] [[.own 3 Gn (List.take (Gn*3) Ie),.sc (.int .i64 Kd),.lst false 1 Dx B4,.sc (.int .i64 Bk)]])) (Aa (wrap .i64 ((↑Dx:Int)-Bk)) fun Vu=>Aa (wrap .i64 x8) fun Ze=>A3 (decide (Vu<Ze)) (Ap (decide (Gn*3<=Ie.length))<|some (Aw.mk [.agg [.sc (.int .i64 0),.sc (.int .u64 0),.sc (.string (ByteArray.mk #[]))],.sc (.int .i64 1)] [[.own 3 Gn (List.take (Gn*3) Ie),.sc (.int .i64 Kd),.lst false 1 Dx B4,.sc (.int .i64 Bk)]])) (Aa (wrap .i64 x8) fun AL=>Aa (wrap .i64 (Bk+AL)) fun Yz=>Ap (decide (0<=Bk))<|Ap (decide (0<=Yz))<|Ap (decide (Int.toNat Bk<=Int.toNat Yz)&&decide (Int.toNat Yz<=Dx))<|Aa (Int.toNat Yz-Int.toNat Bk) fun Z8=>Aa (List.take (Z8*1) (List.drop (Int.toNat Bk*1) B4)) fun BK=>Ap (decide (BK.length=Z8))<|Ev (bytesOf BK) fun Y0=>Aa (wrap .i64 x8) fun Tw=>Aa (wrap .i64 (Bk+Tw)) fun DU=>Ap (decide (Gn*3<=Ie.length))<|Ag (call 115 [.pbox [.own 3 Gn (List.take (Gn*3) Ie),.sc (.int .i64 Kd)],.agg [.sc (.int .i64 x5),.sc (.int .u64 0),.sc (.string (ByteArray.mk (List.toArray Y0)))]]) fun GI PL=>Ab GI fun MH LD=>Ae .i64 MH fun HV=>Ac LD<|Ab PL fun KR ON=>Ab KR fun HO Vy=>D4 3 HO fun BA Y1=>Ab Vy fun QU RY=>Ae .i64 QU fun RP=>Ac RY<|Ac ON<|A3 (HV != 0) (Ap (decide (BA*3<=Y1.length))<|some (Aw.mk [.agg [.sc (.int .i64 0),.sc (.int .u64 0),.sc (.string (ByteArray.mk #[]))],.sc (.int .i64 HV)] [[.own 3 BA (List.take (BA*3) Y1),.sc (.int .i64 RP),.lst false 1 Dx B4,.sc (.int .i64 DU)]])) (Ap (decide (BA*3<=Y1.length))<|some (Aw.mk [.agg [.sc (.int .i64 x5),.sc (.int .u64 0),.sc (.string (ByteArray.mk (List.toArray Y0)))],.sc (.int .i64 0)] [[.own 3 BA (List.take (BA*3) Y1),.sc (.int .i64 RP),.lst false 1 Dx B4,.sc (.int .i64 DU)]]))))) (A3 (x5==4) (A3 (decide (x8>1024)) (Ap (decide (Gn*3<=Ie.length))<|some (Aw.mk [.agg [.sc (.int .i64 0),.sc (.int .u64 0),.sc (.string (ByteArray.mk #[]))],.sc (.int .i64 8)] [[.own 3 Gn (List.take (Gn*3) Ie),.sc (.int .i64 Kd),.lst false 1 Dx B4,.sc (.int .i64 Bk)]])) (Aa (wrap .i64 ((↑Dx:Int)-Bk)) fun GG=>Aa (wrap .i64 x8) fun UW=>A3 (decide (GG<UW)) (Ap (decide (Gn*3<=Ie.length))<|some (Aw.mk [.agg [.sc (.int .i64 0),.sc (.int .u64 0),.sc (.string (ByteArray.mk #[]))],.sc (.int .i64 1)] [[.own 3 Gn (List.take (Gn*3) Ie),.sc (.int .i64 Kd),.lst false 1 Dx B4,.sc (.int .i64 Bk)]])) (Aa (wrap .i64 x8) fun VV=>Aa (wrap .i64 (Bk+VV)) fun RF=>Ap (decide (0<=Bk))<|Ap (decide (0<=RF))<|Ap (decide (Int.toNat Bk<=Int.toNat RF)&&decide (Int.toNat RF<=Dx))<|Aa (Int.toNat RF-Int.toNat Bk) fun SN=>Aa (List.take (SN*1) (List.drop (Int.toNat Bk*1) B4)) fun CW=>Ap (decide (CW.length=SN))<|Ev (bytesOf CW) fun Us=>Aa (wrap .i64 x8) fun Sq=>Aa (wrap .i64 (Bk+Sq)) fun Hc=>Ap (decide (Gn*3<=Ie.length))<|Ag (call 115 [.pbox [.own 3 Gn (List.take (Gn*3) Ie),.sc (.int .i64 Kd)],.agg [.sc (.int .i64 x5),.sc (.int .u64 0),.sc (.string (ByteArray.mk (List.toArray Us)))]]) fun I0 We=>Ab I0 fun Pe Pd=>Ae .i64 Pe fun Ja=>Ac Pd<|Ab We fun V7 W9=>Ab V7 fun Xy X4=>D4 3 Xy fun Ik Jp=>Ab X4 fun Xs Ys=>Ae .i64 Xs fun W0=>Ac Ys<|Ac W9<|A3 (Ja != 0) (Ap (decide (Ik*3<=Jp.length))<|some (Aw.mk [.agg [.sc (.int .i64 0),.sc (.int .u64 0),.sc (.string (ByteArray.mk #[]))],.sc (.int .i64 Ja)] [[.own 3 Ik (List.take (Ik*3) Jp),.sc (.int .i64 W0),.lst false 1 Dx B4,.sc (.int .i64 Hc)]])) (Ap (decide (Ik*3<=Jp.length))<|some (Aw.mk [.agg [.sc (.int .i64 x5),.sc (.int .u64 0),.sc (.string (ByteArray.mk (List.toArray Us)))],.sc (.int .i64 0)] [[.own 3 Ik (List.take (Ik*3) Jp),.sc (.int .i64 W0),.lst false 1 Dx B4,.sc (.int .i64 Hc)]]))))) (Ap (decide (Gn*3<=Ie.length))<|Ag (call 115 [.pbox [.own 3 Gn (List.take (Gn*3) Ie),.sc (.int .i64 Kd)],.agg [.sc (.int .i64 x5),.sc (.int .u64 x8),.sc (.string (ByteArray.mk #[]))]]) fun BT Yj=>Ab BT fun Wm Wa=>Ae .i64 Wm fun V8=>Ac Wa<|Ab Yj fun Wq Yq=>Ab Wq fun Yd Oa=>D4 3 Yd fun Pa Sk=>Ab Oa fun Xb Yv=>Ae .i64 Xb fun Ko=>Ac Yv<|Ac Yq<|A3 (V8 != 0) (Ap (decide (Pa*3<=Sk.length))<|some (Aw.mk [.agg [.sc (.int .i64 0),.sc (.int .u64 0),.sc (.string (ByteArray.mk #[]))],.sc (.int .i64 V8)] [[.own 3 Pa (List.take (Pa*3) Sk),.sc (.int .i64 Ko),.lst false 1 Dx B4,.sc (.int .i64 Bk)]])) (Ap (decide (Pa*3<=Sk.length))<|some (Aw.mk [.agg [.sc (.int .i64 x5),.sc (.int .u64 x8),.sc (.string (ByteArray.mk #[]))],.sc (.int .i64 0)] [[.own 3 Pa (List.take (Pa*3) Sk),.sc (.int .i64 Ko),.lst false 1 Dx B4,.sc (.int .i64 Bk)]]))))))))) (Ad C0 Tryz.prog fu d):=by kernel_rfl
abbrev AX:FuncId:=51
noncomputable def Kf (fu:Nat)(call:Ah)(a0n:Nat)(a0:List PV)(nn y0:Nat)(y1:List PV)(y2:Nat)(y3:Int)(y4:Nat)(y5:List PV)(y6:Int)(y7:List PV):Option Aw:=C6 CB Tryz.prog fu call 51 Tryz.f51 (Cb Tryz.f51) [.lst false 1 a0n a0] [.r,.r,.l,.l] nn ⟨lk [(2,(.view 2 3 0 y0)),(5,(.ptr 5 0))],Cj [(2,(.ar false y1)),(5,(.st [(.view 32 3 0 y2),(.sc (.int .i64 y3)),(.lst false 1 y4 y5),(.sc (.int .i64 y6))])),(32,(.ar false y7))]⟩
theorem IB (fu:Nat)(call:Ah)(a0n:Nat)(a0:List PV)(nn y0:Nat)(y1:List PV)(y2:Nat)(y3:Int)(y4:Nat)(y5:List PV)(y6:Int)(y7:List PV):Kf fu call a0n a0 (nn+1) y0 y1 y2 y3 y4 y5 y6 y7=(Ap (decide (y2*3<=y7.length))<|Ag (call 90 [.pbox [.own 3 y2 (List.take (y2*3) y7),.sc (.int .i64 y3)]]) fun x1 x2=>Ab x1 fun x3 x4=>Br x3 fun x5=>Ac x4<|Ab x2 fun x6 x7=>Ab x6 fun x8 x9=>D4 3 x8 fun Cm Bq=>Ab x9 fun Dm Ds=>Ae .i64 Dm fun Cu=>Ac Ds<|Ac x7<|A3 (!x5) (Ap (decide (Cm*3<=Bq.length))<|Ag (call 91 [.pbox [.own 3 Cm (List.take (Cm*3) Bq),.sc (.int .i64 Cu),.lst false 1 y4 y5,.sc (.int .i64 y6)]]) fun Dw Ea=>Ab Dw fun Ef Ew=>Dt Ef fun Ej=>Ab Ej fun Fb G9=>Ae .i64 Fb fun Cp=>Ab G9 fun Hb Dx=>Ae .u64 Hb fun B4=>Ab Dx fun Ft Hn=>Cr Ft fun Bk=>Ac Hn<|Ab Ew fun Ci I1=>Ae .i64 Ci fun Jd=>Ac I1<|Ab Ea fun J9 Kc=>Ab J9 fun Lx Ob=>D4 3 Lx fun Pt Q5=>Ab Ob fun Gn Ie=>Ae .i64 Gn fun Sv=>Ab Ie fun Wg Kd=>Ho 1 Wg fun S1 Sd Re=>Ab Kd fun Sf Vp=>Ae .i64 Sf fun V9=>Ac Vp<|Ac Kc<|A3 (Jd != 0) (some (Aw.mk [.own 3 0 [],.sc (.int .i64 0),.sc (.int .i64 Jd)] [])) (Ap (decide (y0*3<=y1.length)&&true&&decide ((y0+1)*32<=1099511627776)&&decide (y0+1<=1099511627776))<|Aa (y0+1) fun Q8=>Aa (List.take (y0*3) y1++[.sc (.int .i64 Cp),.sc (.int .u64 B4),.sc (.string Bk)]) fun Ud=>Kf fu call a0n a0 (nn) Q8 Ud Pt Sv Sd Re V9 Q5)) (Ap (decide (y0*3<=y1.length))<|some (Aw.mk [.own 3 y0 (List.take (y0*3) y1),.sc (.int .i64 y6),.sc (.int .i64 0)] []))):=by kernel_rfl
theorem RI (fu d a0n:Nat)(a0:List PV):Ad C0 Tryz.prog fu (d+1) AX [.lst false 1 a0n a0]=(fun (call:Ah)=>Kf fu call a0n a0 (fu) 0 ([]) 0 0 (a0n) (a0) 0 ([])) (Ad C0 Tryz.prog fu d):=by kernel_rfl
end
section
open Go.IntKind (wrap)
structure Hd where
 k:Int
 n:Int
 e:Int
 at_:Nat
def Kp (n:Int):Int:=if n<24 then 0 else if n<256 then 1 else if n<65536 then 2 else if n<4294967296 then 4 else 8
def XA (low:Int):Nat:=if low=24 then 1 else if low=25 then 2 else if low=26 then 4 else 8
def S7 (b:List Int)(at_:Nat)(x:Int):Hd:=
 if x=244 then ⟨7,0,0,at_+1⟩ else if x=245 then ⟨7,1,0,at_+1⟩ else if x=246 then ⟨8,0,0,at_+1⟩
 else if x / 32>5 then ⟨0,0,2,at_+1⟩ else if x % 32>27 then ⟨0,0,2,at_+1⟩
 else if x % 32<24 then ⟨1+x / 32,x % 32,0,at_+1⟩
 else if b.length-(at_+1)<XA (x % 32) then ⟨0,0,1,at_+1⟩
 else if Kp (AE ((b.drop (at_+1)).take (XA (x % 32))))<XA (x % 32) then ⟨0,0,2,at_+1+XA (x % 32)⟩
 else ⟨1+x / 32,AE ((b.drop (at_+1)).take (XA (x % 32))),0,at_+1+XA (x % 32)⟩
def Bc (b:List Int)(at_:Nat):Hd:=match b[at_]? with|none=>⟨0,0,1,at_⟩|some x=>S7 b at_ x
theorem As9 {x:Int}(h:0<=x):Ei .u8 x 5=x / 32:=by
 unfold Ei;show x.fdiv (2 ^ (min (5:Int).toNat IntKind.u8.bits))=_;have h2:(2:Int) ^ (min (5:Int).toNat IntKind.u8.bits)=32:=by decide
 rw [h2,Int.fdiv_eq_ediv_of_nonneg _ (by omega)]
theorem Apv {x:Int}(h0:0<=x)(h1:x<=255):Mj .u8 x 31=x % 32:=by
 obtain ⟨n,rfl⟩:=Int.eq_ofNat_of_zero_le h0;have hn:n<256:=by omega
 have e1:(BitVec.ofInt 8 (n:Int)).toNat=n:=by
  rw [BitVec.toNat_ofInt];omega
 have e2:(BitVec.ofInt 8 (31:Int)).toNat=2 ^ 5-1:=by decide
 unfold Mj;show wrap .u8 ((BitVec.ofInt 8 (n:Int) &&& BitVec.ofInt 8 (31:Int)).toNat:Int)=_;rw [BitVec.toNat_and,e1,e2,Nat.and_two_pow_sub_one_eq_mod,F1 (by omega) (by omega)]
 omega
abbrev Agz (l:List G8)(cnt:Int)(b:List Int)(at_:Nat):List PV:=[.own 3 l.length (Fc l),.sc (.int .i64 cnt),.lst false 1 b.length (Af .u8 b),.sc (.int .i64 at_)]
section
variable {fu d:Nat}
theorem Ajn (n:Int):Ad C0 Tryz.prog fu (d+1) FC [.sc (.int .u64 n)]=some ⟨[.sc (.int .i64 (Kp n))],[]⟩:=by
 rw [XE];unfold Kp
 try unfold Aa
 repeat' first
  |((with_reducible first|apply At|apply Ao|apply Aq|apply Am);· first|with_reducible rfl|(simp (disch:=first|with_reducible assumption|omega) only [Bv,Az]<;>with_reducible rfl))
  |((with_reducible first|apply Ar|apply As);· first|with_reducible rfl|with_reducible assumption|omega|(simp (disch:=first|with_reducible assumption|omega) only [gT,Bv,Az]<;>omega))
  |(with_reducible apply Au;· first|with_reducible rfl|with_reducible assumption|(simp (disch:=first|with_reducible assumption|omega) only [gF,Bv,Az]<;>omega))
  |(with_reducible refine Ai6 ?_ ?_<;>intro hb<;>try simp only [decide_eq_true_eq,decide_eq_false_iff_not,beq_iff_eq,beq_eq_false_iff_ne,bne_iff_ne,bne_eq_false_iff_eq,ne_eq,Bool.not_eq_true',Bool.not_eq_false',Bool.not_eq_true,Bool.not_eq_false] at hb)
  |(with_reducible refine VU ?_ ?_)
 all_goals try simp (disch:=first|with_reducible assumption|omega) only [Bv,Az]
theorem OA {a0n a2n:Nat}{a0 a2:List PV}{a1 a3 k cnt:Int}{l:List G8}{b:List Int}{off sz:Nat}{q:List Int}(hq:q.length=sz)(hb:b.length<=1000000)(ho:off+sz<=b.length):∀(r:List Int)(i nn:Nat)(v:Int),q.drop i=r->r.length<nn->i<=sz ->
    Gm fu (Ad C0 Tryz.prog fu (d+1)) a0n a0 a1 a2n a2 a3 nn k v (sz:Int) sz (Af .u8 q) (sz:Int) (i:Int) l.length cnt b.length (Af .u8 b) (off:Int) (Fc l) =
      (if Kp (r.foldl Er v)<sz then some ⟨[.sc (.int .i64 0),.sc (.int .u64 0),.sc (.int .i64 2)],[Agz l cnt b (off+sz)]⟩
       else some ⟨[.sc (.int .i64 k),.sc (.int .u64 (r.foldl Er v)),.sc (.int .i64 0)],[Agz l cnt b (off+sz)]⟩)
  |_,_,0,_,_,h,_=>by omega
  |[],i,nn+1,v,hd,hn,hi=>by
    have:=drop_nil hd
    have sh:=Ajn (fu:=fu) (d:=d) v
    have L:=Df l
    have t:=Du l
    have w:wrap .i64 ((off:Int)+(sz:Int))=((off+sz:Nat):Int):=by rw [Ak (by omega) (by omega)];omega
    rw [Ly,Dv _ _ _ (by omega),List.foldl_nil]
    by_cases hs:Kp v<sz
    · rw [Bv hs]
      simp (disch:=omega) only [Bx,w,sh,L,t,Bz]
    · rw [Az hs]
      simp (disch:=omega) only [Bx,w,sh,L,t,Bz]
  |x::r,i,nn+1,v,hd,hn,hi=>by
    obtain ⟨h1,h2,h3⟩:=Cz hd
    simp only [Kb] at hn
    have g0:=Po (k:=.u8) h2
    have w:wrap .i64 ((i:Int)+1)=((i+1:Nat):Int):=by rw [Ak (by omega) (by omega)];omega
    have ih:=OA (a0n:=a0n) (a2n:=a2n) (a0:=a0) (a2:=a2) (a1:=a1) (a3:=a3) (k:=k) (cnt:=cnt) (l:=l) hq hb ho r (i+1) nn (Er v x) h3 (by omega) (by omega)
    rw [List.foldl_cons,←ih,Ly]
    simp (disch:=omega) only [Bx,Hi,Bz,g0,w]
theorem Akq {l:List G8}{cnt:Int}{b:List Int}{at_:Nat}(hfu:1000<=fu)(hb:Hg b)(hl:b.length<=1000000):
  Ad C0 Tryz.prog fu (d+2) Pw [.pbox (Agz l cnt b at_)]=some ⟨[.sc (.int .i64 (Bc b at_).k),.sc (.int .u64 (Bc b at_).n),.sc (.int .i64 (Bc b at_).e)],[Agz l cnt b (Bc b at_).at_]⟩:=by
 refine (CD fu (d+1) l.length (Fc l) cnt b.length (Af .u8 b) (at_:Int)).trans ?_;have L:=Df l;have t:=Du l;have Lb:=Al .u8 b;have tb:=Ii .u8 b;unfold Bc;by_cases hlt:at_<b.length
 rotate_left
 ·have hg:b[at_]?=none:=List.getElem?_eq_none (by omega)
  rw [hg];simp (disch:=omega) only [Bx,L,t,Lb,tb,Bz]
 have hg:b[at_]?=some b[at_]:=List.getElem?_eq_getElem hlt;have hB:=hb _ (List.getElem_mem hlt);rw [hg];generalize b[at_]=x at hg hB;have g0:=Po (k:=.u8) hg;have w1:wrap .i64 ((at_:Int)+1)=((at_+1:Nat):Int):=by rw [Ak (by omega) (by omega)];omega
 have s5:=As9 hB.1;have a31:=Apv hB.1 hB.2;unfold S7;simp only;by_cases c1:x=244
 ·subst c1;have q:wrap .u64 (wrap .u8 ((244:Int)-244))=0:=by decide
  simp (disch:=omega) only [Bx,Hi,Ck,Bz,g0,Int.reduceBEq,w1,L,t,Lb,tb,q]
 rw [Az c1];have b1:(x==(244:Int))=false:=by simp [c1]
 by_cases c2:x=245
 ·subst c2;have q:wrap .u64 (wrap .u8 ((245:Int)-244))=1:=by decide
  simp (disch:=omega) only [Bx,Hi,Ck,Bz,g0,Int.reduceBEq,w1,L,t,Lb,tb,q,if_true]
 rw [Az c2];have b2:(x==(245:Int))=false:=by simp [c2]
 by_cases c3:x=246
 ·subst c3;simp (disch:=omega) only [Bx,Hi,Ck,Bz,g0,Int.reduceBEq,w1,L,t,Lb,tb,if_true]
 rw [Az c3];have b3:(x==(246:Int))=false:=by simp [c3]
 by_cases c4:x / 32>5
 ·rw [Bv c4];simp (disch:=omega) only [Bx,Hi,Ck,Bz,g0,b1,b2,b3,s5,a31,w1,L,t,Lb,tb]
 rw [Az c4];by_cases c5:x % 32>27
 ·rw [Bv c5];simp (disch:=omega) only [Bx,Hi,Ck,Bz,g0,b1,b2,b3,s5,a31,w1,L,t,Lb,tb]
 rw [Az c5];have wk1:wrap .i64 (x / 32)=x / 32:=Ak (by omega) (by omega)
 have wk2:wrap .i64 (1+x / 32)=1+x / 32:=Ak (by omega) (by omega)
 by_cases c6:x % 32<24
 ·have wn:wrap .u64 (x % 32)=x % 32:=Ch (by omega) (by omega)
  rw [Bv c6];simp (disch:=omega) only [Bx,Hi,Ck,Bz,g0,b1,b2,b3,s5,a31,w1,wk1,wk2,wn,L,t,Lb,tb]
 rw [Az c6];have q1:wrap .u8 (x % 32-24)=x % 32-24:=F1 (by omega) (by omega)
 have q2:Fp .i64 1 (x % 32-24)=(XA (x % 32):Int):=by
  have:x % 32=24∨x % 32=25∨x % 32=26∨x % 32=27:=by omega
  rcases this with h|h|h|h<;>rw [h]<;>decide
 have q3:XA (x % 32)<=8:=by
  unfold XA
  repeat' split
  all_goals omega
 generalize XA (x % 32)=sz at q2 q3 ⊢;have q4:wrap .i64 ((b.length:Int)-((at_+1:Nat):Int))=((b.length-(at_+1):Nat):Int):=by rw [Ak (by omega) (by omega)];omega
 by_cases c7:b.length-(at_+1)<sz
 ·rw [Bv c7];simp (disch:=omega) only [Bx,Hi,Ck,Bz,g0,b1,b2,b3,s5,a31,w1,wk1,wk2,q1,q2,q4,L,t,Lb,tb]
 rw [Az c7];have q5:wrap .i64 (((at_+1:Nat):Int)+(sz:Int))=((at_+1+sz:Nat):Int):=by rw [Ak (by omega) (by omega)];omega
 have q6:at_+1+sz-(at_+1)=sz:=by omega
 have lp:=OA (fu:=fu) (d:=d) (a0n:=l.length) (a2n:=b.length) (a0:=Fc l) (a2:=Af .u8 b) (a1:=cnt) (a3:=(at_:Int)) (k:=1+x / 32) (cnt:=cnt) (l:=l) (b:=b) (off:=at_+1) (sz:=sz) (q:=(b.drop (at_+1)).take sz) (by rw [List.length_take,List.length_drop];omega) hl (by omega) _ 0 fu 0 rfl (by rw [Di,List.length_take];omega) (by omega)
 rw [Di] at lp;have lp':=lp;unfold AE;by_cases c8:Kp (((b.drop (at_+1)).take sz).foldl Er 0)<sz
 ·rw [Bv c8] at lp' ⊢;simp (disch:=omega) only [Bx,Hi,Ck,Bz,g0,b1,b2,b3,s5,a31,w1,wk1,wk2,q1,q2,q4,q5,q6,Fs,Ec,L,t,Lb,tb];exact lp'
 ·rw [Az c8] at lp' ⊢;simp (disch:=omega) only [Bx,Hi,Ck,Bz,g0,b1,b2,b3,s5,a31,w1,wk1,wk2,q1,q2,q4,q5,q6,Fs,Ec,L,t,Lb,tb];exact lp'
end
end
section
open Go.IntKind (wrap)
structure Rd where
 x:It
 e:Int
 l:List G8
 cnt:Int
 at_:Nat
def it0:It:=⟨0,0,⟨#[]⟩⟩
def Vz (l:List G8)(cnt:Int)(x:It)(at_:Nat):Rd:=if (Eg l x).1=0 then ⟨x,0,(Eg l x).2,cnt+1,at_⟩ else ⟨it0,(Eg l x).1,(Eg l x).2,cnt,at_⟩
def VX (l:List G8)(cnt:Int)(b:List Int)(h:Hd):Rd:=
 if h.e≠0 then ⟨it0,h.e,l,cnt,h.at_⟩
 else if Jm l cnt h.k≠0 then ⟨it0,Jm l cnt h.k,l,cnt,h.at_⟩
 else if h.k=5∨h.k=6 then (if h.n>512 then ⟨it0,8,l,cnt,h.at_⟩ else Vz l cnt ⟨h.k,h.n,⟨#[]⟩⟩ h.at_)
 else if h.k=3∨h.k=4 then (if h.n>1024 then ⟨it0,8,l,cnt,h.at_⟩ else if b.length-h.at_<h.n.toNat then ⟨it0,1,l,cnt,h.at_⟩
  else Vz l cnt ⟨h.k,0,Bj ((b.drop h.at_).take h.n.toNat)⟩ (h.at_+h.n.toNat))
 else Vz l cnt ⟨h.k,h.n,⟨#[]⟩⟩ h.at_
def Fx (l:List G8)(cnt:Int)(b:List Int)(at_:Nat):Rd:=VX l cnt b (Bc b at_)
theorem JN (a b:Int):0<=Er a b∧Er a b<=18446744073709551615:=Bn _
theorem Xe:∀(l:List Int)(v:Int),0<=v->v<=18446744073709551615->0<=l.foldl Er v∧l.foldl Er v<=18446744073709551615
 |[],v,h0,h1=>⟨h0,h1⟩
 |x::l,v,h0,h1=>Xe l _ (JN v x).1 (JN v x).2
theorem Ps {b:List Int}{at_:Nat}(hb:Hg b)(ha:at_<=b.length):(Bc b at_).at_<=b.length∧((Bc b at_).e=0->1<=(Bc b at_).k∧(Bc b at_).k<=8∧0<=(Bc b at_).n∧(Bc b at_).n<=18446744073709551615∧at_<(Bc b at_).at_):=by
 unfold Bc;by_cases hlt:at_<b.length
 rotate_left
 ·have hg:b[at_]?=none:=List.getElem?_eq_none (by omega)
  rw [hg];exact ⟨ha,fun h=>by simp at h⟩
 have hg:b[at_]?=some b[at_]:=List.getElem?_eq_getElem hlt;have hB:=hb _ (List.getElem_mem hlt);rw [hg];generalize b[at_]=x at hB;have hd:=Xe ((b.drop (at_+1)).take (XA (x % 32))) 0 (by omega) (by omega)
 show (S7 b at_ x).at_<=b.length∧_;simp only [S7];unfold AE
 repeat' split
 all_goals refine ⟨by simp only;omega,fun h=>?_⟩
 all_goals first
  |(simp at h;done)
  |(simp only;omega)
section
variable {fu d:Nat}
theorem Akj {l:List G8}{cnt:Int}{b:List Int}{at_:Nat}(hfu:1000<=fu)(hb:Hg b)(hl:b.length<=1000000)(ha:at_<=b.length)(hf:l.length<=900)(h0:0<=cnt)(h1:cnt<=1000000):
  Ad C0 Tryz.prog fu (d+4) Qc [.pbox (Agz l cnt b at_)]=some ⟨[.agg (Fx l cnt b at_).x.cells,.sc (.int .i64 (Fx l cnt b at_).e)],[Agz (Fx l cnt b at_).l (Fx l cnt b at_).cnt b (Fx l cnt b at_).at_]⟩:=by
 refine (BP fu (d+3) l.length (Fc l) cnt b.length (Af .u8 b) (at_:Int)).trans ?_;have hd:=Akq (fu:=fu) (d:=d+1) (l:=l) (cnt:=cnt) (at_:=at_) hfu hb hl;have hk:=Ps hb ha;unfold Fx;generalize Bc b at_=h at hd hk ⊢;obtain ⟨k,n,e,a⟩:=h;obtain ⟨ka,hk⟩:=hk;simp only at hd ka hk;have L:=Df l;have t:=Du l;have ad:=ZD (fu:=fu) (d:=d+1) (l:=l) (by omega) cnt k
 unfold Lj at ad;unfold VX;by_cases he:e=0
 rotate_left
 ·simp only [ne_eq,he,not_false_eq_true,if_true];have he':(e != 0)=true:=by simp [he]
  try unfold Aa
  repeat first
   |((with_reducible first|apply At|apply Ao|apply Aq|apply Ba|apply Dd|apply B8|apply Am);· first|with_reducible rfl|(simp (disch:=omega) only [hd,he',L,t]<;>with_reducible rfl))
   |((with_reducible first|apply Ar|apply As);· first|with_reducible rfl|omega|(simp (disch:=omega) only [gT,hd,he',L,t]<;>omega))
   |(with_reducible apply Au;· first|with_reducible rfl|(simp (disch:=omega) only [gF,hd,he',L,t]<;>omega))
  try simp (disch:=omega) only [hd,he',L,t]
  all_goals rfl
 subst he;obtain ⟨k1,k8,n0,n1,_⟩:=hk rfl;obtain ⟨m,rfl⟩:=Int.eq_ofNat_of_zero_le n0;have e00:((0:Int) != 0)=false:=rfl;simp only [ne_eq,not_true_eq_false,if_false];by_cases hm:Jm l cnt k=0
 rotate_left
 ·simp only [hm,not_false_eq_true,if_true];have he':(Jm l cnt k != 0)=true:=by simp [hm]
  try unfold Aa
  repeat first
   |((with_reducible first|apply At|apply Ao|apply Aq|apply Ba|apply Dd|apply B8|apply Am);· first|with_reducible rfl|(simp (disch:=omega) only [hd,e00,ad,he',L,t]<;>with_reducible rfl))
   |((with_reducible first|apply Ar|apply As);· first|with_reducible rfl|omega|(simp (disch:=omega) only [gT,hd,e00,ad,he',L,t]<;>omega))
   |(with_reducible apply Au;· first|with_reducible rfl|(simp (disch:=omega) only [gF,hd,e00,ad,he',L,t]<;>omega))
  try simp (disch:=omega) only [hd,e00,ad,he',L,t]
  all_goals rfl
 rw [hm] at ad ⊢;simp only [not_true_eq_false,if_false,Hi];have ac1:=SY (fu:=fu) (d:=d) (l:=l) (x:=⟨k,m,⟨#[]⟩⟩) (cnt:=cnt) hfu (by omega) h0 h1 ⟨k1,k8,n0,Nat.zero_le _⟩ (Nat.zero_le _)
 have LA:=Df (Eg l ⟨k,m,⟨#[]⟩⟩).2;have tA:=Du (Eg l ⟨k,m,⟨#[]⟩⟩).2;have B:=fun (hn:m<=1024)=>SY (fu:=fu) (d:=d) (l:=l) (x:=⟨k,0,Bj ((b.drop a).take m)⟩) (cnt:=cnt) hfu (by omega) h0 h1 ⟨k1,k8,by simp,by rw [Ek,List.length_take];omega⟩ (by rw [Ek,List.length_take];omega)
 have LB:=Df (Eg l ⟨k,0,Bj ((b.drop a).take m)⟩).2;have tB:=Du (Eg l ⟨k,0,Bj ((b.drop a).take m)⟩).2;unfold Vz;generalize Eg l ⟨k,m,⟨#[]⟩⟩=A at *
 obtain ⟨A1,A2⟩:=A;have eB:ByteArray.mk (List.toArray (((b.drop a).take m).map fun n=>n.toNat.toUInt8))=Bj ((b.drop a).take m):=rfl
 have bo:=Ff ((b.drop a).take m);have tk:List.take m (List.drop a (Af .u8 b))=Af .u8 ((b.drop a).take m):=by rw [Fs,Ec]
 have lq:(Af .u8 ((b.drop a).take m)).length=min m (b.length-a):=by rw [Al,List.length_take,List.length_drop]
 have Lb:=Al .u8 b;generalize Bj ((b.drop a).take m)=S at *
 generalize Eg l ⟨k,0,S⟩=B' at *
 obtain ⟨B1,B2⟩:=B';generalize (b.drop a).take m=q at *
 unfold Lj It.cells at ac1 B;simp only at ac1 B LA tA LB tB;have w1:wrap .i64 ((b.length:Int)-(a:Int))=((b.length-a:Nat):Int):=by rw [Ak (by omega) (by omega)];omega
 have w2:m<=1024->wrap .i64 (m:Int)=m:=fun h=>Ak (by omega) (by omega)
 have w3:m<=1024->wrap .i64 ((a:Int)+(m:Int))=((a+m:Nat):Int):=fun h=>by rw [Ak (by omega) (by omega)];omega
 have w4:a+m-a=m:=by omega
 try unfold Aa
 repeat' first
  |((with_reducible first|apply At|apply Ao|apply Aq|apply Ba|apply Dd|apply B8|apply Am);· first|with_reducible rfl|(simp (disch:=first|with_reducible assumption|omega) only [hd,e00,ad,L,t,ac1,LA,tA,B,LB,tB,w1,w2,w3,w4,tk,bo,lq,eB,Hi,Bz,Ck]<;>with_reducible rfl))
  |((with_reducible first|apply Ar|apply As);· first|with_reducible rfl|with_reducible assumption|omega|(simp (disch:=first|with_reducible assumption|omega) only [gT,hd,e00,ad,L,t,ac1,LA,tA,B,LB,tB,w1,w2,w3,w4,tk,bo,lq,eB,Hi,Bz,Ck]<;>omega))
  |(with_reducible apply Au;· first|with_reducible rfl|with_reducible assumption|(simp (disch:=first|with_reducible assumption|omega) only [gF,hd,e00,ad,L,t,ac1,LA,tA,B,LB,tB,w1,w2,w3,w4,tk,bo,lq,eB,Hi,Bz,Ck]<;>omega))
  |(with_reducible refine Ai6 ?_ ?_<;>intro hb<;>try simp only [decide_eq_true_eq,decide_eq_false_iff_not,beq_iff_eq,beq_eq_false_iff_ne,bne_iff_ne,bne_eq_false_iff_eq,ne_eq,Bool.not_eq_true',Bool.not_eq_false',Bool.not_eq_true,Bool.not_eq_false] at hb)
  |(with_reducible refine VU ?_ ?_)
 all_goals try simp (disch:=first|with_reducible assumption|omega) only [hd,e00,ad,L,t,ac1,LA,tA,B,LB,tB,w1,w2,w3,w4,tk,bo,lq,eB,Hi,Bz,Ck,Bv,Az]
 all_goals rfl
end
end
section
open Go.IntKind (wrap)
def UF (l:List G8)(cnt:Int):Bool:=decide (cnt>0)&&((l.length:Int)==0)
def J7:Nat->List G8->Int->List Int->Nat->List It->List It × Nat × Int
 |0,_,_,_,_,_=>([],0,2)
 |m+1,l,cnt,b,at_,its=>if UF l cnt=true then (its,at_,0) else
  if (Fx l cnt b at_).e≠0 then ([],0,(Fx l cnt b at_).e) else J7 m (Fx l cnt b at_).l (Fx l cnt b at_).cnt b (Fx l cnt b at_).at_ (its++[(Fx l cnt b at_).x])
def DA (r:List It × Nat × Int):List PV:=[.own 3 r.1.length (Bl r.1),.sc (.int .i64 r.2.1),.sc (.int .i64 r.2.2)]
theorem Amg (l:List G8):(HI l).length<=l.length:=by
 unfold HI;rw [List.length_reverse];have:=(List.dropWhile_sublist (l:=l.reverse) fun f=>f.left==0).length_le
 rw [List.length_reverse] at this;exact this
theorem UC (l:List G8)(x:It):(Fu l x).length<=l.length+1:=by
 unfold Fu;refine Nat.le_trans (Amg _) ?_;have:=PA l;unfold UO
 repeat' split
 all_goals simp
 all_goals omega
theorem Ac7 (l:List G8)(k:List Int):(Jl l k).length=l.length:=by
 rcases Nh l with rfl|⟨l',f,rfl⟩
 ·rfl
 ·rw [Ni];simp
theorem Aal (l:List G8)(x:It):(Eg l x).2.length<=l.length+1:=by
 unfold Eg;have h1:=UC l x;have h2:=UC (Jl l (Bp x)) x;rw [Ac7] at h2
 repeat' split
 all_goals simp only
 all_goals omega
structure OkX (x:It):Prop where
 k1:1<=x.k
 k8:x.k<=8
 n0:0<=x.n
 n1:x.n<=18446744073709551615
 s1:x.s.size<=1024
theorem Aja {l:List G8}{cnt k:Int}(h:Jm l cnt k=0):cnt<512∧l.length<=8:=by
 unfold Jm at h
 repeat' split at h
 all_goals first
  |(cases h;done)
  |omega
theorem PP {l:List G8}{cnt:Int}{x:It}{at_:Nat}(hx:OkX x)(h:(Vz l cnt x at_).e=0):(Vz l cnt x at_).cnt=cnt+1∧(Vz l cnt x at_).l.length<=l.length+1∧(Vz l cnt x at_).at_=at_∧OkX (Vz l cnt x at_).x:=by
 have:=Aal l x;unfold Vz at h ⊢;by_cases hz:(Eg l x).1=0
 ·rw [Bv hz];exact ⟨rfl,this,rfl,hx⟩
 ·rw [Az hz] at h;exact absurd h hz
theorem UM {l:List G8}{cnt:Int}{b:List Int}{at_:Nat}(hb:Hg b)(ha:at_<=b.length)(h:(Fx l cnt b at_).e=0):
  cnt<512∧(Fx l cnt b at_).cnt=cnt+1∧(Fx l cnt b at_).l.length<=9∧at_<(Fx l cnt b at_).at_∧(Fx l cnt b at_).at_<=b.length∧OkX (Fx l cnt b at_).x:=by
 have hk:=Ps hb ha;unfold Fx at h ⊢;generalize Bc b at_=q at h hk ⊢;obtain ⟨k,n,e,a⟩:=q;obtain ⟨ka,hk⟩:=hk;unfold VX at h ⊢;simp only at h hk ka ⊢;by_cases he:e=0
 rotate_left
 ·rw [Bv he] at h;exact absurd h he
 subst he;obtain ⟨k1,k8,n0,n1,hlt⟩:=hk rfl;rw [Az (by simp)] at h ⊢
 by_cases hm:Jm l cnt k=0
 rotate_left
 ·rw [Bv hm] at h;exact absurd h hm
 obtain ⟨c1,c2⟩:=Aja hm;rw [Az (by simp [hm])] at h ⊢
 have z:(ByteArray.mk #[]).size<=1024:=Nat.zero_le _;by_cases h56:k=5∨k=6
 ·rw [Bv h56] at h ⊢;by_cases hn:n>512
  ·rw [Bv hn] at h;exact absurd h (by simp)
  ·rw [Az hn] at h ⊢;obtain ⟨p1,p2,p3,p4⟩:=PP ⟨k1,k8,n0,n1,z⟩ h;exact ⟨c1,p1,by omega,by omega,by omega,p4⟩
 ·rw [Az h56] at h ⊢;by_cases h34:k=3∨k=4
  ·rw [Bv h34] at h ⊢;by_cases hn:n>1024
   ·rw [Bv hn] at h;exact absurd h (by simp)
   ·rw [Az hn] at h ⊢;by_cases hr:b.length-a<n.toNat
    ·rw [Bv hr] at h;exact absurd h (by simp)
    ·rw [Az hr] at h ⊢;obtain ⟨p1,p2,p3,p4⟩:=PP ⟨k1,k8,by simp,by simp,by rw [Ek,List.length_take];omega⟩ h
     exact ⟨c1,p1,by omega,by omega,by omega,p4⟩
  ·rw [Az h34] at h ⊢;obtain ⟨p1,p2,p3,p4⟩:=PP ⟨k1,k8,n0,n1,z⟩ h;exact ⟨c1,p1,by omega,by omega,by omega,p4⟩
theorem FS {b:List Int}(hb:Hg b):∀(m:Nat)(l:List G8)(cnt:Int)(at_:Nat)(its:List It),at_<=b.length->(∀x∈its,OkX x)->(J7 m l cnt b at_ its).2.1<=b.length∧∀x∈(J7 m l cnt b at_ its).1,OkX x
 |0,l,cnt,at_,its,h,hi=>⟨by simp [J7],by intro x hx;simp [J7] at hx⟩
 |m+1,l,cnt,at_,its,h,hi=>by
  unfold J7;by_cases hd:UF l cnt=true
  ·rw [Bv hd];exact ⟨h,hi⟩
  ·rw [Az hd];by_cases he:(Fx l cnt b at_).e=0
   ·rw [Az (by simp [he])]
    obtain ⟨_,_,_,_,p,q⟩:=UM hb h he;refine FS hb m _ _ _ _ p ?_;intro x hx;rcases List.mem_append.1 hx with hx|hx
    ·exact hi x hx
    ·simp at hx;subst hx;exact q
   ·rw [Bv he];exact ⟨by simp,by intro x hx;simp at hx⟩
section
variable {fu d:Nat}
theorem YI (hfu:1000<=fu){a0n:Nat}{a0:List PV}{b:List Int}(hb:Hg b)(hl:b.length<=1000000):∀(nn:Nat)(l:List G8)(cnt:Int)(at_:Nat)(its:List It),0<=cnt->cnt<=512->512-cnt<nn->l.length<=9->at_<=b.length->its.length=cnt.toNat ->
  Kf fu (Ad C0 Tryz.prog fu (d+4)) a0n a0 nn its.length (Bl its) l.length cnt b.length (Af .u8 b) (at_:Int) (Fc l)=some ⟨DA (J7 nn l cnt b at_ its),[]⟩
 |0,_,_,_,_,_,_,h,_,_,_=>by omega
 |nn+1,l,cnt,at_,its,h0,h1,hn,hf,ha,hi=>by
  have dn:=XM (fu:=fu) (d:=d+3) l cnt;have ri:=Akj (fu:=fu) (d:=d) (l:=l) (cnt:=cnt) (b:=b) (at_:=at_) hfu hb hl ha (by omega) h0 (by omega)
  have ok:=UM (l:=l) (cnt:=cnt) hb ha;have L:=Df l;have t:=Du l;have LT:=Ee its;have tT:List.take (its.length*3) (Bl its)=Bl its:=Jv (by omega)
  have ih:=YI hfu (a0n:=a0n) (a0:=a0) hb hl nn;rw [IB];unfold J7;unfold Lj at dn;change _=some (Aw.mk [.sc (.bool (UF l cnt))] _) at dn;generalize Fx l cnt b at_=r at ri ok ⊢;obtain ⟨x,e,l2,cnt2,at2⟩:=r;simp only at ri ok ⊢;cases hd:UF l cnt
  ·rw [hd] at dn;rw [Az (by simp)]
   by_cases he:e=0
   ·subst he;obtain ⟨p1,rfl,p3,p4,p5,p6⟩:=ok rfl;have q:=ih l2 (cnt+1) at2 (its++[x]) (by omega) (by omega) (by omega) p3 p5 (by simp;omega)
    rw [Az (by simp),←q,FG,Hz]
    have e1:Bl [x]=x.cells:=by simp [Bl]
    rw [e1];obtain ⟨xk,xn,xs⟩:=x;unfold It.cells at ri ⊢;have e00:((0:Int) != 0)=false:=rfl
    try unfold Aa
    repeat first
     |((with_reducible first|apply At|apply Ao|apply Aq|apply A6|apply A0|apply Ba|apply Dd|apply Bi|apply Am);· first|with_reducible rfl|(simp (disch:=omega) only [dn,ri,e00,L,t,LT,tT]<;>with_reducible rfl))
     |((with_reducible first|apply Ar|apply As);· first|with_reducible rfl|omega|(simp (disch:=omega) only [gT,dn,ri,e00,L,t,LT,tT]<;>omega))
     |(with_reducible apply Au;· first|with_reducible rfl|(simp (disch:=omega) only [gF,dn,ri,e00,L,t,LT,tT]<;>omega))
    try simp (disch:=omega) only [dn,ri,e00,L,t,LT,tT]
    all_goals rfl
   ·have he':(e != 0)=true:=by simp [he]
    rw [Bv he];obtain ⟨xk,xn,xs⟩:=x;unfold It.cells at ri
    try unfold Aa
    repeat first
     |((with_reducible first|apply At|apply Ao|apply Aq|apply A6|apply A0|apply Ba|apply Dd|apply Bi|apply Am);· first|with_reducible rfl|(simp (disch:=omega) only [dn,ri,he',L,t,LT,tT]<;>with_reducible rfl))
     |((with_reducible first|apply Ar|apply As);· first|with_reducible rfl|omega|(simp (disch:=omega) only [gT,dn,ri,he',L,t,LT,tT]<;>omega))
     |(with_reducible apply Au;· first|with_reducible rfl|(simp (disch:=omega) only [gF,dn,ri,he',L,t,LT,tT]<;>omega))
    try simp (disch:=omega) only [dn,ri,he',L,t,LT,tT]
    all_goals rfl
  ·rw [hd] at dn;rw [Bv rfl]
   try unfold Aa
   repeat first
    |((with_reducible first|apply At|apply Ao|apply Aq|apply A6|apply A0|apply Ba|apply Dd|apply Bi|apply Am);· first|with_reducible rfl|(simp (disch:=omega) only [dn,L,t,LT,tT]<;>with_reducible rfl))
    |((with_reducible first|apply Ar|apply As);· first|with_reducible rfl|omega|(simp (disch:=omega) only [gT,dn,L,t,LT,tT]<;>omega))
    |(with_reducible apply Au;· first|with_reducible rfl|(simp (disch:=omega) only [gF,dn,L,t,LT,tT]<;>omega))
   try simp (disch:=omega) only [dn,L,t,LT,tT]
   all_goals rfl
theorem Ah5 (hfu:1000<=fu){b:List Int}(hb:Hg b)(hl:b.length<=1000000):
  Ad C0 Tryz.prog fu (d+5) AX [.lst false 1 b.length (Af .u8 b)]=some ⟨DA (J7 fu [] 0 b 0 []),[]⟩:=by
 rw [RI];exact YI hfu hb hl fu [] 0 0 [] (by omega) (by omega) (by omega) (by simp) (by omega) (by simp)
end
end
section
open Go.IntKind (wrap)
theorem Aop {n:Int}(h0:0<=n):(n<256->AE (tb n 1)=n)∧(n<65536->AE (tb n 2)=n)∧(n<4294967296->AE (tb n 4)=n)∧(n<=18446744073709551615->AE (tb n 8)=n):=by
 have st:∀(k:Nat) (D:Int),n<=18446744073709551615->k<8->(2:Int) ^ (56-8*k)=D->0<D->Er (n / D / 256) (Dl n k)=n / D:=by
  intro k D h1 hk hD hp;rw [UJ k hk,hD];exact Ao7 (Int.ediv_nonneg h0 (Int.le_of_lt hp)) (Int.le_trans (Int.ediv_le_self _ h0) h1)
 refine ⟨fun h=>?_,fun h=>?_,fun h=>?_,fun h=>TM h0 h⟩
 ·have s7:=st 7 1 (by omega) (by omega) (by decide) (by omega)
  rw [show n / 1 / 256=0 by omega,show n / 1=n by omega] at s7
  exact s7
 ·have s6:=st 6 256 (by omega) (by omega) (by decide) (by omega)
  have s7:=st 7 1 (by omega) (by omega) (by decide) (by omega)
  rw [show n / 256 / 256=0 by omega] at s6
  rw [show n / 1 / 256=n / 256 by omega,show n / 1=n by omega] at s7
  show Er (Er 0 (Dl n 6)) (Dl n 7)=n;rw [s6,s7]
 ·have s4:=st 4 16777216 (by omega) (by omega) (by decide) (by omega)
  have s5:=st 5 65536 (by omega) (by omega) (by decide) (by omega)
  have s6:=st 6 256 (by omega) (by omega) (by decide) (by omega)
  have s7:=st 7 1 (by omega) (by omega) (by decide) (by omega)
  rw [show n / 16777216 / 256=0 by omega] at s4
  rw [show n / 65536 / 256=n / 16777216 by omega] at s5
  rw [show n / 256 / 256=n / 65536 by omega] at s6
  rw [show n / 1 / 256=n / 256 by omega,show n / 1=n by omega] at s7
  show Er (Er (Er (Er 0 (Dl n 4)) (Dl n 5)) (Dl n 6)) (Dl n 7)=n;rw [s4,s5,s6,s7]
theorem Y6 {b:List Int}{at_:Nat}{mj n low:Int}{k:Nat}{rest:List Int}(m0:0<=mj)(m5:mj<=5)(l0:24<=low)(l1:low<=27)(hk:XA low=k)(h:b.drop (at_+1)=tb n k++rest) (hd:AE (tb n k)=n) (hs:¬(Kp n<(k:Int))):
  S7 b at_ (32*mj+low)=⟨1+mj,n,0,at_+1+k⟩:=by
 have e1:(32*mj+low) / 32=mj:=by omega
 have e2:(32*mj+low) % 32=low:=by omega
 have e3:(b.drop (at_+1)).take k=tb n k:=by rw [h,List.take_left' (CN n k)]
 have e4:k<=b.length-(at_+1):=by
  have:=congrArg List.length h;rw [List.length_drop,Hz,CN] at this;omega
 unfold S7;rw [e1,e2,hk,e3,hd,Az (by omega),Az (by omega),Az (by omega),Az (by omega),Az (by omega),Az (by omega),Az (by omega),Az hs]
theorem BU {b:List Int}{at_:Nat}{mj n:Int}{rest:List Int}(h:b.drop at_=Dc mj n++rest)(m0:0<=mj)(m5:mj<=5)(n0:0<=n)(n1:n<=18446744073709551615):
  Bc b at_=⟨1+mj,n,0,at_+(Dc mj n).length⟩:=by
 obtain ⟨d1,d2,d4,d8⟩:=Aop n0;unfold Bc;unfold Dc at h ⊢;by_cases c1:n<24
 ·rw [Bv c1] at h ⊢;obtain ⟨_,g,_⟩:=Cz h;rw [g];show S7 b at_ (32*mj+n)=_;unfold S7;have e1:(32*mj+n) / 32=mj:=by omega
  have e2:(32*mj+n) % 32=n:=by omega
  rw [e1,e2,Az (by omega),Az (by omega),Az (by omega),Az (by omega),Az (by omega),Bv c1]
  rfl
 rw [Az c1] at h ⊢;by_cases c2:n<256
 ·rw [Bv c2] at h ⊢;obtain ⟨_,g,g2⟩:=Cz h;rw [g];have:=Y6 (at_:=at_) m0 m5 (low:=24) (by omega) (by omega) (k:=1) (by decide) g2 (d1 c2) (by unfold Kp;rw [Az c1,Bv c2];omega)
  show S7 b at_ (32*mj+24)=_;rw [this,Kb,CN]
 rw [Az c2] at h ⊢;by_cases c3:n<65536
 ·rw [Bv c3] at h ⊢;obtain ⟨_,g,g2⟩:=Cz h;rw [g];have:=Y6 (at_:=at_) m0 m5 (low:=25) (by omega) (by omega) (k:=2) (by decide) g2 (d2 c3) (by unfold Kp;rw [Az c1,Az c2,Bv c3];omega)
  show S7 b at_ (32*mj+25)=_;rw [this,Kb,CN]
 rw [Az c3] at h ⊢;by_cases c4:n<4294967296
 ·rw [Bv c4] at h ⊢;obtain ⟨_,g,g2⟩:=Cz h;rw [g];have:=Y6 (at_:=at_) m0 m5 (low:=26) (by omega) (by omega) (k:=4) (by decide) g2 (d4 c4) (by unfold Kp;rw [Az c1,Az c2,Az c3,Bv c4];omega)
  show S7 b at_ (32*mj+26)=_;rw [this,Kb,CN]
 ·rw [Az c4] at h ⊢;obtain ⟨_,g,g2⟩:=Cz h;rw [g];have:=Y6 (at_:=at_) m0 m5 (low:=27) (by omega) (by omega) (k:=8) (by decide) g2 (d8 n1) (by unfold Kp;rw [Az c1,Az c2,Az c3,Az c4];omega)
  show S7 b at_ (32*mj+27)=_;rw [this,Kb,CN]
theorem XF {s:ByteArray}(h:EE s=true):s=⟨#[]⟩:=by
 unfold EE at h;have:=eq_of_beq h;apply ByteArray.ext;exact Array.toList_inj.1 this
def XQ (x:It):Int:=if x.k=3∨x.k=4 then (x.s.size:Int) else x.n
theorem BF {x:It}{b:List Int}{at_:Nat}{rest:List Int}(hsh:Gr x=true)(k1:1<=x.k)(k8:x.k<=8)(n0:0<=x.n)(n1:x.n<=18446744073709551615)(hs:x.s.size<=1024)(h:b.drop at_=Bp x++rest):
  Bc b at_=⟨x.k,XQ x,0,at_+((Bp x).length-x.s.size)⟩∧(x.k=3∨x.k=4->x.n=0∧b.drop (at_+((Bp x).length-x.s.size))=Cg x.s++rest)∧(¬(x.k=3∨x.k=4)->x.s=⟨#[]⟩)∧x.s.size<=(Bp x).length:=by
 obtain ⟨k,n,s⟩:=x;have z:(ByteArray.mk #[]).size=0:=rfl;simp only at k1 k8 n0 n1 hs ⊢;unfold Gr at hsh;simp only at hsh;have L:=Ey s;have E7:k=7->Bp ⟨k,n,s⟩=[wrap .u8 (244+wrap .u8 n)]:=fun e=>by unfold Bp;rw [Bv e]
 have E8:k=8->Bp ⟨k,n,s⟩=[246]:=fun e=>by subst e;rfl
 have E3:k=3->Bp ⟨k,n,s⟩=Dc 2 s.size++Cg s:=fun e=>by subst e;rfl
 have E4:k=4->Bp ⟨k,n,s⟩=Dc 3 s.size++Cg s:=fun e=>by subst e;rfl
 have E0:k≠7->k≠8->k≠3->k≠4->Bp ⟨k,n,s⟩=Dc (k-1) n:=fun a b c d=>by unfold Bp;rw [Az a,Az b,Az c,Az d]
 have N34:k=3∨k=4->XQ ⟨k,n,s⟩=s.size:=fun e=>by unfold XQ;rw [Bv e]
 have N0:¬(k=3∨k=4)->XQ ⟨k,n,s⟩=n:=fun e=>by unfold XQ;rw [Az e]
 by_cases c7:k=7
 ·subst c7;simp at hsh;obtain ⟨hn,hs⟩:=hsh;obtain rfl:=XF hs;rw [E7 rfl] at h ⊢;rw [N0 (by omega)]
  obtain ⟨_,g,_⟩:=Cz h;refine ⟨?_,fun h=>by omega,fun _=>rfl,Nat.zero_le _⟩
  have:n=0∨n=1:=by omega
  unfold Bc;rw [g];rcases this with rfl|rfl
  ·rfl
  ·rfl
 by_cases c8:k=8
 ·subst c8;simp at hsh;obtain ⟨rfl,hs⟩:=hsh;obtain rfl:=XF hs;rw [E8 rfl] at h ⊢;rw [N0 (by omega)]
  obtain ⟨_,g,_⟩:=Cz h;refine ⟨?_,fun h=>by omega,fun _=>rfl,Nat.zero_le _⟩
  unfold Bc;rw [g];rfl
 by_cases c3:k=3
 ·subst c3;simp at hsh;subst hsh;rw [E3 rfl] at h ⊢;rw [N34 (by omega)]
  rw [Zzv] at h;have q:=BU h (by omega) (by omega) (by omega) (by omega)
  have e:(Dc 2 (s.size:Int)++Cg s).length-s.size=(Dc 2 (s.size:Int)).length:=by rw [Hz,L];omega
  rw [e];refine ⟨q,fun _=>⟨rfl,?_⟩,fun h=>by omega,by rw [Hz,L];omega⟩
  rw [←List.drop_drop,h,List.drop_left' rfl]
 by_cases c4:k=4
 ·subst c4;simp at hsh;subst hsh;rw [E4 rfl] at h ⊢;rw [N34 (by omega)]
  rw [Zzv] at h;have q:=BU h (by omega) (by omega) (by omega) (by omega)
  have e:(Dc 3 (s.size:Int)++Cg s).length-s.size=(Dc 3 (s.size:Int)).length:=by rw [Hz,L];omega
  rw [e];refine ⟨q,fun _=>⟨rfl,?_⟩,fun h=>by omega,by rw [Hz,L];omega⟩
  rw [←List.drop_drop,h,List.drop_left' rfl]
 rw [Az c3,Az c4,Az c8,Az c7] at hsh;obtain rfl:=XF hsh;rw [E0 c7 c8 c3 c4] at h ⊢;rw [N0 (by omega)]
 have q:=BU h (by omega) (by omega) n0 n1
 refine ⟨?_,fun h=>by omega,fun _=>rfl,by rw [z];omega⟩
 rw [q,z,Nat.sub_zero]
 congr 1
 omega
theorem Ace {l:List G8}{cnt:Int}{x:It}{b:List Int}{at_:Nat}{rest:List Int}(g:Apt l cnt x)(n0:0<=x.n)(n1:x.n<=18446744073709551615)(h:b.drop at_=Bp x++rest):
  Fx l cnt b at_=⟨x,0,Fu l x,cnt+1,at_+(Bp x).length⟩:=by
 have k18:1<=x.k∧x.k<=8:=by
  have hm:=g.hm;unfold Jm at hm
  repeat' split at hm
  all_goals first
   |(cases hm;done)
   |omega
 obtain ⟨q1,q2,q3,q4⟩:=BF g.hsh k18.1 k18.2 n0 n1 g.hs h
 have ac:∀a:Nat,Vz l cnt x a=⟨x,0,Fu l x,cnt+1,a⟩:=by
  intro a
  have:Eg l x=(0,Fu l x):=by
   unfold Eg;rw [Az,Az (by simp [g.ha])]
   intro hh;have:=g.hv hh.1;exact absurd hh.2 (by simp [RH,this])
  unfold Vz;rw [this];rfl
 have ln:b.length-(at_+((Bp x).length-x.s.size))>=x.s.size:=by
  have:=congrArg List.length h;rw [List.length_drop,Hz] at this;omega
 unfold Fx;rw [q1];unfold VX;simp only;rw [Az (by simp),g.hm,Az (by simp)]
 have hs:=g.hs;have hn:=g.hn;obtain ⟨k,n,s⟩:=x;simp only at *
 by_cases c34:k=3∨k=4
 ·obtain ⟨rfl,q2⟩:=q2 c34;have N:XQ ⟨k,0,s⟩=s.size:=by unfold XQ;rw [Bv c34]
  rw [N,Az (by omega),Bv c34,Az (by omega),Hi,Az (by omega),q2,List.take_left' (Ey s),Pj,ac]
  congr 1
  omega
 ·obtain rfl:=q3 c34;have z:(ByteArray.mk #[]).size=0:=rfl;have N:XQ ⟨k,n,⟨#[]⟩⟩=n:=by unfold XQ;rw [Az c34]
  rw [N,Az c34,z,Nat.sub_zero];by_cases c56:k=5∨k=6
  ·rw [Bv c56,Az (by omega),ac]
  ·rw [Az c56,ac]
theorem SK {b:List Int}{rest:List Int}:∀(its:List It)(l:List G8)(cnt:Int)(at_ m:Nat)(acc:List It),P4 l cnt its->(∀x∈its,0<=x.n∧x.n<=18446744073709551615)->b.drop at_=Bb its++rest->its.length<m ->
  J7 m l cnt b at_ acc=(acc++its,at_+(Bb its).length,0)
 |[],l,cnt,at_,m,acc,hg,hn,h,hm=>by
  obtain ⟨rfl,hc⟩:=hg;obtain ⟨m,rfl⟩:∃k,m=k+1:=⟨m-1,by omega⟩
  unfold J7;rw [Bv (by simp [UF,hc])]
  simp [Bb]
 |x::its,l,cnt,at_,m,acc,hg,hn,h,hm=>by
  obtain ⟨g,hg⟩:=hg;obtain ⟨m,rfl⟩:∃k,m=k+1:=⟨m-1,by simp at hm;omega⟩
  have e:Bb (x::its)=Bp x++Bb its:=by simp [Bb]
  rw [e,Zzv] at h;have r:=Ace g (hn x (by simp)).1 (hn x (by simp)).2 h
  have h':b.drop (at_+(Bp x).length)=Bb its++rest:=by rw [←List.drop_drop,h,List.drop_left' rfl]
  have ih:=SK its (Fu l x) (cnt+1) (at_+(Bp x).length) m (acc++[x]) hg (fun y hy=>hn y (List.mem_cons_of_mem _ hy)) h' (by simp at hm;omega)
  unfold J7;have hd:UF l cnt=false:=g.hd;rw [Az (by simp [hd]),r]
  simp only;rw [Az (by simp),ih,e]
  simp;omega
end
section
open Go.IntKind (wrap)
abbrev isU (x:Int):Prop:=0<=x∧x<=18446744073709551615
abbrev isW (l:List Int):Prop:=∀x∈l,isU x
theorem YR (l:List Int)(i:Nat):isU (Iz l i):=Xe _ 0 (by omega) (by omega)
theorem Abf (l:List Int):isW (E1 l):=by
 intro x hx;obtain ⟨k,_,rfl⟩:=List.mem_map.1 hx;exact YR l k
theorem U6:∀{ws:List Int}{i:Nat}{w:Int},isW ws->ws[i]?=some w->Iz (Ax ws) i=w
 |[],i,w,_,h=>by simp at h
 |a::ws,0,w,hw,h=>by
  simp at h;subst h;have e:Ax (a::ws)=Dq a++Ax ws:=rfl;unfold Iz;rw [Nat.mul_zero,Di,e,List.take_left' (D1 a)];have:=hw a (by simp)
  exact TM this.1 this.2
 |a::ws,i+1,w,hw,h=>by
  simp at h;have ih:=U6 (ws:=ws) (fun x hx=>hw x (List.mem_cons_of_mem _ hx)) h
  have e:Ax (a::ws)=Dq a++Ax ws:=rfl;unfold Iz at ih ⊢;rw [show 8*(i+1)=(Dq a).length+8*i by rw [D1];omega,e,←List.drop_drop,List.drop_left' rfl]
  exact ih
theorem EN {ws:List Int}(hw:isW ws):E1 (Ax ws)=ws:=by
 have hl:(Ax ws).length / 8=ws.length:=by rw [Cy];omega
 apply List.ext_getElem?;intro i;unfold E1;rw [hl];by_cases h:i<ws.length
 ·rw [List.getElem?_map,List.getElem?_range h,List.getElem?_eq_getElem h];simp only [Option.map_some];rw [U6 hw (List.getElem?_eq_getElem h)]
 ·rw [List.getElem?_eq_none (by simp;omega),List.getElem?_eq_none (by omega)]
theorem Ah9 {k:Ky}(hh:C4 k.h=false)(hr:isU k.root):Zo (I7 k)=some k:=by
 obtain ⟨h,r⟩:=k;have hb:=H7 hh;simp only at hb hr hh;have w:wrap .u8 h=h:=F1 (by omega) (by omega)
 have w1:Ax [r]=Dq r:=by simp [Ax]
 have:=U6 (ws:=[r]) (i:=0) (w:=r) (by intro x hx;simp at hx;subst hx;exact hr) rfl
 rw [w1] at this;unfold Zo I7;simp only [w,List.getD_cons_zero,List.drop_succ_cons,Di,this,Kb,D1,hh,and_self,if_true]
theorem Aqb {k:Ky}:Hg (I7 k):=by
 intro x hx;rcases List.mem_cons.1 hx with rfl|hx
 ·have:∀v:Int,0<=wrap .u8 v∧wrap .u8 v<=255:=by
   intro v;simp only [wrap,IntKind.signed,IntKind.bits];simp;omega
  exact this _
 ·exact WU _ x hx
theorem EF {l:List Int}{k:Ky}(h:Zo l=some k):C4 k.h=false∧isU k.root:=by
 unfold Zo at h;split at h
 ·rename_i hh;cases h;exact ⟨hh.2,YR _ _⟩
 ·cases h
structure Sg.ok (s:Sg):Prop where
 ch:isW s.chains
 pa:isW s.path
theorem Asr (s:Sg):Hg (Sm s):=by
 have w8:∀v:Int,0<=wrap .u8 v∧wrap .u8 v<=255:=by
  intro v;simp only [wrap,IntKind.signed,IntKind.bits];simp;omega
 intro x hx;unfold Sm at hx;rcases List.mem_cons.1 hx with rfl|hx
 ·exact w8 _
 rcases List.mem_cons.1 hx with rfl|hx
 ·exact w8 _
 rcases List.mem_append.1 hx with hx|hx
 ·exact Q2 _ x hx
 ·exact Q2 _ x hx
theorem Anw {s:Sg}(hs:s.ok)(h1:C4 s.path.length=false)(h2:Hp s.leaf s.path.length=false)(h3:s.chains.length=18):sgD (Sm s)=some s:=by
 obtain ⟨leaf,ch,pa⟩:=s;obtain ⟨hc,hp⟩:=hs;simp only at h1 h2 h3 hc hp;have hb:=H7 h1;have ho:=Ado hb.1 hb.2 h2;have h16:=Arm hb.1 hb.2;have w1:wrap .u8 leaf=leaf:=F1 (by omega) (by omega)
 have w2:wrap .u8 (pa.length:Int)=pa.length:=F1 (by omega) (by omega)
 have lc:(Ax ch).length=144:=by rw [Cy];omega
 have lp:(Ax pa).length=8*pa.length:=Cy pa
 have len:(Sm ⟨leaf,ch,pa⟩).length=2+144+8*pa.length:=by
  unfold Sm;simp only [Kb,Hz,lc,lp];omega
 have g0:(Sm ⟨leaf,ch,pa⟩).getD 0 0=leaf:=w1;have g1:(Sm ⟨leaf,ch,pa⟩).getD 1 0=pa.length:=w2;have d2:(Sm ⟨leaf,ch,pa⟩).drop 2=Ax ch++Ax pa:=rfl
 have d146:(Sm ⟨leaf,ch,pa⟩).drop 146=Ax pa:=by
  rw [show 146=2+144 from rfl,←List.drop_drop,d2,List.drop_left' lc]
 unfold sgD;rw [Bv ⟨by omega,by rw [g1];exact h1,by rw [g0,g1];exact h2,by rw [g1,len];omega⟩,g0,d2,d146,List.take_left' lc,EN hc,EN hp]
theorem NN {l:List Int}{s:Sg}(h:sgD l=some s):s.ok∧s.path.length<=4∧s.chains.length=18:=by
 unfold sgD at h;split at h
 ·rename_i hh;cases h;have hb:=H7 hh.2.1;refine ⟨⟨Abf _,Abf _⟩,?_,?_⟩
  ·simp only [Qp,List.length_drop];omega
  ·simp only [Qp,List.length_take,List.length_drop];omega
 ·cases h
end
section
open Go.IntKind (wrap)
set_option maxRecDepth 100000
abbrev Qv:FuncId:=35
noncomputable def Fk (fu:Nat)(call:Ah)(a0_0 a0_1:ByteArray)(a0_2 a0_3:Int)(a0_4 a0_5 a0_6:Int)(a0_7:Bool)(a0_8 a0_9 a0_10:Int)(a0_11n:Nat)(a0_11:List PV)(a0_12n:Nat)(a0_12:List PV)(nn:Nat)(y0 y1:ByteArray)(y2:Int)(y3 y4:ByteArray)(y5 y6:Int)(y7 y8 y9:Int)(y10:Bool)(F6 Hu Vm:Int)(DI:Nat)(DK:List PV)(DM:Nat)(DH:List PV):Option Aw:=C6 CB Tryz.prog fu call 35 Tryz.f35 (Cb Tryz.f35) [.agg [.sc (.string a0_0),.sc (.string a0_1),.sc (.int .u64 a0_2),.sc (.int .i64 a0_3),.sc (.int .u64 a0_4),.sc (.int .i64 a0_5),.sc (.int .i64 a0_6),.sc (.bool a0_7),.sc (.int .i64 a0_8),.sc (.int .u64 a0_9),.sc (.int .i64 a0_10),.lst false 1 a0_11n a0_11,.lst false 1 a0_12n a0_12]] [.r,.l,.r,.l] nn ⟨lk [(1,(.ptr 1 0)),(13,(.agg [(.sc (.string y0)),(.sc (.string y1))])),(14,(.sc (.int .i64 y2)))],Cj [(1,(.st [(.sc (.string y3)),(.sc (.string y4)),(.sc (.int .u64 y5)),(.sc (.int .i64 y6)),(.sc (.int .u64 y7)),(.sc (.int .i64 y8)),(.sc (.int .i64 y9)),(.sc (.bool y10)),(.sc (.int .i64 F6)),(.sc (.int .u64 Hu)),(.sc (.int .i64 Vm)),(.lst false 1 DI DK),(.lst false 1 DM DH)]))]⟩
theorem Ex (fu:Nat)(call:Ah)(a0_0 a0_1:ByteArray)(a0_2 a0_3:Int)(a0_4 a0_5 a0_6:Int)(a0_7:Bool)(a0_8 a0_9 a0_10:Int)(a0_11n:Nat)(a0_11:List PV)(a0_12n:Nat)(a0_12:List PV)(nn:Nat)(y0 y1:ByteArray)(y2:Int)(y3 y4:ByteArray)(y5 y6:Int)(y7 y8 y9:Int)(y10:Bool)(F6 Hu Vm:Int)(DI:Nat)(DK:List PV)(DM:Nat)(DH:List PV):Fk fu call a0_0 a0_1 a0_2 a0_3 a0_4 a0_5 a0_6 a0_7 a0_8 a0_9 a0_10 a0_11n a0_11 a0_12n a0_12 (nn+1) y0 y1 y2 y3 y4 y5 y6 y7 y8 y9 y10 F6 Hu Vm DI DK DM DH=(A3 (decide (y2<2)) (Ap (decide (0<=y2)&&decide (y2<2)&&true)<|Cr (List.getD [.sc (.string y0),.sc (.string y1)] (Int.toNat y2*1) .top) fun x1=>A3 (decide ((↑(ByteArray.size x1):Int)<1)) (some (Aw.mk [.own 1 0 [],.sc (.int .i64 9)] [])) (A3 (decide ((↑(ByteArray.size x1):Int)>32)) (some (Aw.mk [.own 1 0 [],.sc (.int .i64 9)] [])) (Aa (wrap .i64 (y2+1)) fun x2=>Fk fu call a0_0 a0_1 a0_2 a0_3 a0_4 a0_5 a0_6 a0_7 a0_8 a0_9 a0_10 a0_11n a0_11 a0_12n a0_12 (nn) (y0) (y1) x2 (y3) (y4) (y5) (y6) (y7) (y8) (y9) (y10) (F6) (Hu) (Vm) (DI) (DK) (DM) (DH)))) (Ag (call 56 [.sc (.string y3)]) fun x3 x4=>Ac x4<|Ab x3 fun x5 x6=>Br x5 fun x7=>Ac x6<|A3 (!x7) (some (Aw.mk [.own 1 0 [],.sc (.int .i64 6)] [])) (Ag (call 56 [.sc (.string y4)]) fun x8 x9=>Ac x9<|Ab x8 fun Cm Bq=>Br Cm fun Dm=>Ac Bq<|A3 (!Dm) (some (Aw.mk [.own 1 0 [],.sc (.int .i64 6)] [])) (Ag (call 66 [.agg [.sc (.int .i64 y6),.sc (.int .u64 y7)]]) fun Ds Cu=>Ac Cu<|Ab Ds fun Dw Ea=>D4 1 Dw fun Ef Ew=>Ab Ea fun Ej Fb=>Ae .i64 Ej fun G9=>Ac Fb<|A3 (G9 != 0) (some (Aw.mk [.own 1 0 [],.sc (.int .i64 G9)] [])) (A3 (decide (y8<0)) (some (Aw.mk [.own 1 0 [],.sc (.int .i64 9)] [])) (A3 (decide (y8>y9)) (some (Aw.mk [.own 1 0 [],.sc (.int .i64 9)] [])) (A3 (decide (y9>1099511627776)) (some (Aw.mk [.own 1 0 [],.sc (.int .i64 9)] [])) (A3 (decide (F6<0)) (some (Aw.mk [.own 1 0 [],.sc (.int .i64 9)] [])) (A3 (decide (F6>2)) (some (Aw.mk [.own 1 0 [],.sc (.int .i64 9)] [])) (A3 (F6 != 0) (A3 (!y10) (some (Aw.mk [.own 1 0 [],.sc (.int .i64 4)] [])) (Ag (call 68 [.sc (.string y3)]) fun Cp Hb=>Ac Hb<|Ab Cp fun Dx B4=>D4 3 Dx fun Ft Hn=>Ac B4<|Ag (call 68 [.sc (.string y4)]) fun Bk Ci=>Ac Ci<|Ab Bk fun I1 Jd=>D4 3 I1 fun J9 Kc=>Ac Jd<|Ag (call 69 [.sc (.int .u64 y5)]) fun Lx Ob=>Ac Ob<|Ab Lx fun Pt Q5=>D4 3 Pt fun Gn Ie=>Ac Q5<|Ap (decide (0+Ef*1<=Ew.length))<|Ag (call 70 [.lst false 1 Ef (List.take (Ef*1) (List.drop 0 Ew))]) fun Sv Wg=>Ac Wg<|Ab Sv fun Kd S1=>D4 3 Kd fun Sd Re=>Ac S1<|Aa (wrap .u64 y8) fun Sf=>Ag (call 69 [.sc (.int .u64 Sf)]) fun Vp V9=>Ac V9<|Ab Vp fun Q8 Ud=>D4 3 Q8 fun Vo Vx=>Ac Ud<|Aa (wrap .u64 y9) fun Nn=>Ag (call 69 [.sc (.int .u64 Nn)]) fun Vt AC=>Ac AC<|Ab Vt fun Ye Up=>D4 3 Ye fun R7 Vl=>Ac Up<|Ag (call 71 [.sc (.bool y10)]) fun Wu Su=>Ac Su<|Ab Wu fun Rg Wn=>D4 3 Rg fun Wc Yb=>Ac Wn<|Aa (wrap .u64 F6) fun Uj=>Ag (call 69 [.sc (.int .u64 Uj)]) fun Uc Z9=>Ac Z9<|Ab Uc fun Wy Wk=>D4 3 Wy fun Vu Ze=>Ac Wk<|Ag (call 69 [.sc (.int .u64 Hu)]) fun AL Yz=>Ac Yz<|Ab AL fun Z8 BK=>D4 3 Z8 fun Y0 Tw=>Ac BK<|Ap (decide (0+Ft*3<=Hn.length))<|Ap (decide (0+J9*3<=Kc.length))<|Ap (decide (0+Gn*3<=Ie.length))<|Ap (decide (0+Sd*3<=Re.length))<|Ap (decide (0+Vo*3<=Vx.length))<|Ap (decide (0+R7*3<=Vl.length))<|Ap (decide (0+Wc*3<=Yb.length))<|Ap (decide (0+Vu*3<=Ze.length))<|Ap (decide (0+Y0*3<=Tw.length))<|Ag (call 67 [.lst false 1 9 [.lst false 3 Ft (List.take (Ft*3) (List.drop 0 Hn)),.lst false 3 J9 (List.take (J9*3) (List.drop 0 Kc)),.lst false 3 Gn (List.take (Gn*3) (List.drop 0 Ie)),.lst false 3 Sd (List.take (Sd*3) (List.drop 0 Re)),.lst false 3 Vo (List.take (Vo*3) (List.drop 0 Vx)),.lst false 3 R7 (List.take (R7*3) (List.drop 0 Vl)),.lst false 3 Wc (List.take (Wc*3) (List.drop 0 Yb)),.lst false 3 Vu (List.take (Vu*3) (List.drop 0 Ze)),.lst false 3 Y0 (List.take (Y0*3) (List.drop 0 Tw))]]) fun DU GI=>Ac GI<|Ab DU fun PL MH=>D4 3 PL fun LD HV=>Ab MH fun KR ON=>Ae .i64 KR fun HO=>Ac ON<|A3 (HO != 0) (some (Aw.mk [.own 1 0 [],.sc (.int .i64 HO)] [])) (Ap (decide (0+LD*3<=HV.length))<|Ag (call 72 [.lst false 3 LD (List.take (LD*3) (List.drop 0 HV))]) fun Vy BA=>Ac BA<|Ab Vy fun Y1 QU=>D4 1 Y1 fun RY RP=>Ab QU fun GG UW=>Ae .i64 GG fun VV=>Ac UW<|Ap (decide (RY*1<=RP.length))<|some (Aw.mk [.own 1 RY (List.take (RY*1) RP),.sc (.int .i64 VV)] [])))) (Ag (call 68 [.sc (.string y3)]) fun RF SN=>Ac SN<|Ab RF fun CW Us=>D4 3 CW fun Sq Hc=>Ac Us<|Ag (call 68 [.sc (.string y4)]) fun I0 We=>Ac We<|Ab I0 fun Pe Pd=>D4 3 Pe fun Ja V7=>Ac Pd<|Ag (call 69 [.sc (.int .u64 y5)]) fun W9 Xy=>Ac Xy<|Ab W9 fun X4 Ik=>D4 3 X4 fun Jp Xs=>Ac Ik<|Ap (decide (0+Ef*1<=Ew.length))<|Ag (call 70 [.lst false 1 Ef (List.take (Ef*1) (List.drop 0 Ew))]) fun Ys W0=>Ac W0<|Ab Ys fun BT Yj=>D4 3 BT fun Wm Wa=>Ac Yj<|Aa (wrap .u64 y8) fun V8=>Ag (call 69 [.sc (.int .u64 V8)]) fun Wq Yq=>Ac Yq<|Ab Wq fun Yd Oa=>D4 3 Yd fun Pa Sk=>Ac Oa<|Aa (wrap .u64 y9) fun Xb=>Ag (call 69 [.sc (.int .u64 Xb)]) fun Yv Ko=>Ac Ko<|Ab Yv fun CF Xr=>D4 3 CF fun Uf AD=>Ac Xr<|Ag (call 71 [.sc (.bool y10)]) fun FY BC=>Ac BC<|Ab FY fun DQ BX=>D4 3 DQ fun Xu Zv=>Ac BX<|Aa (wrap .u64 F6) fun CV=>Ag (call 69 [.sc (.int .u64 CV)]) fun CZ BW=>Ac BW<|Ab CZ fun Xo AB=>D4 3 Xo fun BH Z1=>Ac AB<|Ag (call 69 [.sc (.int .u64 Hu)]) fun CR IA=>Ac IA<|Ab CR fun KP HZ=>D4 3 KP fun Wb CO=>Ac HZ<|Ap (decide (0+Sq*3<=Hc.length))<|Ap (decide (0+Ja*3<=V7.length))<|Ap (decide (0+Jp*3<=Xs.length))<|Ap (decide (0+Wm*3<=Wa.length))<|Ap (decide (0+Pa*3<=Sk.length))<|Ap (decide (0+Uf*3<=AD.length))<|Ap (decide (0+Xu*3<=Zv.length))<|Ap (decide (0+BH*3<=Z1.length))<|Ap (decide (0+Wb*3<=CO.length))<|Ag (call 67 [.lst false 1 9 [.lst false 3 Sq (List.take (Sq*3) (List.drop 0 Hc)),.lst false 3 Ja (List.take (Ja*3) (List.drop 0 V7)),.lst false 3 Jp (List.take (Jp*3) (List.drop 0 Xs)),.lst false 3 Wm (List.take (Wm*3) (List.drop 0 Wa)),.lst false 3 Pa (List.take (Pa*3) (List.drop 0 Sk)),.lst false 3 Uf (List.take (Uf*3) (List.drop 0 AD)),.lst false 3 Xu (List.take (Xu*3) (List.drop 0 Zv)),.lst false 3 BH (List.take (BH*3) (List.drop 0 Z1)),.lst false 3 Wb (List.take (Wb*3) (List.drop 0 CO))]]) fun GL LC=>Ac LC<|Ab GL fun Va LF=>D4 3 Va fun HJ KW=>Ab LF fun PX Gb=>Ae .i64 PX fun Oe=>Ac Gb<|A3 (Oe != 0) (some (Aw.mk [.own 1 0 [],.sc (.int .i64 Oe)] [])) (Ap (decide (0+HJ*3<=KW.length))<|Ag (call 72 [.lst false 3 HJ (List.take (HJ*3) (List.drop 0 KW))]) fun MJ HK=>Ac HK<|Ab MJ fun NA RC=>D4 1 NA fun HN KI=>Ab RC fun MB KN=>Ae .i64 MB fun MY=>Ac KN<|Ap (decide (HN*1<=KI.length))<|some (Aw.mk [.own 1 HN (List.take (HN*1) KI),.sc (.int .i64 MY)] []))))))))))))):=by kernel_rfl
theorem CH (fu d:Nat)(a0_0 a0_1:ByteArray)(a0_2 a0_3:Int)(a0_4 a0_5 a0_6:Int)(a0_7:Bool)(a0_8 a0_9 a0_10:Int)(a0_11n:Nat)(a0_11:List PV)(a0_12n:Nat)(a0_12:List PV):Ad C0 Tryz.prog fu (d+1) Qv [.agg [.sc (.string a0_0),.sc (.string a0_1),.sc (.int .u64 a0_2),.sc (.int .i64 a0_3),.sc (.int .u64 a0_4),.sc (.int .i64 a0_5),.sc (.int .i64 a0_6),.sc (.bool a0_7),.sc (.int .i64 a0_8),.sc (.int .u64 a0_9),.sc (.int .i64 a0_10),.lst false 1 a0_11n a0_11,.lst false 1 a0_12n a0_12]]=(fun (call:Ah)=>Fk fu call a0_0 a0_1 a0_2 a0_3 a0_4 a0_5 a0_6 a0_7 a0_8 a0_9 a0_10 a0_11n a0_11 a0_12n a0_12 (fu) (a0_0) (a0_1) 0 (a0_0) (a0_1) (a0_2) (a0_3) (a0_4) (a0_5) (a0_6) (a0_7) (a0_8) (a0_9) (a0_10) (a0_11n) (a0_11) (a0_12n) (a0_12)) (Ad C0 Tryz.prog fu d):=by kernel_rfl
abbrev P9:FuncId:=36
theorem DF (fu d:Nat)(a0_0 a0_1:ByteArray)(a0_2 a0_3:Int)(a0_4 a0_5 a0_6:Int)(a0_7:Bool)(a0_8 a0_9 a0_10:Int)(a0_11n:Nat)(a0_11:List PV)(a0_12n:Nat)(a0_12:List PV):Ad C0 Tryz.prog fu (d+1) P9 [.agg [.sc (.string a0_0),.sc (.string a0_1),.sc (.int .u64 a0_2),.sc (.int .i64 a0_3),.sc (.int .u64 a0_4),.sc (.int .i64 a0_5),.sc (.int .i64 a0_6),.sc (.bool a0_7),.sc (.int .i64 a0_8),.sc (.int .u64 a0_9),.sc (.int .i64 a0_10),.lst false 1 a0_11n a0_11,.lst false 1 a0_12n a0_12]]=(fun (call:Ah)=>Ag (call 35 [.agg [.sc (.string a0_0),.sc (.string a0_1),.sc (.int .u64 a0_2),.sc (.int .i64 a0_3),.sc (.int .u64 a0_4),.sc (.int .i64 a0_5),.sc (.int .i64 a0_6),.sc (.bool a0_7),.sc (.int .i64 a0_8),.sc (.int .u64 a0_9),.sc (.int .i64 a0_10),.lst false 1 a0_11n a0_11,.lst false 1 a0_12n a0_12]]) fun x1 x2=>Ac x2<|Ab x1 fun x3 x4=>D4 1 x3 fun x5 x6=>Ab x4 fun x7 x8=>Ae .i64 x7 fun x9=>Ac x8<|A3 (x9 != 0) (some (Aw.mk [.sc (.int .u64 0),.sc (.int .i64 x9)] [])) (Ap (decide (0+x5*1<=x6.length))<|Ag (call 73 [.sc (.int .i64 14),.lst false 1 x5 (List.take (x5*1) (List.drop 0 x6))]) fun Cm Bq=>Ac Bq<|Ab Cm fun Dm Ds=>Ae .u64 Dm fun Cu=>Ac Ds<|some (Aw.mk [.sc (.int .u64 Cu),.sc (.int .i64 0)] []))) (Ad C0 Tryz.prog fu d):=by kernel_rfl
abbrev Ns:FuncId:=20
theorem Yr (fu d:Nat)(a0_0 a0_1:ByteArray)(a0_2 a0_3:Int)(a0_4 a0_5 a0_6:Int)(a0_7:Bool)(a0_8 a0_9 a0_10:Int)(a0_11n:Nat)(a0_11:List PV)(a0_12n:Nat)(a0_12:List PV)(a1_0 a1_1:Int):Ad C0 Tryz.prog fu (d+1) Ns [.agg [.sc (.string a0_0),.sc (.string a0_1),.sc (.int .u64 a0_2),.sc (.int .i64 a0_3),.sc (.int .u64 a0_4),.sc (.int .i64 a0_5),.sc (.int .i64 a0_6),.sc (.bool a0_7),.sc (.int .i64 a0_8),.sc (.int .u64 a0_9),.sc (.int .i64 a0_10),.lst false 1 a0_11n a0_11,.lst false 1 a0_12n a0_12],.agg [.sc (.int .i64 a1_0),.sc (.int .u64 a1_1)]]=(fun (call:Ah)=>Ag (call 36 [.agg [.sc (.string a0_0),.sc (.string a0_1),.sc (.int .u64 a0_2),.sc (.int .i64 a0_3),.sc (.int .u64 a0_4),.sc (.int .i64 a0_5),.sc (.int .i64 a0_6),.sc (.bool a0_7),.sc (.int .i64 a0_8),.sc (.int .u64 a0_9),.sc (.int .i64 a0_10),.lst false 1 a0_11n a0_11,.lst false 1 a0_12n a0_12]]) fun x1 x2=>Ac x2<|Ab x1 fun x3 x4=>Ae .u64 x3 fun x5=>Ab x4 fun x6 x7=>Ae .i64 x6 fun x8=>Ac x7<|A3 (x8 != 0) (some (Aw.mk [.sc (.int .i64 x8)] [])) (Ag (call 41 [.agg [.sc (.int .i64 a1_0),.sc (.int .u64 a1_1)],.sc (.int .u64 x5),.agg [.sc (.int .i64 a0_10),.lst false 1 a0_11n a0_11,.lst false 1 a0_12n a0_12]]) fun x9 Cm=>Ac Cm<|Ab x9 fun Bq Dm=>Ae .i64 Bq fun Ds=>Ac Dm<|some (Aw.mk [.sc (.int .i64 Ds)] []))) (Ad C0 Tryz.prog fu d):=by kernel_rfl
abbrev Nw:FuncId:=30
theorem W7 (fu d:Nat)(a0_0 a0_1:ByteArray)(a0_2 a0_3:Int)(a0_4 a0_5 a0_6:Int)(a0_7:Bool)(a0_8 a0_9 a0_10:Int)(a0_11n:Nat)(a0_11:List PV)(a0_12n:Nat)(a0_12:List PV):Ad C0 Tryz.prog fu (d+1) Nw [.agg [.sc (.string a0_0),.sc (.string a0_1),.sc (.int .u64 a0_2),.sc (.int .i64 a0_3),.sc (.int .u64 a0_4),.sc (.int .i64 a0_5),.sc (.int .i64 a0_6),.sc (.bool a0_7),.sc (.int .i64 a0_8),.sc (.int .u64 a0_9),.sc (.int .i64 a0_10),.lst false 1 a0_11n a0_11,.lst false 1 a0_12n a0_12]]=(fun (call:Ah)=>Ag (call 35 [.agg [.sc (.string a0_0),.sc (.string a0_1),.sc (.int .u64 a0_2),.sc (.int .i64 a0_3),.sc (.int .u64 a0_4),.sc (.int .i64 a0_5),.sc (.int .i64 a0_6),.sc (.bool a0_7),.sc (.int .i64 a0_8),.sc (.int .u64 a0_9),.sc (.int .i64 a0_10),.lst false 1 a0_11n a0_11,.lst false 1 a0_12n a0_12]]) fun x1 x2=>Ac x2<|Ab x1 fun x3 x4=>D4 1 x3 fun x5 x6=>Ab x4 fun x7 x8=>Ae .i64 x7 fun x9=>Ac x8<|A3 (x9 != 0) (some (Aw.mk [.own 1 0 [],.sc (.int .i64 x9)] [])) (Ag (call 50 [.agg [.sc (.int .i64 a0_10),.lst false 1 a0_11n a0_11,.lst false 1 a0_12n a0_12]]) fun Cm Bq=>Ac Bq<|Ab Cm fun Dm Ds=>D4 1 Dm fun Cu Dw=>Ab Ds fun Ea Ef=>Ae .i64 Ea fun Ew=>Ac Ef<|A3 (Ew != 0) (some (Aw.mk [.own 1 0 [],.sc (.int .i64 Ew)] [])) (Ap (decide (0+Cu*1<=Dw.length))<|Ap (decide (x5*1<=x6.length)&&decide (List.length (List.take (Cu*1) (List.drop 0 Dw))=Cu*1)&&decide ((x5+Cu)*1<=1099511627776)&&decide (x5+Cu<=1099511627776))<|Aa (x5+Cu) fun Ej=>Aa (List.take (x5*1) x6++List.take (Cu*1) (List.drop 0 Dw)) fun Fb=>Ap (decide (Ej*1<=Fb.length))<|some (Aw.mk [.own 1 Ej (List.take (Ej*1) Fb),.sc (.int .i64 0)] [])))) (Ad C0 Tryz.prog fu d):=by kernel_rfl
abbrev Nj:FuncId:=52
noncomputable def Hy (fu:Nat)(call:Ah)(a0n:Nat)(a0:List PV)(nn y0:Nat)(y1:List PV):Option Aw:=C6 CB Tryz.prog fu call 52 Tryz.f52 (Cb Tryz.f52) [.lst false 3 a0n a0] [] nn ⟨lk [(0,(.lst false 3 y0 y1))],Cj []⟩
noncomputable def Md (fu:Nat)(call:Ah)(a0n:Nat)(a0:List PV)(nn y0:Nat)(y1 y2:List PV):Option Aw:=C6 CB Tryz.prog fu call 52 Tryz.f52 (Cb Tryz.f52) [.lst false 3 a0n a0] [.r] nn ⟨lk [(0,(.lst false 3 y0 y1)),(3,(.ptr 3 0))],Cj [(3,(.ar false y2))]⟩
noncomputable def F2 (fu:Nat)(call:Ah)(a0n:Nat)(a0:List PV)(nn y0:Nat)(y1:List PV)(y2 y3:Int)(y4:List PV):Option Aw:=C6 CB Tryz.prog fu call 52 Tryz.f52 (Cb Tryz.f52) [.lst false 3 a0n a0] [.r,.r,.r,.l,.r,.l] nn ⟨lk [(3,(.ptr 3 0)),(10,(.lst false 3 y0 y1)),(11,(.sc (.int .i64 y2))),(12,(.sc (.int .i64 y3)))],Cj [(3,(.ar false y4))]⟩
theorem Tl (fu:Nat)(call:Ah)(a0n:Nat)(a0:List PV)(nn:Nat)(hnn:0<nn)(y0:Nat)(y1:List PV):Hy fu call a0n a0 nn y0 y1=(Md fu call a0n a0 (fu) (y0) (y1) ([.sc (.int .i64 5),.sc (.int .i64 4),.sc (.int .i64 4),.sc (.int .i64 1),.sc (.int .i64 3),.sc (.int .i64 1),.sc (.int .i64 1),.sc (.int .i64 7),.sc (.int .i64 1),.sc (.int .i64 1)])):=by cases nn with|zero=>exact absurd hnn (Nat.lt_irrefl 0)|succ nn=>kernel_rfl
theorem S2 (fu:Nat)(call:Ah)(a0n:Nat)(a0:List PV)(nn:Nat)(hnn:0<nn)(y0:Nat)(y1 y2:List PV):Md fu call a0n a0 nn y0 y1 y2=(A3 ((↑y0:Int) != 10) (some (Aw.mk [.sc (.bool false)] [])) (F2 fu call a0n a0 (fu) (y0) (y1) ((↑y0:Int)) 0 (y2))):=by cases nn with|zero=>exact absurd hnn (Nat.lt_irrefl 0)|succ nn=>kernel_rfl
theorem Jr (fu:Nat)(call:Ah)(a0n:Nat)(a0:List PV)(nn y0:Nat)(y1:List PV)(y2 y3:Int)(y4:List PV):F2 fu call a0n a0 (nn+1) y0 y1 y2 y3 y4=(A3 (decide (y3<y2)) (Ap (decide (0<=y3)&&decide (y3<(↑y0:Int)))<|Ae .i64 (List.getD y1 (Int.toNat y3*3) .top) fun x1=>Ae .u64 (List.getD y1 (Int.toNat y3*3+1) .top) fun x2=>Cr (List.getD y1 (Int.toNat y3*3+1+1) .top) fun x3=>Ap (decide (0<=y3)&&decide (y3<10))<|Ae .i64 (List.getD y4 (0+Int.toNat y3*1) .top) fun x4=>A3 (x1 != x4) (some (Aw.mk [.sc (.bool false)] [])) (Aa (wrap .i64 (y3+1)) fun x5=>F2 fu call a0n a0 (nn) (y0) (y1) (y2) x5 (y4))) (some (Aw.mk [.sc (.bool true)] []))):=by kernel_rfl
theorem Xl (fu d a0n:Nat)(a0:List PV):Ad C0 Tryz.prog fu (d+1) Nj [.lst false 3 a0n a0]=(fun (call:Ah)=>Hy fu call a0n a0 (fu) (a0n) (a0)) (Ad C0 Tryz.prog fu d):=by kernel_rfl
abbrev Ia:FuncId:=31
theorem Xf (fu d a0n:Nat)(a0:List PV):Ad C0 Tryz.prog fu (d+1) Ia [.lst false 1 a0n a0]=(fun (call:Ah)=>A3 (decide ((↑a0n:Int)>512)) (some (Aw.mk [.agg [.sc (.string (ByteArray.mk #[])),.sc (.string (ByteArray.mk #[])),.sc (.int .u64 0),.sc (.int .i64 0),.sc (.int .u64 0),.sc (.int .i64 0),.sc (.int .i64 0),.sc (.bool false),.sc (.int .i64 0),.sc (.int .u64 0),.sc (.int .i64 0),.lst false 1 0 [],.lst false 1 0 []],.sc (.int .i64 8)] [])) (Ag (call 51 [.lst false 1 a0n a0]) fun x1 x2=>Ac x2<|Ab x1 fun x3 x4=>D4 3 x3 fun x5 x6=>Ab x4 fun x7 x8=>Ae .i64 x7 fun x9=>Ab x8 fun Cm Bq=>Ae .i64 Cm fun Dm=>Ac Bq<|A3 (Dm != 0) (some (Aw.mk [.agg [.sc (.string (ByteArray.mk #[])),.sc (.string (ByteArray.mk #[])),.sc (.int .u64 0),.sc (.int .i64 0),.sc (.int .u64 0),.sc (.int .i64 0),.sc (.int .i64 0),.sc (.bool false),.sc (.int .i64 0),.sc (.int .u64 0),.sc (.int .i64 0),.lst false 1 0 [],.lst false 1 0 []],.sc (.int .i64 2)] [])) (Ap (decide (0+x5*3<=x6.length))<|Ag (call 52 [.lst false 3 x5 (List.take (x5*3) (List.drop 0 x6))]) fun Ds Cu=>Ac Cu<|Ab Ds fun Dw Ea=>Br Dw fun Ef=>Ac Ea<|A3 (!Ef) (some (Aw.mk [.agg [.sc (.string (ByteArray.mk #[])),.sc (.string (ByteArray.mk #[])),.sc (.int .u64 0),.sc (.int .i64 0),.sc (.int .u64 0),.sc (.int .i64 0),.sc (.int .i64 0),.sc (.bool false),.sc (.int .i64 0),.sc (.int .u64 0),.sc (.int .i64 0),.lst false 1 0 [],.lst false 1 0 []],.sc (.int .i64 2)] [])) (Ap (decide (4<(↑x5:Int)))<|Cr (List.getD x6 14 .top) fun Ew=>Ap (decide (ByteArray.size Ew<=1099511627776))<|Ap (decide (0+ByteArray.size Ew*1<=List.length (Dh Ew)))<|Ag (call 53 [.lst false 1 (ByteArray.size Ew) (List.take (ByteArray.size Ew*1) (List.drop 0 (Dh Ew)))]) fun Ej Fb=>Ac Fb<|Ab Ej fun G9 Cp=>Dt G9 fun Hb=>Ab Hb fun Dx B4=>Ae .i64 Dx fun Ft=>Ab B4 fun Hn Bk=>Ae .u64 Hn fun Ci=>Ac Bk<|Ab Cp fun I1 Jd=>Ae .i64 I1 fun J9=>Ac Jd<|A3 (J9 != 0) (some (Aw.mk [.agg [.sc (.string (ByteArray.mk #[])),.sc (.string (ByteArray.mk #[])),.sc (.int .u64 0),.sc (.int .i64 0),.sc (.int .u64 0),.sc (.int .i64 0),.sc (.int .i64 0),.sc (.bool false),.sc (.int .i64 0),.sc (.int .u64 0),.sc (.int .i64 0),.lst false 1 0 [],.lst false 1 0 []],.sc (.int .i64 2)] [])) (Ap (decide (0<=x9))<|Ap (decide (Int.toNat x9<=a0n)&&decide (a0n<=a0n))<|Aa (a0n-Int.toNat x9) fun Kc=>Aa (List.take (Kc*1) (List.drop (Int.toNat x9*1) a0)) fun Lx=>Ag (call 54 [.lst false 1 Kc Lx]) fun Ob Pt=>Ac Pt<|Ab Ob fun Q5 Gn=>Dt Q5 fun Ie=>Ab Ie fun Sv Wg=>Ae .i64 Sv fun Kd=>Ab Wg fun S1 Sd=>D4 1 S1 fun Re Sf=>Ab Sd fun Vp V9=>D4 1 Vp fun Q8 Ud=>Ac V9<|Ab Gn fun Vo Vx=>Ae .i64 Vo fun Nn=>Ac Vx<|A3 (Nn != 0) (some (Aw.mk [.agg [.sc (.string (ByteArray.mk #[])),.sc (.string (ByteArray.mk #[])),.sc (.int .u64 0),.sc (.int .i64 0),.sc (.int .u64 0),.sc (.int .i64 0),.sc (.int .i64 0),.sc (.bool false),.sc (.int .i64 0),.sc (.int .u64 0),.sc (.int .i64 0),.lst false 1 0 [],.lst false 1 0 []],.sc (.int .i64 2)] [])) (Ap (decide (1<(↑x5:Int)))<|Cr (List.getD x6 5 .top) fun Vt=>Ap (decide (2<(↑x5:Int)))<|Cr (List.getD x6 8 .top) fun AC=>Ap (decide (3<(↑x5:Int)))<|Ae .u64 (List.getD x6 10 .top) fun Ye=>Ap (decide (5<(↑x5:Int)))<|Ae .u64 (List.getD x6 16 .top) fun Up=>Aa (wrap .i64 Up) fun R7=>Ap (decide (6<(↑x5:Int)))<|Ae .u64 (List.getD x6 19 .top) fun Vl=>Aa (wrap .i64 Vl) fun Wu=>Ap (decide (7<(↑x5:Int)))<|Ae .u64 (List.getD x6 22 .top) fun Su=>Ap (decide (8<(↑x5:Int)))<|Ae .u64 (List.getD x6 25 .top) fun Rg=>Aa (wrap .i64 Rg) fun Wn=>Ap (decide (9<(↑x5:Int)))<|Ae .u64 (List.getD x6 28 .top) fun Wc=>Ap (decide (0+Re*1<=Sf.length))<|Ap (decide (0+Q8*1<=Ud.length))<|Ag (call 30 [.agg [.sc (.string Vt),.sc (.string AC),.sc (.int .u64 Ye),.sc (.int .i64 Ft),.sc (.int .u64 Ci),.sc (.int .i64 R7),.sc (.int .i64 Wu),.sc (.bool (Su==1)),.sc (.int .i64 Wn),.sc (.int .u64 Wc),.sc (.int .i64 Kd),.lst false 1 Re (List.take (Re*1) (List.drop 0 Sf)),.lst false 1 Q8 (List.take (Q8*1) (List.drop 0 Ud))]]) fun Yb Uj=>Ac Uj<|Ab Yb fun Uc Z9=>D4 1 Uc fun Wy Wk=>Ab Z9 fun Vu Ze=>Ae .i64 Vu fun AL=>Ac Ze<|A3 (AL != 0) (some (Aw.mk [.agg [.sc (.string (ByteArray.mk #[])),.sc (.string (ByteArray.mk #[])),.sc (.int .u64 0),.sc (.int .i64 0),.sc (.int .u64 0),.sc (.int .i64 0),.sc (.int .i64 0),.sc (.bool false),.sc (.int .i64 0),.sc (.int .u64 0),.sc (.int .i64 0),.lst false 1 0 [],.lst false 1 0 []],.sc (.int .i64 2)] [])) (Ap (decide (0+Wy*1<=Wk.length))<|Ag (call 55 [.lst false 1 Wy (List.take (Wy*1) (List.drop 0 Wk)),.lst false 1 a0n a0]) fun Yz Z8=>Ac Z8<|Ab Yz fun BK Y0=>Br BK fun Tw=>Ac Y0<|A3 (!Tw) (some (Aw.mk [.agg [.sc (.string (ByteArray.mk #[])),.sc (.string (ByteArray.mk #[])),.sc (.int .u64 0),.sc (.int .i64 0),.sc (.int .u64 0),.sc (.int .i64 0),.sc (.int .i64 0),.sc (.bool false),.sc (.int .i64 0),.sc (.int .u64 0),.sc (.int .i64 0),.lst false 1 0 [],.lst false 1 0 []],.sc (.int .i64 2)] [])) (Ap (decide (0+Re*1<=Sf.length))<|Ap (decide (0+Q8*1<=Ud.length))<|some (Aw.mk [.agg [.sc (.string Vt),.sc (.string AC),.sc (.int .u64 Ye),.sc (.int .i64 Ft),.sc (.int .u64 Ci),.sc (.int .i64 R7),.sc (.int .i64 Wu),.sc (.bool (Su==1)),.sc (.int .i64 Wn),.sc (.int .u64 Wc),.sc (.int .i64 Kd),.lst false 1 Re (List.take (Re*1) (List.drop 0 Sf)),.lst false 1 Q8 (List.take (Q8*1) (List.drop 0 Ud))],.sc (.int .i64 0)] []))))))))) (Ad C0 Tryz.prog fu d):=by kernel_rfl
abbrev Jt:FuncId:=47
noncomputable def Cx (fu:Nat)(call:Ah)(a0_0 a0_1:ByteArray)(a0_2 a0_3:Int)(a0_4 a0_5 a0_6:Int)(a0_7:Bool)(a0_8 a0_9 a0_10:Int)(a0_11n:Nat)(a0_11:List PV)(a0_12n:Nat)(a0_12:List PV)(a1:Int)(a2n:Nat)(a2:List PV)(a3:Int)(nn:Nat)(y0:Int)(y1:Nat)(y2:List PV)(y3 y4:Int)(y5 y6:ByteArray)(y7 y8:Int)(y9 y10 F6:Int)(Hu:Bool)(Vm DI DK:Int)(DM:Nat)(DH:List PV)(KT:Nat)(XR:List PV):Option Aw:=C6 CB Tryz.prog fu call 47 Tryz.f47 (Cb Tryz.f47) [.agg [.sc (.string a0_0),.sc (.string a0_1),.sc (.int .u64 a0_2),.sc (.int .i64 a0_3),.sc (.int .u64 a0_4),.sc (.int .i64 a0_5),.sc (.int .i64 a0_6),.sc (.bool a0_7),.sc (.int .i64 a0_8),.sc (.int .u64 a0_9),.sc (.int .i64 a0_10),.lst false 1 a0_11n a0_11,.lst false 1 a0_12n a0_12],.sc (.int .i64 a1),.lst false 3 a2n a2,.sc (.int .i64 a3)] [.r,.r,.r,.r,.l,.r,.l] nn ⟨lk [(3,(.sc (.int .i64 y0))),(4,(.ptr 4 0)),(45,(.lst false 3 y1 y2)),(46,(.sc (.int .i64 y3))),(47,(.sc (.int .i64 y4)))],Cj [(4,(.st [(.sc (.string y5)),(.sc (.string y6)),(.sc (.int .u64 y7)),(.sc (.int .i64 y8)),(.sc (.int .u64 y9)),(.sc (.int .i64 y10)),(.sc (.int .i64 F6)),(.sc (.bool Hu)),(.sc (.int .i64 Vm)),(.sc (.int .u64 DI)),(.sc (.int .i64 DK)),(.lst false 1 DM DH),(.lst false 1 KT XR)]))]⟩
theorem H8 (fu:Nat)(call:Ah)(a0_0 a0_1:ByteArray)(a0_2 a0_3:Int)(a0_4 a0_5 a0_6:Int)(a0_7:Bool)(a0_8 a0_9 a0_10:Int)(a0_11n:Nat)(a0_11:List PV)(a0_12n:Nat)(a0_12:List PV)(a1:Int)(a2n:Nat)(a2:List PV)(a3:Int)(nn:Nat)(y0:Int)(y1:Nat)(y2:List PV)(y3 y4:Int)(y5 y6:ByteArray)(y7 y8:Int)(y9 y10 F6:Int)(Hu:Bool)(Vm DI DK:Int)(DM:Nat)(DH:List PV)(KT:Nat)(XR:List PV):Cx fu call a0_0 a0_1 a0_2 a0_3 a0_4 a0_5 a0_6 a0_7 a0_8 a0_9 a0_10 a0_11n a0_11 a0_12n a0_12 a1 a2n a2 a3 (nn+1) y0 y1 y2 y3 y4 y5 y6 y7 y8 y9 y10 F6 Hu Vm DI DK DM DH KT XR=(A3 (decide (y4<y3)) (Ap (decide (0<=y4)&&decide (y4<(↑y1:Int)))<|Cr (List.getD y2 (Int.toNat y4*3) .top) fun Bq=>Ae .u64 (List.getD y2 (Int.toNat y4*3+1) .top) fun Dm=>Ae .i64 (List.getD y2 (Int.toNat y4*3+1+1) .top) fun Ds=>A3 (Array.toList (ByteArray.data Bq)==Array.toList (ByteArray.data y6)) (A3 (Dm==y7) (A3 (decide (Ds<=y0)) (some (Aw.mk [.sc (.int .i64 39)] [])) (Aa (wrap .i64 (y4+1)) fun Cu=>Cx fu call a0_0 a0_1 a0_2 a0_3 a0_4 a0_5 a0_6 a0_7 a0_8 a0_9 a0_10 a0_11n a0_11 a0_12n a0_12 a1 a2n a2 a3 (nn) (y0) (y1) (y2) (y3) Cu (y5) (y6) (y7) (y8) (y9) (y10) (F6) (Hu) (Vm) (DI) (DK) (DM) (DH) (KT) (XR))) (Aa (wrap .i64 (y4+1)) fun Dw=>Cx fu call a0_0 a0_1 a0_2 a0_3 a0_4 a0_5 a0_6 a0_7 a0_8 a0_9 a0_10 a0_11n a0_11 a0_12n a0_12 a1 a2n a2 a3 (nn) (y0) (y1) (y2) (y3) Dw (y5) (y6) (y7) (y8) (y9) (y10) (F6) (Hu) (Vm) (DI) (DK) (DM) (DH) (KT) (XR))) (Aa (wrap .i64 (y4+1)) fun Ea=>Cx fu call a0_0 a0_1 a0_2 a0_3 a0_4 a0_5 a0_6 a0_7 a0_8 a0_9 a0_10 a0_11n a0_11 a0_12n a0_12 a1 a2n a2 a3 (nn) (y0) (y1) (y2) (y3) Ea (y5) (y6) (y7) (y8) (y9) (y10) (F6) (Hu) (Vm) (DI) (DK) (DM) (DH) (KT) (XR))) (some (Aw.mk [.sc (.int .i64 0)] []))):=by kernel_rfl
theorem Th (fu d:Nat)(a0_0 a0_1:ByteArray)(a0_2 a0_3:Int)(a0_4 a0_5 a0_6:Int)(a0_7:Bool)(a0_8 a0_9 a0_10:Int)(a0_11n:Nat)(a0_11:List PV)(a0_12n:Nat)(a0_12:List PV)(a1:Int)(a2n:Nat)(a2:List PV)(a3:Int):Ad C0 Tryz.prog fu (d+1) Jt [.agg [.sc (.string a0_0),.sc (.string a0_1),.sc (.int .u64 a0_2),.sc (.int .i64 a0_3),.sc (.int .u64 a0_4),.sc (.int .i64 a0_5),.sc (.int .i64 a0_6),.sc (.bool a0_7),.sc (.int .i64 a0_8),.sc (.int .u64 a0_9),.sc (.int .i64 a0_10),.lst false 1 a0_11n a0_11,.lst false 1 a0_12n a0_12],.sc (.int .i64 a1),.lst false 3 a2n a2,.sc (.int .i64 a3)]=(fun (call:Ah)=>Ag (call 35 [.agg [.sc (.string a0_0),.sc (.string a0_1),.sc (.int .u64 a0_2),.sc (.int .i64 a0_3),.sc (.int .u64 a0_4),.sc (.int .i64 a0_5),.sc (.int .i64 a0_6),.sc (.bool a0_7),.sc (.int .i64 a0_8),.sc (.int .u64 a0_9),.sc (.int .i64 a0_10),.lst false 1 a0_11n a0_11,.lst false 1 a0_12n a0_12]]) fun x1 x2=>Ac x2<|Ab x1 fun x3 x4=>D4 1 x3 fun x5 x6=>Ab x4 fun x7 x8=>Ae .i64 x7 fun x9=>Ac x8<|A3 (x9 != 0) (some (Aw.mk [.sc (.int .i64 x9)] [])) (A3 (decide (a3<a0_5)) (some (Aw.mk [.sc (.int .i64 38)] [])) (A3 (decide (a3>a0_6)) (some (Aw.mk [.sc (.int .i64 38)] [])) (A3 (decide (a1>0)) (A3 (!a0_7) (some (Aw.mk [.sc (.int .i64 38)] [])) (Aa (wrap .i64 (a1-1)) fun Cm=>A3 (decide (a0_8<Cm)) (some (Aw.mk [.sc (.int .i64 38)] [])) (Cx fu call a0_0 a0_1 a0_2 a0_3 a0_4 a0_5 a0_6 a0_7 a0_8 a0_9 a0_10 a0_11n a0_11 a0_12n a0_12 a1 a2n a2 a3 (fu) (a3) (a2n) (a2) ((↑a2n:Int)) 0 (a0_0) (a0_1) (a0_2) (a0_3) (a0_4) (a0_5) (a0_6) (a0_7) (a0_8) (a0_9) (a0_10) (a0_11n) (a0_11) (a0_12n) (a0_12)))) (Cx fu call a0_0 a0_1 a0_2 a0_3 a0_4 a0_5 a0_6 a0_7 a0_8 a0_9 a0_10 a0_11n a0_11 a0_12n a0_12 a1 a2n a2 a3 (fu) (a3) (a2n) (a2) ((↑a2n:Int)) 0 (a0_0) (a0_1) (a0_2) (a0_3) (a0_4) (a0_5) (a0_6) (a0_7) (a0_8) (a0_9) (a0_10) (a0_11n) (a0_11) (a0_12n) (a0_12)))))) (Ad C0 Tryz.prog fu d):=by kernel_rfl
abbrev Qe:FuncId:=27
noncomputable def Gu (fu:Nat)(call:Ah)(a0n:Nat)(a0:List PV)(a1n:Nat)(a1:List PV)(a2n:Nat)(a2:List PV)(a3:Int)(nn y0:Nat)(y1:List PV)(y2:Nat)(y3:List PV)(y4:Nat)(y5:List PV)(y6:Int)(y7:Nat)(y8:List PV)(y9 y10:Int):Option Aw:=C6 CB Tryz.prog fu call 27 Tryz.f27 (Cb Tryz.f27) [.lst false 13 a0n a0,.lst false 3 a1n a1,.lst false 3 a2n a2,.sc (.int .i64 a3)] [.r,.r,.r,.l,.r,.l] nn ⟨lk [(0,(.lst false 13 y0 y1)),(1,(.lst false 3 y2 y3)),(2,(.lst false 3 y4 y5)),(3,(.sc (.int .i64 y6))),(31,(.lst false 13 y7 y8)),(32,(.sc (.int .i64 y9))),(33,(.sc (.int .i64 y10)))],Cj []⟩
noncomputable def El (fu:Nat)(call:Ah)(a0n:Nat)(a0:List PV)(a1n:Nat)(a1:List PV)(a2n:Nat)(a2:List PV)(a3:Int)(nn y0:Nat)(y1:List PV)(y2 y3:Int)(y4 y5:ByteArray)(y6 y7:Int)(y8 y9 y10:Int)(F6:Bool)(Hu Vm DI:Int)(DK:Nat)(DM:List PV)(DH:Nat)(KT:List PV):Option Aw:=C6 CB Tryz.prog fu call 27 Tryz.f27 (Cb Tryz.f27) [.lst false 13 a0n a0,.lst false 3 a1n a1,.lst false 3 a2n a2,.sc (.int .i64 a3)] [.r,.r,.r,.r,.r,.l,.r,.l] nn ⟨lk [(14,(.ptr 14 0)),(78,(.lst false 3 y0 y1)),(79,(.sc (.int .i64 y2))),(80,(.sc (.int .i64 y3)))],Cj [(14,(.st [(.sc (.string y4)),(.sc (.string y5)),(.sc (.int .u64 y6)),(.sc (.int .i64 y7)),(.sc (.int .u64 y8)),(.sc (.int .i64 y9)),(.sc (.int .i64 y10)),(.sc (.bool F6)),(.sc (.int .i64 Hu)),(.sc (.int .u64 Vm)),(.sc (.int .i64 DI)),(.lst false 1 DK DM),(.lst false 1 DH KT)]))]⟩
theorem Mc (fu:Nat)(call:Ah)(a0n:Nat)(a0:List PV)(a1n:Nat)(a1:List PV)(a2n:Nat)(a2:List PV)(a3:Int)(nn y0:Nat)(y1:List PV)(y2:Nat)(y3:List PV)(y4:Nat)(y5:List PV)(y6:Int)(y7:Nat)(y8:List PV)(y9 y10:Int):Gu fu call a0n a0 a1n a1 a2n a2 a3 (nn+1) y0 y1 y2 y3 y4 y5 y6 y7 y8 y9 y10=(A3 (decide (y10<y9)) (Ap (decide (0<=y10)&&decide (y10<(↑y7:Int)))<|Cr (List.getD y8 (Int.toNat y10*13) .top) fun x1=>Cr (List.getD y8 (Int.toNat y10*13+1) .top) fun x2=>Ae .u64 (List.getD y8 (Int.toNat y10*13+1+1) .top) fun x3=>Ae .i64 (List.getD y8 (Int.toNat y10*13+1+1+1) .top) fun x4=>Ae .u64 (List.getD y8 (Int.toNat y10*13+1+1+1+1) .top) fun x5=>Ae .i64 (List.getD y8 (Int.toNat y10*13+1+1+1+1+1) .top) fun x6=>Ae .i64 (List.getD y8 (Int.toNat y10*13+1+1+1+1+1+1) .top) fun x7=>Br (List.getD y8 (Int.toNat y10*13+1+1+1+1+1+1+1) .top) fun x8=>Ae .i64 (List.getD y8 (Int.toNat y10*13+1+1+1+1+1+1+1+1) .top) fun x9=>Ae .u64 (List.getD y8 (Int.toNat y10*13+1+1+1+1+1+1+1+1+1) .top) fun Cm=>Ae .i64 (List.getD y8 (Int.toNat y10*13+1+1+1+1+1+1+1+1+1+1) .top) fun Bq=>Ho 1 (List.getD y8 (Int.toNat y10*13+1+1+1+1+1+1+1+1+1+1+1) .top) fun Dm Ds Cu=>Ho 1 (List.getD y8 (Int.toNat y10*13+1+1+1+1+1+1+1+1+1+1+1+1) .top) fun Dw Ea Ef=>Ag (call 47 [.agg [.sc (.string x1),.sc (.string x2),.sc (.int .u64 x3),.sc (.int .i64 x4),.sc (.int .u64 x5),.sc (.int .i64 x6),.sc (.int .i64 x7),.sc (.bool x8),.sc (.int .i64 x9),.sc (.int .u64 Cm),.sc (.int .i64 Bq),.lst false 1 Ds Cu,.lst false 1 Ea Ef],.sc (.int .i64 y10),.lst false 3 y4 y5,.sc (.int .i64 y6)]) fun Ew Ej=>Ac Ej<|Ab Ew fun Fb G9=>Ae .i64 Fb fun Cp=>Ac G9<|A3 (Cp != 0) (some (Aw.mk [.sc (.int .i64 0),.sc (.int .i64 Cp)] [])) (Aa (wrap .i64 ((↑y0:Int)-1)) fun Hb=>A3 (y10==Hb) (Aa (wrap .i64 ((↑y0:Int)-1)) fun Dx=>Ap (decide (0<=Dx)&&decide (Dx<(↑y0:Int)))<|Cr (List.getD y1 (Int.toNat Dx*13) .top) fun B4=>Cr (List.getD y1 (Int.toNat Dx*13+1) .top) fun Ft=>Ae .u64 (List.getD y1 (Int.toNat Dx*13+1+1) .top) fun Hn=>Ae .i64 (List.getD y1 (Int.toNat Dx*13+1+1+1) .top) fun Bk=>Ae .u64 (List.getD y1 (Int.toNat Dx*13+1+1+1+1) .top) fun Ci=>Ae .i64 (List.getD y1 (Int.toNat Dx*13+1+1+1+1+1) .top) fun I1=>Ae .i64 (List.getD y1 (Int.toNat Dx*13+1+1+1+1+1+1) .top) fun Jd=>Br (List.getD y1 (Int.toNat Dx*13+1+1+1+1+1+1+1) .top) fun J9=>Ae .i64 (List.getD y1 (Int.toNat Dx*13+1+1+1+1+1+1+1+1) .top) fun Kc=>Ae .u64 (List.getD y1 (Int.toNat Dx*13+1+1+1+1+1+1+1+1+1) .top) fun Lx=>Ae .i64 (List.getD y1 (Int.toNat Dx*13+1+1+1+1+1+1+1+1+1+1) .top) fun Ob=>Ho 1 (List.getD y1 (Int.toNat Dx*13+1+1+1+1+1+1+1+1+1+1+1) .top) fun Pt Q5 Gn=>Ho 1 (List.getD y1 (Int.toNat Dx*13+1+1+1+1+1+1+1+1+1+1+1+1) .top) fun Ie Sv Wg=>El fu call a0n a0 a1n a1 a2n a2 a3 (fu) (y2) (y3) ((↑y2:Int)) 0 B4 Ft Hn Bk Ci I1 Jd J9 Kc Lx Ob Q5 Gn Sv Wg) (Aa (wrap .i64 (y10+1)) fun Kd=>Ap (decide (0<=Kd)&&decide (Kd<(↑y0:Int)))<|Cr (List.getD y1 (Int.toNat Kd*13+0) .top) fun S1=>A3 (!Array.toList (ByteArray.data x2)==Array.toList (ByteArray.data S1)) (some (Aw.mk [.sc (.int .i64 0),.sc (.int .i64 38)] [])) (Aa (wrap .i64 (y10+1)) fun Sd=>Ap (decide (0<=Sd)&&decide (Sd<(↑y0:Int)))<|Ae .i64 (List.getD y1 (Int.toNat Sd*13+3) .top) fun Re=>Ae .u64 (List.getD y1 (Int.toNat Sd*13+3+1) .top) fun Sf=>Ag (call 20 [.agg [.sc (.string x1),.sc (.string x2),.sc (.int .u64 x3),.sc (.int .i64 x4),.sc (.int .u64 x5),.sc (.int .i64 x6),.sc (.int .i64 x7),.sc (.bool x8),.sc (.int .i64 x9),.sc (.int .u64 Cm),.sc (.int .i64 Bq),.lst false 1 Ds Cu,.lst false 1 Ea Ef],.agg [.sc (.int .i64 Re),.sc (.int .u64 Sf)]]) fun Vp V9=>Ac V9<|Ab Vp fun Q8 Ud=>Ae .i64 Q8 fun Vo=>Ac Ud<|A3 (Vo != 0) (some (Aw.mk [.sc (.int .i64 0),.sc (.int .i64 Vo)] [])) (Aa (wrap .i64 (y10+1)) fun Vx=>Gu fu call a0n a0 a1n a1 a2n a2 a3 (nn) (y0) (y1) (y2) (y3) (y4) (y5) (y6) (y7) (y8) (y9) Vx))))) (Aa (wrap .i64 ((↑y0:Int)-1)) fun Nn=>Ap (decide (0<=Nn)&&decide (Nn<(↑y0:Int)))<|Cr (List.getD y1 (Int.toNat Nn*13) .top) fun Vt=>Cr (List.getD y1 (Int.toNat Nn*13+1) .top) fun AC=>Ae .u64 (List.getD y1 (Int.toNat Nn*13+1+1) .top) fun Ye=>Ae .i64 (List.getD y1 (Int.toNat Nn*13+1+1+1) .top) fun Up=>Ae .u64 (List.getD y1 (Int.toNat Nn*13+1+1+1+1) .top) fun R7=>Ae .i64 (List.getD y1 (Int.toNat Nn*13+1+1+1+1+1) .top) fun Vl=>Ae .i64 (List.getD y1 (Int.toNat Nn*13+1+1+1+1+1+1) .top) fun Wu=>Br (List.getD y1 (Int.toNat Nn*13+1+1+1+1+1+1+1) .top) fun Su=>Ae .i64 (List.getD y1 (Int.toNat Nn*13+1+1+1+1+1+1+1+1) .top) fun Rg=>Ae .u64 (List.getD y1 (Int.toNat Nn*13+1+1+1+1+1+1+1+1+1) .top) fun Wn=>Ae .i64 (List.getD y1 (Int.toNat Nn*13+1+1+1+1+1+1+1+1+1+1) .top) fun Wc=>Ho 1 (List.getD y1 (Int.toNat Nn*13+1+1+1+1+1+1+1+1+1+1+1) .top) fun Yb Uj Uc=>Ho 1 (List.getD y1 (Int.toNat Nn*13+1+1+1+1+1+1+1+1+1+1+1+1) .top) fun Z9 Wy Wk=>El fu call a0n a0 a1n a1 a2n a2 a3 (fu) (y2) (y3) ((↑y2:Int)) 0 Vt AC Ye Up R7 Vl Wu Su Rg Wn Wc Uj Uc Wy Wk)):=by kernel_rfl
theorem Me (fu:Nat)(call:Ah)(a0n:Nat)(a0:List PV)(a1n:Nat)(a1:List PV)(a2n:Nat)(a2:List PV)(a3:Int)(nn y0:Nat)(y1:List PV)(y2 y3:Int)(y4 y5:ByteArray)(y6 y7:Int)(y8 y9 y10:Int)(F6:Bool)(Hu Vm DI:Int)(DK:Nat)(DM:List PV)(DH:Nat)(KT:List PV):El fu call a0n a0 a1n a1 a2n a2 a3 (nn+1) y0 y1 y2 y3 y4 y5 y6 y7 y8 y9 y10 F6 Hu Vm DI DK DM DH KT=(A3 (decide (y3<y2)) (Ap (decide (0<=y3)&&decide (y3<(↑y0:Int)))<|Cr (List.getD y1 (Int.toNat y3*3) .top) fun Vu=>Ae .i64 (List.getD y1 (Int.toNat y3*3+1) .top) fun Ze=>Ae .u64 (List.getD y1 (Int.toNat y3*3+1+1) .top) fun AL=>A3 (Array.toList (ByteArray.data Vu)==Array.toList (ByteArray.data y5)) (Ag (call 20 [.agg [.sc (.string y4),.sc (.string y5),.sc (.int .u64 y6),.sc (.int .i64 y7),.sc (.int .u64 y8),.sc (.int .i64 y9),.sc (.int .i64 y10),.sc (.bool F6),.sc (.int .i64 Hu),.sc (.int .u64 Vm),.sc (.int .i64 DI),.lst false 1 DK DM,.lst false 1 DH KT],.agg [.sc (.int .i64 Ze),.sc (.int .u64 AL)]]) fun Yz Z8=>Ac Z8<|Ab Yz fun BK Y0=>Ae .i64 BK fun Tw=>Ac Y0<|A3 (Tw==0) (some (Aw.mk [.sc (.int .i64 y3),.sc (.int .i64 0)] [])) (Aa (wrap .i64 (y3+1)) fun DU=>El fu call a0n a0 a1n a1 a2n a2 a3 (nn) (y0) (y1) (y2) DU (y4) (y5) (y6) (y7) (y8) (y9) (y10) (F6) (Hu) (Vm) (DI) (DK) (DM) (DH) (KT))) (Aa (wrap .i64 (y3+1)) fun GI=>El fu call a0n a0 a1n a1 a2n a2 a3 (nn) (y0) (y1) (y2) GI (y4) (y5) (y6) (y7) (y8) (y9) (y10) (F6) (Hu) (Vm) (DI) (DK) (DM) (DH) (KT))) (some (Aw.mk [.sc (.int .i64 0),.sc (.int .i64 38)] []))):=by kernel_rfl
theorem BB (fu d a0n:Nat)(a0:List PV)(a1n:Nat)(a1:List PV)(a2n:Nat)(a2:List PV)(a3:Int):Ad C0 Tryz.prog fu (d+1) Qe [.lst false 13 a0n a0,.lst false 3 a1n a1,.lst false 3 a2n a2,.sc (.int .i64 a3)]=(fun (call:Ah)=>A3 (decide (a3<0)) (some (Aw.mk [.sc (.int .i64 0),.sc (.int .i64 9)] [])) (A3 (decide (a3>1099511627776)) (some (Aw.mk [.sc (.int .i64 0),.sc (.int .i64 9)] [])) (A3 (decide ((↑a0n:Int)<1)) (some (Aw.mk [.sc (.int .i64 0),.sc (.int .i64 38)] [])) (A3 (decide ((↑a0n:Int)>3)) (some (Aw.mk [.sc (.int .i64 0),.sc (.int .i64 38)] [])) (Gu fu call a0n a0 a1n a1 a2n a2 a3 (fu) (a0n) (a0) (a1n) (a1) (a2n) (a2) (a3) (a0n) (a0) ((↑a0n:Int)) 0))))) (Ad C0 Tryz.prog fu d):=by kernel_rfl
abbrev AP:FuncId:=55
theorem QR (fu d a0n:Nat)(a0:List PV)(a1n:Nat)(a1:List PV):Ad C0 Tryz.prog fu (d+1) AP [.lst false 1 a0n a0,.lst false 1 a1n a1]=(fun (call:Ah)=>Ap (decide (a0.length=a0n))<|Ev (bytesOf a0) fun x1=>Ap (decide (a1.length=a1n))<|Ev (bytesOf a1) fun x2=>some (Aw.mk [.sc (.bool (Array.toList (ByteArray.data (ByteArray.mk (List.toArray x1)))==Array.toList (ByteArray.data (ByteArray.mk (List.toArray x2)))))] [])) (Ad C0 Tryz.prog fu d):=by kernel_rfl
end
section
open Go.IntKind (wrap)
theorem XX {c:Ce}{e:Int}(h:Bd c=e)(he:e≠0):Hk c=[.own 1 0 [],.sc (.int .i64 e)]:=by
 unfold Hk;rw [h,Az he]
theorem E6 {c:Ce}{e:Int}(h:Bd c=e)(he:e≠0):some (Aw.mk [.own 1 0 [],.sc (.int .i64 e)] [])=some (Aw.mk (Hk c) []):=by
 rw [XX h he]
def Ku (c:Ce):List It:=[⟨4,0,c.subj⟩,⟨4,0,c.iss⟩,⟨1,c.serial,C1⟩,⟨3,0,Bj (I7 c.key)⟩,⟨1,c.fr,C1⟩,⟨1,c.un,C1⟩,⟨7,(if c.auth=true then 1 else 0),C1⟩,⟨1,c.path,C1⟩,⟨1,c.model,C1⟩]
theorem W5 {c:Ce}(hw:c.wf)(h:Bd c=0):∀x∈Ku c,VJ x:=by
 unfold Bd at h;have kl:(Bj (I7 c.key)).size=9:=by rw [Ek];rfl
 have ns:C1.size=0:=rfl;have hs:=hw.ser;have hm:=hw.mod;have es:EE C1=true:=rfl;by_cases e1:c.subj.size<1∨32<c.subj.size
 ·rw [Bv e1] at h;cases h
 rw [Az e1] at h;by_cases e2:c.iss.size<1∨32<c.iss.size
 ·rw [Bv e2] at h;cases h
 rw [Az e2] at h;by_cases e3:RH c.subj=false
 ·rw [Bv e3] at h;cases h
 rw [Az e3] at h;by_cases e4:RH c.iss=false
 ·rw [Bv e4] at h;cases h
 rw [Az e4] at h
 repeat' (split at h;· cases h)
 rw [Bool.not_eq_false] at e3 e4;intro x hx;simp only [Ku,List.mem_cons,List.not_mem_nil,or_false] at hx;rcases hx with rfl|rfl|rfl|rfl|rfl|rfl|rfl|rfl|rfl
 ·exact ⟨by simp,by simp only;omega,fun _=>e3,by simp [Gr],by simp⟩
 ·exact ⟨by simp,by simp only;omega,fun _=>e4,by simp [Gr],by simp⟩
 ·exact ⟨by simp,by simp only [ns];omega,fun h=>by simp at h,by simp [Gr,es],hs⟩
 ·exact ⟨by simp,by simp only [kl];omega,fun h=>by simp at h,by simp [Gr],by simp⟩
 ·exact ⟨by simp,by simp only [ns];omega,fun h=>by simp at h,by simp [Gr,es],by simp only;omega⟩
 ·exact ⟨by simp,by simp only [ns];omega,fun h=>by simp at h,by simp [Gr,es],by simp only;omega⟩
 ·exact ⟨by simp,by simp only [ns];omega,fun h=>by simp at h,by simp [Gr,es];split<;>omega,by simp only;split<;>omega⟩
 ·exact ⟨by simp,by simp only [ns];omega,fun h=>by simp at h,by simp [Gr,es],by simp only;omega⟩
 ·exact ⟨by simp,by simp only [ns];omega,fun h=>by simp at h,by simp [Gr,es],hm⟩
theorem BO {c:Ce}(hw:c.wf)(h:Bd c=0):P4 [] 0 (A9 c):=Aif (r:=Ku c) (by simp [Ku]) (by simp [Ku]) (W5 hw h)
section
variable {fu d:Nat}
theorem YT (s:ByteArray):Ad C0 Tryz.prog fu (d+1) IU [.sc (.string s)]=some ⟨[.own 3 1 (Bl [⟨4,0,s⟩])],[]⟩:=by rw [Aa1];rfl
theorem Xh (n:Int):Ad C0 Tryz.prog fu (d+1) JS [.sc (.int .u64 n)]=some ⟨[.own 3 1 (Bl [⟨1,n,C1⟩])],[]⟩:=by rw [Aa9];rfl
theorem Alz (b:Bool):Ad C0 Tryz.prog fu (d+1) IQ [.sc (.bool b)]=some ⟨[.own 3 1 (Bl [⟨7,(if b=true then 1 else 0),C1⟩])],[]⟩:=by rw [ZE];cases b<;>rfl
theorem Aih (l:List Int):Ad C0 Tryz.prog fu (d+1) EH [.lst false 1 l.length (Af .u8 l)]=some ⟨[.own 3 1 (Bl [⟨3,0,Bj l⟩])],[]⟩:=by
 rw [XG];have L:=Al .u8 l;have bo:=Ff l;simp (disch:=omega) only [Bx,L,bo];rfl
theorem Adh (hfu:1000<=fu){c:Ce}(hw:c.wf)(hs1:c.subj.size<=9223372036854775807)(hs2:c.iss.size<=9223372036854775807)(e1:¬(c.subj.size<1∨32<c.subj.size)) (e2:¬(c.iss.size<1∨32<c.iss.size)) (nn:Nat):
  Fk fu (Ad C0 Tryz.prog fu (d+6)) c.subj c.iss c.serial c.key.h c.key.root c.fr c.un c.auth c.path c.model c.sig.leaf c.sig.chains.length (Af .u64 c.sig.chains) c.sig.path.length (Af .u64 c.sig.path) (nn+1) c.subj c.iss 2 c.subj c.iss c.serial c.key.h c.key.root c.fr c.un c.auth c.path c.model c.sig.leaf c.sig.chains.length (Af .u64 c.sig.chains) c.sig.path.length (Af .u64 c.sig.path)=some ⟨Hk c,[]⟩:=by
 have v1:=Ks (fu:=fu) (d:=d+5) c.subj hs1;have v2:=Ks (fu:=fu) (d:=d+5) c.iss hs2;have ek:=Agx (xs:=Is) (fu:=fu) (d:=d+4) hfu c.key;simp only [Ky.cells] at ek;have e90:((9:Int) != 0)=true:=rfl;have e00:((0:Int) != 0)=false:=rfl;rw [Ex,Dv _ _ _ (by omega)]
 cases e3:RH c.subj
 ·have hb:Bd c=6:=by unfold Bd;rw [Az e1,Az e2,Bv e3]
  rw [e3] at v1;rw [←E6 hb (by omega)]
  try unfold Aa
  repeat first
   |((with_reducible first|apply At|apply Ao|apply Aq|apply A6|apply A0|apply Ba|apply B8|apply Am);· first|with_reducible rfl|(simp (disch:=omega) only [v1,Bw,B5]<;>with_reducible rfl))
   |((with_reducible first|apply Ar|apply As);· first|with_reducible rfl|omega|(simp (disch:=omega) only [gT,v1,Bw,B5]<;>omega))
   |(with_reducible apply Au;· first|with_reducible rfl|(simp (disch:=omega) only [gF,v1,Bw,B5]<;>omega))
  try simp (disch:=omega) only [v1,Bw,B5]
 rw [e3] at v1;cases e4:RH c.iss
 ·have hb:Bd c=6:=by unfold Bd;rw [Az e1,Az e2,Az (by simp [e3]),Bv e4]
  rw [e4] at v2;rw [←E6 hb (by omega)]
  try unfold Aa
  repeat first
   |((with_reducible first|apply At|apply Ao|apply Aq|apply A6|apply A0|apply Ba|apply B8|apply Am);· first|with_reducible rfl|(simp (disch:=omega) only [v1,v2,Bw,B5]<;>with_reducible rfl))
   |((with_reducible first|apply Ar|apply As);· first|with_reducible rfl|omega|(simp (disch:=omega) only [gT,v1,v2,Bw,B5]<;>omega))
   |(with_reducible apply Au;· first|with_reducible rfl|(simp (disch:=omega) only [gF,v1,v2,Bw,B5]<;>omega))
  try simp (disch:=omega) only [v1,v2,Bw,B5]
 rw [e4] at v2;cases e5:C4 c.key.h
 rotate_left
 ·have hb:Bd c=9:=by unfold Bd;rw [Az e1,Az e2,Az (by simp [e3]),Az (by simp [e4]),Bv e5]
  rw [e5,Bv rfl] at ek;rw [←E6 hb (by omega)]
  try unfold Aa
  repeat first
   |((with_reducible first|apply At|apply Ao|apply Aq|apply A6|apply A0|apply Ba|apply B8|apply Am);· first|with_reducible rfl|(simp (disch:=omega) only [v1,v2,ek,e90,Bw,B5]<;>with_reducible rfl))
   |((with_reducible first|apply Ar|apply As);· first|with_reducible rfl|omega|(simp (disch:=omega) only [gT,v1,v2,ek,e90,Bw,B5]<;>omega))
   |(with_reducible apply Au;· first|with_reducible rfl|(simp (disch:=omega) only [gF,v1,v2,ek,e90,Bw,B5]<;>omega))
  try simp (disch:=omega) only [v1,v2,ek,e90,Bw,B5]
 rw [e5,Az (by simp)] at ek
 have B0:Bd c=if c.fr<0 then 9 else if c.un<c.fr then 9 else if c.un>1099511627776 then 9 else if c.path<0∨2<c.path then 9 else if c.path≠0∧c.auth=false then 4 else 0:=by
  unfold Bd;rw [Az e1,Az e2,Az (by simp [e3]),Az (by simp [e4]),Az (by simp [e5])]
 by_cases e6:c.fr<0
 ·have hb:Bd c=9:=by rw [B0,Bv e6]
  rw [←E6 hb (by omega)]
  try unfold Aa
  repeat first
   |((with_reducible first|apply At|apply Ao|apply Aq|apply A6|apply A0|apply Ba|apply B8|apply Am);· first|with_reducible rfl|(simp (disch:=omega) only [v1,v2,ek,e00,Bw,B5]<;>with_reducible rfl))
   |((with_reducible first|apply Ar|apply As);· first|with_reducible rfl|omega|(simp (disch:=omega) only [gT,v1,v2,ek,e00,Bw,B5]<;>omega))
   |(with_reducible apply Au;· first|with_reducible rfl|(simp (disch:=omega) only [gF,v1,v2,ek,e00,Bw,B5]<;>omega))
  try simp (disch:=omega) only [v1,v2,ek,e00,Bw,B5]
 by_cases e7:c.un<c.fr
 ·have hb:Bd c=9:=by rw [B0,Az e6,Bv e7]
  rw [←E6 hb (by omega)]
  try unfold Aa
  repeat first
   |((with_reducible first|apply At|apply Ao|apply Aq|apply A6|apply A0|apply Ba|apply B8|apply Am);· first|with_reducible rfl|(simp (disch:=omega) only [v1,v2,ek,e00,Bw,B5]<;>with_reducible rfl))
   |((with_reducible first|apply Ar|apply As);· first|with_reducible rfl|omega|(simp (disch:=omega) only [gT,v1,v2,ek,e00,Bw,B5]<;>omega))
   |(with_reducible apply Au;· first|with_reducible rfl|(simp (disch:=omega) only [gF,v1,v2,ek,e00,Bw,B5]<;>omega))
  try simp (disch:=omega) only [v1,v2,ek,e00,Bw,B5]
 by_cases e8:c.un>1099511627776
 ·have hb:Bd c=9:=by rw [B0,Az e6,Az e7,Bv e8]
  rw [←E6 hb (by omega)]
  try unfold Aa
  repeat first
   |((with_reducible first|apply At|apply Ao|apply Aq|apply A6|apply A0|apply Ba|apply B8|apply Am);· first|with_reducible rfl|(simp (disch:=omega) only [v1,v2,ek,e00,Bw,B5]<;>with_reducible rfl))
   |((with_reducible first|apply Ar|apply As);· first|with_reducible rfl|omega|(simp (disch:=omega) only [gT,v1,v2,ek,e00,Bw,B5]<;>omega))
   |(with_reducible apply Au;· first|with_reducible rfl|(simp (disch:=omega) only [gF,v1,v2,ek,e00,Bw,B5]<;>omega))
  try simp (disch:=omega) only [v1,v2,ek,e00,Bw,B5]
 by_cases e9:c.path<0∨2<c.path
 ·have hb:Bd c=9:=by rw [B0,Az e6,Az e7,Az e8,Bv e9]
  rw [←E6 hb (by omega)]
  by_cases e9':c.path<0
  ·skip
   try unfold Aa
   repeat first
    |((with_reducible first|apply At|apply Ao|apply Aq|apply A6|apply A0|apply Ba|apply B8|apply Am);· first|with_reducible rfl|(simp (disch:=omega) only [v1,v2,ek,e00,Bw,B5]<;>with_reducible rfl))
    |((with_reducible first|apply Ar|apply As);· first|with_reducible rfl|omega|(simp (disch:=omega) only [gT,v1,v2,ek,e00,Bw,B5]<;>omega))
    |(with_reducible apply Au;· first|with_reducible rfl|(simp (disch:=omega) only [gF,v1,v2,ek,e00,Bw,B5]<;>omega))
   try simp (disch:=omega) only [v1,v2,ek,e00,Bw,B5]
  ·skip
   try unfold Aa
   repeat first
    |((with_reducible first|apply At|apply Ao|apply Aq|apply A6|apply A0|apply Ba|apply B8|apply Am);· first|with_reducible rfl|(simp (disch:=omega) only [v1,v2,ek,e00,Bw,B5]<;>with_reducible rfl))
    |((with_reducible first|apply Ar|apply As);· first|with_reducible rfl|omega|(simp (disch:=omega) only [gT,v1,v2,ek,e00,Bw,B5]<;>omega))
    |(with_reducible apply Au;· first|with_reducible rfl|(simp (disch:=omega) only [gF,v1,v2,ek,e00,Bw,B5]<;>omega))
   try simp (disch:=omega) only [v1,v2,ek,e00,Bw,B5]
 by_cases e10:c.path≠0∧c.auth=false
 ·have hb:Bd c=4:=by rw [B0,Az e6,Az e7,Az e8,Az e9,Bv e10]
  have ea:=e10.2;have ep:(c.path != 0)=true:=by simp [e10.1]
  rw [←E6 hb (by omega)]
  try unfold Aa
  repeat first
   |((with_reducible first|apply At|apply Ao|apply Aq|apply A6|apply A0|apply Ba|apply B8|apply Am);· first|with_reducible rfl|(simp (disch:=omega) only [v1,v2,ek,e00,ep,ea,Bw,B5]<;>with_reducible rfl))
   |((with_reducible first|apply Ar|apply As);· first|with_reducible rfl|omega|(simp (disch:=omega) only [gT,v1,v2,ek,e00,ep,ea,Bw,B5]<;>omega))
   |(with_reducible apply Au;· first|with_reducible rfl|(simp (disch:=omega) only [gF,v1,v2,ek,e00,ep,ea,Bw,B5]<;>omega))
  try simp (disch:=omega) only [v1,v2,ek,e00,ep,ea,Bw,B5]
 have hz:Bd c=0:=by rw [B0,Az e6,Az e7,Az e8,Az e9,Az e10]
 have hfl:=W5 hw hz
 have ar:=Ab9 (fu:=fu) (d:=d) hfu (vs:=(Ku c).map fun x=>[x]) (by
  intro v hv;obtain ⟨x,hx,rfl⟩:=List.mem_map.1 hv;exact ⟨Ags (hfl x hx),by simp⟩) (by simp [Ku]) (BO hw hz) (by simp [Ku])
 have en:=ZM (fu:=fu) (d:=d+1) hfu (l:=A9 c) (by simp [A9]) (by simp [A9];omega) (BO hw hz) (fun x hx=>(CA hw hz x hx).1) (Nat.le_trans (Js hz) (by omega))
 have ar':Ad C0 Tryz.prog fu (d+6) Uk [.lst false 1 9 [.lst false 3 1 (Bl [⟨4,0,c.subj⟩]),.lst false 3 1 (Bl [⟨4,0,c.iss⟩]),.lst false 3 1 (Bl [⟨1,c.serial,C1⟩]),.lst false 3 1 (Bl [⟨3,0,Bj (I7 c.key)⟩]),.lst false 3 1 (Bl [⟨1,c.fr,C1⟩]),.lst false 3 1 (Bl [⟨1,c.un,C1⟩]),.lst false 3 1 (Bl [⟨7,(if c.auth=true then 1 else 0),C1⟩]),.lst false 3 1 (Bl [⟨1,c.path,C1⟩]),.lst false 3 1 (Bl [⟨1,c.model,C1⟩])]]=some ⟨[.own 3 10 (Bl (A9 c)),.sc (.int .i64 0)],[]⟩:=ar
 have en':Ad C0 Tryz.prog fu (d+1+5) Sh [.lst false 3 10 (Bl (A9 c))]=some ⟨[.own 1 (Bb (A9 c)).length (Af .u8 (Bb (A9 c))),.sc (.int .i64 0)],[]⟩:=en;clear ar en hfl;have t1:=YT (fu:=fu) (d:=d+5) c.subj;have t2:=YT (fu:=fu) (d:=d+5) c.iss;have u1:=Xh (fu:=fu) (d:=d+5) c.serial;have u2:=Xh (fu:=fu) (d:=d+5) c.fr;have u3:=Xh (fu:=fu) (d:=d+5) c.un;have u4:=Xh (fu:=fu) (d:=d+5) c.path;have u5:=Xh (fu:=fu) (d:=d+5) c.model;have bo:=Alz (fu:=fu) (d:=d+5) c.auth;have by_:=Aih (fu:=fu) (d:=d+5) (I7 c.key);have k9:(I7 c.key).length=9:=rfl;rw [k9] at by_;have L9:=Al .u8 (I7 c.key);rw [k9] at L9;have tk9:List.take 9 (Af .u8 (I7 c.key))=Af .u8 (I7 c.key):=Jv (by omega)
 have wf:wrap .u64 c.fr=c.fr:=Ch (by omega) (by omega)
 have wu:wrap .u64 c.un=c.un:=Ch (by omega) (by omega)
 have wp:wrap .u64 c.path=c.path:=Ch (by omega) (by omega)
 have R:Hk c=[.own 1 (Bb (A9 c)).length (Af .u8 (Bb (A9 c))),.sc (.int .i64 0)]:=by unfold Hk;rw [hz,Bv rfl]
 have LB:=Al .u8 (Bb (A9 c));have tB:=Ii .u8 (Bb (A9 c));rw [R];generalize Bb (A9 c)=W at en' LB tB ⊢;have LI:(Bl (A9 c)).length=30:=rfl;have tI:List.take 30 (Bl (A9 c))=Bl (A9 c):=rfl;generalize Bl (A9 c)=I at ar' en' LI tI;have K:∀x:It,List.take 3 (Bl [x])=Bl [x]:=fun _=>rfl
 have N:∀x:It,(Bl [x]).length=3:=fun _=>rfl
 have K1:=K ⟨4,0,c.subj⟩;have K2:=K ⟨4,0,c.iss⟩;have K3:=K ⟨1,c.serial,C1⟩;have K4:=K ⟨3,0,Bj (I7 c.key)⟩;have K5:=K ⟨1,c.fr,C1⟩;have K6:=K ⟨1,c.un,C1⟩;have K7:=K ⟨7,(if c.auth=true then 1 else 0),C1⟩
 have K8:=K ⟨1,c.path,C1⟩;have K9:=K ⟨1,c.model,C1⟩;have N1:=N ⟨4,0,c.subj⟩;have N2:=N ⟨4,0,c.iss⟩;have N3:=N ⟨1,c.serial,C1⟩;have N4:=N ⟨3,0,Bj (I7 c.key)⟩;have N5:=N ⟨1,c.fr,C1⟩;have N6:=N ⟨1,c.un,C1⟩;have N7:=N ⟨7,(if c.auth=true then 1 else 0),C1⟩
 have N8:=N ⟨1,c.path,C1⟩;have N9:=N ⟨1,c.model,C1⟩;generalize Bl [⟨4,0,c.subj⟩]=T1 at *
 generalize Bl [⟨4,0,c.iss⟩]=T2 at *
 generalize Bl [⟨1,c.serial,C1⟩]=T3 at *
 generalize Bl [⟨3,0,Bj (I7 c.key)⟩]=T4 at *
 generalize Bl [⟨1,c.fr,C1⟩]=T5 at *
 generalize Bl [⟨1,c.un,C1⟩]=T6 at *
 generalize Bl [⟨7,(if c.auth=true then 1 else 0),C1⟩]=T7 at *
 generalize Bl [⟨1,c.path,C1⟩]=T8 at *
 generalize Bl [⟨1,c.model,C1⟩]=T9 at *
 generalize Af .u8 (I7 c.key)=KB at *
 by_cases ep:c.path=0
 ·have ep':(c.path != 0)=false:=by simp [ep]
  try unfold Aa
  repeat first
   |((with_reducible first|apply At|apply Ao|apply Aq|apply A6|apply A0|apply Ba|apply B8|apply Am);· first|with_reducible rfl|(simp (disch:=omega) only [v1,v2,ek,e00,ep',t1,t2,u1,u2,u3,u4,u5,bo,by_,wf,wu,wp,L9,tk9,K1,K2,K3,K4,K5,K6,K7,K8,K9,N1,N2,N3,N4,N5,N6,N7,N8,N9,Ck,Nat.one_mul,Bz,Nat.reduceMul,Di,ar',LI,tI,en',LB,tB,Bw,B5]<;>with_reducible rfl))
   |((with_reducible first|apply Ar|apply As);· first|with_reducible rfl|omega|(simp (disch:=omega) only [gT,v1,v2,ek,e00,ep',t1,t2,u1,u2,u3,u4,u5,bo,by_,wf,wu,wp,L9,tk9,K1,K2,K3,K4,K5,K6,K7,K8,K9,N1,N2,N3,N4,N5,N6,N7,N8,N9,Ck,Nat.one_mul,Bz,Nat.reduceMul,Di,ar',LI,tI,en',LB,tB,Bw,B5]<;>omega))
   |(with_reducible apply Au;· first|with_reducible rfl|(simp (disch:=omega) only [gF,v1,v2,ek,e00,ep',t1,t2,u1,u2,u3,u4,u5,bo,by_,wf,wu,wp,L9,tk9,K1,K2,K3,K4,K5,K6,K7,K8,K9,N1,N2,N3,N4,N5,N6,N7,N8,N9,Ck,Nat.one_mul,Bz,Nat.reduceMul,Di,ar',LI,tI,en',LB,tB,Bw,B5]<;>omega))
  try simp (disch:=omega) only [v1,v2,ek,e00,ep',t1,t2,u1,u2,u3,u4,u5,bo,by_,wf,wu,wp,L9,tk9,K1,K2,K3,K4,K5,K6,K7,K8,K9,N1,N2,N3,N4,N5,N6,N7,N8,N9,Ck,Nat.one_mul,Bz,Nat.reduceMul,Di,ar',LI,tI,en',LB,tB,Bw,B5]
 ·have ea:c.auth=true:=by
   cases h:c.auth
   ·exact absurd ⟨ep,h⟩ e10
   ·rfl
  have ep':(c.path != 0)=true:=by simp [ep]
  rw [ea] at bo
  try unfold Aa
  repeat first
   |((with_reducible first|apply At|apply Ao|apply Aq|apply A6|apply A0|apply Ba|apply B8|apply Am);· first|with_reducible rfl|(simp (disch:=omega) only [v1,v2,ek,e00,ep',ea,t1,t2,u1,u2,u3,u4,u5,bo,by_,wf,wu,wp,L9,tk9,K1,K2,K3,K4,K5,K6,K7,K8,K9,N1,N2,N3,N4,N5,N6,N7,N8,N9,Ck,Nat.one_mul,Bz,Nat.reduceMul,Di,ar',LI,tI,en',LB,tB,Bw,B5]<;>with_reducible rfl))
   |((with_reducible first|apply Ar|apply As);· first|with_reducible rfl|omega|(simp (disch:=omega) only [gT,v1,v2,ek,e00,ep',ea,t1,t2,u1,u2,u3,u4,u5,bo,by_,wf,wu,wp,L9,tk9,K1,K2,K3,K4,K5,K6,K7,K8,K9,N1,N2,N3,N4,N5,N6,N7,N8,N9,Ck,Nat.one_mul,Bz,Nat.reduceMul,Di,ar',LI,tI,en',LB,tB,Bw,B5]<;>omega))
   |(with_reducible apply Au;· first|with_reducible rfl|(simp (disch:=omega) only [gF,v1,v2,ek,e00,ep',ea,t1,t2,u1,u2,u3,u4,u5,bo,by_,wf,wu,wp,L9,tk9,K1,K2,K3,K4,K5,K6,K7,K8,K9,N1,N2,N3,N4,N5,N6,N7,N8,N9,Ck,Nat.one_mul,Bz,Nat.reduceMul,Di,ar',LI,tI,en',LB,tB,Bw,B5]<;>omega))
  try simp (disch:=omega) only [v1,v2,ek,e00,ep',ea,t1,t2,u1,u2,u3,u4,u5,bo,by_,wf,wu,wp,L9,tk9,K1,K2,K3,K4,K5,K6,K7,K8,K9,N1,N2,N3,N4,N5,N6,N7,N8,N9,Ck,Nat.one_mul,Bz,Nat.reduceMul,Di,ar',LI,tI,en',LB,tB,Bw,B5]
theorem Ack (hfu:1000<=fu){c:Ce}(hw:c.wf)(hs1:c.subj.size<=9223372036854775807)(hs2:c.iss.size<=9223372036854775807)(nn:Nat)(hn:3<=nn):
  Fk fu (Ad C0 Tryz.prog fu (d+6)) c.subj c.iss c.serial c.key.h c.key.root c.fr c.un c.auth c.path c.model c.sig.leaf c.sig.chains.length (Af .u64 c.sig.chains) c.sig.path.length (Af .u64 c.sig.path) nn c.subj c.iss 0 c.subj c.iss c.serial c.key.h c.key.root c.fr c.un c.auth c.path c.model c.sig.leaf c.sig.chains.length (Af .u64 c.sig.chains) c.sig.path.length (Af .u64 c.sig.path)=some ⟨Hk c,[]⟩:=by
 obtain ⟨m,rfl⟩:∃m,nn=m+1+1+1:=⟨nn-3,by omega⟩
 have g0:List.getD [PV.sc (Value.string c.subj),PV.sc (Value.string c.iss)] (Int.toNat (0:Int)*1) PV.top=.sc (.string c.subj):=rfl;have g1:List.getD [PV.sc (Value.string c.subj),PV.sc (Value.string c.iss)] (Int.toNat (1:Int)*1) PV.top=.sc (.string c.iss):=rfl;have i1:wrap .i64 ((0:Int)+1)=1:=rfl;have i2:wrap .i64 ((1:Int)+1)=2:=rfl;by_cases e1:c.subj.size<1∨32<c.subj.size
 ·have hb:Bd c=9:=by unfold Bd;rw [Bv e1]
  rw [←E6 hb (by omega),Ex]
  by_cases e1':c.subj.size<1
  ·skip
   try unfold Aa
   repeat first
    |((with_reducible first|apply At|apply Ao|apply Aq|apply A6|apply A0|apply Ba|apply B8|apply Am);· first|with_reducible rfl|(simp (disch:=omega) only [g0]<;>with_reducible rfl))
    |((with_reducible first|apply Ar|apply As);· first|with_reducible rfl|omega|(simp (disch:=omega) only [gT,g0]<;>omega))
    |(with_reducible apply Au;· first|with_reducible rfl|(simp (disch:=omega) only [gF,g0]<;>omega))
   try simp (disch:=omega) only [g0]
  ·skip
   try unfold Aa
   repeat first
    |((with_reducible first|apply At|apply Ao|apply Aq|apply A6|apply A0|apply Ba|apply B8|apply Am);· first|with_reducible rfl|(simp (disch:=omega) only [g0]<;>with_reducible rfl))
    |((with_reducible first|apply Ar|apply As);· first|with_reducible rfl|omega|(simp (disch:=omega) only [gT,g0]<;>omega))
    |(with_reducible apply Au;· first|with_reducible rfl|(simp (disch:=omega) only [gF,g0]<;>omega))
   try simp (disch:=omega) only [g0]
 rw [Ex];by_cases e2:c.iss.size<1∨32<c.iss.size
 ·have hb:Bd c=9:=by unfold Bd;rw [Az e1,Bv e2]
  rw [←E6 hb (by omega)]
  try unfold Aa
  repeat first
   |((with_reducible first|apply At|apply Ao|apply Aq|apply A6|apply A0|apply Ba|apply B8|apply Am);· first|with_reducible rfl|(simp (disch:=omega) only [g0,i1]<;>with_reducible rfl))
   |((with_reducible first|apply Ar|apply As);· first|with_reducible rfl|omega|(simp (disch:=omega) only [gT,g0,i1]<;>omega))
   |(with_reducible apply Au;· first|with_reducible rfl|(simp (disch:=omega) only [gF,g0,i1]<;>omega))
  try simp (disch:=omega) only [g0,i1]
  rw [Ex];by_cases e2':c.iss.size<1
  ·skip
   try unfold Aa
   repeat first
    |((with_reducible first|apply At|apply Ao|apply Aq|apply A6|apply A0|apply Ba|apply B8|apply Am);· first|with_reducible rfl|(simp (disch:=omega) only [g1]<;>with_reducible rfl))
    |((with_reducible first|apply Ar|apply As);· first|with_reducible rfl|omega|(simp (disch:=omega) only [gT,g1]<;>omega))
    |(with_reducible apply Au;· first|with_reducible rfl|(simp (disch:=omega) only [gF,g1]<;>omega))
   try simp (disch:=omega) only [g1]
  ·skip
   try unfold Aa
   repeat first
    |((with_reducible first|apply At|apply Ao|apply Aq|apply A6|apply A0|apply Ba|apply B8|apply Am);· first|with_reducible rfl|(simp (disch:=omega) only [g1]<;>with_reducible rfl))
    |((with_reducible first|apply Ar|apply As);· first|with_reducible rfl|omega|(simp (disch:=omega) only [gT,g1]<;>omega))
    |(with_reducible apply Au;· first|with_reducible rfl|(simp (disch:=omega) only [gF,g1]<;>omega))
   try simp (disch:=omega) only [g1]
 try unfold Aa
 repeat first
  |((with_reducible first|apply At|apply Ao|apply Aq|apply A6|apply A0|apply Ba|apply B8|apply Am);· first|with_reducible rfl|(simp (disch:=omega) only [g0,i1]<;>with_reducible rfl))
  |((with_reducible first|apply Ar|apply As);· first|with_reducible rfl|omega|(simp (disch:=omega) only [gT,g0,i1]<;>omega))
  |(with_reducible apply Au;· first|with_reducible rfl|(simp (disch:=omega) only [gF,g0,i1]<;>omega))
 try simp (disch:=omega) only [g0,i1]
 rw [Ex]
 try unfold Aa
 repeat first
  |((with_reducible first|apply At|apply Ao|apply Aq|apply A6|apply A0|apply Ba|apply B8|apply Am);· first|with_reducible rfl|(simp (disch:=omega) only [g1,i2]<;>with_reducible rfl))
  |((with_reducible first|apply Ar|apply As);· first|with_reducible rfl|omega|(simp (disch:=omega) only [gT,g1,i2]<;>omega))
  |(with_reducible apply Au;· first|with_reducible rfl|(simp (disch:=omega) only [gF,g1,i2]<;>omega))
 try simp (disch:=omega) only [g1,i2]
 exact Adh hfu hw hs1 hs2 e1 e2 m
theorem MT (hfu:1000<=fu){c:Ce}(hw:c.wf)(hs1:c.subj.size<=9223372036854775807)(hs2:c.iss.size<=9223372036854775807):Ad C0 Tryz.prog fu (d+7) Qv [.agg c.cells]=some ⟨Hk c,[]⟩:=
 (CH fu (d+6) c.subj c.iss c.serial c.key.h c.key.root c.fr c.un c.auth c.path c.model c.sig.leaf c.sig.chains.length (Af .u64 c.sig.chains) c.sig.path.length (Af .u64 c.sig.path)).trans (Ack hfu hw hs1 hs2 fu (by omega))
end
end
section
open Go.IntKind (wrap)
def LJ (c:Ce):List PV:=if Bd c=0 then [.sc (.int .u64 (M8 c)),.sc (.int .i64 0)] else [.sc (.int .u64 0),.sc (.int .i64 (Bd c))]
section
variable {fu d:Nat} {c:Ce}
theorem YE (hfu:1000<=fu)(hw:c.wf)(hs1:c.subj.size<=9223372036854775807)(hs2:c.iss.size<=9223372036854775807):Ad C0 Tryz.prog fu (d+8) P9 [.agg c.cells]=some ⟨LJ c,[]⟩:=by
 refine (DF fu (d+7) c.subj c.iss c.serial c.key.h c.key.root c.fr c.un c.auth c.path c.model c.sig.leaf c.sig.chains.length (Af .u64 c.sig.chains) c.sig.path.length (Af .u64 c.sig.path)).trans ?_;have bq:=MT (fu:=fu) (d:=d) hfu hw hs1 hs2;simp only [Ce.cells] at bq;unfold Hk at bq;unfold LJ;by_cases h0:Bd c=0
 ·have lb:=Js h0;rw [Bv h0] at bq;rw [Bv h0];have e00:((0:Int) != 0)=false:=rfl;have hh:=Afi (xs:=Is) (fu:=fu) (d:=d+2) (HB hw h0) (by omega) (by omega) (by omega) 14
  have eW:Ol 14 (Bb (A9 c))=M8 c:=rfl;rw [eW] at hh;have L1:=Al .u8 (Bb (A9 c));have t1:=Ii .u8 (Bb (A9 c));generalize (Bb (A9 c)).length=n1 at *
  generalize Af .u8 (Bb (A9 c))=c1 at *
  try unfold Aa
  repeat first
   |((with_reducible first|apply At|apply Ao|apply Aq|apply Ba|apply Am);· first|with_reducible rfl|(simp (disch:=omega) only [bq,e00,Bz,Ck,Di,L1,t1,hh]<;>with_reducible rfl))
   |((with_reducible first|apply Ar|apply As);· first|with_reducible rfl|omega|(simp (disch:=omega) only [gT,bq,e00,Bz,Ck,Di,L1,t1,hh]<;>omega))
   |(with_reducible apply Au;· first|with_reducible rfl|(simp (disch:=omega) only [gF,bq,e00,Bz,Ck,Di,L1,t1,hh]<;>omega))
  try simp (disch:=omega) only [bq,e00,Bz,Ck,Di,L1,t1,hh]
  all_goals rfl
 ·have hne:(Bd c != 0)=true:=by simp [h0]
  rw [Az h0] at bq;rw [Az h0]
  try unfold Aa
  repeat first
   |((with_reducible first|apply At|apply Ao|apply Aq|apply Ba|apply Am);· first|with_reducible rfl|(simp (disch:=omega) only [bq,hne]<;>with_reducible rfl))
   |((with_reducible first|apply Ar|apply As);· first|with_reducible rfl|omega|(simp (disch:=omega) only [gT,bq,hne]<;>omega))
   |(with_reducible apply Au;· first|with_reducible rfl|(simp (disch:=omega) only [gF,bq,hne]<;>omega))
  try simp (disch:=omega) only [bq,hne]
  all_goals rfl
theorem Aah (hfu:1000<=fu)(hw:c.wf)(hs1:c.subj.size<=9223372036854775807)(hs2:c.iss.size<=9223372036854775807)(k:Ky):Ad C0 Tryz.prog fu (d+9) Ns [.agg c.cells,.agg k.cells]=some ⟨[.sc (.int .i64 (IC c k))],[]⟩:=by
 refine (Yr fu (d+8) c.subj c.iss c.serial c.key.h c.key.root c.fr c.un c.auth c.path c.model c.sig.leaf c.sig.chains.length (Af .u64 c.sig.chains) c.sig.path.length (Af .u64 c.sig.path) k.h k.root).trans ?_;have bq:=YE (fu:=fu) (d:=d) hfu hw hs1 hs2;simp only [Ce.cells] at bq;unfold LJ at bq;unfold IC;by_cases h0:Bd c=0
 ·rw [Bv h0] at bq;rw [Bv h0];have e00:((0:Int) != 0)=false:=rfl;have vr:=Ahu (xs:=Is) (fu:=fu) (d:=d) hfu k (M8 c) c.sig;simp only [Ky.cells,Sg.cells] at vr
  try unfold Aa
  repeat first
   |((with_reducible first|apply At|apply Ao|apply Aq|apply Ba|apply Am);· first|with_reducible rfl|(simp (disch:=omega) only [bq,e00,vr]<;>with_reducible rfl))
   |((with_reducible first|apply Ar|apply As);· first|with_reducible rfl|omega|(simp (disch:=omega) only [gT,bq,e00,vr]<;>omega))
   |(with_reducible apply Au;· first|with_reducible rfl|(simp (disch:=omega) only [gF,bq,e00,vr]<;>omega))
  try simp (disch:=omega) only [bq,e00,vr]
  all_goals rfl
 ·have hne:(Bd c != 0)=true:=by simp [h0]
  rw [Az h0] at bq;rw [Az h0]
  try unfold Aa
  repeat first
   |((with_reducible first|apply At|apply Ao|apply Aq|apply Ba|apply Am);· first|with_reducible rfl|(simp (disch:=omega) only [bq,hne]<;>with_reducible rfl))
   |((with_reducible first|apply Ar|apply As);· first|with_reducible rfl|omega|(simp (disch:=omega) only [gT,bq,hne]<;>omega))
   |(with_reducible apply Au;· first|with_reducible rfl|(simp (disch:=omega) only [gF,bq,hne]<;>omega))
  try simp (disch:=omega) only [bq,hne]
  all_goals rfl
theorem Afk (hfu:1000<=fu)(hw:c.wf)(hs1:c.subj.size<=9223372036854775807)(hs2:c.iss.size<=9223372036854775807)(hp:c.sig.path.length<=1000000000)(hf:c.sig.path.length<fu):Ad C0 Tryz.prog fu (d+8) Nw [.agg c.cells]=some ⟨Uo c,[]⟩:=by
 refine (W7 fu (d+7) c.subj c.iss c.serial c.key.h c.key.root c.fr c.un c.auth c.path c.model c.sig.leaf c.sig.chains.length (Af .u64 c.sig.chains) c.sig.path.length (Af .u64 c.sig.path)).trans ?_;have bq:=MT (fu:=fu) (d:=d) hfu hw hs1 hs2;simp only [Ce.cells] at bq;have es:=Af2 (xs:=Is) (fu:=fu) (d:=d+5) hfu c.sig hp hf;simp only [Sg.cells] at es;unfold Hk at bq;unfold Uo Dn;by_cases h0:Bd c=0
 ·have lb:=Js h0;rw [Bv h0] at bq;rw [Bv h0];have L1:=Al .u8 (Bb (A9 c));have t1:=Ii .u8 (Bb (A9 c));have e00:((0:Int) != 0)=false:=rfl;have e90:((9:Int) != 0)=true:=rfl;have e40:((4:Int) != 0)=true:=rfl;unfold GJ;by_cases g1:C4 c.sig.path.length=true
  ·rw [Bv g1] at es;rw [Bv g1,Az (by omega)]
   try unfold Aa
   repeat first
    |((with_reducible first|apply At|apply Ao|apply Aq|apply Ba|apply Am);· first|with_reducible rfl|(simp (disch:=omega) only [bq,es,e00,e90]<;>with_reducible rfl))
    |((with_reducible first|apply Ar|apply As);· first|with_reducible rfl|omega|(simp (disch:=omega) only [gT,bq,es,e00,e90]<;>omega))
    |(with_reducible apply Au;· first|with_reducible rfl|(simp (disch:=omega) only [gF,bq,es,e00,e90]<;>omega))
   try simp (disch:=omega) only [bq,es,e00,e90]
   all_goals rfl
  rw [Az g1] at es;rw [Az g1];by_cases g2:Hp c.sig.leaf c.sig.path.length=true
  ·rw [Bv g2] at es;rw [Bv g2,Az (by omega)]
   try unfold Aa
   repeat first
    |((with_reducible first|apply At|apply Ao|apply Aq|apply Ba|apply Am);· first|with_reducible rfl|(simp (disch:=omega) only [bq,es,e00,e90]<;>with_reducible rfl))
    |((with_reducible first|apply Ar|apply As);· first|with_reducible rfl|omega|(simp (disch:=omega) only [gT,bq,es,e00,e90]<;>omega))
    |(with_reducible apply Au;· first|with_reducible rfl|(simp (disch:=omega) only [gF,bq,es,e00,e90]<;>omega))
   try simp (disch:=omega) only [bq,es,e00,e90]
   all_goals rfl
  rw [Az g2] at es;rw [Az g2];by_cases g3:c.sig.chains.length≠18
  ·rw [Bv g3] at es;rw [Bv g3,Az (by omega)]
   try unfold Aa
   repeat first
    |((with_reducible first|apply At|apply Ao|apply Aq|apply Ba|apply Am);· first|with_reducible rfl|(simp (disch:=omega) only [bq,es,e00,e40]<;>with_reducible rfl))
    |((with_reducible first|apply Ar|apply As);· first|with_reducible rfl|omega|(simp (disch:=omega) only [gT,bq,es,e00,e40]<;>omega))
    |(with_reducible apply Au;· first|with_reducible rfl|(simp (disch:=omega) only [gF,bq,es,e00,e40]<;>omega))
   try simp (disch:=omega) only [bq,es,e00,e40]
   all_goals rfl
  rw [Az g3] at es;rw [Az g3,Bv rfl];have hb4:=H7 (h:=c.sig.path.length) (by simpa using g1)
  have ls:(Sm c.sig).length=2+8*c.sig.chains.length+8*c.sig.path.length:=by
   unfold Sm;simp only [Kb,Hz,Cy];omega
  have L2:=Al .u8 (Sm c.sig);have t2:=Ii .u8 (Sm c.sig)
  have ea:Af .u8 (Bb (A9 c))++Af .u8 (Sm c.sig)=Af .u8 (En c):=by
   unfold En;rw [Af,Af,Af,List.flatMap_append]
  have le:(En c).length=(Bb (A9 c)).length+(Sm c.sig).length:=by unfold En;rw [Hz]
  have L3:=Al .u8 (En c);have t3:List.take ((Bb (A9 c)).length+(Sm c.sig).length) (Af .u8 (En c))=Af .u8 (En c):=Jv (by omega)
  rw [le] at L3 ⊢;generalize (Bb (A9 c)).length=n1 at *
  generalize (Sm c.sig).length=n2 at *
  generalize Af .u8 (Bb (A9 c))=c1 at *
  generalize Af .u8 (Sm c.sig)=c2 at *
  try unfold Aa
  repeat first
   |((with_reducible first|apply At|apply Ao|apply Aq|apply Ba|apply Am);· first|with_reducible rfl|(simp (disch:=omega) only [bq,es,e00,Bz,Ck,Di,L1,t1,L2,t2,ea,L3,t3]<;>with_reducible rfl))
   |((with_reducible first|apply Ar|apply As);· first|with_reducible rfl|omega|(simp (disch:=omega) only [gT,bq,es,e00,Bz,Ck,Di,L1,t1,L2,t2,ea,L3,t3]<;>omega))
   |(with_reducible apply Au;· first|with_reducible rfl|(simp (disch:=omega) only [gF,bq,es,e00,Bz,Ck,Di,L1,t1,L2,t2,ea,L3,t3]<;>omega))
  try simp (disch:=omega) only [bq,es,e00,Bz,Ck,Di,L1,t1,L2,t2,ea,L3,t3]
  all_goals rfl
 ·have hne:(Bd c != 0)=true:=by simp [h0]
  rw [Az h0] at bq;rw [Az h0,Az h0]
  try unfold Aa
  repeat first
   |((with_reducible first|apply At|apply Ao|apply Aq|apply Ba|apply Am);· first|with_reducible rfl|(simp (disch:=omega) only [bq,hne]<;>with_reducible rfl))
   |((with_reducible first|apply Ar|apply As);· first|with_reducible rfl|omega|(simp (disch:=omega) only [gT,bq,hne]<;>omega))
   |(with_reducible apply Au;· first|with_reducible rfl|(simp (disch:=omega) only [gF,bq,hne]<;>omega))
  try simp (disch:=omega) only [bq,hne]
  all_goals rfl
end
end
section
open Go.IntKind (wrap)
theorem aci {its:List It}{i:Nat}{x:It}(h:its[i]?=some x):(Bl its).getD (i*3) .top=.sc (.int .i64 x.k)∧(Bl its).getD (i*3+1) .top=.sc (.int .u64 x.n)∧(Bl its).getD (i*3+2) .top=.sc (.string x.s):=
 ⟨Ep It.cells_len h (j:=0) (by omega),Ep It.cells_len h (j:=1) (by omega),Ep It.cells_len h (j:=2) (by omega)⟩
def Og:List Int:=[5,4,4,1,3,1,1,7,1,1]
def Ur (its:List It):Bool:=its.map (·.k)==Og
section
variable {fu d:Nat}
theorem JZ {call:Ah}{a0n:Nat}{a0:List PV}{its:List It}(h10:its.length=10):∀(r:List It)(rk:List Int)(i nn:Nat),its.drop i=r->Og.drop i=rk->r.length<nn->i<=10 ->
  F2 fu call a0n a0 nn its.length (Bl its) (its.length:Int) (i:Int) (Af .i64 Og)=some ⟨[.sc (.bool (r.map (·.k)==rk))],[]⟩
 |_,_,_,0,_,_,h,_=>by omega
 |[],rk,i,nn+1,h,hk,hn,hi=>by
  have:=drop_nil h;obtain rfl:i=10:=by omega
  subst hk;rw [Jr,Dv _ _ _ (by omega)]
  rfl
 |x::r,rk,i,nn+1,h,hk,hn,hi=>by
  obtain ⟨h1,h2,h3⟩:=Cz h;simp only [Kb] at hn;obtain ⟨k,hk1⟩:∃k,Og[i]?=some k:=⟨_,List.getElem?_eq_getElem (by show i<10;omega)⟩
  have hk2:rk=k::Og.drop (i+1):=by
   rw [←hk,List.drop_eq_getElem_cons (by show i<10;omega)]
   congr 1
   rw [List.getElem?_eq_getElem (by show i<10;omega)] at hk1
   injection hk1
  subst hk2;have w:wrap .i64 ((i:Int)+1)=((i+1:Nat):Int):=by rw [Ak (by omega) (by omega)];omega
  obtain ⟨c0,c1,c2⟩:=aci h2;have ck:=Po (k:=.i64) hk1;have ih:=JZ (call:=call) (a0n:=a0n) (a0:=a0) h10 r _ (i+1) nn h3 rfl (by omega) (by omega)
  rw [Jr,Zzw];by_cases e:x.k=k
  ·have b0:(x.k != k)=false:=by simp [e]
   have e1:(x.k::List.map (·.k) r==k::Og.drop (i+1))=(List.map (·.k) r==Og.drop (i+1)):=by simp [e]
   rw [e1,←ih];simp (disch:=omega) only [Bx,Hi,Bz,Ck,c0,c1,c2,ck,b0,w]
  ·have b0:(x.k != k)=true:=by simp [e]
   have e1:(x.k::List.map (·.k) r==k::Og.drop (i+1))=false:=by simp [e]
   rw [e1];simp (disch:=omega) only [Bx,Hi,Bz,Ck,c0,c1,c2,ck,b0,w]
theorem Agi (hfu:1000<=fu)(its:List It):Ad C0 Tryz.prog fu (d+1) Nj [.lst false 3 its.length (Bl its)]=some ⟨[.sc (.bool (Ur its))],[]⟩:=by
 rw [Xl];show Hy _ _ _ _ _ _ _=_;rw [Tl (hnn:=by omega),S2 (hnn:=by omega)]
 by_cases h:its.length=10
 ·have b0:((its.length:Int) != 10)=false:=by simp;omega
  rw [b0,ND];exact JZ (call:=Ad C0 Tryz.prog fu d) h its Og 0 fu rfl rfl (by omega) (by omega)
 ·have b0:((its.length:Int) != 10)=true:=by simp;omega
  have e:Ur its=false:=by
   unfold Ur;cases q:(its.map (·.k)==Og)
   ·rfl
   ·have:=congrArg List.length (eq_of_beq q);simp [Og] at this;omega
  rw [b0,Adb,e]
theorem Adg {a b:List Int}(ha:Hg a)(hb:Hg b)(h:(a.map fun n=>n.toNat.toUInt8)=(b.map fun n=>n.toNat.toUInt8)):a=b:=by
 have e:Bj a=Bj b:=by unfold Bj;rw [h]
 rw [←Ld ha,←Ld hb,e]
theorem Ast {a b:List Int}(ha:Hg a)(hb:Hg b):(Array.toList (ByteArray.data (ByteArray.mk (List.toArray (a.map fun n=>n.toNat.toUInt8))))==Array.toList (ByteArray.data (ByteArray.mk (List.toArray (b.map fun n=>n.toNat.toUInt8)))))=decide (a=b):=by
 by_cases h:a=b
 ·subst h;simp
 ·have:(List.map (fun n=>n.toNat.toUInt8) a)≠(List.map (fun n=>n.toNat.toUInt8) b):=fun e=>h (Adg ha hb e)
  simp only [h,decide_false]
  simpa using this
theorem RS {a b:List Int}(ha:Hg a)(hb:Hg b):Ad C0 Tryz.prog fu (d+1) AP [.lst false 1 a.length (Af .u8 a),.lst false 1 b.length (Af .u8 b)]=some ⟨[.sc (.bool (decide (a=b)))],[]⟩:=by
 rw [QR];have La:=Al .u8 a;have Lb:=Al .u8 b;have ba:=Ff a;have bb:=Ff b;have q:=Ast ha hb;simp (disch:=omega) only [Bx,La,Lb,ba,bb,q]
end
structure Ce.ok (c:Ce):Prop where
 ser:isU c.serial
 mod:isU c.model
 root:isU c.key.root
 sg:c.sig.ok
theorem Ce.ok.wf {c:Ce}(h:c.ok):c.wf:=⟨h.ser.1,h.mod.1⟩
def Gj (x1 x2 x3 x5 x6 x7 x8 x9:It)(k:Ky)(s:Sg):Ce:=⟨x1.s,x2.s,x3.n,k,wrap .i64 x5.n,wrap .i64 x6.n,x7.n==1,wrap .i64 x8.n,x9.n,s⟩
def SC (b:List Int):Option Ce:=
 if (J7 1000 [] 0 b 0 []).2.2≠0 then none else
 match (J7 1000 [] 0 b 0 []).1 with
 |[_,x1,x2,x3,x4,x5,x6,x7,x8,x9]=>(match Zo (Cg x4.s),sgD (b.drop (J7 1000 [] 0 b 0 []).2.1) with|some k,some s=>some (Gj x1 x2 x3 x5 x6 x7 x8 x9 k s)|_,_=>none)
 |_=>none
def Sw (b:List Int):Ce × Int:=
 if b.length>512 then (V0,8) else match SC b with|some c=>if Dn c=0∧En c=b∧c.serial<=18446744073709551615∧c.model<=18446744073709551615 then (c,0) else (V0,2)|none=>(V0,2)
theorem Kv {c:Ce}(h:Dn c=0):Bd c=0∧C4 c.key.h=false∧C4 c.sig.path.length=false∧Hp c.sig.leaf c.sig.path.length=false∧c.sig.chains.length=18∧0<=c.fr∧c.fr<=c.un∧c.un<=1099511627776∧0<=c.path∧c.path<=2:=by
 unfold Dn at h;by_cases h0:Bd c=0
 rotate_left
 ·rw [Az h0] at h;exact absurd h h0
 rw [Bv h0] at h;unfold GJ at h;have hb:=h0;unfold Bd at hb
 repeat' (split at h;· cases h)
 repeat' (split at hb;· cases hb)
 refine ⟨h0,by simp_all,by simp_all,by simp_all,by omega,by omega,by omega,by omega,by omega,by omega⟩
theorem Aa2 {c:Ce}(hc:c.ok)(h:Dn c=0){m:Nat}(hm:10<m):J7 m [] 0 (En c) 0 []=(A9 c,(Bb (A9 c)).length,0):=by
 obtain ⟨h0,h1,h2,h3,h4,h5,h6,h7,h8,h9⟩:=Kv h
 have r:=SK (b:=En c) (rest:=Sm c.sig) (A9 c) [] 0 0 m [] (BO hc.wf h0) (by
  intro x hx;have u1:=hc.ser;have u2:=hc.mod;simp only [A9,List.mem_cons,List.not_mem_nil,or_false] at hx;rcases hx with rfl|rfl|rfl|rfl|rfl|rfl|rfl|rfl|rfl|rfl
  all_goals simp only
  all_goals try split
  all_goals omega) rfl (by simpa [A9] using hm)
 simpa using r
theorem BD {c:Ce}(h:Dn c=0):Gj ⟨4,0,c.subj⟩ ⟨4,0,c.iss⟩ ⟨1,c.serial,C1⟩ ⟨1,c.fr,C1⟩ ⟨1,c.un,C1⟩ ⟨7,(if c.auth=true then 1 else 0),C1⟩ ⟨1,c.path,C1⟩ ⟨1,c.model,C1⟩ c.key c.sig=c:=by
 obtain ⟨h0,h1,h2,h3,h4,h5,h6,h7,h8,h9⟩:=Kv h;obtain ⟨subj,iss,serial,key,fr,un,auth,path,model,sig⟩:=c;simp only at *
 unfold Gj;simp only;rw [Ak (by omega) (by omega),Ak (by omega) (by omega),Ak (by omega) (by omega)]
 cases auth<;>rfl
theorem Ya {c:Ce}(h:Dn c=0):(En c).length<=400:=by
 obtain ⟨h0,h1,h2,h3,h4,h5,h6,h7,h8,h9⟩:=Kv h;have:=Js h0;have hb:=H7 h2;unfold En Sm;simp only [Hz,Kb,Cy];omega
theorem VD {c:Ce}(hw:c.wf)(h:Dn c=0):Hg (En c):=by
 intro x hx;rcases List.mem_append.1 hx with hx|hx
 ·exact HB hw (Kv h).1 x hx
 ·exact Asr _ x hx
theorem Acg {c:Ce}(hc:c.ok)(h:Dn c=0):Zo (Cg (Bj (I7 c.key)))=some c.key:=by
 rw [Ld Aqb];exact Ah9 (Kv h).2.1 hc.root
theorem Ak2 {c:Ce}(hc:c.ok)(h:Dn c=0):sgD ((En c).drop (Bb (A9 c)).length)=some c.sig:=by
 obtain ⟨h0,h1,h2,h3,h4,h5,h6,h7,h8,h9⟩:=Kv h;unfold En;rw [List.drop_left' rfl];exact Anw hc.sg h2 h3 h4
theorem OI {c:Ce}(hc:c.ok)(h:Dn c=0):Sw (En c)=(c,0):=by
 have r:=Aa2 hc h (m:=1000) (by omega)
 have k:=Acg hc h;have s:=Ak2 hc h;have cs:=BD h;have l:=Ya h;have u1:=hc.ser;have u2:=hc.mod
 have:SC (En c)=some c:=by
  unfold SC;rw [r];simp only [A9];simp only [A9] at s;rw [Az (by simp),k,s]
  simp only [cs]
 unfold Sw;rw [Az (by omega),this]
 simp only;rw [Bv ⟨h,by trivial,u1.2,u2.2⟩]
theorem Xw {x1 x2 x3 x5 x6 x7 x8 x9:It}{k:Ky}{s:Sg}(h3:OkX x3)(h9:OkX x9)(hk:isU k.root)(hs:s.ok):(Gj x1 x2 x3 x5 x6 x7 x8 x9 k s).ok:=⟨⟨h3.n0,h3.n1⟩,⟨h9.n0,h9.n1⟩,hk,hs⟩
theorem Aka {b:List Int}(hb:Hg b){c:Ce}(h:SC b=some c):c.ok:=by
 have ok:=(FS hb 1000 [] 0 0 [] (by omega) (by simp)).2
 unfold SC at h;split at h
 ·cases h
 ·split at h
  ·rename_i e;rw [e] at ok;split at h
   ·rename_i hk hs;cases h;exact Xw (ok _ (by simp)) (ok _ (by simp)) (EF hk).2 (NN hs).1
   ·cases h
  ·cases h
theorem TH {b:List Int}(hB:Hg b)(hl:b.length<=512)(hn:∀c:Ce,c.ok->Dn c=0->En c≠b):Sw b=(V0,2):=by
 unfold Sw;rw [Az (by omega)]
 cases h:SC b with
 |none=>rfl
 |some c=>
  simp only;rw [Az];intro ⟨h1,h2,_⟩;exact hn c (Aka hB h) h1 h2
end
section
open Go.IntKind (wrap)
def Ahm (b:List Int)(used:Nat):List It->Ce × Int
 |[_,x1,x2,x3,x4,x5,x6,x7,x8,x9]=>(match Zo (Cg x4.s),sgD (b.drop used) with
  |some k,some s=>if Dn (Gj x1 x2 x3 x5 x6 x7 x8 x9 k s)=0∧En (Gj x1 x2 x3 x5 x6 x7 x8 x9 k s)=b then (Gj x1 x2 x3 x5 x6 x7 x8 x9 k s,0) else (V0,2)
  |_,_=>(V0,2))
 |_=>(V0,2)
def KC (b:List Int)(r:List It × Nat × Int):Ce × Int:=
 if b.length>512 then (V0,8) else if r.2.2≠0 then (V0,2) else if Ur r.1=false then (V0,2) else Ahm b r.2.1 r.1
theorem ZL {its:List It}(h:Ur its=true):its.length=10:=by
 have:=congrArg List.length (eq_of_beq h)
 simpa [Og] using this
theorem ZI {its:List It}(h:its.length=10):∃x0 x1 x2 x3 x4 x5 x6 x7 x8 x9,its=[x0,x1,x2,x3,x4,x5,x6,x7,x8,x9]:=by
 match its,h with
 |[x0,x1,x2,x3,x4,x5,x6,x7,x8,x9],_=>exact ⟨x0,x1,x2,x3,x4,x5,x6,x7,x8,x9,rfl⟩
theorem Ai2 {c:Ce}(hc:c.ok)(h:Dn c=0):Ahm (En c) (Bb (A9 c)).length (A9 c)=(c,0):=by
 have k:=Acg hc h;have s:=Ak2 hc h;have cs:=BD h
 have e:Ahm (En c) (Bb (A9 c)).length (A9 c)=(match Zo (Cg (Bj (I7 c.key))),sgD ((En c).drop (Bb (A9 c)).length) with
  |some k,some s=>if Dn (Gj ⟨4,0,c.subj⟩ ⟨4,0,c.iss⟩ ⟨1,c.serial,C1⟩ ⟨1,c.fr,C1⟩ ⟨1,c.un,C1⟩ ⟨7,(if c.auth=true then 1 else 0),C1⟩ ⟨1,c.path,C1⟩ ⟨1,c.model,C1⟩ k s)=0∧En (Gj ⟨4,0,c.subj⟩ ⟨4,0,c.iss⟩ ⟨1,c.serial,C1⟩ ⟨1,c.fr,C1⟩ ⟨1,c.un,C1⟩ ⟨7,(if c.auth=true then 1 else 0),C1⟩ ⟨1,c.path,C1⟩ ⟨1,c.model,C1⟩ k s)=En c then (Gj ⟨4,0,c.subj⟩ ⟨4,0,c.iss⟩ ⟨1,c.serial,C1⟩ ⟨1,c.fr,C1⟩ ⟨1,c.un,C1⟩ ⟨7,(if c.auth=true then 1 else 0),C1⟩ ⟨1,c.path,C1⟩ ⟨1,c.model,C1⟩ k s,0) else (V0,2)
  |_,_=>(V0,2)):=rfl
 rw [e,k,s];simp only [cs];rw [Bv ⟨h,by trivial⟩]
theorem Agc {b:List Int}{used:Nat}{its:List It}(hx:∀x∈its,OkX x)(hn:∀c:Ce,c.ok->Dn c=0->En c≠b):Ahm b used its=(V0,2):=by
 unfold Ahm;split
 ·split
  ·rename_i hk hs;rw [Az];intro ⟨h1,h2⟩;exact hn _ (Xw (hx _ (by simp)) (hx _ (by simp)) (EF hk).2 (NN hs).1) h1 h2
  ·rfl
 ·rfl
theorem Ah7 (c:Ce):Ur (A9 c)=true:=rfl
theorem Ami {b:List Int}(hb:Hg b){r:List It × Nat × Int}(hx:∀x∈r.1,OkX x)(hc:∀c:Ce,c.ok->Dn c=0->En c=b->r=(A9 c,(Bb (A9 c)).length,0)):KC b r=Sw b:=by
 by_cases h5:b.length>512
 ·unfold KC Sw;rw [Bv h5,Bv h5]
 by_cases hex:∃c:Ce,c.ok∧Dn c=0∧En c=b
 ·obtain ⟨c,c1,c2,c3⟩:=hex;have e:=hc c c1 c2 c3;subst c3;rw [OI c1 c2,e];unfold KC;rw [Az h5,Az (by simp),Az (by simp [Ah7])]
  exact Ai2 c1 c2
 ·have hn:∀c:Ce,c.ok->Dn c=0->En c≠b:=fun c h1 h2 h3=>hex ⟨c,h1,h2,h3⟩
  rw [TH hb (by omega) hn]
  unfold KC;rw [Az h5,Agc hx hn];split
  ·rfl
  ·split<;>rfl
section
variable {fu d:Nat}
theorem Agn (hfu:1000<=fu){b:List Int}(hb:Hg b)(hl:b.length<=1000000):
  Ad C0 Tryz.prog fu (d+9) Ia [.lst false 1 b.length (Af .u8 b)]=some ⟨[.agg (KC b (J7 fu [] 0 b 0 [])).1.cells,.sc (.int .i64 (KC b (J7 fu [] 0 b 0 [])).2)],[]⟩:=by
 refine (Xf fu (d+8) b.length (Af .u8 b)).trans ?_;have dec:=Ah5 (fu:=fu) (d:=d+3) hfu hb hl;obtain ⟨hat,hox⟩:=FS hb fu [] 0 0 [] (by omega) (by simp)
 generalize J7 fu [] 0 b 0 []=r at dec hat hox ⊢;obtain ⟨its,used,e⟩:=r;simp only at hat hox;unfold DA at dec;simp only at dec;unfold KC;simp only;by_cases h5:b.length>512
 ·rw [Bv h5]
  try unfold Aa
  repeat first
   |((with_reducible first|apply At|apply Ao|apply Aq|apply A6|apply A0|apply Ba|apply Bi|apply Am);· first|with_reducible rfl|(simp (disch:=omega) only [Bz]<;>with_reducible rfl))
   |((with_reducible first|apply Ar|apply As);· first|with_reducible rfl|omega|(simp (disch:=omega) only [gT,Bz]<;>omega))
   |(with_reducible apply Au;· first|with_reducible rfl|(simp (disch:=omega) only [gF,Bz]<;>omega))
  try simp (disch:=omega) only [Bz]
  all_goals rfl
 rw [Az h5];by_cases he:e=0
 rotate_left
 ·rw [Bv he];have he':(e != 0)=true:=by simp [he]
  try unfold Aa
  repeat first
   |((with_reducible first|apply At|apply Ao|apply Aq|apply A6|apply A0|apply Ba|apply Bi|apply Am);· first|with_reducible rfl|(simp (disch:=omega) only [dec,he']<;>with_reducible rfl))
   |((with_reducible first|apply Ar|apply As);· first|with_reducible rfl|omega|(simp (disch:=omega) only [gT,dec,he']<;>omega))
   |(with_reducible apply Au;· first|with_reducible rfl|(simp (disch:=omega) only [gF,dec,he']<;>omega))
  try simp (disch:=omega) only [dec,he']
  all_goals rfl
 rw [Az (by simp [he])]
 subst he;have e00:((0:Int) != 0)=false:=rfl;have e20:((2:Int) != 0)=true:=rfl;have ib:=Agi (fu:=fu) (d:=d+7) hfu its;have LT:=Ee its;have tT:List.take (its.length*3) (Bl its)=Bl its:=Jv (by omega)
 cases hib:Ur its
 ·rw [hib] at ib;rw [Bv rfl]
  try unfold Aa
  repeat first
   |((with_reducible first|apply At|apply Ao|apply Aq|apply A6|apply A0|apply Ba|apply Bi|apply Am);· first|with_reducible rfl|(simp (disch:=omega) only [dec,e00,Di,Ck,LT,tT,ib,Bw,B5]<;>with_reducible rfl))
   |((with_reducible first|apply Ar|apply As);· first|with_reducible rfl|omega|(simp (disch:=omega) only [gT,dec,e00,Di,Ck,LT,tT,ib,Bw,B5]<;>omega))
   |(with_reducible apply Au;· first|with_reducible rfl|(simp (disch:=omega) only [gF,dec,e00,Di,Ck,LT,tT,ib,Bw,B5]<;>omega))
  try simp (disch:=omega) only [dec,e00,Di,Ck,LT,tT,ib,Bw,B5]
  all_goals rfl
 rw [hib] at ib;rw [Az (by simp)]
 have h10:=ZL hib;obtain ⟨x0,x1,x2,x3,x4,x5,x6,x7,x8,x9,rfl⟩:=ZI h10;clear hib;have o1:=hox x1 (by simp)
 have o2:=hox x2 (by simp)
 have o3:=hox x3 (by simp)
 have o4:=hox x4 (by simp)
 have o9:=hox x9 (by simp)
 clear hox;have g14:List.getD (Bl [x0,x1,x2,x3,x4,x5,x6,x7,x8,x9]) 14 .top=.sc (.string x4.s):=rfl;have g5:List.getD (Bl [x0,x1,x2,x3,x4,x5,x6,x7,x8,x9]) 5 .top=.sc (.string x1.s):=rfl;have g8:List.getD (Bl [x0,x1,x2,x3,x4,x5,x6,x7,x8,x9]) 8 .top=.sc (.string x2.s):=rfl;have g10:List.getD (Bl [x0,x1,x2,x3,x4,x5,x6,x7,x8,x9]) 10 .top=.sc (.int .u64 x3.n):=rfl;have g16:List.getD (Bl [x0,x1,x2,x3,x4,x5,x6,x7,x8,x9]) 16 .top=.sc (.int .u64 x5.n):=rfl;have g19:List.getD (Bl [x0,x1,x2,x3,x4,x5,x6,x7,x8,x9]) 19 .top=.sc (.int .u64 x6.n):=rfl;have g22:List.getD (Bl [x0,x1,x2,x3,x4,x5,x6,x7,x8,x9]) 22 .top=.sc (.int .u64 x7.n):=rfl;have g25:List.getD (Bl [x0,x1,x2,x3,x4,x5,x6,x7,x8,x9]) 25 .top=.sc (.int .u64 x8.n):=rfl;have g28:List.getD (Bl [x0,x1,x2,x3,x4,x5,x6,x7,x8,x9]) 28 .top=.sc (.int .u64 x9.n):=rfl;have ln:[x0,x1,x2,x3,x4,x5,x6,x7,x8,x9].length=10:=rfl
 rw [ln] at dec ib LT tT;generalize Bl [x0,x1,x2,x3,x4,x5,x6,x7,x8,x9]=T at *
 clear h10;have hs4:=o4.s1;have L4:(Dh x4.s).length=x4.s.size:=by rw [Ib,Al,Ey]
 have t4:List.take x4.s.size (Dh x4.s)=Af .u8 (Cg x4.s):=by rw [Ib,Jv (by rw [Al,Ey];omega)]
 have dk:=Ag6 (xs:=Is) (fu:=fu) (d:=d+6) hfu (U9 x4.s);rw [Ey] at dk;unfold Ahm;simp only;cases hk:Zo (Cg x4.s) with
 |none=>
  rw [hk] at dk;simp only [GO,Ky.cells] at dk
  try unfold Aa
  repeat first
   |((with_reducible first|apply At|apply Ao|apply Aq|apply A6|apply A0|apply Ba|apply Bi|apply Am);· first|with_reducible rfl|(simp (disch:=omega) only [dec,e00,e20,Di,Ck,Bz,Nat.reduceMul,LT,tT,ib,g14,L4,t4,dk,Bw,B5]<;>with_reducible rfl))
   |((with_reducible first|apply Ar|apply As);· first|with_reducible rfl|omega|(simp (disch:=omega) only [gT,dec,e00,e20,Di,Ck,Bz,Nat.reduceMul,LT,tT,ib,g14,L4,t4,dk,Bw,B5]<;>omega))
   |(with_reducible apply Au;· first|with_reducible rfl|(simp (disch:=omega) only [gF,dec,e00,e20,Di,Ck,Bz,Nat.reduceMul,LT,tT,ib,g14,L4,t4,dk,Bw,B5]<;>omega))
  try simp (disch:=omega) only [dec,e00,e20,Di,Ck,Bz,Nat.reduceMul,LT,tT,ib,g14,L4,t4,dk,Bw,B5]
  all_goals rfl
 |some k=>
  rw [hk] at dk;simp only [GO,Ky.cells] at dk;obtain ⟨k1,k2⟩:=EF hk;have ds:=Aft (xs:=Is) (fu:=fu) (d:=d+6) hfu (l:=b.drop used) (fun x hx=>hb x (List.mem_of_mem_drop hx))
  rw [List.length_drop] at ds;have tb:List.take (b.length-used) (List.drop used (Af .u8 b))=Af .u8 (b.drop used):=by rw [Fs,Jv (by rw [Al,List.length_drop];omega)]
  have nu:Int.toNat (used:Int)=used:=Hi used;cases hs:sgD (b.drop used) with
  |none=>
   rw [hs] at ds;simp only [MP,Sg.owned] at ds
   try unfold Aa
   repeat first
    |((with_reducible first|apply At|apply Ao|apply Aq|apply A6|apply A0|apply Ba|apply Bi|apply Am);· first|with_reducible rfl|(simp (disch:=omega) only [dec,e00,e20,Di,Ck,Bz,Nat.reduceMul,LT,tT,ib,g14,L4,t4,dk,nu,tb,ds,Bw,B5]<;>with_reducible rfl))
    |((with_reducible first|apply Ar|apply As);· first|with_reducible rfl|omega|(simp (disch:=omega) only [gT,dec,e00,e20,Di,Ck,Bz,Nat.reduceMul,LT,tT,ib,g14,L4,t4,dk,nu,tb,ds,Bw,B5]<;>omega))
    |(with_reducible apply Au;· first|with_reducible rfl|(simp (disch:=omega) only [gF,dec,e00,e20,Di,Ck,Bz,Nat.reduceMul,LT,tT,ib,g14,L4,t4,dk,nu,tb,ds,Bw,B5]<;>omega))
   try simp (disch:=omega) only [dec,e00,e20,Di,Ck,Bz,Nat.reduceMul,LT,tT,ib,g14,L4,t4,dk,nu,tb,ds,Bw,B5]
   all_goals rfl
  |some s=>
   rw [hs] at ds;simp only [MP,Sg.owned] at ds;obtain ⟨s1,s2,s3⟩:=NN hs;have cok:(Gj x1 x2 x3 x5 x6 x7 x8 x9 k s).ok:=Xw o3 o9 k2 s1;have en:=Afk (fu:=fu) (d:=d) (c:=Gj x1 x2 x3 x5 x6 x7 x8 x9 k s) hfu cok.wf (Nat.le_trans o1.s1 (by omega)) (Nat.le_trans o2.s1 (by omega)) (Nat.le_trans s2 (by omega)) (Nat.lt_of_le_of_lt s2 (by omega))
   have ec:(Gj x1 x2 x3 x5 x6 x7 x8 x9 k s).cells=[.sc (.string x1.s),.sc (.string x2.s),.sc (.int .u64 x3.n),.sc (.int .i64 k.h),.sc (.int .u64 k.root),.sc (.int .i64 (wrap .i64 x5.n)),.sc (.int .i64 (wrap .i64 x6.n)),.sc (.bool (x7.n==1)),.sc (.int .i64 (wrap .i64 x8.n)),.sc (.int .u64 x9.n),.sc (.int .i64 s.leaf),.lst false 1 s.chains.length (Af .u64 s.chains),.lst false 1 s.path.length (Af .u64 s.path)]:=rfl;have eB:=fun h=>VD (c:=Gj x1 x2 x3 x5 x6 x7 x8 x9 k s) cok.wf h
   have eL:=fun h=>Ya (c:=Gj x1 x2 x3 x5 x6 x7 x8 x9 k s) h
   have Lc:=Al .u64 s.chains;have Lp:=Al .u64 s.path;have tc:=Ii .u64 s.chains;have tp:=Ii .u64 s.path;simp only;generalize Gj x1 x2 x3 x5 x6 x7 x8 x9 k s=c at *
   rw [ec] at en;unfold Uo at en;by_cases hz:Dn c=0
   rotate_left
   ·have hz':(Dn c != 0)=true:=by simp [hz]
    rw [Az hz] at en;rw [Az (fun h=>hz h.1)]
    try unfold Aa
    repeat first
     |((with_reducible first|apply At|apply Ao|apply Aq|apply A6|apply A0|apply Ba|apply Bi|apply Am);· first|with_reducible rfl|(simp (disch:=omega) only [dec,e00,e20,Di,Ck,Bz,Nat.reduceMul,LT,tT,ib,g14,L4,t4,dk,nu,tb,ds,g5,g8,g10,g16,g19,g22,g25,g28,Lc,Lp,tc,tp,en,hz',Bw,B5]<;>with_reducible rfl))
     |((with_reducible first|apply Ar|apply As);· first|with_reducible rfl|omega|(simp (disch:=omega) only [gT,dec,e00,e20,Di,Ck,Bz,Nat.reduceMul,LT,tT,ib,g14,L4,t4,dk,nu,tb,ds,g5,g8,g10,g16,g19,g22,g25,g28,Lc,Lp,tc,tp,en,hz',Bw,B5]<;>omega))
     |(with_reducible apply Au;· first|with_reducible rfl|(simp (disch:=omega) only [gF,dec,e00,e20,Di,Ck,Bz,Nat.reduceMul,LT,tT,ib,g14,L4,t4,dk,nu,tb,ds,g5,g8,g10,g16,g19,g22,g25,g28,Lc,Lp,tc,tp,en,hz',Bw,B5]<;>omega))
    try simp (disch:=omega) only [dec,e00,e20,Di,Ck,Bz,Nat.reduceMul,LT,tT,ib,g14,L4,t4,dk,nu,tb,ds,g5,g8,g10,g16,g19,g22,g25,g28,Lc,Lp,tc,tp,en,hz',Bw,B5]
    all_goals rfl
   rw [Bv hz] at en;have be:=RS (fu:=fu) (d:=d+7) (eB hz) hb;have LE:=Al .u8 (En c);have tE:=Ii .u8 (En c);by_cases hq:En c=b
   ·rw [Bv ⟨hz,hq⟩];simp only [hq,decide_true] at be en LE tE;simp only [ec]
    try unfold Aa
    repeat first
     |((with_reducible first|apply At|apply Ao|apply Aq|apply A6|apply A0|apply Ba|apply Bi|apply Am);· first|with_reducible rfl|(simp (disch:=omega) only [dec,e00,e20,Di,Ck,Bz,Nat.reduceMul,LT,tT,ib,g14,L4,t4,dk,nu,tb,ds,g5,g8,g10,g16,g19,g22,g25,g28,Lc,Lp,tc,tp,en,LE,tE,be,Bw,B5]<;>with_reducible rfl))
     |((with_reducible first|apply Ar|apply As);· first|with_reducible rfl|omega|(simp (disch:=omega) only [gT,dec,e00,e20,Di,Ck,Bz,Nat.reduceMul,LT,tT,ib,g14,L4,t4,dk,nu,tb,ds,g5,g8,g10,g16,g19,g22,g25,g28,Lc,Lp,tc,tp,en,LE,tE,be,Bw,B5]<;>omega))
     |(with_reducible apply Au;· first|with_reducible rfl|(simp (disch:=omega) only [gF,dec,e00,e20,Di,Ck,Bz,Nat.reduceMul,LT,tT,ib,g14,L4,t4,dk,nu,tb,ds,g5,g8,g10,g16,g19,g22,g25,g28,Lc,Lp,tc,tp,en,LE,tE,be,Bw,B5]<;>omega))
    try simp (disch:=omega) only [dec,e00,e20,Di,Ck,Bz,Nat.reduceMul,LT,tT,ib,g14,L4,t4,dk,nu,tb,ds,g5,g8,g10,g16,g19,g22,g25,g28,Lc,Lp,tc,tp,en,LE,tE,be,Bw,B5]
    all_goals rfl
   ·rw [Az (fun h=>hq h.2)]
    simp only [hq,decide_false] at be
    try unfold Aa
    repeat first
     |((with_reducible first|apply At|apply Ao|apply Aq|apply A6|apply A0|apply Ba|apply Bi|apply Am);· first|with_reducible rfl|(simp (disch:=omega) only [dec,e00,e20,Di,Ck,Bz,Nat.reduceMul,LT,tT,ib,g14,L4,t4,dk,nu,tb,ds,g5,g8,g10,g16,g19,g22,g25,g28,Lc,Lp,tc,tp,en,LE,tE,be,Bw,B5]<;>with_reducible rfl))
     |((with_reducible first|apply Ar|apply As);· first|with_reducible rfl|omega|(simp (disch:=omega) only [gT,dec,e00,e20,Di,Ck,Bz,Nat.reduceMul,LT,tT,ib,g14,L4,t4,dk,nu,tb,ds,g5,g8,g10,g16,g19,g22,g25,g28,Lc,Lp,tc,tp,en,LE,tE,be,Bw,B5]<;>omega))
     |(with_reducible apply Au;· first|with_reducible rfl|(simp (disch:=omega) only [gF,dec,e00,e20,Di,Ck,Bz,Nat.reduceMul,LT,tT,ib,g14,L4,t4,dk,nu,tb,ds,g5,g8,g10,g16,g19,g22,g25,g28,Lc,Lp,tc,tp,en,LE,tE,be,Bw,B5]<;>omega))
    try simp (disch:=omega) only [dec,e00,e20,Di,Ck,Bz,Nat.reduceMul,LT,tT,ib,g14,L4,t4,dk,nu,tb,ds,g5,g8,g10,g16,g19,g22,g25,g28,Lc,Lp,tc,tp,en,LE,tE,be,Bw,B5]
    all_goals rfl
theorem Aew (hfu:1000<=fu){b:List Int}(hb:Hg b)(hl:b.length<=1000000):
  Ad C0 Tryz.prog fu (d+9) Ia [.lst false 1 b.length (Af .u8 b)]=some ⟨[.agg (Sw b).1.cells,.sc (.int .i64 (Sw b).2)],[]⟩:=by
 have e:KC b (J7 fu [] 0 b 0 [])=Sw b:=Ami hb (FS hb fu [] 0 0 [] (by omega) (by simp)).2 (fun c c1 c2 c3=>by subst c3;exact Aa2 c1 c2 (by omega))
 rw [←e];exact Agn hfu hb hl
end
end
section
open Go.IntKind (wrap)
abbrev Ti (s:ByteArray)(at_:Nat)(o:List It):List PV:=[.sc (.string s),.sc (.int .i64 at_),.own 3 o.length (Bl o)]
theorem Abi {s:ByteArray}{i:Nat}{x:Int}(h:(Cg s)[i]?=some x):∃u:UInt8,s.data.toList[i]?=some u∧x=(u.toNat:Int):=by
 unfold Cg at h;rw [List.getElem?_map] at h;cases hu:s.data.toList[i]? with
 |none=>rw [hu] at h;cases h
 |some u=>rw [hu] at h;injection h with h;exact ⟨u,rfl,h.symm⟩
theorem strB_getElem? {s:ByteArray}{i:Nat}(h:i<(Cg s).length):∃x,(Cg s)[i]?=some x:=⟨_,List.getElem?_eq_getElem h⟩
def Ug (b:List Int)(at_:Nat):Nat:=if (Bc b at_).e=0 then (Bc b at_).at_ else at_
def Asj:List PV:=[PV.sc (Value.int IntKind.u64 (0:Int)),PV.sc (Value.int IntKind.u64 (24:Int)),PV.sc (Value.int IntKind.u64 (256:Int)),PV.sc (Value.int IntKind.u64 (0:Int)),PV.sc (Value.int IntKind.u64 (65536:Int)),PV.sc (Value.int IntKind.u64 (0:Int)),PV.sc (Value.int IntKind.u64 (0:Int)),PV.sc (Value.int IntKind.u64 (0:Int)),PV.sc (Value.int IntKind.u64 (4294967296:Int))]
def Abw (sz:Nat):Int:=if sz=0 then 0 else if sz=1 then 24 else if sz=2 then 256 else if sz=4 then 65536 else 4294967296
theorem TG {sz:Nat}(h:sz=1∨sz=2∨sz=4∨sz=8)(n:Int):(n<Abw sz)↔Kp n<(sz:Int):=by
 unfold Abw Kp;rcases h with rfl|rfl|rfl|rfl
 all_goals simp
 all_goals repeat' split
 all_goals omega
section
variable {fu d:Nat}
theorem CP {call:Ah}{a0_0:ByteArray}{a0_1:Int}{a0_2n:Nat}{a0_2:List PV}{s:ByteArray}{at_:Nat}{o:List It}{k y8 y9:Int}{y10:ByteArray}{sz:Nat}(hsz:sz=0∨sz=1∨sz=2∨sz=4∨sz=8)(hk:0<=k∧k<=5)(hl:s.size<=1000000)(ha:at_+1+sz<=s.size)(ho:o.length<=1000000):
    ∀(r:List Int) (i nn:Nat) (v:Int),(((Cg s).drop (at_+1)).take sz).drop i=r->r.length<nn->i<=sz ->
    C2 fu call a0_0 a0_1 a0_2n a0_2 nn k (sz:Int) v (i:Int) s (at_:Int) o.length (Bl o) y8 y9 y10 =
      (if r.foldl Er v<Abw sz then some ⟨[.agg [.sc (.int .i64 0),.sc (.int .u64 0),.sc (.string C1)],.sc (.int .i64 2)],[Ti s at_ o]⟩
       else some ⟨[.agg [.sc (.int .i64 (1+k)),.sc (.int .u64 (r.foldl Er v)),.sc (.string C1)],.sc (.int .i64 0)],[Ti s (at_+1+sz) o]⟩)
  |_,_,0,_,_,h,_=>by omega
  |[],i,nn+1,v,hd,hn,hi=>by
    have:=drop_nil hd
    have hs:=Ey s
    rw [List.length_take,List.length_drop] at this
    have L:=Ee o
    have t:List.take (o.length*3) (Bl o)=Bl o:=Jv (by omega)
    have w1:wrap .i64 ((1:Int)+(sz:Int))=1+sz:=Ak (by omega) (by omega)
    have w2:wrap .i64 ((at_:Int)+(1+sz))=((at_+1+sz:Nat):Int):=by rw [Ak (by omega) (by omega)];omega
    have g:∀q:List PV,q=Asj->q.getD (0+Int.toNat (sz:Int)*1) .top=.sc (.int .u64 (Abw sz)):=by
      intro q hq
      subst hq
      rcases hsz with rfl|rfl|rfl|rfl|rfl<;>rfl
    have gl:=g _ rfl
    have gk:∀q:List PV,q=[PV.sc (Value.int IntKind.i64 (1:Int)),PV.sc (Value.int IntKind.i64 (2:Int)),PV.sc (Value.int IntKind.i64 (3:Int)),PV.sc (Value.int IntKind.i64 (4:Int)),PV.sc (Value.int IntKind.i64 (5:Int)),PV.sc (Value.int IntKind.i64 (6:Int))]->q.getD (0+Int.toNat k*1) .top=.sc (.int .i64 (1+k)):=by
      intro q hq
      subst hq
      have:k=0∨k=1∨k=2∨k=3∨k=4∨k=5:=by omega
      rcases this with rfl|rfl|rfl|rfl|rfl|rfl<;>rfl
    have gk':=gk _ rfl
    unfold Asj at gl
    rw [Hr,Dv _ _ _ (by omega),List.foldl_nil]
    by_cases hs:v<Abw sz
    · rw [Bv hs]
      try unfold Aa
      repeat first
        |((with_reducible first|apply At|apply Ao|apply Aq|apply B8|apply Am);· first|with_reducible rfl|(simp (disch:=omega) only [L,t,w1,w2,gl,gk']<;>with_reducible rfl))
        |((with_reducible first|apply Ar|apply As);· first|with_reducible rfl|omega|(simp (disch:=omega) only [gT,L,t,w1,w2,gl,gk']<;>omega))
        |(with_reducible apply Au;· first|with_reducible rfl|(simp (disch:=omega) only [gF,L,t,w1,w2,gl,gk']<;>omega))
      try simp (disch:=omega) only [L,t,w1,w2,gl,gk']
      all_goals rfl
    · rw [Az hs]
      try unfold Aa
      repeat first
        |((with_reducible first|apply At|apply Ao|apply Aq|apply B8|apply Am);· first|with_reducible rfl|(simp (disch:=omega) only [L,t,w1,w2,gl,gk']<;>with_reducible rfl))
        |((with_reducible first|apply Ar|apply As);· first|with_reducible rfl|omega|(simp (disch:=omega) only [gT,L,t,w1,w2,gl,gk']<;>omega))
        |(with_reducible apply Au;· first|with_reducible rfl|(simp (disch:=omega) only [gF,L,t,w1,w2,gl,gk']<;>omega))
      try simp (disch:=omega) only [L,t,w1,w2,gl,gk']
      all_goals rfl
  |x::r,i,nn+1,v,hd,hn,hi=>by
    obtain ⟨h1,h2,h3⟩:=Cz hd
    simp only [Kb] at hn
    rw [List.length_take,List.length_drop] at h1
    have h2':(Cg s)[at_+1+i]?=some x:=by
      rw [List.getElem?_take_of_lt (by omega),List.getElem?_drop] at h2
      exact h2
    obtain ⟨u,hu,rfl⟩:=Abi h2'
    have w1:wrap .i64 ((at_:Int)+1)=((at_+1:Nat):Int):=by rw [Ak (by omega) (by omega)];omega
    have w2:wrap .i64 (((at_+1:Nat):Int)+(i:Int))=((at_+1+i:Nat):Int):=by rw [Ak (by omega) (by omega)];omega
    have w3:wrap .i64 ((i:Int)+1)=((i+1:Nat):Int):=by rw [Ak (by omega) (by omega)];omega
    have ih:=CP (call:=call) (a0_0:=a0_0) (a0_1:=a0_1) (a0_2n:=a0_2n) (a0_2:=a0_2) (s:=s) (at_:=at_) (o:=o) (k:=k) (y8:=y8) (y9:=y9) (y10:=y10) hsz hk hl ha ho r (i+1) nn (Er v u.toNat) h3 (by omega) (by omega)
    have nt:Int.toNat ((at_+1+i:Nat):Int)=at_+1+i:=Hi _
    rw [List.foldl_cons,←ih,Hr]
    try unfold Aa
    repeat first
      |((with_reducible first|apply At|apply Ao|apply Aq|apply B8|apply Am);· first|with_reducible rfl|(simp (disch:=omega) only [w1,w2,w3,nt,hu]<;>with_reducible rfl))
      |((with_reducible first|apply Ar|apply As);· first|with_reducible rfl|omega|(simp (disch:=omega) only [gT,w1,w2,w3,nt,hu]<;>omega))
      |(with_reducible apply Au;· first|with_reducible rfl|(simp (disch:=omega) only [gF,w1,w2,w3,nt,hu]<;>omega))
    try simp (disch:=omega) only [w1,w2,w3,nt,hu]
    all_goals rfl
theorem Ail (hfu:1000<=fu){s:ByteArray}{at_:Nat}{o:List It}(hl:s.size<=1000000)(ho:o.length<=1000000):
  Ad C0 Tryz.prog fu (d+1) Iw [.pbox (Ti s at_ o)]=some ⟨[.agg [.sc (.int .i64 (Bc (Cg s) at_).k),.sc (.int .u64 (Bc (Cg s) at_).n),.sc (.string C1)],.sc (.int .i64 (Bc (Cg s) at_).e)],[Ti s (Ug (Cg s) at_) o]⟩:=by
 refine (Rc fu d s (at_:Int) o.length (Bl o)).trans ?_;have hs:=Ey s;have L:=Ee o;have t:List.take (o.length*3) (Bl o)=Bl o:=Jv (by omega)
 unfold Ug Bc;by_cases hlt:at_<(Cg s).length
 rotate_left
 ·have hg:(Cg s)[at_]?=none:=List.getElem?_eq_none (by omega)
  rw [hg]
  try unfold Aa
  repeat first
   |((with_reducible first|apply At|apply Ao|apply Aq|apply B8|apply Am);· first|with_reducible rfl|(simp (disch:=omega) only [L,t]<;>with_reducible rfl))
   |((with_reducible first|apply Ar|apply As);· first|with_reducible rfl|omega|(simp (disch:=omega) only [gT,L,t]<;>omega))
   |(with_reducible apply Au;· first|with_reducible rfl|(simp (disch:=omega) only [gF,L,t]<;>omega))
  try simp (disch:=omega) only [L,t]
  all_goals rfl
 obtain ⟨x,hg⟩:=strB_getElem? hlt;have hB:=U9 s _ (List.mem_of_getElem? hg);obtain ⟨u,hu,hxu⟩:=Abi hg;rw [hg];have nt:Int.toNat (at_:Int)=at_:=Hi _;have w1:wrap .i64 ((at_:Int)+1)=((at_+1:Nat):Int):=by rw [Ak (by omega) (by omega)];omega
 have s5:=As9 hB.1;have a31:=Apv hB.1 hB.2;rw [hxu] at s5 a31 hB ⊢;show A3 _ _ _=_;rw [Dv _ _ _ (by omega),Zd _ _ (by omega),nt,hu,Aby]
 clear hxu hu hg;generalize ((u.toNat:Nat):Int)=y at s5 a31 hB ⊢;unfold S7;simp only;have e20:((2:Int)=0)=False:=by simp
 have e10:((1:Int)=0)=False:=by simp
 by_cases c1:y=244
 ·subst c1;have q:wrap .u64 (wrap .u8 ((244:Int)-244))=0:=by decide
  simp (disch:=omega) only [Bx,Int.reduceBEq,w1,L,t,q]
 rw [Az c1];have b1:(y==(244:Int))=false:=by simp [c1]
 by_cases c2:y=245
 ·subst c2;have q:wrap .u64 (wrap .u8 ((245:Int)-244))=1:=by decide
  simp (disch:=omega) only [Bx,Int.reduceBEq,w1,L,t,q,if_true]
 rw [Az c2];have b2:(y==(245:Int))=false:=by simp [c2]
 by_cases c3:y=246
 ·subst c3;simp (disch:=omega) only [Bx,Int.reduceBEq,w1,L,t,if_true]
 rw [Az c3];have b3:(y==(246:Int))=false:=by simp [c3]
 have wk1:wrap .i64 (y / 32)=y / 32:=Ak (by omega) (by omega)
 have wk2:wrap .i64 (y % 32)=y % 32:=Ak (by omega) (by omega)
 by_cases c4:y / 32>5
 ·rw [Bv c4];simp (disch:=omega) only [Bx,b1,b2,b3,s5,a31,wk1,wk2,L,t,e20]
 rw [Az c4];by_cases c5:y % 32>27
 ·rw [Bv c5];simp (disch:=omega) only [Bx,b1,b2,b3,s5,a31,wk1,wk2,L,t,e20]
 rw [Az c5];have w6:wrap .i64 ((s.size:Int)-(at_:Int))=((s.size-at_:Nat):Int):=by rw [Ak (by omega) (by omega)];omega
 have w7:wrap .i64 (((s.size-at_:Nat):Int)-1)=((s.size-(at_+1):Nat):Int):=by rw [Ak (by omega) (by omega)];omega
 have wu:wrap .u64 (y % 32)=y % 32:=Ch (by omega) (by omega)
 by_cases c6:y % 32<24
 ·have lp:=CP (fu:=fu) (call:=Ad C0 Tryz.prog fu d) (a0_0:=s) (a0_1:=(at_:Int)) (a0_2n:=o.length) (a0_2:=Bl o) (s:=s) (at_:=at_) (o:=o) (k:=y / 32) (y8:=0) (y9:=0) (y10:=C1) (sz:=0) (.inl rfl) (by omega) hl (by omega) ho [] 0 fu (y % 32) rfl (by simp;omega) (by omega)
  have e0:¬(y % 32<Abw 0):=by unfold Abw;simp;omega
  rw [List.foldl_nil,Az e0] at lp;rw [Bv c6];simp (disch:=omega) only [Bx,b1,b2,b3,s5,a31,wk1,wk2,w6,w7,wu];exact lp
 rw [Az c6];have q1:wrap .i64 (y % 32-24)=y % 32-24:=Ak (by omega) (by omega)
 have q1':wrap .u64 (y % 32-24)=y % 32-24:=Ch (by omega) (by omega)
 have q2:Fp .i64 1 (y % 32-24)=(XA (y % 32):Int):=by
  have:y % 32=24∨y % 32=25∨y % 32=26∨y % 32=27:=by omega
  rcases this with h|h|h|h<;>rw [h]<;>decide
 have q3:XA (y % 32)=1∨XA (y % 32)=2∨XA (y % 32)=4∨XA (y % 32)=8:=by
  unfold XA
  repeat' split
  all_goals omega
 generalize XA (y % 32)=sz at q2 q3 ⊢;rw [hs];by_cases c7:s.size-(at_+1)<sz
 ·rw [Bv c7];simp (disch:=omega) only [Bx,b1,b2,b3,s5,a31,wk1,wk2,w6,w7,wu,q1,q1',q2,L,t,e10]
 rw [Az c7];have lp:=CP (fu:=fu) (call:=Ad C0 Tryz.prog fu d) (a0_0:=s) (a0_1:=(at_:Int)) (a0_2n:=o.length) (a0_2:=Bl o) (s:=s) (at_:=at_) (o:=o) (k:=y / 32) (y8:=0) (y9:=0) (y10:=C1) (sz:=sz) (by omega) (by omega) hl (by omega) ho _ 0 fu 0 rfl (by rw [Di,List.length_take];omega) (by omega)
 rw [Di] at lp;unfold AE;by_cases c8:Kp ((((Cg s).drop (at_+1)).take sz).foldl Er 0)<sz
 ·rw [Bv ((TG q3 _).2 c8)] at lp;rw [Bv c8];simp (disch:=omega) only [Bx,b1,b2,b3,s5,a31,wk1,wk2,w6,w7,wu,q1,q1',q2,e20];exact lp
 ·rw [Az (fun h=>c8 ((TG q3 _).1 h))] at lp
  rw [Az c8];simp (disch:=omega) only [Bx,b1,b2,b3,s5,a31,wk1,wk2,w6,w7,wu,q1,q1',q2];exact lp
end
end
section
open Go.IntKind (wrap)
def YA (a c:ByteArray):Bool:=if a.size=c.size then Op.bytesLess a.data.toList c.data.toList else decide (a.size<c.size)
def HQ (k:Int):Bool:=if k=1 then true else if k=2 then true else k==4
def Le (k:Int):Bool:=k==3||k==4
def O4 (k:Int):Bool:=k==5||k==6
def I3 (k n depth:Int)(key:Bool)(olen rest:Nat):Int:=
 if 512<=olen then 8 else if key=true∧HQ k=false then 3 else if depth>8 then 5 else if Le k=true∧n>1024 then 8 else if O4 k=true∧n>512 then 8 else if Le k=true∧(rest:Int)<n then 1 else 0
def Hl (key:Bool)(before:ByteArray)(x:It):Int:=
 if x.k=4∧RH x.s=false then 6 else if key=true∧EE before=false∧YA before (Bj (Bp x))=false then 7 else 0
theorem WX {s:ByteArray}{a n:Nat}:s.extract a (a+n)=Bj (((Cg s).drop a).take n):=by
 rw [←Pj (s.extract a (a+n))]
 congr 1
 unfold Cg;rw [ByteArray.data_extract,Array.toList_extract,List.extract_eq_take_drop,Nat.add_sub_cancel_left,List.map_take,List.map_drop]
section
variable {fu d:Nat}
theorem Ae3 (a c:ByteArray):Ad C0 Tryz.prog fu (d+1) Q1 [.sc (.string a),.sc (.string c)]=some ⟨[.sc (.bool (YA a c))],[]⟩:=by
 rw [CI];unfold YA;by_cases h:a.size=c.size
 ·have:((a.size:Int) != (c.size:Int))=false:=by simp [h]
  rw [Bv h];simp only [Bx,this]
 ·have e:((a.size:Int) != (c.size:Int))=true:=by simp;omega
  rw [Az h];simp only [Bx,e,Int.ofNat_lt]
theorem Amm (k:Int):Ad C0 Tryz.prog fu (d+1) O3 [.sc (.int .i64 k)]=some ⟨[.sc (.bool (HQ k))],[]⟩:=by
 rw [Zm];unfold HQ;by_cases h1:k=1
 ·subst h1;rfl
 ·by_cases h2:k=2
  ·subst h2;rfl
  ·have b1:(k==(1:Int))=false:=by simp [h1]
   have b2:(k==(2:Int))=false:=by simp [h2]
   rw [Az h1,Az h2];simp only [Bx,b1,b2]
theorem Abs {a0_0:ByteArray}{a0_1:Int}{a0_2n:Nat}{a0_2:List PV}{a1:Int}{a2:Bool}{a3:ByteArray}(hfu:1000<=fu){depth n k nn':Int}{key nest:Bool}{before s t:ByteArray}{at_:Nat}{o:List It}{nn:Nat}(hnn:0<nn)(ho:o.length<=1000)(hk:1<=k∧k<=8)(hn:0<=nn')(ht:t.size<=500000)(hd:It.dat ⟨k,nn',t⟩):
    Ai fu (Ad C0 Tryz.prog fu (d+3)) a0_0 a0_1 a0_2n a0_2 a1 a2 a3 nn depth key before n false nest s (at_:Int) o.length (Bl o) k nn' t =
      (if Hl key before ⟨k,nn',t⟩=0 then A7 fu (Ad C0 Tryz.prog fu (d+3)) a0_0 a0_1 a0_2n a0_2 a1 a2 a3 fu depth n nest C1 0 s (at_:Int) (o++[It.mk k nn' t]).length (Bl (o++[It.mk k nn' t])) k nn' t
       else some ⟨[.sc (.int .i64 (Hl key before ⟨k,nn',t⟩))],[Ti s at_ o]⟩):=by
  have L:=Ee o
  have tt:List.take (o.length*3) (Bl o)=Bl o:=Jv (by omega)
  have va:=Ks (fu:=fu) (d:=d+2) t (by omega)
  have by_:=Zj (fu:=fu) (d:=d) (x:=⟨k,nn',t⟩) hfu ⟨hk.1,hk.2,hn,ht⟩ hd
  have ls:=Ae3 (fu:=fu) (d:=d+2) before (Bj (Bp ⟨k,nn',t⟩))
  have e:Bl (o++[It.mk k nn' t])=Bl o++[PV.sc (Value.int IntKind.i64 k),PV.sc (Value.int IntKind.u64 nn'),PV.sc (Value.string t)]:=FG o [It.mk k nn' t]
  have en:(o++[It.mk k nn' t]).length=o.length+1:=by simp
  have em:(Array.toList (ByteArray.data before)==Array.toList (ByteArray.data (ByteArray.mk #[])))=EE before:=rfl
  rw [e,en,Hs (hnn:=hnn)]
  unfold Hl
  simp only at ls by_ ⊢
  unfold It.cells at by_
  have kk:((k=4)=True∧(k==(4:Int))=true)∨((k=4)=False∧(k==(4:Int))=false):=by
    by_cases h:k=4
    · exact .inl ⟨eq_true h,by simp [h]⟩
    · exact .inr ⟨eq_false h,by simp [h]⟩
  generalize YA before (Bj (Bp ⟨k,nn',t⟩))=l at ls ⊢
  generalize EE before=bb at em ⊢
  generalize RH t=v at va ⊢
  generalize Bj (Bp ⟨k,nn',t⟩)=B at by_ ls
  rcases kk with ⟨k4',k4⟩|⟨k4',k4⟩
  · cases v
    · simp (disch:=omega) only [Bx,Int.reduceBEq,k4,va,em,by_,ls,L,tt,Bw,B5,and_self,true_and,and_true,and_false,false_and,if_true,if_false,Int.reduceEq,Bool.true_eq_false,Bool.false_eq_true,reduceCtorEq,k4']
    · cases key
      · simp (disch:=omega) only [Bx,Int.reduceBEq,k4,va,em,by_,ls,L,tt,Bw,B5,and_self,true_and,and_true,and_false,false_and,if_true,if_false,Int.reduceEq,Bool.true_eq_false,Bool.false_eq_true,reduceCtorEq,k4']
      · cases bb
        · cases l
          · simp (disch:=omega) only [Bx,Int.reduceBEq,k4,va,em,by_,ls,L,tt,Bw,B5,and_self,true_and,and_true,and_false,false_and,if_true,if_false,Int.reduceEq,Bool.true_eq_false,Bool.false_eq_true,reduceCtorEq,k4']
          · simp (disch:=omega) only [Bx,Int.reduceBEq,k4,va,em,by_,ls,L,tt,Bw,B5,and_self,true_and,and_true,and_false,false_and,if_true,if_false,Int.reduceEq,Bool.true_eq_false,Bool.false_eq_true,reduceCtorEq,k4']
        · simp (disch:=omega) only [Bx,Int.reduceBEq,k4,va,em,by_,ls,L,tt,Bw,B5,and_self,true_and,and_true,and_false,false_and,if_true,if_false,Int.reduceEq,Bool.true_eq_false,Bool.false_eq_true,reduceCtorEq,k4']
  · cases key
    · simp (disch:=omega) only [Bx,Int.reduceBEq,k4,va,em,by_,ls,L,tt,Bw,B5,and_self,true_and,and_true,and_false,false_and,if_true,if_false,Int.reduceEq,Bool.true_eq_false,Bool.false_eq_true,reduceCtorEq,k4']
    · cases bb
      · cases l
        · simp (disch:=omega) only [Bx,Int.reduceBEq,k4,va,em,by_,ls,L,tt,Bw,B5,and_self,true_and,and_true,and_false,false_and,if_true,if_false,Int.reduceEq,Bool.true_eq_false,Bool.false_eq_true,reduceCtorEq,k4']
        · simp (disch:=omega) only [Bx,Int.reduceBEq,k4,va,em,by_,ls,L,tt,Bw,B5,and_self,true_and,and_true,and_false,false_and,if_true,if_false,Int.reduceEq,Bool.true_eq_false,Bool.false_eq_true,reduceCtorEq,k4']
      · simp (disch:=omega) only [Bx,Int.reduceBEq,k4,va,em,by_,ls,L,tt,Bw,B5,and_self,true_and,and_true,and_false,false_and,if_true,if_false,Int.reduceEq,Bool.true_eq_false,Bool.false_eq_true,reduceCtorEq,k4']
theorem Aid {a0_0:ByteArray}{a0_1:Int}{a0_2n:Nat}{a0_2:List PV}{a1:Int}{a2:Bool}{a3:ByteArray}(hfu:1000<=fu){depth k:Int}{n nn':Nat}{key nest:Bool}{before s t0:ByteArray}{at_:Nat}{o:List It}{nn:Nat}(hnn:0<nn)(ho:o.length<=1000)(hk:k=3∨k=4)(hn:n<=1024)(ha:at_+n<=s.size)(hs:s.size<=1000000){t:ByteArray}(ht:t=Bj (((Cg s).drop at_).take n)):
    Ai fu (Ad C0 Tryz.prog fu (d+3)) a0_0 a0_1 a0_2n a0_2 a1 a2 a3 nn depth key before (n:Int) true nest s (at_:Int) o.length (Bl o) k (nn':Int) t0 =
      (if Hl key before ⟨k,0,t⟩=0 then A7 fu (Ad C0 Tryz.prog fu (d+3)) a0_0 a0_1 a0_2n a0_2 a1 a2 a3 fu depth (n:Int) nest C1 0 s ((at_+n:Nat):Int) (o++[It.mk k 0 t]).length (Bl (o++[It.mk k 0 t])) k 0 t
       else some ⟨[.sc (.int .i64 (Hl key before ⟨k,0,t⟩))],[Ti s (at_+n) o]⟩):=by
  have hts:t.size<=1024:=by
    rw [ht,Ek,List.length_take]
    omega
  have L:=Ee o
  have tt:List.take (o.length*3) (Bl o)=Bl o:=Jv (by omega)
  have va:=Ks (fu:=fu) (d:=d+2) t (by omega)
  have by_:=Zj (fu:=fu) (d:=d) (x:=⟨k,0,t⟩) hfu ⟨by simp only;omega,by simp only;omega,by simp,by simp only;omega⟩ (hk.elim (fun h=>.inl h) (fun h=>.inr (.inl h)))
  have ls:=Ae3 (fu:=fu) (d:=d+2) before (Bj (Bp ⟨k,0,t⟩))
  have e:Bl (o++[It.mk k 0 t])=Bl o++[PV.sc (Value.int IntKind.i64 k),PV.sc (Value.int IntKind.u64 0),PV.sc (Value.string t)]:=FG o [It.mk k 0 t]
  have en:(o++[It.mk k 0 t]).length=o.length+1:=by simp
  have em:(Array.toList (ByteArray.data before)==Array.toList (ByteArray.data (ByteArray.mk #[])))=EE before:=rfl
  have w1:wrap .i64 (n:Int)=n:=Ak (by omega) (by omega)
  have w2:wrap .i64 ((at_:Int)+(n:Int))=((at_+n:Nat):Int):=by rw [Ak (by omega) (by omega)];omega
  have n1:Int.toNat (at_:Int)=at_:=Hi _
  have n2:Int.toNat ((at_+n:Nat):Int)=at_+n:=Hi _
  have ex:s.extract at_ (at_+n)=t:=by rw [ht];exact WX
  rw [e,en,Hs (hnn:=hnn)]
  unfold Hl
  simp only at ls by_ ⊢
  unfold It.cells at by_
  clear ht
  have kk:((k=4)=True∧(k==(4:Int))=true)∨((k=4)=False∧(k==(4:Int))=false):=by
    by_cases h:k=4
    · exact .inl ⟨eq_true h,by simp [h]⟩
    · exact .inr ⟨eq_false h,by simp [h]⟩
  generalize YA before (Bj (Bp ⟨k,0,t⟩))=l at ls ⊢
  generalize EE before=bb at em ⊢
  generalize RH t=v at va ⊢
  generalize Bj (Bp ⟨k,0,t⟩)=B at by_ ls
  rcases kk with ⟨k4',k4⟩|⟨k4',k4⟩
  · cases v
    · simp (disch:=omega) only [Bx,w1,w2,n1,n2,ex,Int.reduceBEq,k4,va,em,by_,ls,L,tt,Bw,B5,and_self,true_and,and_true,and_false,false_and,if_true,if_false,Int.reduceEq,Bool.true_eq_false,Bool.false_eq_true,reduceCtorEq,k4']
    · cases key
      · simp (disch:=omega) only [Bx,w1,w2,n1,n2,ex,Int.reduceBEq,k4,va,em,by_,ls,L,tt,Bw,B5,and_self,true_and,and_true,and_false,false_and,if_true,if_false,Int.reduceEq,Bool.true_eq_false,Bool.false_eq_true,reduceCtorEq,k4']
      · cases bb
        · cases l
          · simp (disch:=omega) only [Bx,w1,w2,n1,n2,ex,Int.reduceBEq,k4,va,em,by_,ls,L,tt,Bw,B5,and_self,true_and,and_true,and_false,false_and,if_true,if_false,Int.reduceEq,Bool.true_eq_false,Bool.false_eq_true,reduceCtorEq,k4']
          · simp (disch:=omega) only [Bx,w1,w2,n1,n2,ex,Int.reduceBEq,k4,va,em,by_,ls,L,tt,Bw,B5,and_self,true_and,and_true,and_false,false_and,if_true,if_false,Int.reduceEq,Bool.true_eq_false,Bool.false_eq_true,reduceCtorEq,k4']
        · simp (disch:=omega) only [Bx,w1,w2,n1,n2,ex,Int.reduceBEq,k4,va,em,by_,ls,L,tt,Bw,B5,and_self,true_and,and_true,and_false,false_and,if_true,if_false,Int.reduceEq,Bool.true_eq_false,Bool.false_eq_true,reduceCtorEq,k4']
  · cases key
    · simp (disch:=omega) only [Bx,w1,w2,n1,n2,ex,Int.reduceBEq,k4,va,em,by_,ls,L,tt,Bw,B5,and_self,true_and,and_true,and_false,false_and,if_true,if_false,Int.reduceEq,Bool.true_eq_false,Bool.false_eq_true,reduceCtorEq,k4']
    · cases bb
      · cases l
        · simp (disch:=omega) only [Bx,w1,w2,n1,n2,ex,Int.reduceBEq,k4,va,em,by_,ls,L,tt,Bw,B5,and_self,true_and,and_true,and_false,false_and,if_true,if_false,Int.reduceEq,Bool.true_eq_false,Bool.false_eq_true,reduceCtorEq,k4']
        · simp (disch:=omega) only [Bx,w1,w2,n1,n2,ex,Int.reduceBEq,k4,va,em,by_,ls,L,tt,Bw,B5,and_self,true_and,and_true,and_false,false_and,if_true,if_false,Int.reduceEq,Bool.true_eq_false,Bool.false_eq_true,reduceCtorEq,k4']
      · simp (disch:=omega) only [Bx,w1,w2,n1,n2,ex,Int.reduceBEq,k4,va,em,by_,ls,L,tt,Bw,B5,and_self,true_and,and_true,and_false,false_and,if_true,if_false,Int.reduceEq,Bool.true_eq_false,Bool.false_eq_true,reduceCtorEq,k4']
end
end
end Go.Proofs.YtdjihiphpgkfmaaGreatDoor.Pv
