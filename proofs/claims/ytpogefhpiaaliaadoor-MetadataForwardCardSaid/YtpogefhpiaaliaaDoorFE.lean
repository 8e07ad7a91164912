/-
  The proof of MetadataForward, part 5.
-/
import Derived.Test.YtpogefhpiaaliaaDoorFD
import Derived.Test.YtpogefhpiaaliaaDoorRows
set_option linter.unusedSimpArgs false
set_option linter.unusedVariables false
namespace Go.Proofs.YtpogefhpiaaliaaDoor.Pv
section
open Go.Proofs.Tryd (prog)
open Go.IntKind (wrap)
set_option maxRecDepth 100000
abbrev Q7:FuncId:=77
noncomputable def Hw (fu:Nat)(call:Ah)(Al:Nat)(Aj:List PV)(Ao:Int)(Bm:Nat)(Bc:List PV)(Cv:Int)(nn:Nat)(y0 y1 y2:Int)(y3:Nat)(y4:List PV)(y5 y6:Int)(y7:Nat)(y8:Int)(y9:Nat)(y10:List PV)(G5:Int)(Hq:List PV):Option A5:=Du CB prog fu call 77 Tryd.f77 (Ca Tryd.f77) [.pbox [.own 3 Al Aj,.sc (.int .i64 Ao),.lst false 1 Bm Bc,.sc (.int .i64 Cv)]] [.r,.r,.r,.r,.r,.r,.r,.r,.r,.r,.r,.l,.r,.l] nn ⟨lk [(0,(.ptr 240000 0)),(2,(.sc (.int .i64 y0))),(3,(.sc (.int .u64 y1))),(8,(.sc (.int .i64 y2))),(94,(.lst false 1 y3 y4)),(95,(.sc (.int .i64 y5))),(96,(.sc (.int .i64 y6)))],Br [(240000,(.st [(.view 240120 3 0 y7),(.sc (.int .i64 y8)),(.lst false 1 y9 y10),(.sc (.int .i64 G5))])),(240120,(.ar false Hq))]⟩
theorem Ng (fu:Nat)(call:Ah)(Al:Nat)(Aj:List PV)(Ao:Int)(Bm:Nat)(Bc:List PV)(Cv:Int)(nn:Nat)(y0 y1 y2:Int)(y3:Nat)(y4:List PV)(y5 y6:Int)(y7:Nat)(y8:Int)(y9:Nat)(y10:List PV)(G5:Int)(Hq:List PV):Hw fu call Al Aj Ao Bm Bc Cv (nn+1) y0 y1 y2 y3 y4 y5 y6 y7 y8 y9 y10 G5 Hq=(Bi (decide (y6<y5)) (Ar (decide (0<=y6)&&decide (y6<(↑y3:Int)))<|Ae .u8 (List.getD y4 (Int.toNat y6*1) .top) fun G4=>Aa (Jj .u64 y1 8) fun Gi=>Aa (wrap .u64 G4) fun Gy=>Aa (UF .u64 Gi Gy) fun Jk=>Aa (wrap .i64 (y6+1)) fun Ia=>Hw fu call Al Aj Ao Bm Bc Cv (nn) (y0) Jk (y2) (y3) (y4) (y5) Ia (y7) (y8) (y9) (y10) (G5) (Hq)) (Aa (wrap .i64 (G5+y2)) fun Je=>Ai (call 90 [.sc (.int .u64 y1)]) fun Fn Eu=>Ac Eu<|Ab Fn fun Hv J8=>Ae .i64 Hv fun G3=>Ac J8<|Bi (decide (G3<y2)) (Ar (decide (y7*3<=Hq.length))<|some (A5.mk [.sc (.int .i64 0),.sc (.int .u64 0),.sc (.int .i64 2)] [[.own 3 y7 (List.take (y7*3) Hq),.sc (.int .i64 y8),.lst false 1 y9 y10,.sc (.int .i64 Je)]])) (Ar (decide (y7*3<=Hq.length))<|some (A5.mk [.sc (.int .i64 y0),.sc (.int .u64 y1),.sc (.int .i64 0)] [[.own 3 y7 (List.take (y7*3) Hq),.sc (.int .i64 y8),.lst false 1 y9 y10,.sc (.int .i64 Je)]])))):=by kernel_rfl
theorem DA (fu d Al:Nat)(Aj:List PV)(Ao:Int)(Bm:Nat)(Bc:List PV)(Cv:Int):Ad C0 prog fu (d+1) Q7 [.pbox [.own 3 Al Aj,.sc (.int .i64 Ao),.lst false 1 Bm Bc,.sc (.int .i64 Cv)]]=(fun (call:Ah)=>Bi (decide (Cv>=(↑Bm:Int))) (Ar (decide (Al*3<=Aj.length))<|some (A5.mk [.sc (.int .i64 0),.sc (.int .u64 0),.sc (.int .i64 1)] [[.own 3 Al (List.take (Al*3) Aj),.sc (.int .i64 Ao),.lst false 1 Bm Bc,.sc (.int .i64 Cv)]])) (Ar (decide (0<=Cv)&&decide (Cv<(↑Bm:Int)))<|Ae .u8 (List.getD Bc (Int.toNat Cv*1) .top) fun x1=>Aa (wrap .i64 (Cv+1)) fun x2=>Bi (x1==244) (Aa (wrap .u8 (x1-244)) fun x3=>Aa (wrap .u64 x3) fun x4=>Ar (decide (Al*3<=Aj.length))<|some (A5.mk [.sc (.int .i64 7),.sc (.int .u64 x4),.sc (.int .i64 0)] [[.own 3 Al (List.take (Al*3) Aj),.sc (.int .i64 Ao),.lst false 1 Bm Bc,.sc (.int .i64 x2)]])) (Bi (x1==245) (Aa (wrap .u8 (x1-244)) fun x5=>Aa (wrap .u64 x5) fun x6=>Ar (decide (Al*3<=Aj.length))<|some (A5.mk [.sc (.int .i64 7),.sc (.int .u64 x6),.sc (.int .i64 0)] [[.own 3 Al (List.take (Al*3) Aj),.sc (.int .i64 Ao),.lst false 1 Bm Bc,.sc (.int .i64 x2)]])) (Bi (x1==246) (Ar (decide (Al*3<=Aj.length))<|some (A5.mk [.sc (.int .i64 8),.sc (.int .u64 0),.sc (.int .i64 0)] [[.own 3 Al (List.take (Al*3) Aj),.sc (.int .i64 Ao),.lst false 1 Bm Bc,.sc (.int .i64 x2)]])) (Aa (Ik .u8 x1 5) fun x7=>Aa (W7 .u8 x1 31) fun x8=>Bi (decide (x7>5)) (Ar (decide (Al*3<=Aj.length))<|some (A5.mk [.sc (.int .i64 0),.sc (.int .u64 0),.sc (.int .i64 2)] [[.own 3 Al (List.take (Al*3) Aj),.sc (.int .i64 Ao),.lst false 1 Bm Bc,.sc (.int .i64 x2)]])) (Bi (decide (x8>27)) (Ar (decide (Al*3<=Aj.length))<|some (A5.mk [.sc (.int .i64 0),.sc (.int .u64 0),.sc (.int .i64 2)] [[.own 3 Al (List.take (Al*3) Aj),.sc (.int .i64 Ao),.lst false 1 Bm Bc,.sc (.int .i64 x2)]])) (Aa (wrap .i64 x7) fun x9=>Aa (wrap .i64 (1+x9)) fun C6=>Bi (decide (x8<24)) (Aa (wrap .u64 x8) fun Dr=>Ar (decide (Al*3<=Aj.length))<|some (A5.mk [.sc (.int .i64 C6),.sc (.int .u64 Dr),.sc (.int .i64 0)] [[.own 3 Al (List.take (Al*3) Aj),.sc (.int .i64 Ao),.lst false 1 Bm Bc,.sc (.int .i64 x2)]])) (Aa (wrap .u8 (x8-24)) fun Eg=>Ar (decide (0<=Eg))<|Aa (Jj .i64 1 Eg) fun Ez=>Aa (wrap .i64 ((↑Bm:Int)-x2)) fun D7=>Bi (decide (D7<Ez)) (Ar (decide (Al*3<=Aj.length))<|some (A5.mk [.sc (.int .i64 0),.sc (.int .u64 0),.sc (.int .i64 1)] [[.own 3 Al (List.take (Al*3) Aj),.sc (.int .i64 Ao),.lst false 1 Bm Bc,.sc (.int .i64 x2)]])) (Aa (wrap .i64 (x2+Ez)) fun Ew=>Ar (decide (0<=x2))<|Ar (decide (0<=Ew))<|Ar (decide (Int.toNat x2<=Int.toNat Ew)&&decide (Int.toNat Ew<=Bm))<|Aa (Int.toNat Ew-Int.toNat x2) fun Fw=>Aa (List.take (Fw*1) (List.drop (Int.toNat x2*1) Bc)) fun Gm=>Hw fu call Al Aj Ao Bm Bc Cv (fu) C6 0 Ez Fw Gm ((↑Fw:Int)) 0 (Al) (Ao) (Bm) (Bc) x2 (Aj)))))))))) (Ad C0 prog fu d):=by kernel_rfl
abbrev Rh:FuncId:=56
theorem CZ (fu d Al:Nat)(Aj:List PV)(Ao:Int)(Bm:Nat)(Bc:List PV)(Cv:Int):Ad C0 prog fu (d+1) Rh [.pbox [.own 3 Al Aj,.sc (.int .i64 Ao),.lst false 1 Bm Bc,.sc (.int .i64 Cv)]]=(fun (call:Ah)=>Ar (decide (Al*3<=Aj.length))<|Ai (call 77 [.pbox [.own 3 Al (List.take (Al*3) Aj),.sc (.int .i64 Ao),.lst false 1 Bm Bc,.sc (.int .i64 Cv)]]) fun x1 x2=>Ab x1 fun x3 x4=>Ae .i64 x3 fun x5=>Ab x4 fun x6 x7=>Ae .u64 x6 fun x8=>Ab x7 fun x9 C6=>Ae .i64 x9 fun Dr=>Ac C6<|Ab x2 fun Eg Ez=>Ab Eg fun D7 Ew=>Gl 3 D7 fun Fw Gm=>Ab Ew fun G4 Gi=>Ae .i64 G4 fun Gy=>Ab Gi fun Jk Ia=>Fq 1 Jk fun Je Fn Eu=>Ab Ia fun Hv J8=>Ae .i64 Hv fun G3=>Ac J8<|Ac Ez<|Bi (Dr != 0) (Ar (decide (Fw*3<=Gm.length))<|some (A5.mk [.agg [.sc (.int .i64 0),.sc (.int .u64 0),.sc (.string (ByteArray.mk #[]))],.sc (.int .i64 Dr)] [[.own 3 Fw (List.take (Fw*3) Gm),.sc (.int .i64 Gy),.lst false 1 Fn Eu,.sc (.int .i64 G3)]])) (Ar (decide (Fw*3<=Gm.length))<|Ai (call 78 [.pbox [.own 3 Fw (List.take (Fw*3) Gm),.sc (.int .i64 Gy)],.sc (.int .i64 x5)]) fun O6 M7=>Ab O6 fun Kw Mz=>Ae .i64 Kw fun O8=>Ac Mz<|Ab M7 fun Pn O5=>Ab Pn fun Ry Vb=>Gl 3 Ry fun Ic Ln=>Ab Vb fun S4 Xb=>Ae .i64 S4 fun R9=>Ac Xb<|Ac O5<|Bi (O8 != 0) (Ar (decide (Ic*3<=Ln.length))<|some (A5.mk [.agg [.sc (.int .i64 0),.sc (.int .u64 0),.sc (.string (ByteArray.mk #[]))],.sc (.int .i64 O8)] [[.own 3 Ic (List.take (Ic*3) Ln),.sc (.int .i64 R9),.lst false 1 Fn Eu,.sc (.int .i64 G3)]])) (Bi (x5==5) (Bi (decide (x8>512)) (Ar (decide (Ic*3<=Ln.length))<|some (A5.mk [.agg [.sc (.int .i64 0),.sc (.int .u64 0),.sc (.string (ByteArray.mk #[]))],.sc (.int .i64 8)] [[.own 3 Ic (List.take (Ic*3) Ln),.sc (.int .i64 R9),.lst false 1 Fn Eu,.sc (.int .i64 G3)]])) (Ar (decide (Ic*3<=Ln.length))<|Ai (call 79 [.pbox [.own 3 Ic (List.take (Ic*3) Ln),.sc (.int .i64 R9)],.agg [.sc (.int .i64 x5),.sc (.int .u64 x8),.sc (.string (ByteArray.mk #[]))]]) fun Ye Za=>Ab Ye fun X6 Xc=>Ae .i64 X6 fun Yd=>Ac Xc<|Ab Za fun Yq Yu=>Ab Yq fun BD Zz=>Gl 3 BD fun Zg BX=>Ab Zz fun EJ DK=>Ae .i64 EJ fun CJ=>Ac DK<|Ac Yu<|Bi (Yd != 0) (Ar (decide (Zg*3<=BX.length))<|some (A5.mk [.agg [.sc (.int .i64 0),.sc (.int .u64 0),.sc (.string (ByteArray.mk #[]))],.sc (.int .i64 Yd)] [[.own 3 Zg (List.take (Zg*3) BX),.sc (.int .i64 CJ),.lst false 1 Fn Eu,.sc (.int .i64 G3)]])) (Ar (decide (Zg*3<=BX.length))<|some (A5.mk [.agg [.sc (.int .i64 x5),.sc (.int .u64 x8),.sc (.string (ByteArray.mk #[]))],.sc (.int .i64 0)] [[.own 3 Zg (List.take (Zg*3) BX),.sc (.int .i64 CJ),.lst false 1 Fn Eu,.sc (.int .i64 G3)]])))) (Bi (x5==6) (Bi (decide (x8>512)) (Ar (decide (Ic*3<=Ln.length))<|some (A5.mk [.agg [.sc (.int .i64 0),.sc (.int .u64 0),.sc (.string (ByteArray.mk #[]))],.sc (.int .i64 8)] [[.own 3 Ic (List.take (Ic*3) Ln),.sc (.int .i64 R9),.lst false 1 Fn Eu,.sc (.int .i64 G3)]])) (Ar (decide (Ic*3<=Ln.length))<|Ai (call 79 [.pbox [.own 3 Ic (List.take (Ic*3) Ln),.sc (.int .i64 R9)],.agg [.sc (.int .i64 x5),.sc (.int .u64 x8),.sc (.string (ByteArray.mk #[]))]]) fun CI Z3=>Ab CI fun GV AF=>Ae .i64 GV fun CU=>Ac AF<|Ab Z3 fun FF DM=>Ab FF fun AA Y9=>Gl 3 AA fun Xd EH=>Ab Y9 fun GU DN=>Ae .i64 GU fun FH=>Ac DN<|Ac DM<|Bi (CU != 0) (Ar (decide (Xd*3<=EH.length))<|some (A5.mk [.agg [.sc (.int .i64 0),.sc (.int .u64 0),.sc (.string (ByteArray.mk #[]))],.sc (.int .i64 CU)] [[.own 3 Xd (List.take (Xd*3) EH),.sc (.int .i64 FH),.lst false 1 Fn Eu,.sc (.int .i64 G3)]])) (Ar (decide (Xd*3<=EH.length))<|some (A5.mk [.agg [.sc (.int .i64 x5),.sc (.int .u64 x8),.sc (.string (ByteArray.mk #[]))],.sc (.int .i64 0)] [[.own 3 Xd (List.take (Xd*3) EH),.sc (.int .i64 FH),.lst false 1 Fn Eu,.sc (.int .i64 G3)]])))) (Bi (x5==3) (Bi (decide (x8>1024)) (Ar (decide (Ic*3<=Ln.length))<|some (A5.mk [.agg [.sc (.int .i64 0),.sc (.int .u64 0),.sc (.string (ByteArray.mk #[]))],.sc (.int .i64 8)] [[.own 3 Ic (List.take (Ic*3) Ln),.sc (.int .i64 R9),.lst false 1 Fn Eu,.sc (.int .i64 G3)]])) (Aa (wrap .i64 ((↑Fn:Int)-G3)) fun DJ=>Aa (wrap .i64 x8) fun FS=>Bi (decide (DJ<FS)) (Ar (decide (Ic*3<=Ln.length))<|some (A5.mk [.agg [.sc (.int .i64 0),.sc (.int .u64 0),.sc (.string (ByteArray.mk #[]))],.sc (.int .i64 1)] [[.own 3 Ic (List.take (Ic*3) Ln),.sc (.int .i64 R9),.lst false 1 Fn Eu,.sc (.int .i64 G3)]])) (Aa (wrap .i64 x8) fun GW=>Aa (wrap .i64 (G3+GW)) fun AL=>Ar (decide (0<=G3))<|Ar (decide (0<=AL))<|Ar (decide (Int.toNat G3<=Int.toNat AL)&&decide (Int.toNat AL<=Fn))<|Aa (Int.toNat AL-Int.toNat G3) fun KL=>Aa (List.take (KL*1) (List.drop (Int.toNat G3*1) Eu)) fun MX=>Ar (decide (MX.length=KL))<|F8 (bytesOf MX) fun DH=>Aa (wrap .i64 x8) fun LX=>Aa (wrap .i64 (G3+LX)) fun QU=>Ar (decide (Ic*3<=Ln.length))<|Ai (call 79 [.pbox [.own 3 Ic (List.take (Ic*3) Ln),.sc (.int .i64 R9)],.agg [.sc (.int .i64 x5),.sc (.int .u64 0),.sc (.string (ByteArray.mk (List.toArray DH)))]]) fun RT OM=>Ab RT fun TH x83=>Ae .i64 TH fun VU=>Ac x83<|Ab OM fun x85 YL=>Ab x85 fun x87 YA=>Gl 3 x87 fun NB RV=>Ab YA fun UR x92=>Ae .i64 UR fun x93=>Ac x92<|Ac YL<|Bi (VU != 0) (Ar (decide (NB*3<=RV.length))<|some (A5.mk [.agg [.sc (.int .i64 0),.sc (.int .u64 0),.sc (.string (ByteArray.mk #[]))],.sc (.int .i64 VU)] [[.own 3 NB (List.take (NB*3) RV),.sc (.int .i64 x93),.lst false 1 Fn Eu,.sc (.int .i64 QU)]])) (Ar (decide (NB*3<=RV.length))<|some (A5.mk [.agg [.sc (.int .i64 x5),.sc (.int .u64 0),.sc (.string (ByteArray.mk (List.toArray DH)))],.sc (.int .i64 0)] [[.own 3 NB (List.take (NB*3) RV),.sc (.int .i64 x93),.lst false 1 Fn Eu,.sc (.int .i64 QU)]]))))) (Bi (x5==4) (Bi (decide (x8>1024)) (Ar (decide (Ic*3<=Ln.length))<|some (A5.mk [.agg [.sc (.int .i64 0),.sc (.int .u64 0),.sc (.string (ByteArray.mk #[]))],.sc (.int .i64 8)] [[.own 3 Ic (List.take (Ic*3) Ln),.sc (.int .i64 R9),.lst false 1 Fn Eu,.sc (.int .i64 G3)]])) (Aa (wrap .i64 ((↑Fn:Int)-G3)) fun x94=>Aa (wrap .i64 x8) fun x95=>Bi (decide (x94<x95)) (Ar (decide (Ic*3<=Ln.length))<|some (A5.mk [.agg [.sc (.int .i64 0),.sc (.int .u64 0),.sc (.string (ByteArray.mk #[]))],.sc (.int .i64 1)] [[.own 3 Ic (List.take (Ic*3) Ln),.sc (.int .i64 R9),.lst false 1 Fn Eu,.sc (.int .i64 G3)]])) (Aa (wrap .i64 x8) fun x96=>Aa (wrap .i64 (G3+x96)) fun WG=>Ar (decide (0<=G3))<|Ar (decide (0<=WG))<|Ar (decide (Int.toNat G3<=Int.toNat WG)&&decide (Int.toNat WG<=Fn))<|Aa (Int.toNat WG-Int.toNat G3) fun SB=>Aa (List.take (SB*1) (List.drop (Int.toNat G3*1) Eu)) fun x99=>Ar (decide (x99.length=SB))<|F8 (bytesOf x99) fun T0=>Aa (wrap .i64 x8) fun ES=>Aa (wrap .i64 (G3+ES)) fun Jq=>Ar (decide (Ic*3<=Ln.length))<|Ai (call 79 [.pbox [.own 3 Ic (List.take (Ic*3) Ln),.sc (.int .i64 R9)],.agg [.sc (.int .i64 x5),.sc (.int .u64 0),.sc (.string (ByteArray.mk (List.toArray T0)))]]) fun M0 Z4=>Ab M0 fun We Ww=>Ae .i64 We fun Qd=>Ac Ww<|Ab Z4 fun HM MD=>Ab HM fun PW QN=>Gl 3 PW fun Ma Q2=>Ab QN fun SP SF=>Ae .i64 SP fun MJ=>Ac SF<|Ac MD<|Bi (Qd != 0) (Ar (decide (Ma*3<=Q2.length))<|some (A5.mk [.agg [.sc (.int .i64 0),.sc (.int .u64 0),.sc (.string (ByteArray.mk #[]))],.sc (.int .i64 Qd)] [[.own 3 Ma (List.take (Ma*3) Q2),.sc (.int .i64 MJ),.lst false 1 Fn Eu,.sc (.int .i64 Jq)]])) (Ar (decide (Ma*3<=Q2.length))<|some (A5.mk [.agg [.sc (.int .i64 x5),.sc (.int .u64 0),.sc (.string (ByteArray.mk (List.toArray T0)))],.sc (.int .i64 0)] [[.own 3 Ma (List.take (Ma*3) Q2),.sc (.int .i64 MJ),.lst false 1 Fn Eu,.sc (.int .i64 Jq)]]))))) (Ar (decide (Ic*3<=Ln.length))<|Ai (call 79 [.pbox [.own 3 Ic (List.take (Ic*3) Ln),.sc (.int .i64 R9)],.agg [.sc (.int .i64 x5),.sc (.int .u64 x8),.sc (.string (ByteArray.mk #[]))]]) fun TZ SZ=>Ab TZ fun QW TO=>Ae .i64 QW fun LU=>Ac TO<|Ab SZ fun EB SG=>Ab EB fun QE CO=>Gl 3 QE fun DF IV=>Ab CO fun HA QT=>Ae .i64 HA fun MK=>Ac QT<|Ac SG<|Bi (LU != 0) (Ar (decide (DF*3<=IV.length))<|some (A5.mk [.agg [.sc (.int .i64 0),.sc (.int .u64 0),.sc (.string (ByteArray.mk #[]))],.sc (.int .i64 LU)] [[.own 3 DF (List.take (DF*3) IV),.sc (.int .i64 MK),.lst false 1 Fn Eu,.sc (.int .i64 G3)]])) (Ar (decide (DF*3<=IV.length))<|some (A5.mk [.agg [.sc (.int .i64 x5),.sc (.int .u64 x8),.sc (.string (ByteArray.mk #[]))],.sc (.int .i64 0)] [[.own 3 DF (List.take (DF*3) IV),.sc (.int .i64 MK),.lst false 1 Fn Eu,.sc (.int .i64 G3)]]))))))))) (Ad C0 prog fu d):=by kernel_rfl
abbrev AR:FuncId:=33
noncomputable def Mv (fu:Nat)(call:Ah)(Bd:Nat)(a0:List PV)(nn y0:Nat)(y1:List PV)(y2:Nat)(y3:Int)(y4:Nat)(y5:List PV)(y6:Int)(y7:List PV):Option A5:=Du CB prog fu call 33 Tryd.f33 (Ca Tryd.f33) [.lst false 1 Bd a0] [.r,.r,.l,.l] nn ⟨lk [(2,(.view 2 3 0 y0)),(5,(.ptr 5 0))],Br [(2,(.ar false y1)),(5,(.st [(.view 32 3 0 y2),(.sc (.int .i64 y3)),(.lst false 1 y4 y5),(.sc (.int .i64 y6))])),(32,(.ar false y7))]⟩
theorem IG (fu:Nat)(call:Ah)(Bd:Nat)(a0:List PV)(nn y0:Nat)(y1:List PV)(y2:Nat)(y3:Int)(y4:Nat)(y5:List PV)(y6:Int)(y7:List PV):Mv fu call Bd a0 (nn+1) y0 y1 y2 y3 y4 y5 y6 y7=(Ar (decide (y2*3<=y7.length))<|Ai (call 55 [.pbox [.own 3 y2 (List.take (y2*3) y7),.sc (.int .i64 y3)]]) fun x1 x2=>Ab x1 fun x3 x4=>Bu x3 fun x5=>Ac x4<|Ab x2 fun x6 x7=>Ab x6 fun x8 x9=>Gl 3 x8 fun C6 Dr=>Ab x9 fun Eg Ez=>Ae .i64 Eg fun D7=>Ac Ez<|Ac x7<|Bi (!x5) (Ar (decide (C6*3<=Dr.length))<|Ai (call 56 [.pbox [.own 3 C6 (List.take (C6*3) Dr),.sc (.int .i64 D7),.lst false 1 y4 y5,.sc (.int .i64 y6)]]) fun Ew Fw=>Ab Ew fun Gm G4=>Fm Gm fun Gi=>Ab Gi fun Gy Jk=>Ae .i64 Gy fun Ia=>Ab Jk fun Je Fn=>Ae .u64 Je fun Eu=>Ab Fn fun Hv J8=>Iz Hv fun G3=>Ac J8<|Ab G4 fun O6 M7=>Ae .i64 O6 fun Kw=>Ac M7<|Ab Fw fun Mz O8=>Ab Mz fun Pn O5=>Gl 3 Pn fun Ry Vb=>Ab O5 fun Ic Ln=>Ae .i64 Ic fun S4=>Ab Ln fun Xb R9=>Fq 1 Xb fun Ye Za X6=>Ab R9 fun Xc Yd=>Ae .i64 Xc fun Yq=>Ac Yd<|Ac O8<|Bi (Kw != 0) (some (A5.mk [.own 3 0 [],.sc (.int .i64 0),.sc (.int .i64 Kw)] [])) (Ar (decide (y0*3<=y1.length)&&true&&decide ((y0+1)*32<=1099511627776)&&decide (y0+1<=1099511627776))<|Aa (y0+1) fun Yu=>Aa (List.take (y0*3) y1++[.sc (.int .i64 Ia),.sc (.int .u64 Eu),.sc (.string G3)]) fun BD=>Mv fu call Bd a0 (nn) Yu BD Ry S4 Za X6 Yq Vb)) (Ar (decide (y0*3<=y1.length))<|some (A5.mk [.own 3 y0 (List.take (y0*3) y1),.sc (.int .i64 y6),.sc (.int .i64 0)] []))):=by kernel_rfl
theorem SS (fu d Bd:Nat)(a0:List PV):Ad C0 prog fu (d+1) AR [.lst false 1 Bd a0]=(fun (call:Ah)=>Mv fu call Bd a0 (fu) 0 ([]) 0 0 (Bd) (a0) 0 ([])) (Ad C0 prog fu d):=by kernel_rfl
end
section
open Go.Proofs.Tryd (prog)
open Go.IntKind (wrap)
structure Hd where
 k:Int
 n:Int
 e:Int
 at_:Nat
def Qv (n:Int):Int:=if n<24 then 0 else if n<256 then 1 else if n<65536 then 2 else if n<4294967296 then 4 else 8
def szE (low:Int):Nat:=if low=24 then 1 else if low=25 then 2 else if low=26 then 4 else 8
def Wk (b:List Int)(at_:Nat)(x:Int):Hd:=
 if x=244 then ⟨7,0,0,at_+1⟩ else if x=245 then ⟨7,1,0,at_+1⟩ else if x=246 then ⟨8,0,0,at_+1⟩
 else if x / 32>5 then ⟨0,0,2,at_+1⟩ else if x % 32>27 then ⟨0,0,2,at_+1⟩
 else if x % 32<24 then ⟨1+x / 32,x % 32,0,at_+1⟩
 else if b.length-(at_+1)<szE (x % 32) then ⟨0,0,1,at_+1⟩
 else if Qv (PY ((b.drop (at_+1)).take (szE (x % 32))))<szE (x % 32) then ⟨0,0,2,at_+1+szE (x % 32)⟩
 else ⟨1+x / 32,PY ((b.drop (at_+1)).take (szE (x % 32))),0,at_+1+szE (x % 32)⟩
def Hm (b:List Int)(at_:Nat):Hd:=match b[at_]? with|none=>⟨0,0,1,at_⟩|some x=>Wk b at_ x
theorem A8g {x:Int}(h:0<=x):Ik .u8 x 5=x / 32:=by
 unfold Ik;show x.fdiv (2 ^ (min (5:Int).toNat IntKind.u8.bits))=_;have h2:(2:Int) ^ (min (5:Int).toNat IntKind.u8.bits)=32:=by decide
 rw[h2,Int.fdiv_eq_ediv_of_nonneg _ (by omega)]
theorem A3y {x:Int}(h0:0<=x)(h1:x<=255):W7 .u8 x 31=x % 32:=by
 obtain⟨n,rfl⟩:=Int.eq_ofNat_of_zero_le h0;have hn:n<256:=by omega
 have e1:(BitVec.ofInt 8 (n:Int)).toNat=n:=by
  rw[BitVec.toNat_ofInt];omega
 have e2:(BitVec.ofInt 8 (31:Int)).toNat=2 ^ 5-1:=by decide
 unfold W7;show wrap .u8 ((BitVec.ofInt 8 (n:Int) &&& BitVec.ofInt 8 (31:Int)).toNat:Int)=_;rw[BitVec.toNat_and,e1,e2,Nat.and_two_pow_sub_one_eq_mod,Kx (by omega) (by omega)]
 omega
abbrev Ake (l:List Ha)(cnt:Int)(b:List Int)(at_:Nat):List PV:=[.own 3 l.length (F2 l),.sc (.int .i64 cnt),.lst false 1 b.length (Af .u8 b),.sc (.int .i64 at_)]
section
variable {fu d:Nat}
theorem Ami (n:Int):Ad C0 prog fu (d+1) GQ [.sc (.int .u64 n)]=some ⟨[.sc (.int .i64 (Qv n))],[]⟩:=by
 rw[XP];unfold Qv
 try unfold Aa
 repeat' first
  |((with_reducible first|apply Ax|apply Ap|apply Az|apply Aq);· first|with_reducible rfl|(simp (disch:=first|with_reducible assumption|omega) only[Cy,Bj]<;>with_reducible rfl))
  |((with_reducible first|apply A4|apply A3);· first|with_reducible rfl|with_reducible assumption|omega|(simp (disch:=first|with_reducible assumption|omega) only[gT,Cy,Bj]<;>omega))
  |(with_reducible apply Ay;· first|with_reducible rfl|with_reducible assumption|(simp (disch:=first|with_reducible assumption|omega) only[gF,Cy,Bj]<;>omega))
  |(with_reducible refine Apz ?_ ?_<;>intro hb<;>try simp only[decide_eq_true_eq,decide_eq_false_iff_not,beq_iff_eq,beq_eq_false_iff_ne,bne_iff_ne,bne_eq_false_iff_eq,ne_eq,Bool.not_eq_true',Bool.not_eq_false',Bool.not_eq_true,Bool.not_eq_false] at hb)
  |(with_reducible refine XV ?_ ?_)
 all_goals try simp (disch:=first|with_reducible assumption|omega) only[Cy,Bj]
theorem OE {Bd Ko:Nat}{a0 a2:List PV}{a1 a3 k cnt:Int}{l:List Ha}{b:List Int}{off sz:Nat}{q:List Int}(hq:q.length=sz)(hb:b.length<=1000000)(ho:off+sz<=b.length):∀(r:List Int)(i nn:Nat)(v:Int),q.drop i=r->r.length<nn->i<=sz ->
    Hw fu (Ad C0 prog fu (d+1)) Bd a0 a1 Ko a2 a3 nn k v (sz:Int) sz (Af .u8 q) (sz:Int) (i:Int) l.length cnt b.length (Af .u8 b) (off:Int) (F2 l) =
      (if Qv (r.foldl Gj v)<sz then some ⟨[.sc (.int .i64 0),.sc (.int .u64 0),.sc (.int .i64 2)],[Ake l cnt b (off+sz)]⟩
       else some ⟨[.sc (.int .i64 k),.sc (.int .u64 (r.foldl Gj v)),.sc (.int .i64 0)],[Ake l cnt b (off+sz)]⟩)
  |_,_,0,_,_,h,_=>by omega
  |[],i,nn+1,v,hd,hn,hi=>by
    have:=drop_nil hd
    have sh:=Ami (fu:=fu) (d:=d) v
    have L:=Dn l
    have t:=D1 l
    have w:wrap .i64 ((off:Int)+(sz:Int))=((off+sz:Nat):Int):=by rw[Ak (by omega) (by omega)];omega
    rw[Ng,Fi _ _ _ (by omega),List.foldl_nil]
    by_cases hs:Qv v<sz
    · rw[Cy hs]
      simp (disch:=omega) only[Cu,w,sh,L,t,Dp]
    · rw[Bj hs]
      simp (disch:=omega) only[Cu,w,sh,L,t,Dp]
  |x::r,i,nn+1,v,hd,hn,hi=>by
    obtain⟨h1,h2,h3⟩:=Dx hd
    simp only[Io] at hn
    have g0:=BI (k:=.u8) h2
    have w:wrap .i64 ((i:Int)+1)=((i+1:Nat):Int):=by rw[Ak (by omega) (by omega)];omega
    have ih:=OE (Bd:=Bd) (Ko:=Ko) (a0:=a0) (a2:=a2) (a1:=a1) (a3:=a3) (k:=k) (cnt:=cnt) (l:=l) hq hb ho r (i+1) nn (Gj v x) h3 (by omega) (by omega)
    rw[List.foldl_cons,←ih,Ng]
    simp (disch:=omega) only[Cu,Hs,Dp,g0,w]
theorem Amx {l:List Ha}{cnt:Int}{b:List Int}{at_:Nat}(Cb:1000<=fu)(hb:Kg b)(hl:b.length<=1000000):
  Ad C0 prog fu (d+2) Q7 [.pbox (Ake l cnt b at_)]=some ⟨[.sc (.int .i64 (Hm b at_).k),.sc (.int .u64 (Hm b at_).n),.sc (.int .i64 (Hm b at_).e)],[Ake l cnt b (Hm b at_).at_]⟩:=by
 refine (DA fu (d+1) l.length (F2 l) cnt b.length (Af .u8 b) (at_:Int)).trans ?_;have L:=Dn l;have t:=D1 l;have Lb:=At .u8 b;have tb:=Tl .u8 b;unfold Hm;by_cases Cd:at_<b.length
 rotate_left
 ·have hg:b[at_]?=none:=List.getElem?_eq_none (by omega)
  rw[hg];simp (disch:=omega) only[Cu,L,t,Lb,tb,Dp]
 have hg:b[at_]?=some b[at_]:=List.getElem?_eq_getElem Cd;have hB:=hb _ (List.getElem_mem Cd);rw[hg];generalize b[at_]=x at hg hB;have g0:=BI (k:=.u8) hg;have w1:wrap .i64 ((at_:Int)+1)=((at_+1:Nat):Int):=by rw[Ak (by omega) (by omega)];omega
 have s5:=A8g hB.1;have a31:=A3y hB.1 hB.2;unfold Wk;simp only;by_cases c1:x=244
 ·subst c1;have q:wrap .u64 (wrap .u8 ((244:Int)-244))=0:=by decide
  simp (disch:=omega) only[Cu,Hs,C8,Dp,g0,Int.reduceBEq,w1,L,t,Lb,tb,q]
 rw[Bj c1];have b1:(x==(244:Int))=false:=by simp[c1]
 by_cases c2:x=245
 ·subst c2;have q:wrap .u64 (wrap .u8 ((245:Int)-244))=1:=by decide
  simp (disch:=omega) only[Cu,Hs,C8,Dp,g0,Int.reduceBEq,w1,L,t,Lb,tb,q,if_true]
 rw[Bj c2];have b2:(x==(245:Int))=false:=by simp[c2]
 by_cases c3:x=246
 ·subst c3;simp (disch:=omega) only[Cu,Hs,C8,Dp,g0,Int.reduceBEq,w1,L,t,Lb,tb,if_true]
 rw[Bj c3];have b3:(x==(246:Int))=false:=by simp[c3]
 by_cases c4:x / 32>5
 ·rw[Cy c4];simp (disch:=omega) only[Cu,Hs,C8,Dp,g0,b1,b2,b3,s5,a31,w1,L,t,Lb,tb]
 rw[Bj c4];by_cases c5:x % 32>27
 ·rw[Cy c5];simp (disch:=omega) only[Cu,Hs,C8,Dp,g0,b1,b2,b3,s5,a31,w1,L,t,Lb,tb]
 rw[Bj c5];have wk1:wrap .i64 (x / 32)=x / 32:=Ak (by omega) (by omega)
 have wk2:wrap .i64 (1+x / 32)=1+x / 32:=Ak (by omega) (by omega)
 by_cases c6:x % 32<24
 ·have wn:wrap .u64 (x % 32)=x % 32:=Ea (by omega) (by omega)
  rw[Cy c6];simp (disch:=omega) only[Cu,Hs,C8,Dp,g0,b1,b2,b3,s5,a31,w1,wk1,wk2,wn,L,t,Lb,tb]
 rw[Bj c6];have q1:wrap .u8 (x % 32-24)=x % 32-24:=Kx (by omega) (by omega)
 have q2:Jj .i64 1 (x % 32-24)=(szE (x % 32):Int):=by
  have:x % 32=24∨x % 32=25∨x % 32=26∨x % 32=27:=by omega
  rcases this with h|h|h|h<;>rw[h]<;>decide
 have q3:szE (x % 32)<=8:=by
  unfold szE
  repeat' split
  all_goals omega
 generalize szE (x % 32)=sz at q2 q3 ⊢;have q4:wrap .i64 ((b.length:Int)-((at_+1:Nat):Int))=((b.length-(at_+1):Nat):Int):=by rw[Ak (by omega) (by omega)];omega
 by_cases c7:b.length-(at_+1)<sz
 ·rw[Cy c7];simp (disch:=omega) only[Cu,Hs,C8,Dp,g0,b1,b2,b3,s5,a31,w1,wk1,wk2,q1,q2,q4,L,t,Lb,tb]
 rw[Bj c7];have q5:wrap .i64 (((at_+1:Nat):Int)+(sz:Int))=((at_+1+sz:Nat):Int):=by rw[Ak (by omega) (by omega)];omega
 have q6:at_+1+sz-(at_+1)=sz:=by omega
 have lp:=OE (fu:=fu) (d:=d) (Bd:=l.length) (Ko:=b.length) (a0:=F2 l) (a2:=Af .u8 b) (a1:=cnt) (a3:=(at_:Int)) (k:=1+x / 32) (cnt:=cnt) (l:=l) (b:=b) (off:=at_+1) (sz:=sz) (q:=(b.drop (at_+1)).take sz) (by rw[List.length_take,List.length_drop];omega) hl (by omega) _ 0 fu 0 rfl (by rw[Fg,List.length_take];omega) (by omega)
 rw[Fg] at lp;have lp':=lp;unfold PY;by_cases c8:Qv (((b.drop (at_+1)).take sz).foldl Gj 0)<sz
 ·rw[Cy c8] at lp' ⊢;simp (disch:=omega) only[Cu,Hs,C8,Dp,g0,b1,b2,b3,s5,a31,w1,wk1,wk2,q1,q2,q4,q5,q6,J6,Qg,L,t,Lb,tb];exact lp'
 ·rw[Bj c8] at lp' ⊢;simp (disch:=omega) only[Cu,Hs,C8,Dp,g0,b1,b2,b3,s5,a31,w1,wk1,wk2,q1,q2,q4,q5,q6,J6,Qg,L,t,Lb,tb];exact lp'
end
end
section
open Go.Proofs.Tryd (prog)
open Go.IntKind (wrap)
structure Rd where
 x:It
 e:Int
 l:List Ha
 cnt:Int
 at_:Nat
def it0:It:=⟨0,0,⟨#[]⟩⟩
def Wj (l:List Ha)(cnt:Int)(x:It)(at_:Nat):Rd:=if (Eo l x).1=0 then ⟨x,0,(Eo l x).2,cnt+1,at_⟩ else ⟨it0,(Eo l x).1,(Eo l x).2,cnt,at_⟩
def YM (l:List Ha)(cnt:Int)(b:List Int)(h:Hd):Rd:=
 if h.e≠0 then ⟨it0,h.e,l,cnt,h.at_⟩
 else if L6 l cnt h.k≠0 then ⟨it0,L6 l cnt h.k,l,cnt,h.at_⟩
 else if h.k=5∨h.k=6 then (if h.n>512 then ⟨it0,8,l,cnt,h.at_⟩ else Wj l cnt ⟨h.k,h.n,⟨#[]⟩⟩ h.at_)
 else if h.k=3∨h.k=4 then (if h.n>1024 then ⟨it0,8,l,cnt,h.at_⟩ else if b.length-h.at_<h.n.toNat then ⟨it0,1,l,cnt,h.at_⟩
  else Wj l cnt ⟨h.k,0,Dq ((b.drop h.at_).take h.n.toNat)⟩ (h.at_+h.n.toNat))
 else Wj l cnt ⟨h.k,h.n,⟨#[]⟩⟩ h.at_
def Gg (l:List Ha)(cnt:Int)(b:List Int)(at_:Nat):Rd:=YM l cnt b (Hm b at_)
theorem KC (a b:Int):0<=Gj a b∧Gj a b<=18446744073709551615:=Qy _
theorem Xr:∀(l:List Int)(v:Int),0<=v->v<=18446744073709551615->0<=l.foldl Gj v∧l.foldl Gj v<=18446744073709551615
 |[],v,h0,h1=>⟨h0,h1⟩
 |x::l,v,h0,h1=>Xr l _ (KC v x).1 (KC v x).2
theorem VV {b:List Int}{at_:Nat}(hb:Kg b)(ha:at_<=b.length):(Hm b at_).at_<=b.length∧((Hm b at_).e=0->1<=(Hm b at_).k∧(Hm b at_).k<=8∧0<=(Hm b at_).n∧(Hm b at_).n<=18446744073709551615∧at_<(Hm b at_).at_):=by
 unfold Hm;by_cases Cd:at_<b.length
 rotate_left
 ·have hg:b[at_]?=none:=List.getElem?_eq_none (by omega)
  rw[hg];exact⟨ha,fun h=>by simp at h⟩
 have hg:b[at_]?=some b[at_]:=List.getElem?_eq_getElem Cd;have hB:=hb _ (List.getElem_mem Cd);rw[hg];generalize b[at_]=x at hB;have hd:=Xr ((b.drop (at_+1)).take (szE (x % 32))) 0 (by omega) (by omega)
 show (Wk b at_ x).at_<=b.length∧_;simp only[Wk];unfold PY
 repeat' split
 all_goals refine⟨by simp only;omega,fun h=>?_⟩
 all_goals first
  |(simp at h;done)
  |(simp only;omega)
section
variable {fu d:Nat}
theorem And {l:List Ha}{cnt:Int}{b:List Int}{at_:Nat}(Cb:1000<=fu)(hb:Kg b)(hl:b.length<=1000000)(ha:at_<=b.length)(hf:l.length<=900)(h0:0<=cnt)(h1:cnt<=1000000):
  Ad C0 prog fu (d+4) Rh [.pbox (Ake l cnt b at_)]=some ⟨[.agg (Gg l cnt b at_).x.cells,.sc (.int .i64 (Gg l cnt b at_).e)],[Ake (Gg l cnt b at_).l (Gg l cnt b at_).cnt b (Gg l cnt b at_).at_]⟩:=by
 refine (CZ fu (d+3) l.length (F2 l) cnt b.length (Af .u8 b) (at_:Int)).trans ?_;have hd:=Amx (fu:=fu) (d:=d+1) (l:=l) (cnt:=cnt) (at_:=at_) Cb hb hl;have hk:=VV hb ha;unfold Gg;generalize Hm b at_=h at hd hk ⊢;obtain⟨k,n,e,a⟩:=h;obtain⟨ka,hk⟩:=hk;simp only at hd ka hk;have L:=Dn l;have t:=D1 l;have ad:=Abp (fu:=fu) (d:=d+1) (l:=l) (by omega) cnt k
 unfold M1 at ad;unfold YM;by_cases he:e=0
 rotate_left
 ·simp only[ne_eq,he,not_false_eq_true,if_true];have VM:(e != 0)=true:=by simp[he]
  try unfold Aa
  repeat first
   |((with_reducible first|apply Ax|apply Ap|apply Az|apply Bq|apply Bv|apply Aft|apply Aq|apply A4|apply A3);· first|with_reducible rfl|(simp (disch:=omega) only[gT,hd,VM,L,t]<;>first|with_reducible rfl|omega)|omega)
   |(with_reducible apply Ay;· first|with_reducible rfl|(simp (disch:=omega) only[gF,hd,VM,L,t]<;>omega))
  try simp (disch:=omega) only[hd,VM,L,t]
  all_goals rfl
 subst he;obtain⟨k1,k8,n0,n1,_⟩:=hk rfl;obtain⟨m,rfl⟩:=Int.eq_ofNat_of_zero_le n0;have e00:((0:Int) != 0)=false:=rfl;simp only[ne_eq,not_true_eq_false,if_false];by_cases hm:L6 l cnt k=0
 rotate_left
 ·simp only[hm,not_false_eq_true,if_true];have VM:(L6 l cnt k != 0)=true:=by simp[hm]
  try unfold Aa
  repeat first
   |((with_reducible first|apply Ax|apply Ap|apply Az|apply Bq|apply Bv|apply Aft|apply Aq|apply A4|apply A3);· first|with_reducible rfl|(simp (disch:=omega) only[gT,hd,e00,ad,VM,L,t]<;>first|with_reducible rfl|omega)|omega)
   |(with_reducible apply Ay;· first|with_reducible rfl|(simp (disch:=omega) only[gF,hd,e00,ad,VM,L,t]<;>omega))
  try simp (disch:=omega) only[hd,e00,ad,VM,L,t]
  all_goals rfl
 rw[hm] at ad ⊢;simp only[not_true_eq_false,if_false,Hs];have ac1:=VA (fu:=fu) (d:=d) (l:=l) (x:=⟨k,m,⟨#[]⟩⟩) (cnt:=cnt) Cb (by omega) h0 h1 ⟨k1,k8,n0,Nat.zero_le _⟩ (Nat.zero_le _)
 have LA:=Dn (Eo l ⟨k,m,⟨#[]⟩⟩).2;have tA:=D1 (Eo l ⟨k,m,⟨#[]⟩⟩).2;have B:=fun (hn:m<=1024)=>VA (fu:=fu) (d:=d) (l:=l) (x:=⟨k,0,Dq ((b.drop a).take m)⟩) (cnt:=cnt) Cb (by omega) h0 h1 ⟨k1,k8,by simp,by rw[P8,List.length_take];omega⟩ (by rw[P8,List.length_take];omega)
 have LB:=Dn (Eo l ⟨k,0,Dq ((b.drop a).take m)⟩).2;have tB:=D1 (Eo l ⟨k,0,Dq ((b.drop a).take m)⟩).2;unfold Wj;generalize Eo l ⟨k,m,⟨#[]⟩⟩=A at *
 obtain⟨A1,A2⟩:=A;have eB:ByteArray.mk (List.toArray (((b.drop a).take m).map fun n=>n.toNat.toUInt8))=Dq ((b.drop a).take m):=rfl
 have bo:=Lh ((b.drop a).take m);have tk:List.take m (List.drop a (Af .u8 b))=Af .u8 ((b.drop a).take m):=by rw[J6,Qg]
 have lq:(Af .u8 ((b.drop a).take m)).length=min m (b.length-a):=by rw[At,List.length_take,List.length_drop]
 have Lb:=At .u8 b;generalize Dq ((b.drop a).take m)=S at *
 generalize Eo l ⟨k,0,S⟩=B' at *
 obtain⟨B1,B2⟩:=B';generalize (b.drop a).take m=q at *
 unfold M1 It.cells at ac1 B;simp only at ac1 B LA tA LB tB;have w1:wrap .i64 ((b.length:Int)-(a:Int))=((b.length-a:Nat):Int):=by rw[Ak (by omega) (by omega)];omega
 have w2:m<=1024->wrap .i64 (m:Int)=m:=fun h=>Ak (by omega) (by omega)
 have w3:m<=1024->wrap .i64 ((a:Int)+(m:Int))=((a+m:Nat):Int):=fun h=>by rw[Ak (by omega) (by omega)];omega
 have w4:a+m-a=m:=by omega
 try unfold Aa
 repeat' first
  |((with_reducible first|apply Ax|apply Ap|apply Az|apply Bq|apply Bv|apply Aft|apply Aq);· first|with_reducible rfl|(simp (disch:=first|with_reducible assumption|omega) only[hd,e00,ad,L,t,ac1,LA,tA,B,LB,tB,w1,w2,w3,w4,tk,bo,lq,eB,Hs,Dp,C8]<;>with_reducible rfl))
  |((with_reducible first|apply A4|apply A3);· first|with_reducible rfl|with_reducible assumption|omega|(simp (disch:=first|with_reducible assumption|omega) only[gT,hd,e00,ad,L,t,ac1,LA,tA,B,LB,tB,w1,w2,w3,w4,tk,bo,lq,eB,Hs,Dp,C8]<;>omega))
  |(with_reducible apply Ay;· first|with_reducible rfl|with_reducible assumption|(simp (disch:=first|with_reducible assumption|omega) only[gF,hd,e00,ad,L,t,ac1,LA,tA,B,LB,tB,w1,w2,w3,w4,tk,bo,lq,eB,Hs,Dp,C8]<;>omega))
  |(with_reducible refine Apz ?_ ?_<;>intro hb<;>try simp only[decide_eq_true_eq,decide_eq_false_iff_not,beq_iff_eq,beq_eq_false_iff_ne,bne_iff_ne,bne_eq_false_iff_eq,ne_eq,Bool.not_eq_true',Bool.not_eq_false',Bool.not_eq_true,Bool.not_eq_false] at hb)
  |(with_reducible refine XV ?_ ?_)
 all_goals try simp (disch:=first|with_reducible assumption|omega) only[hd,e00,ad,L,t,ac1,LA,tA,B,LB,tB,w1,w2,w3,w4,tk,bo,lq,eB,Hs,Dp,C8,Cy,Bj]
 all_goals rfl
end
end
section
open Go.Proofs.Tryd (prog)
open Go.IntKind (wrap)
def RO (l:List Ha)(cnt:Int):Bool:=decide (cnt>0)&&((l.length:Int)==0)
def Jd:Nat->List Ha->Int->List Int->Nat->List It->List It × Nat × Int
 |0,_,_,_,_,_=>([],0,2)
 |m+1,l,cnt,b,at_,its=>if RO l cnt=true then (its,at_,0) else
  if (Gg l cnt b at_).e≠0 then ([],0,(Gg l cnt b at_).e) else Jd m (Gg l cnt b at_).l (Gg l cnt b at_).cnt b (Gg l cnt b at_).at_ (its++[(Gg l cnt b at_).x])
def Aez (r:List It × Nat × Int):List PV:=[.own 3 r.1.length (Bf r.1),.sc (.int .i64 r.2.1),.sc (.int .i64 r.2.2)]
theorem Aqi (l:List Ha):(FT l).length<=l.length:=by
 unfold FT;rw[List.length_reverse];have:=(List.dropWhile_sublist (l:=l.reverse) fun f=>f.left==0).length_le
 rw[List.length_reverse] at this;exact this
theorem UV (l:List Ha)(x:It):(Gt l x).length<=l.length+1:=by
 unfold Gt;refine Nat.le_trans (Aqi _) ?_;have:=BC l;unfold RQ
 repeat' split
 all_goals simp
 all_goals omega
theorem Agm (l:List Ha)(k:List Int):(K6 l k).length=l.length:=by
 rcases Jp l with rfl|⟨l',f,rfl⟩
 ·rfl
 ·rw[Om];simp
theorem Adw (l:List Ha)(x:It):(Eo l x).2.length<=l.length+1:=by
 unfold Eo;have h1:=UV l x;have h2:=UV (K6 l (Do x)) x;rw[Agm] at h2
 repeat' split
 all_goals simp only
 all_goals omega
structure OkX (x:It):Prop where
 k1:1<=x.k
 k8:x.k<=8
 n0:0<=x.n
 n1:x.n<=18446744073709551615
 s1:x.s.size<=1024
theorem Am3 {l:List Ha}{cnt k:Int}(h:L6 l cnt k=0):cnt<512∧l.length<=8:=by
 unfold L6 at h
 repeat' split at h
 all_goals first
  |(cases h;done)
  |omega
theorem NR {l:List Ha}{cnt:Int}{x:It}{at_:Nat}(hx:OkX x)(h:(Wj l cnt x at_).e=0):(Wj l cnt x at_).cnt=cnt+1∧(Wj l cnt x at_).l.length<=l.length+1∧(Wj l cnt x at_).at_=at_∧OkX (Wj l cnt x at_).x:=by
 have:=Adw l x;unfold Wj at h ⊢;by_cases hz:(Eo l x).1=0
 ·rw[Cy hz];exact⟨rfl,this,rfl,hx⟩
 ·rw[Bj hz] at h;exact absurd h hz
theorem HT {l:List Ha}{cnt:Int}{b:List Int}{at_:Nat}(hb:Kg b)(ha:at_<=b.length)(h:(Gg l cnt b at_).e=0):
  cnt<512∧(Gg l cnt b at_).cnt=cnt+1∧(Gg l cnt b at_).l.length<=9∧at_<(Gg l cnt b at_).at_∧(Gg l cnt b at_).at_<=b.length∧OkX (Gg l cnt b at_).x:=by
 have hk:=VV hb ha;unfold Gg at h ⊢;generalize Hm b at_=q at h hk ⊢;obtain⟨k,n,e,a⟩:=q;obtain⟨ka,hk⟩:=hk;unfold YM at h ⊢;simp only at h hk ka ⊢;by_cases he:e=0
 rotate_left
 ·rw[Cy he] at h;exact absurd h he
 subst he;obtain⟨k1,k8,n0,n1,Cd⟩:=hk rfl;rw[Bj (by simp)] at h ⊢
 by_cases hm:L6 l cnt k=0
 rotate_left
 ·rw[Cy hm] at h;exact absurd h hm
 obtain⟨c1,c2⟩:=Am3 hm;rw[Bj (by simp[hm])] at h ⊢
 have z:(ByteArray.mk #[]).size<=1024:=Nat.zero_le _;by_cases h56:k=5∨k=6
 ·rw[Cy h56] at h ⊢;by_cases hn:n>512
  ·rw[Cy hn] at h;exact absurd h (by simp)
  ·rw[Bj hn] at h ⊢;obtain⟨p1,p2,p3,p4⟩:=NR ⟨k1,k8,n0,n1,z⟩ h;exact⟨c1,p1,by omega,by omega,by omega,p4⟩
 ·rw[Bj h56] at h ⊢;by_cases h34:k=3∨k=4
  ·rw[Cy h34] at h ⊢;by_cases hn:n>1024
   ·rw[Cy hn] at h;exact absurd h (by simp)
   ·rw[Bj hn] at h ⊢;by_cases hr:b.length-a<n.toNat
    ·rw[Cy hr] at h;exact absurd h (by simp)
    ·rw[Bj hr] at h ⊢;obtain⟨p1,p2,p3,p4⟩:=NR ⟨k1,k8,by simp,by simp,by rw[P8,List.length_take];omega⟩ h
     exact⟨c1,p1,by omega,by omega,by omega,p4⟩
  ·rw[Bj h34] at h ⊢;obtain⟨p1,p2,p3,p4⟩:=NR ⟨k1,k8,n0,n1,z⟩ h;exact⟨c1,p1,by omega,by omega,by omega,p4⟩
theorem Abf {b:List Int}(hb:Kg b):∀(m:Nat)(l:List Ha)(cnt:Int)(at_:Nat)(its:List It),at_<=b.length->(∀x∈its,OkX x)->(Jd m l cnt b at_ its).2.1<=b.length∧∀x∈(Jd m l cnt b at_ its).1,OkX x
 |0,l,cnt,at_,its,h,hi=>⟨by simp[Jd],by intro x hx;simp[Jd] at hx⟩
 |m+1,l,cnt,at_,its,h,hi=>by
  unfold Jd;by_cases hd:RO l cnt=true
  ·rw[Cy hd];exact⟨h,hi⟩
  ·rw[Bj hd];by_cases he:(Gg l cnt b at_).e=0
   ·rw[Bj (by simp[he])]
    obtain⟨_,_,_,_,p,q⟩:=HT hb h he;refine Abf hb m _ _ _ _ p ?_;intro x hx;rcases List.mem_append.1 hx with hx|hx
    ·exact hi x hx
    ·simp at hx;subst hx;exact q
   ·rw[Cy he];exact⟨by simp,by intro x hx;simp at hx⟩
section
variable {fu d:Nat}
theorem Adi (Cb:1000<=fu){Bd:Nat}{a0:List PV}{b:List Int}(hb:Kg b)(hl:b.length<=1000000):∀(nn:Nat)(l:List Ha)(cnt:Int)(at_:Nat)(its:List It),0<=cnt->cnt<=512->512-cnt<nn->l.length<=9->at_<=b.length->its.length=cnt.toNat ->
  Mv fu (Ad C0 prog fu (d+4)) Bd a0 nn its.length (Bf its) l.length cnt b.length (Af .u8 b) (at_:Int) (F2 l)=some ⟨Aez (Jd nn l cnt b at_ its),[]⟩
 |0,_,_,_,_,_,_,h,_,_,_=>by omega
 |nn+1,l,cnt,at_,its,h0,h1,hn,hf,ha,hi=>by
  have dn:=XK (fu:=fu) (d:=d+3) l cnt;have ri:=And (fu:=fu) (d:=d) (l:=l) (cnt:=cnt) (b:=b) (at_:=at_) Cb hb hl ha (by omega) h0 (by omega)
  have ok:=HT (l:=l) (cnt:=cnt) hb ha;have L:=Dn l;have t:=D1 l;have LT:=H0 its;have tT:List.take (its.length*3) (Bf its)=Bf its:=My (by omega)
  have ih:=Adi Cb (Bd:=Bd) (a0:=a0) hb hl nn;rw[IG];unfold Jd;unfold M1 at dn;change _=some (A5.mk [.sc (.bool (RO l cnt))] _) at dn;generalize Gg l cnt b at_=r at ri ok ⊢;obtain⟨x,e,l2,cnt2,at2⟩:=r;simp only at ri ok ⊢;cases hd:RO l cnt
  ·rw[hd] at dn;rw[Bj (by simp)]
   by_cases he:e=0
   ·subst he;obtain⟨p1,rfl,p3,p4,p5,p6⟩:=ok rfl;have q:=ih l2 (cnt+1) at2 (its++[x]) (by omega) (by omega) (by omega) p3 p5 (by simp;omega)
    rw[Bj (by simp),←q,Abs,Kb]
    have e1:Bf [x]=x.cells:=by simp[Bf]
    rw[e1];obtain⟨xk,xn,xs⟩:=x;unfold It.cells at ri ⊢;have e00:((0:Int) != 0)=false:=rfl
    try unfold Aa
    repeat first
     |((with_reducible first|apply Ax|apply Ap|apply Az|apply A9|apply Cz|apply Bq|apply Bv|apply Bp|apply Aq|apply A4|apply A3);· first|with_reducible rfl|(simp (disch:=omega) only[gT,dn,ri,e00,L,t,LT,tT]<;>first|with_reducible rfl|omega)|omega)
     |(with_reducible apply Ay;· first|with_reducible rfl|(simp (disch:=omega) only[gF,dn,ri,e00,L,t,LT,tT]<;>omega))
    try simp (disch:=omega) only[dn,ri,e00,L,t,LT,tT]
    all_goals rfl
   ·have VM:(e != 0)=true:=by simp[he]
    rw[Cy he];obtain⟨xk,xn,xs⟩:=x;unfold It.cells at ri
    try unfold Aa
    repeat first
     |((with_reducible first|apply Ax|apply Ap|apply Az|apply A9|apply Cz|apply Bq|apply Bv|apply Bp|apply Aq|apply A4|apply A3);· first|with_reducible rfl|(simp (disch:=omega) only[gT,dn,ri,VM,L,t,LT,tT]<;>first|with_reducible rfl|omega)|omega)
     |(with_reducible apply Ay;· first|with_reducible rfl|(simp (disch:=omega) only[gF,dn,ri,VM,L,t,LT,tT]<;>omega))
    try simp (disch:=omega) only[dn,ri,VM,L,t,LT,tT]
    all_goals rfl
  ·rw[hd] at dn;rw[Cy rfl]
   try unfold Aa
   repeat first
    |((with_reducible first|apply Ax|apply Ap|apply Az|apply A9|apply Cz|apply Bq|apply Bv|apply Bp|apply Aq|apply A4|apply A3);· first|with_reducible rfl|(simp (disch:=omega) only[gT,dn,L,t,LT,tT]<;>first|with_reducible rfl|omega)|omega)
    |(with_reducible apply Ay;· first|with_reducible rfl|(simp (disch:=omega) only[gF,dn,L,t,LT,tT]<;>omega))
   try simp (disch:=omega) only[dn,L,t,LT,tT]
   all_goals rfl
theorem Ak2 (Cb:1000<=fu){b:List Int}(hb:Kg b)(hl:b.length<=1000000):
  Ad C0 prog fu (d+5) AR [.lst false 1 b.length (Af .u8 b)]=some ⟨Aez (Jd fu [] 0 b 0 []),[]⟩:=by
 rw[SS];exact Adi Cb hb hl fu [] 0 0 [] (by omega) (by omega) (by omega) (by simp) (by omega) (by simp)
end
end
section
open Go.IntKind (wrap)
theorem Avf {n:Int}(h0:0<=n):(n<256->PY (tb n 1)=n)∧(n<65536->PY (tb n 2)=n)∧(n<4294967296->PY (tb n 4)=n)∧(n<=18446744073709551615->PY (tb n 8)=n):=by
 have st:∀(k:Nat) (D:Int),n<=18446744073709551615->k<8->(2:Int) ^ (56-8*k)=D->0<D->Gj (n / D / 256) (Dv n k)=n / D:=by
  intro k D h1 hk hD hp;rw[UI k hk,hD];exact Avx (Int.ediv_nonneg h0 (Int.le_of_lt hp)) (Int.le_trans (Int.ediv_le_self _ h0) h1)
 refine⟨fun h=>?_,fun h=>?_,fun h=>?_,fun h=>UQ h0 h⟩
 ·have s7:=st 7 1 (by omega) (by omega) (by decide) (by omega)
  rw[show n / 1 / 256=0 by omega,show n / 1=n by omega] at s7
  exact s7
 ·have s6:=st 6 256 (by omega) (by omega) (by decide) (by omega)
  have s7:=st 7 1 (by omega) (by omega) (by decide) (by omega)
  rw[show n / 256 / 256=0 by omega] at s6
  rw[show n / 1 / 256=n / 256 by omega,show n / 1=n by omega] at s7
  show Gj (Gj 0 (Dv n 6)) (Dv n 7)=n;rw[s6,s7]
 ·have s4:=st 4 16777216 (by omega) (by omega) (by decide) (by omega)
  have s5:=st 5 65536 (by omega) (by omega) (by decide) (by omega)
  have s6:=st 6 256 (by omega) (by omega) (by decide) (by omega)
  have s7:=st 7 1 (by omega) (by omega) (by decide) (by omega)
  rw[show n / 16777216 / 256=0 by omega] at s4
  rw[show n / 65536 / 256=n / 16777216 by omega] at s5
  rw[show n / 256 / 256=n / 65536 by omega] at s6
  rw[show n / 1 / 256=n / 256 by omega,show n / 1=n by omega] at s7
  show Gj (Gj (Gj (Gj 0 (Dv n 4)) (Dv n 5)) (Dv n 6)) (Dv n 7)=n;rw[s4,s5,s6,s7]
theorem Y2 {b:List Int}{at_:Nat}{mj n low:Int}{k:Nat}{rest:List Int}(m0:0<=mj)(m5:mj<=5)(l0:24<=low)(l1:low<=27)(hk:szE low=k)(h:b.drop (at_+1)=tb n k++rest) (hd:PY (tb n k)=n) (hs:¬(Qv n<(k:Int))):
  Wk b at_ (32*mj+low)=⟨1+mj,n,0,at_+1+k⟩:=by
 have e1:(32*mj+low) / 32=mj:=by omega
 have e2:(32*mj+low) % 32=low:=by omega
 have e3:(b.drop (at_+1)).take k=tb n k:=by rw[h,List.take_left' (CN n k)]
 have e4:k<=b.length-(at_+1):=by
  have:=congrArg List.length h;rw[List.length_drop,Kb,CN] at this;omega
 unfold Wk;rw[e1,e2,hk,e3,hd,Bj (by omega),Bj (by omega),Bj (by omega),Bj (by omega),Bj (by omega),Bj (by omega),Bj (by omega),Bj hs]
theorem CM {b:List Int}{at_:Nat}{mj n:Int}{rest:List Int}(h:b.drop at_=D0 mj n++rest)(m0:0<=mj)(m5:mj<=5)(n0:0<=n)(n1:n<=18446744073709551615):
  Hm b at_=⟨1+mj,n,0,at_+(D0 mj n).length⟩:=by
 obtain⟨d1,d2,d4,d8⟩:=Avf n0;unfold Hm;unfold D0 at h ⊢;by_cases c1:n<24
 ·rw[Cy c1] at h ⊢;obtain⟨_,g,_⟩:=Dx h;rw[g];show Wk b at_ (32*mj+n)=_;unfold Wk;have e1:(32*mj+n) / 32=mj:=by omega
  have e2:(32*mj+n) % 32=n:=by omega
  rw[e1,e2,Bj (by omega),Bj (by omega),Bj (by omega),Bj (by omega),Bj (by omega),Cy c1]
  rfl
 rw[Bj c1] at h ⊢;by_cases c2:n<256
 ·rw[Cy c2] at h ⊢;obtain⟨_,g,g2⟩:=Dx h;rw[g];have:=Y2 (at_:=at_) m0 m5 (low:=24) (by omega) (by omega) (k:=1) (by decide) g2 (d1 c2) (by unfold Qv;rw[Bj c1,Cy c2];omega)
  show Wk b at_ (32*mj+24)=_;rw[this,Io,CN]
 rw[Bj c2] at h ⊢;by_cases c3:n<65536
 ·rw[Cy c3] at h ⊢;obtain⟨_,g,g2⟩:=Dx h;rw[g];have:=Y2 (at_:=at_) m0 m5 (low:=25) (by omega) (by omega) (k:=2) (by decide) g2 (d2 c3) (by unfold Qv;rw[Bj c1,Bj c2,Cy c3];omega)
  show Wk b at_ (32*mj+25)=_;rw[this,Io,CN]
 rw[Bj c3] at h ⊢;by_cases c4:n<4294967296
 ·rw[Cy c4] at h ⊢;obtain⟨_,g,g2⟩:=Dx h;rw[g];have:=Y2 (at_:=at_) m0 m5 (low:=26) (by omega) (by omega) (k:=4) (by decide) g2 (d4 c4) (by unfold Qv;rw[Bj c1,Bj c2,Bj c3,Cy c4];omega)
  show Wk b at_ (32*mj+26)=_;rw[this,Io,CN]
 ·rw[Bj c4] at h ⊢;obtain⟨_,g,g2⟩:=Dx h;rw[g];have:=Y2 (at_:=at_) m0 m5 (low:=27) (by omega) (by omega) (k:=8) (by decide) g2 (d8 n1) (by unfold Qv;rw[Bj c1,Bj c2,Bj c3,Bj c4];omega)
  show Wk b at_ (32*mj+27)=_;rw[this,Io,CN]
theorem ZW {s:ByteArray}(h:Abo s=true):s=⟨#[]⟩:=by
 unfold Abo at h;have:=eq_of_beq h;apply ByteArray.ext;exact Array.toList_inj.1 this
def nOf (x:It):Int:=if x.k=3∨x.k=4 then (x.s.size:Int) else x.n
theorem Ae8 {x:It}{b:List Int}{at_:Nat}{rest:List Int}(hsh:Kz x=true)(k1:1<=x.k)(k8:x.k<=8)(n0:0<=x.n)(n1:x.n<=18446744073709551615)(hs:x.s.size<=1024)(h:b.drop at_=Do x++rest):
  Hm b at_=⟨x.k,nOf x,0,at_+((Do x).length-x.s.size)⟩∧(x.k=3∨x.k=4->x.n=0∧b.drop (at_+((Do x).length-x.s.size))=Mb x.s++rest)∧(¬(x.k=3∨x.k=4)->x.s=⟨#[]⟩)∧x.s.size<=(Do x).length:=by
 obtain⟨k,n,s⟩:=x;have z:(ByteArray.mk #[]).size=0:=rfl;simp only at k1 k8 n0 n1 hs ⊢;unfold Kz at hsh;simp only at hsh;have L:=Re s;have E7:k=7->Do ⟨k,n,s⟩=[wrap .u8 (244+wrap .u8 n)]:=fun e=>by unfold Do;rw[Cy e]
 have E8:k=8->Do ⟨k,n,s⟩=[246]:=fun e=>by subst e;rfl
 have E3:k=3->Do ⟨k,n,s⟩=D0 2 s.size++Mb s:=fun e=>by subst e;rfl
 have E4:k=4->Do ⟨k,n,s⟩=D0 3 s.size++Mb s:=fun e=>by subst e;rfl
 have E0:k≠7->k≠8->k≠3->k≠4->Do ⟨k,n,s⟩=D0 (k-1) n:=fun a b c d=>by unfold Do;rw[Bj a,Bj b,Bj c,Bj d]
 have N34:k=3∨k=4->nOf ⟨k,n,s⟩=s.size:=fun e=>by unfold nOf;rw[Cy e]
 have N0:¬(k=3∨k=4)->nOf ⟨k,n,s⟩=n:=fun e=>by unfold nOf;rw[Bj e]
 by_cases c7:k=7
 ·subst c7;simp at hsh;obtain⟨hn,hs⟩:=hsh;obtain rfl:=ZW hs;rw[E7 rfl] at h ⊢;rw[N0 (by omega)]
  obtain⟨_,g,_⟩:=Dx h;refine⟨?_,fun h=>by omega,fun _=>rfl,Nat.zero_le _⟩
  have:n=0∨n=1:=by omega
  unfold Hm;rw[g];rcases this with rfl|rfl
  ·rfl
  ·rfl
 by_cases c8:k=8
 ·subst c8;simp at hsh;obtain⟨rfl,hs⟩:=hsh;obtain rfl:=ZW hs;rw[E8 rfl] at h ⊢;rw[N0 (by omega)]
  obtain⟨_,g,_⟩:=Dx h;refine⟨?_,fun h=>by omega,fun _=>rfl,Nat.zero_le _⟩
  unfold Hm;rw[g];rfl
 by_cases c3:k=3
 ·subst c3;simp at hsh;subst hsh;rw[E3 rfl] at h ⊢;rw[N34 (by omega)]
  rw[XX] at h;have q:=CM h (by omega) (by omega) (by omega) (by omega)
  have e:(D0 2 (s.size:Int)++Mb s).length-s.size=(D0 2 (s.size:Int)).length:=by rw[Kb,L];omega
  rw[e];refine⟨q,fun _=>⟨rfl,?_⟩,fun h=>by omega,by rw[Kb,L];omega⟩
  rw[←List.drop_drop,h,List.drop_left' rfl]
 by_cases c4:k=4
 ·subst c4;simp at hsh;subst hsh;rw[E4 rfl] at h ⊢;rw[N34 (by omega)]
  rw[XX] at h;have q:=CM h (by omega) (by omega) (by omega) (by omega)
  have e:(D0 3 (s.size:Int)++Mb s).length-s.size=(D0 3 (s.size:Int)).length:=by rw[Kb,L];omega
  rw[e];refine⟨q,fun _=>⟨rfl,?_⟩,fun h=>by omega,by rw[Kb,L];omega⟩
  rw[←List.drop_drop,h,List.drop_left' rfl]
 rw[Bj c3,Bj c4,Bj c8,Bj c7] at hsh;obtain rfl:=ZW hsh;rw[E0 c7 c8 c3 c4] at h ⊢;rw[N0 (by omega)]
 have q:=CM h (by omega) (by omega) n0 n1
 refine⟨?_,fun h=>by omega,fun _=>rfl,by rw[z];omega⟩
 rw[q,z,Nat.sub_zero]
 congr 1
 omega
theorem Ae2 {l:List Ha}{cnt:Int}{x:It}{b:List Int}{at_:Nat}{rest:List Int}(g:Awz l cnt x)(n0:0<=x.n)(n1:x.n<=18446744073709551615)(h:b.drop at_=Do x++rest):
  Gg l cnt b at_=⟨x,0,Gt l x,cnt+1,at_+(Do x).length⟩:=by
 have k18:1<=x.k∧x.k<=8:=by
  have hm:=g.hm;unfold L6 at hm
  repeat' split at hm
  all_goals first
   |(cases hm;done)
   |omega
 obtain⟨q1,q2,q3,q4⟩:=Ae8 g.hsh k18.1 k18.2 n0 n1 g.hs h
 have ac:∀a:Nat,Wj l cnt x a=⟨x,0,Gt l x,cnt+1,a⟩:=by
  intro a
  have:Eo l x=(0,Gt l x):=by
   unfold Eo;rw[Bj,Bj (by simp[g.ha])]
   intro hh;have:=g.hv hh.1;exact absurd hh.2 (by simp[okS,this])
  unfold Wj;rw[this];rfl
 have ln:b.length-(at_+((Do x).length-x.s.size))>=x.s.size:=by
  have:=congrArg List.length h;rw[List.length_drop,Kb] at this;omega
 unfold Gg;rw[q1];unfold YM;simp only;rw[Bj (by simp),g.hm,Bj (by simp)]
 have hs:=g.hs;have hn:=g.hn;obtain⟨k,n,s⟩:=x;simp only at *
 by_cases c34:k=3∨k=4
 ·obtain⟨rfl,q2⟩:=q2 c34;have N:nOf ⟨k,0,s⟩=s.size:=by unfold nOf;rw[Cy c34]
  rw[N,Bj (by omega),Cy c34,Bj (by omega),Hs,Bj (by omega),q2,List.take_left' (Re s),ZD,ac]
  congr 1
  omega
 ·obtain rfl:=q3 c34;have z:(ByteArray.mk #[]).size=0:=rfl;have N:nOf ⟨k,n,⟨#[]⟩⟩=n:=by unfold nOf;rw[Bj c34]
  rw[N,Bj c34,z,Nat.sub_zero];by_cases c56:k=5∨k=6
  ·rw[Cy c56,Bj (by omega),ac]
  ·rw[Bj c56,ac]
theorem WY {b:List Int}{rest:List Int}:∀(its:List It)(l:List Ha)(cnt:Int)(at_ m:Nat)(acc:List It),Pr l cnt its->(∀x∈its,0<=x.n∧x.n<=18446744073709551615)->b.drop at_=Ch its++rest->its.length<m ->
  Jd m l cnt b at_ acc=(acc++its,at_+(Ch its).length,0)
 |[],l,cnt,at_,m,acc,hg,hn,h,hm=>by
  obtain⟨rfl,hc⟩:=hg;obtain⟨m,rfl⟩:∃k,m=k+1:=⟨m-1,by omega⟩
  unfold Jd;rw[Cy (by simp[RO,hc])]
  simp[Ch]
 |x::its,l,cnt,at_,m,acc,hg,hn,h,hm=>by
  obtain⟨g,hg⟩:=hg;obtain⟨m,rfl⟩:∃k,m=k+1:=⟨m-1,by simp at hm;omega⟩
  have e:Ch (x::its)=Do x++Ch its:=by simp[Ch]
  rw[e,XX] at h;have r:=Ae2 g (hn x (by simp)).1 (hn x (by simp)).2 h
  have h':b.drop (at_+(Do x).length)=Ch its++rest:=by rw[←List.drop_drop,h,List.drop_left' rfl]
  have ih:=WY its (Gt l x) (cnt+1) (at_+(Do x).length) m (acc++[x]) hg (fun y hy=>hn y (List.mem_cons_of_mem _ hy)) h' (by simp at hm;omega)
  unfold Jd;have hd:RO l cnt=false:=g.hd;rw[Bj (by simp[hd]),r]
  simp only;rw[Bj (by simp),ih,e]
  simp;omega
end
section
open Go.IntKind (wrap)
abbrev Wr (x:Int):Prop:=0<=x∧x<=18446744073709551615
abbrev isW (l:List Int):Prop:=∀x∈l,Wr x
theorem Aci (l:List Int)(i:Nat):Wr (Td l i):=Xr _ 0 (by omega) (by omega)
theorem Aa4 (l:List Int):isW (Gu l):=by
 intro x hx;obtain⟨k,_,rfl⟩:=List.mem_map.1 hx;exact Aci l k
theorem Wf:∀{ws:List Int}{i:Nat}{w:Int},isW ws->ws[i]?=some w->Td (A7 ws) i=w
 |[],i,w,_,h=>by simp at h
 |a::ws,0,w,hw,h=>by
  simp at h;subst h;have e:A7 (a::ws)=Hz a++A7 ws:=rfl;unfold Td;rw[Nat.mul_zero,Fg,e,List.take_left' (I0 a)];have:=hw a (by simp)
  exact UQ this.1 this.2
 |a::ws,i+1,w,hw,h=>by
  simp at h;have ih:=Wf (ws:=ws) (fun x hx=>hw x (List.mem_cons_of_mem _ hx)) h
  have e:A7 (a::ws)=Hz a++A7 ws:=rfl;unfold Td at ih ⊢;rw[show 8*(i+1)=(Hz a).length+8*i by rw[I0];omega,e,←List.drop_drop,List.drop_left' rfl]
  exact ih
theorem FE {ws:List Int}(hw:isW ws):Gu (A7 ws)=ws:=by
 have hl:(A7 ws).length / 8=ws.length:=by rw[Dz];omega
 apply List.ext_getElem?;intro i;unfold Gu;rw[hl];by_cases h:i<ws.length
 ·rw[List.getElem?_map,List.getElem?_range h,List.getElem?_eq_getElem h];simp only[Option.map_some];rw[Wf hw (List.getElem?_eq_getElem h)]
 ·rw[List.getElem?_eq_none (by simp;omega),List.getElem?_eq_none (by omega)]
theorem Akt {k:Ky}(hh:Ey k.h=false)(hr:Wr k.root):NP (Oz k)=some k:=by
 obtain⟨h,r⟩:=k;have hb:=Kv hh;simp only at hb hr hh;have w:wrap .u8 h=h:=Kx (by omega) (by omega)
 have w1:A7 [r]=Hz r:=by simp[A7]
 have:=Wf (ws:=[r]) (i:=0) (w:=r) (by intro x hx;simp at hx;subst hx;exact hr) rfl
 rw[w1] at this;unfold NP Oz;simp only[w,List.getD_cons_zero,List.drop_succ_cons,Fg,this,Io,I0,hh,and_self,if_true]
theorem Ax4 {k:Ky}:Kg (Oz k):=by
 intro x hx;rcases List.mem_cons.1 hx with rfl|hx
 ·have:∀v:Int,0<=wrap .u8 v∧wrap .u8 v<=255:=by
   intro v;simp only[wrap,IntKind.signed,IntKind.bits];simp;omega
  exact this _
 ·exact Ah2 _ x hx
theorem As1 {l:List Int}{k:Ky}(h:NP l=some k):Ey k.h=false∧Wr k.root:=by
 unfold NP at h;split at h
 ·rename_i hh;cases h;exact⟨hh.2,Aci _ _⟩
 ·cases h
structure Sg.ok (s:Sg):Prop where
 ch:isW s.chains
 pa:isW s.path
theorem Awd (s:Sg):Kg (AJ s):=by
 have w8:∀v:Int,0<=wrap .u8 v∧wrap .u8 v<=255:=by
  intro v;simp only[wrap,IntKind.signed,IntKind.bits];simp;omega
 intro x hx;unfold AJ at hx;rcases List.mem_cons.1 hx with rfl|hx
 ·exact w8 _
 rcases List.mem_cons.1 hx with rfl|hx
 ·exact w8 _
 rcases List.mem_append.1 hx with hx|hx
 ·exact Ut _ x hx
 ·exact Ut _ x hx
theorem Asa {s:Sg}(hs:s.ok)(h1:Ey s.path.length=false)(h2:Qb s.leaf s.path.length=false)(h3:s.chains.length=18):sgD (AJ s)=some s:=by
 obtain⟨leaf,ch,pa⟩:=s;obtain⟨hc,hp⟩:=hs;simp only at h1 h2 h3 hc hp;have hb:=Kv h1;have ho:=Aqh hb.1 hb.2 h2;have h16:=A11 hb.1 hb.2;have w1:wrap .u8 leaf=leaf:=Kx (by omega) (by omega)
 have w2:wrap .u8 (pa.length:Int)=pa.length:=Kx (by omega) (by omega)
 have lc:(A7 ch).length=144:=by rw[Dz];omega
 have lp:(A7 pa).length=8*pa.length:=Dz pa
 have len:(AJ ⟨leaf,ch,pa⟩).length=2+144+8*pa.length:=by
  unfold AJ;simp only[Io,Kb,lc,lp];omega
 have g0:(AJ ⟨leaf,ch,pa⟩).getD 0 0=leaf:=w1;have g1:(AJ ⟨leaf,ch,pa⟩).getD 1 0=pa.length:=w2;have d2:(AJ ⟨leaf,ch,pa⟩).drop 2=A7 ch++A7 pa:=rfl
 have d146:(AJ ⟨leaf,ch,pa⟩).drop 146=A7 pa:=by
  rw[show 146=2+144 from rfl,←List.drop_drop,d2,List.drop_left' lc]
 unfold sgD;rw[Cy ⟨by omega,by rw[g1];exact h1,by rw[g0,g1];exact h2,by rw[g1,len];omega⟩,g0,d2,d146,List.take_left' lc,FE hc,FE hp]
theorem Aok {l:List Int}{s:Sg}(h:sgD l=some s):s.ok∧s.path.length<=4∧s.chains.length=18:=by
 unfold sgD at h;split at h
 ·rename_i hh;cases h;have hb:=Kv hh.2.1;refine⟨⟨Aa4 _,Aa4 _⟩,?_,?_⟩
  ·simp only[Qw,List.length_drop];omega
  ·simp only[Qw,List.length_take,List.length_drop];omega
 ·cases h
end
section
open Go.Proofs.Tryd (prog)
open Go.IntKind (wrap)
set_option maxRecDepth 100000
abbrev Z7:FuncId:=36
theorem TL (fu d Bd:Nat)(a0:List PV)(P4:Nat)(a1:List PV):Ad C0 prog fu (d+1) Z7 [.lst false 1 Bd a0,.lst false 1 P4 a1]=(fun (call:Ah)=>Ar (decide (a0.length=Bd))<|F8 (bytesOf a0) fun x1=>Ar (decide (a1.length=P4))<|F8 (bytesOf a1) fun x2=>some (A5.mk [.sc (.bool (Array.toList (ByteArray.data (ByteArray.mk (List.toArray x1)))==Array.toList (ByteArray.data (ByteArray.mk (List.toArray x2)))))] [])) (Ad C0 prog fu d):=by kernel_rfl
end
section
open Go.Proofs.Tryd (prog)
open Go.IntKind (wrap)
section
variable {fu d:Nat}
theorem Ari (s:ByteArray):Ad C0 prog fu (d+1) JU [.sc (.string s)]=some ⟨[.own 3 1 (Bf [⟨4,0,s⟩])],[]⟩:=by rw[Acu];rfl
theorem Tx (n:Int):Ad C0 prog fu (d+1) JV [.sc (.int .u64 n)]=some ⟨[.own 3 1 (Bf [⟨1,n,Ug⟩])],[]⟩:=by rw[Adb];rfl
theorem Aj5 (l:List Int):Ad C0 prog fu (d+1) FK [.lst false 1 l.length (Af .u8 l)]=some ⟨[.own 3 1 (Bf [⟨3,0,Dq l⟩])],[]⟩:=by
 rw[ZA];have L:=At .u8 l;have bo:=Lh l;simp (disch:=omega) only[Cu,L,bo];rfl
end
end
section
open Go.Proofs.Tryd (prog)
open Go.IntKind (wrap)
section
variable {fu d:Nat}
theorem Aeq {a b:List Int}(ha:Kg a)(hb:Kg b)(h:(a.map fun n=>n.toNat.toUInt8)=(b.map fun n=>n.toNat.toUInt8)):a=b:=by
 have e:Dq a=Dq b:=by unfold Dq;rw[h]
 rw[←Vk ha,←Vk hb,e]
theorem A7p {a b:List Int}(ha:Kg a)(hb:Kg b):(Array.toList (ByteArray.data (ByteArray.mk (List.toArray (a.map fun n=>n.toNat.toUInt8))))==Array.toList (ByteArray.data (ByteArray.mk (List.toArray (b.map fun n=>n.toNat.toUInt8)))))=decide (a=b):=by
 by_cases h:a=b
 ·subst h;simp
 ·have:(List.map (fun n=>n.toNat.toUInt8) a)≠(List.map (fun n=>n.toNat.toUInt8) b):=fun e=>h (Aeq ha hb e)
  simp only[h,decide_false]
  simpa using this
theorem TX {a b:List Int}(ha:Kg a)(hb:Kg b):Ad C0 prog fu (d+1) Z7 [.lst false 1 a.length (Af .u8 a),.lst false 1 b.length (Af .u8 b)]=some ⟨[.sc (.bool (decide (a=b)))],[]⟩:=by
 rw[TL];have La:=At .u8 a;have Lb:=At .u8 b;have ba:=Lh a;have bb:=Lh b;have q:=A7p ha hb;simp (disch:=omega) only[Cu,La,Lb,ba,bb,q]
end
structure Ce.ok (c:Ce):Prop where
 ser:Wr c.serial
 mod:Wr c.model
 root:Wr c.key.root
 sg:c.sig.ok
theorem Ce.ok.wf {c:Ce}(h:c.ok):c.wf:=⟨h.ser.1,h.mod.1⟩
end
section
open Go.Proofs.Tryd (prog)
open Go.IntKind (wrap)
set_option maxRecDepth 100000
abbrev Sk:FuncId:=7
theorem DU (fu d:Nat)(a0 a1:Int):Ad C0 prog fu (d+1) Sk [.sc (.int .u64 a0),.sc (.int .i64 a1)]=(fun (call:Ah)=>Ai (call 17 [.sc (.int .u64 a0),.sc (.int .i64 a1)]) fun x1 x2=>Ac x2<|Ab x1 fun x3 x4=>Fm x3 fun x5=>Ab x5 fun x6 x7=>Ae .i64 x6 fun x8=>Ab x7 fun x9 C6=>Ae .u64 x9 fun Dr=>Ac C6<|Ab x4 fun Eg Ez=>Ae .i64 Eg fun D7=>Ac Ez<|some (A5.mk [.agg [.sc (.int .i64 x8),.sc (.int .u64 Dr)]] [])) (Ad C0 prog fu d):=by kernel_rfl
end
section
open Go.IntKind (wrap)
structure An where
 name:ByteArray
 key:Ky
def An.cells (a:An):List PV:=[.sc (.string a.name),.sc (.int .i64 a.key.h),.sc (.int .u64 a.key.root)]
def D8 (l:List An):List PV:=l.flatMap An.cells
theorem An.cells_len (a:An):a.cells.length=3:=rfl
theorem ana {l:List An}{i:Nat}{a:An}(h:l[i]?=some a):(D8 l).getD (i*3) .top=.sc (.string a.name)∧(D8 l).getD (i*3+1) .top=.sc (.int .i64 a.key.h)∧(D8 l).getD (i*3+2) .top=.sc (.int .u64 a.key.root):=
 ⟨Ie An.cells_len h (j:=0) (by omega),Ie An.cells_len h (j:=1) (by omega),Ie An.cells_len h (j:=2) (by omega)⟩
end
section
open Go.IntKind (wrap)
def Abv (l:List Ha):Prop:=∀f∈l,f.p=false
theorem Abv.key {l:List Ha}(h:Abv l):Rq l=false:=by
 rcases Jp l with rfl|⟨l',f,rfl⟩
 ·rfl
 ·unfold Rq;simp[h f (by simp)]
theorem Abv.dec {l:List Ha}(h:Abv l):Abv (Vy l):=by
 rcases Jp l with rfl|⟨l',f,rfl⟩
 ·exact h
 ·rw[S5];intro g hg;rcases List.mem_append.1 hg with hg|hg
  ·exact h g (by simp[hg])
  ·rw[List.mem_singleton.1 hg];exact h f (by simp)
def Val (k:Nat)(v:List It):Prop:=∀(l:List Ha)(cnt:Int)(rest:List It),l.length+k<=6->0<=cnt->cnt+v.length<=505->(cnt=0∨l≠[])->Abv l ->
 Pr (FT (Vy l)) (cnt+v.length) rest->Pr l cnt (v++rest)
theorem PX {l:List Ha}{cnt k:Int}(ha:Abv l)(hl:l.length<=6)(hc:cnt<=505)(k1:1<=k)(k8:k<=8):L6 l cnt k=0:=by
 unfold L6;rw[Bj (by omega),Bj (by omega),Bj (by omega),Bj (by intro q;rw[ha.key] at q;exact absurd q.1 (by simp)),Bj (by omega)]
theorem Gb {x:It}(h:SH x)(k:Nat):Val k [x]:=by
 intro l cnt rest hl h0 h1 hd ha hg;simp only[List.length_singleton] at h1 hg;have hk:=h.kd;refine⟨⟨by omega,h0,by omega,ha.key,h.hs,h.hv,?_,PX ha (by omega) (by omega) (by omega) (by omega),h.hsh,.inr (by omega)⟩,?_⟩
 ·rcases hd with rfl|hd
  ·rfl
  ·have:l.length≠0:=fun e=>hd (List.eq_nil_of_length_eq_zero e)
   have h2:((l.length:Int)==0)=false:=by simp;exact hd
   rw[h2,Bool.and_false]
 ·unfold Gt;rw[h.push];exact hg
theorem Adc {k:Nat}{l:List Ha}(hl:l.length+1+k<=6)(ha:Abv l){rest:List It}:∀(vs:List (List It)) (cnt:Int),vs≠[]->vs.length<=100000->(∀v∈vs,Val k v)->0<=cnt->cnt+vs.flatten.length<=505->Pr (FT l) (cnt+vs.flatten.length) rest ->
  Pr (l++[⟨false,vs.length,[]⟩]) cnt (vs.flatten++rest)
 |[],_,h,_,_,_,_,_=>absurd rfl h
 |v::vs,cnt,_,hn,hv,h0,h1,hg=>by
  rw[List.flatten_cons,Kb] at h1 hg;rw[List.flatten_cons,XX];simp only[Io] at hn;refine hv v (by simp) _ cnt _ (by rw[Kb,List.length_singleton];omega) h0 (by omega) (.inr (by simp)) ?_ ?_
  ·intro g hg';rcases List.mem_append.1 hg' with hg'|hg'
   ·exact ha g hg'
   ·rw[List.mem_singleton.1 hg']
  rw[S5]
  have w:wrap .i64 (((v::vs).length:Int)-1)=(vs.length:Int):=by
   rw[Ak (by simp only[Io];omega) (by simp only[Io];omega)]
   simp only[Io];omega
  simp only[w];by_cases Ti:vs=[]
  ·subst Ti;rw[UM rfl]
   simpa using hg
  ·rw[NQ (by simp only;have:=List.length_pos_iff.2 Ti;omega)]
   exact Adc hl ha vs (cnt+v.length) Ti (by omega) (fun x hx=>hv x (by simp[hx])) (by omega) (by omega) (by rw[Int.add_assoc,←Int.natCast_add];exact hg)
theorem Sw {k:Nat}{vs:List (List It)} (hv:∀v∈vs,Val k v)(hn:vs.length<=500):Val (k+1) (⟨5,vs.length,⟨#[]⟩⟩::vs.flatten):=by
 intro l cnt rest hl h0 h1 hd ha hg;simp only[Io] at h1 hg;refine⟨⟨by omega,h0,by omega,ha.key,Nat.zero_le _,(by intro h;cases h),?_,PX ha (by omega) (by omega) (by simp) (by simp),(by rfl),.inl (by simp only;omega)⟩,?_⟩
 ·rcases hd with rfl|hd
  ·rfl
  ·have h2:((l.length:Int)==0)=false:=by simp;exact hd
   rw[h2,Bool.and_false]
 ·by_cases Ti:vs=[]
  ·subst Ti
   have e:Gt l ⟨5,(([]:List (List It)).length:Nat),⟨#[]⟩⟩=FT (Vy l):=by
    unfold Gt RQ;rw[Bj (by simp),Bj (by simp)]
   rw[e]
   simpa using hg
  ·have hp:=List.length_pos_iff.2 Ti;have w:wrap .i64 (vs.length:Int)=(vs.length:Int):=Ak (by omega) (by omega)
   have e:Gt l ⟨5,(vs.length:Nat),⟨#[]⟩⟩=Vy l++[⟨false,(vs.length:Nat),[]⟩]:=by
    unfold Gt RQ;rw[Cy ⟨rfl,by simp only;omega⟩]
    simp only[w];exact NQ (by simp only;omega)
   rw[e]
   exact Adc (by rw[BC];omega) ha.dec vs (cnt+1) Ti (by omega) hv (by omega) (by omega) (by
    have e1:cnt+1+(vs.flatten.length:Int)=cnt+((vs.flatten.length+1:Nat):Int):=by omega
    rw[e1];exact hg)
theorem Val.goods {k:Nat}(hk:k<=6){v:List It}(h:Val k v)(hn:v≠[]) (hl:v.length<=505):Pr [] 0 v:=by
 have:=h [] 0 [] (by simp;exact hk) (by omega) (by omega) (.inl rfl) (by intro f hf;cases hf) ⟨rfl,by have:=List.length_pos_iff.2 hn;omega⟩
 rw[List.append_nil] at this;exact this
end
section
open Go.IntKind (wrap)
structure Sa where
 kd:Int
 at_:Int
structure Me where
 model:Int
 ans:List An
 sts:List Sa
structure Md where
 ver:Int
 iss:Int
 nxt:Int
 ents:List Me
 sig:Sg
def Sa.cells (s:Sa):List PV:=[.sc (.int .i64 s.kd),.sc (.int .i64 s.at_)]
def Eb (l:List Sa):List PV:=l.flatMap Sa.cells
theorem Sa.cells_len (s:Sa):s.cells.length=2:=rfl
def Me.cells (x:Me):List PV:=[.sc (.int .u64 x.model),.lst false 3 x.ans.length (D8 x.ans),.lst false 2 x.sts.length (Eb x.sts)]
def Dd (l:List Me):List PV:=l.flatMap Me.cells
theorem Me.cells_len (x:Me):x.cells.length=3:=rfl
def Md.cells (m:Md):List PV:=[.sc (.int .i64 m.ver),.sc (.int .i64 m.iss),.sc (.int .i64 m.nxt),.lst false 3 m.ents.length (Dd m.ents),.sc (.int .i64 m.sig.leaf),.lst false 1 m.sig.chains.length (Af .u64 m.sig.chains),.lst false 1 m.sig.path.length (Af .u64 m.sig.path)]
theorem Yv (l:List An):(D8 l).length=l.length*3:=Te An.cells_len l
theorem GY (l:List Sa):(Eb l).length=l.length*2:=Te Sa.cells_len l
theorem Yy (l:List Me):(Dd l).length=l.length*3:=Te Me.cells_len l
theorem saa {l:List Sa}{i:Nat}{s:Sa}(h:l[i]?=some s):(Eb l).getD (i*2) .top=.sc (.int .i64 s.kd)∧(Eb l).getD (i*2+1) .top=.sc (.int .i64 s.at_):=
 ⟨Ie Sa.cells_len h (j:=0) (by omega),Ie Sa.cells_len h (j:=1) (by omega)⟩
theorem mea {l:List Me}{i:Nat}{x:Me}(h:l[i]?=some x):(Dd l).getD (i*3) .top=.sc (.int .u64 x.model)∧(Dd l).getD (i*3+1) .top=.lst false 3 x.ans.length (D8 x.ans)∧(Dd l).getD (i*3+2) .top=.lst false 2 x.sts.length (Eb x.sts):=
 ⟨Ie Me.cells_len h (j:=0) (by omega),Ie Me.cells_len h (j:=1) (by omega),Ie Me.cells_len h (j:=2) (by omega)⟩
def Hu (a:An):Int:=if a.name.size<1∨32<a.name.size then 9 else if okS a.name=false then 6 else if Ey a.key.h=true then 9 else 0
def E9:List An->Int
 |[]=>0
 |a::r=>if Hu a≠0 then Hu a else E9 r
def Ka (p:Option Int)(s:Sa):Int:=if s.kd<1∨4<s.kd∨s.at_<0∨1099511627776<s.at_ then 9 else match p with|some q=>if s.at_<=q then 7 else 0|none=>0
def Ge:Option Int->List Sa->Int
 |_,[]=>0
 |p,s::r=>if Ka p s≠0 then Ka p s else Ge (some s.at_) r
def Ei (x:Me):Int:=if 4<x.ans.length∨4<x.sts.length then 8 else if E9 x.ans≠0 then E9 x.ans else Ge none x.sts
def Q1 (p:Option Int)(x:Me):Int:=match p with|some q=>if x.model<=q then 7 else 0|none=>0
def Fz:Option Int->List Me->Int
 |_,[]=>0
 |p,x::r=>if Q1 p x≠0 then Q1 p x else if Ei x≠0 then Ei x else Fz (some x.model) r
def B9 (m:Md):Int:=if m.ver<1∨16<m.ver then 9 else if m.iss<0∨m.nxt<m.iss∨1099511627776<m.nxt then 9 else if 16<m.ents.length then 8 else Fz none m.ents
def Kq (n:Int):It:=⟨5,n,Ug⟩
def Ib (n:Int):It:=⟨1,n,Ug⟩
def XU (a:An):List (List It):=[[⟨4,0,a.name⟩],[⟨3,0,Dq (Oz a.key)⟩]]
def C5 (a:An):List It:=Kq 2::(XU a).flatten
def ZL (s:Sa):List (List It):=[[Ib s.kd],[Ib s.at_]]
def De (s:Sa):List It:=Kq 2::(ZL s).flatten
def Dt (vs:List (List It)):List It:=Kq vs.length::vs.flatten
def Wu (x:Me):List (List It):=[[Ib x.model],Dt (x.ans.map C5),Dt (x.sts.map De)]
def Ba (x:Me):List It:=Kq 3::(Wu x).flatten
def O9 (m:Md):List (List It):=[[Ib m.ver],[Ib m.iss],[Ib m.nxt],Dt (m.ents.map Ba)]
def Be (m:Md):List It:=Kq 4::(O9 m).flatten
theorem Agq (k:Ky):(Dq (Oz k)).size=9:=by rw[P8];rfl
theorem Yj:Ug.size=0:=rfl
def Et (l:List It):Prop:=∀x∈l,x.ok∧x.dat∧x.s.size<=32
theorem Et.app {a b:List It}(ha:Et a)(hb:Et b):Et (a++b):=fun x hx=>(List.mem_append.1 hx).elim (ha x) (hb x)
theorem Et.cons {x:It}{l:List It}(h:x.ok∧x.dat∧x.s.size<=32)(hl:Et l):Et (x::l):=fun y hy=>by
 rcases List.mem_cons.1 hy with rfl|hy
 ·exact h
 ·exact hl y hy
theorem Et.flat {α:Type}{f:α->List It}{l:List α}(h:∀x∈l,Et (f x)):Et (l.map f).flatten:=fun y hy=>by
 obtain⟨v,hv,hy⟩:=List.mem_flatten.1 hy;obtain⟨x,hx,rfl⟩:=List.mem_map.1 hv;exact h x hx y hy
theorem T8 {n:Int}(h:0<=n):(Ib n).ok∧(Ib n).dat∧(Ib n).s.size<=32:=⟨⟨by show (1:Int)<=1;omega,by show (1:Int)<=8;omega,h,by show Ug.size<=_;rw[Yj];omega⟩,.inr (.inr rfl),by show Ug.size<=32;rw[Yj];omega⟩
theorem Q6 {n:Int}(h:0<=n):(Kq n).ok∧(Kq n).dat∧(Kq n).s.size<=32:=⟨⟨by show (1:Int)<=5;omega,by show (5:Int)<=8;omega,h,by show Ug.size<=_;rw[Yj];omega⟩,.inr (.inr rfl),by show Ug.size<=32;rw[Yj];omega⟩
theorem Iy {n:Int}(h:0<=n):SH (Ib n):=⟨.inl rfl,by show Ug.size<=_;rw[Yj];omega,(fun e=>by cases e),(by unfold Kz Ib;rfl),h⟩
theorem Aib {a:An}(h:Hu a=0):1<=a.name.size∧a.name.size<=32∧okS a.name=true∧Ey a.key.h=false:=by
 unfold Hu at h;split at h
 ·cases h
 ·split at h
  ·cases h
  ·split at h
   ·cases h
   ·rename_i h1 h2 h3;exact⟨by omega,by omega,by simpa using h2,by simpa using h3⟩
theorem Agz {a:An}(h:Hu a=0):Val 1 (C5 a)∧Et (C5 a):=by
 obtain⟨h1,h2,h3,_⟩:=Aib h;have f1:SH ⟨4,0,a.name⟩:=⟨.inr (.inr (.inr (.inl rfl))),by simp only;omega,fun _=>h3,by unfold Kz;rfl,by simp⟩
 have f2:SH ⟨3,0,Dq (Oz a.key)⟩:=⟨.inr (.inr (.inl rfl)),by simp only[Agq];omega,(fun e=>by cases e),by unfold Kz;rfl,by simp⟩
 refine⟨Sw (k:=0) (vs:=XU a) (fun v hv=>?_) (by simp[XU]),fun x hx=>?_⟩
 ·simp only[XU,List.mem_cons,List.not_mem_nil,or_false] at hv;rcases hv with rfl|rfl
  ·exact Gb f1 0
  ·exact Gb f2 0
 ·simp only[C5,XU,List.flatten_cons,List.flatten_nil,List.append_nil,List.mem_cons,List.singleton_append,List.not_mem_nil,or_false] at hx;rcases hx with rfl|rfl|rfl
  ·exact Q6 (by omega)
  ·exact⟨f1.ok,.inr (.inl rfl),h2⟩
  ·exact⟨f2.ok,.inl rfl,by simp only[Agq];omega⟩
theorem Xt:∀{l:List An},E9 l=0->∀a∈l,Hu a=0
 |[],_,a,ha=>by cases ha
 |b::r,h,a,ha=>by
  unfold E9 at h;by_cases h0:Hu b=0
  ·rw[Bj (by simp[h0])] at h
   rcases List.mem_cons.1 ha with rfl|ha
   ·exact h0
   ·exact Xt h a ha
  ·rw[Cy h0] at h;exact absurd h h0
theorem Atx {p:Option Int}{s:Sa}(h:Ka p s=0):1<=s.kd∧s.kd<=4∧0<=s.at_∧s.at_<=1099511627776:=by
 unfold Ka at h;split at h
 ·cases h
 ·omega
theorem EI:∀{p:Option Int}{l:List Sa},Ge p l=0->∀s∈l,1<=s.kd∧s.kd<=4∧0<=s.at_∧s.at_<=1099511627776
 |_,[],_,a,ha=>by cases ha
 |p,b::r,h,a,ha=>by
  unfold Ge at h;by_cases h0:Ka p b=0
  ·rw[Bj (by simp[h0])] at h
   rcases List.mem_cons.1 ha with rfl|ha
   ·exact Atx h0
   ·exact EI h a ha
  ·rw[Cy h0] at h;exact absurd h h0
theorem Af0 {s:Sa}(h0:0<=s.kd)(h1:0<=s.at_):Val 1 (De s)∧Et (De s):=by
 refine⟨Sw (k:=0) (vs:=ZL s) (fun v hv=>?_) (by simp[ZL]),?_⟩
 ·simp only[ZL,List.mem_cons,List.not_mem_nil,or_false] at hv;rcases hv with rfl|rfl
  ·exact Gb (Iy h0) 0
  ·exact Gb (Iy h1) 0
 ·exact Et.cons (Q6 (by omega)) (Et.cons (T8 h0) (Et.cons (T8 h1) (fun x hx=>by cases hx)))
theorem N6 (a:An):(C5 a).length=3:=rfl
theorem Ul (s:Sa):(De s).length=3:=rfl
theorem Hl {α:Type}{f:α->List It}{k:Nat}(hf:∀x,(f x).length=k):∀l:List α,(l.map f).flatten.length=l.length*k
 |[]=>by simp
 |x::l=>by rw[VO,List.flatten_cons,Kb,hf x,Hl hf l,Io,Nat.succ_mul];omega
theorem T7 {x:Me}(h:Ei x=0):x.ans.length<=4∧x.sts.length<=4∧E9 x.ans=0∧Ge none x.sts=0:=by
 unfold Ei at h;by_cases h0:4<x.ans.length∨4<x.sts.length
 ·rw[Cy h0] at h;cases h
 rw[Bj h0] at h;by_cases h1:E9 x.ans=0
 ·rw[Bj (by simp[h1])] at h
  exact⟨by omega,by omega,h1,h⟩
 ·rw[Cy h1] at h;exact absurd h h1
theorem XO {l:List An}(hl:l.length<=4)(h:∀a∈l,Hu a=0):Val 2 (Dt (l.map C5))∧Et (Dt (l.map C5)):=by
 refine⟨Sw (k:=1) (fun v hv=>?_) (by rw[List.length_map];omega),Et.cons (Q6 (by omega)) (Et.flat fun a ha=>(Agz (h a ha)).2)⟩
 obtain⟨a,ha,rfl⟩:=List.mem_map.1 hv;exact (Agz (h a ha)).1
theorem Aiv {l:List Sa}(hl:l.length<=4)(h:∀s∈l,0<=s.kd∧0<=s.at_):Val 2 (Dt (l.map De))∧Et (Dt (l.map De)):=by
 refine⟨Sw (k:=1) (fun v hv=>?_) (by rw[List.length_map];omega),Et.cons (Q6 (by omega)) (Et.flat fun s hs=>(Af0 (h s hs).1 (h s hs).2).2)⟩
 obtain⟨s,hs,rfl⟩:=List.mem_map.1 hv;exact (Af0 (h s hs).1 (h s hs).2).1
theorem EX {x:Me}(hm:0<=x.model)(h:Ei x=0):Val 3 (Ba x)∧Et (Ba x)∧(Ba x).length<=28:=by
 obtain⟨h1,h2,h3,h4⟩:=T7 h;have va:=XO h1 (Xt h3);have vs:=Aiv h2 (fun s hs=>by have:=EI h4 s hs;exact⟨by omega,by omega⟩)
 refine⟨Sw (k:=2) (vs:=Wu x) (fun v hv=>?_) (by simp[Wu]),?_,?_⟩
 ·simp only[Wu,List.mem_cons,List.not_mem_nil,or_false] at hv;rcases hv with rfl|rfl|rfl
  ·exact Gb (Iy hm) 2
  ·exact va.1
  ·exact vs.1
 ·refine Et.cons (Q6 (by omega)) ?_
  simp only[Wu,List.flatten_cons,List.flatten_nil,List.append_nil];exact Et.app (Et.cons (T8 hm) (fun x hx=>by cases hx)) (Et.app va.2 vs.2)
 ·simp only[Ba,Wu,Dt,List.flatten_cons,List.flatten_nil,List.append_nil,Io,Kb,List.length_singleton,W5,Hl N6,Hl Ul];omega
theorem Ql:∀{p:Option Int}{l:List Me},Fz p l=0->∀x∈l,Ei x=0
 |_,[],_,a,ha=>by cases ha
 |p,b::r,h,a,ha=>by
  unfold Fz at h;by_cases h0:Q1 p b=0
  rotate_left
  ·rw[Cy h0] at h;exact absurd h h0
  rw[Bj (by simp[h0])] at h
  by_cases h1:Ei b=0
  ·rw[Bj (by simp[h1])] at h
   rcases List.mem_cons.1 ha with rfl|ha
   ·exact h1
   ·exact Ql h a ha
  ·rw[Cy h1] at h;exact absurd h h1
theorem Qi {m:Md}(h:B9 m=0):1<=m.ver∧m.ver<=16∧0<=m.iss∧m.iss<=m.nxt∧m.nxt<=1099511627776∧m.ents.length<=16∧Fz none m.ents=0:=by
 unfold B9 at h;split at h
 ·cases h
 ·split at h
  ·cases h
  ·split at h
   ·cases h
   ·exact⟨by omega,by omega,by omega,by omega,by omega,by omega,h⟩
theorem BV {α:Type}{f:α->List It}{k:Nat}:∀{l:List α},(∀x∈l,(f x).length<=k)->(l.map f).flatten.length<=l.length*k
 |[],_=>by simp
 |x::l,h=>by
  have h1:=h x (by simp)
  have h2:=BV (l:=l) (fun y hy=>h y (by simp[hy]))
  rw[VO,List.flatten_cons,Kb,Io,Nat.succ_mul];omega
theorem Ab6 {l:List Me}(hl:l.length<=16)(h:∀x∈l,0<=x.model∧Ei x=0):Val 4 (Dt (l.map Ba))∧Et (Dt (l.map Ba))∧(Dt (l.map Ba)).length<=449:=by
 refine⟨Sw (k:=3) (fun v hv=>?_) (by rw[List.length_map];omega),Et.cons (Q6 (by omega)) (Et.flat fun x hx=>(EX (h x hx).1 (h x hx).2).2.1),?_⟩
 ·obtain⟨x,hx,rfl⟩:=List.mem_map.1 hv;exact (EX (h x hx).1 (h x hx).2).1
 ·have:=BV (f:=Ba) (k:=28) (l:=l) (fun x hx=>(EX (h x hx).1 (h x hx).2).2.2)
  unfold Dt;rw[Io];omega
structure Md.wf (m:Md):Prop where
 mod:∀x∈m.ents,0<=x.model
theorem Yp {m:Md}(hw:m.wf)(h:B9 m=0):Val 5 (Be m)∧Et (Be m)∧(Be m).length<=453:=by
 obtain⟨h1,h2,h3,h4,h5,h6,h7⟩:=Qi h;obtain⟨v1,v2,v3⟩:=Ab6 h6 (fun x hx=>⟨hw.mod x hx,Ql h7 x hx⟩)
 refine⟨Sw (k:=4) (vs:=O9 m) (fun v hv=>?_) (by simp[O9]),?_,?_⟩
 ·simp only[O9,List.mem_cons,List.not_mem_nil,or_false] at hv;rcases hv with rfl|rfl|rfl|rfl
  ·exact Gb (Iy (by omega)) 4
  ·exact Gb (Iy (by omega)) 4
  ·exact Gb (Iy (by omega)) 4
  ·exact v1
 ·refine Et.cons (Q6 (by omega)) ?_
  simp only[O9,List.flatten_cons,List.flatten_nil,List.append_nil];exact Et.app (Et.cons (T8 (by omega)) (fun x hx=>by cases hx)) (Et.app (Et.cons (T8 (by omega)) (fun x hx=>by cases hx)) (Et.app (Et.cons (T8 (by omega)) (fun x hx=>by cases hx)) v2))
 ·simp only[Be,O9,List.flatten_cons,List.flatten_nil,List.append_nil,Io,Kb,List.length_singleton,W5];omega
end
section
open Go.IntKind (wrap)
abbrev RS:=List It × Bool
def Bg (k:Int)(s:RS):It × RS:=if s.2=true then (it0,(s.1,true)) else match s.1 with|[]=>(it0,([],true))|x::r=>if x.k=k then (x,(r,false)) else (it0,(x::r,true))
def Ao2 (l:List Int):Ky:=(NP l).getD ⟨0,0⟩
def NM (s:RS):An × RS:=
 (⟨(Bg 4 (Bg 5 s).2).1.s,Ao2 (Mb (Bg 3 (Bg 4 (Bg 5 s).2).2).1.s)⟩,((Bg 3 (Bg 4 (Bg 5 s).2).2).2.1,(Bg 3 (Bg 4 (Bg 5 s).2).2).2.2||(NP (Mb (Bg 3 (Bg 4 (Bg 5 s).2).2).1.s)).isNone))
def Lr:Nat->Int->RS->List An × RS
 |0,_,s=>([],s)
 |f+1,n,s=>if n>0∧s.2=false then ((NM s).1::(Lr f (n-1) (NM s).2).1,(Lr f (n-1) (NM s).2).2) else ([],s)
def SE (s:RS):Sa × RS:=(⟨wrap .i64 (Bg 1 (Bg 5 s).2).1.n,wrap .i64 (Bg 1 (Bg 1 (Bg 5 s).2).2).1.n⟩,(Bg 1 (Bg 1 (Bg 5 s).2).2).2)
def Ol:Nat->Int->RS->List Sa × RS
 |0,_,s=>([],s)
 |f+1,n,s=>if n>0∧s.2=false then ((SE s).1::(Ol f (n-1) (SE s).2).1,(Ol f (n-1) (SE s).2).2) else ([],s)
def CD (s:RS):It × RS:=Bg 5 (Bg 1 (Bg 5 s).2).2
def Zx (s:RS):List An × RS:=Lr (s.1.length+2) (CD s).1.n (CD s).2
def Zn (s:RS):It × RS:=Bg 5 (Zx s).2
def Ab8 (s:RS):List Sa × RS:=Ol (s.1.length+2) (Zn s).1.n (Zn s).2
def Ly (s:RS):Me × RS:=(⟨(Bg 1 (Bg 5 s).2).1.n,(Zx s).1,(Ab8 s).1⟩,(Ab8 s).2)
def Hr:Nat->Int->RS->List Me × RS
 |0,_,s=>([],s)
 |f+1,n,s=>if n>0∧s.2=false then ((Ly s).1::(Hr f (n-1) (Ly s).2).1,(Hr f (n-1) (Ly s).2).2) else ([],s)
def BE (l:List It):It × RS:=Bg 1 (Bg 5 (l,false)).2
def DC (l:List It):It × RS:=Bg 1 (BE l).2
def BJ (l:List It):It × RS:=Bg 1 (DC l).2
def Wy (l:List It):It × RS:=Bg 5 (BJ l).2
def Agw (l:List It):List Me × RS:=Hr (l.length+2) (Wy l).1.n (Wy l).2
def sg0:Sg:=⟨0,[],[]⟩
def FA (l:List It):Md × Bool:=(⟨wrap .i64 (BE l).1.n,wrap .i64 (DC l).1.n,wrap .i64 (BJ l).1.n,(Agw l).1,sg0⟩,!(Agw l).2.2&&(((Agw l).2.1.length:Int)==0))
theorem Fu {k:Int}{x:It}{r:List It}(h:x.k=k):Bg k (x::r,false)=(x,(r,false)):=by
 unfold Bg;rw[Bj (by simp)]
 simp only[h,if_true]
theorem At5 {a:An}(h:Hu a=0)(hr:Wr a.key.root):NP (Mb (Dq (Oz a.key)))=some a.key:=by
 rw[Vk Ax4];exact Akt (Aib h).2.2.2 hr
theorem Atr {a:An}{r:List It}(h:Hu a=0)(hr:Wr a.key.root):NM (C5 a++r,false)=(a,(r,false)):=by
 have e1:Bg 5 (C5 a++r,false)=(Kq 2,((⟨4,0,a.name⟩:It)::⟨3,0,Dq (Oz a.key)⟩::r,false)):=Fu rfl;have e2:Bg 4 ((⟨4,0,a.name⟩:It)::⟨3,0,Dq (Oz a.key)⟩::r,false)=(⟨4,0,a.name⟩,(⟨3,0,Dq (Oz a.key)⟩::r,false)):=Fu rfl;have e3:Bg 3 ((⟨3,0,Dq (Oz a.key)⟩:It)::r,false)=(⟨3,0,Dq (Oz a.key)⟩,(r,false)):=Fu rfl;unfold NM Ao2;rw[e1];simp only[e2,e3,At5 h hr];rfl
theorem Adm {rest:List It}:∀(l:List An)(f:Nat),l.length<f->(∀a∈l,Hu a=0∧Wr a.key.root)->Lr f l.length ((l.map C5).flatten++rest,false)=(l,(rest,false))
 |_,0,h,_=>by omega
 |[],f+1,_,_=>by
  unfold Lr;rw[Bj (by simp)]
  rfl
 |a::l,f+1,h,hk=>by
  simp only[Io] at h;have ih:=Adm (rest:=rest) l f (by omega) (fun x hx=>hk x (by simp[hx]))
  have e:=Atr (a:=a) (r:=(l.map C5).flatten++rest) (hk a (by simp)).1 (hk a (by simp)).2
  rw[VO,List.flatten_cons,XX];unfold Lr;rw[Cy ⟨by simp only[Io];omega,rfl⟩,e]
  have el:(((a::l).length:Nat):Int)-1=(l.length:Int):=by simp only[Io];omega
  rw[el];simp only[ih]
theorem At7 {s:Sa}{r:List It}(h:1<=s.kd∧s.kd<=4∧0<=s.at_∧s.at_<=1099511627776):SE (De s++r,false)=(s,(r,false)):=by
 have e1:Bg 5 (De s++r,false)=(Kq 2,(Ib s.kd::Ib s.at_::r,false)):=Fu rfl;have e2:Bg 1 (Ib s.kd::Ib s.at_::r,false)=(Ib s.kd,(Ib s.at_::r,false)):=Fu rfl;have e3:Bg 1 (Ib s.at_::r,false)=(Ib s.at_,(r,false)):=Fu rfl;have n1:(Ib s.kd).n=s.kd:=rfl;have n2:(Ib s.at_).n=s.at_:=rfl;unfold SE;rw[e1];simp only[e2,e3,n1,n2];rw[Ak (by omega) (by omega),Ak (by omega) (by omega)]
theorem Acw {rest:List It}:∀(l:List Sa)(f:Nat),l.length<f->(∀s∈l,1<=s.kd∧s.kd<=4∧0<=s.at_∧s.at_<=1099511627776)->Ol f l.length ((l.map De).flatten++rest,false)=(l,(rest,false))
 |_,0,h,_=>by omega
 |[],f+1,_,_=>by
  unfold Ol;rw[Bj (by simp)]
  rfl
 |a::l,f+1,h,hk=>by
  simp only[Io] at h;have ih:=Acw (rest:=rest) l f (by omega) (fun x hx=>hk x (by simp[hx]))
  have e:=At7 (s:=a) (r:=(l.map De).flatten++rest) (hk a (by simp))
  rw[VO,List.flatten_cons,XX];unfold Ol;rw[Cy ⟨by simp only[Io];omega,rfl⟩,e]
  have el:(((a::l).length:Nat):Int)-1=(l.length:Int):=by simp only[Io];omega
  rw[el];simp only[ih]
def Me.rts (x:Me):Prop:=∀a∈x.ans,Wr a.key.root
theorem HU (x:Me)(r:List It):Ba x++r=Kq 3::Ib x.model::Kq x.ans.length::((x.ans.map C5).flatten++(Kq x.sts.length::((x.sts.map De).flatten++r))):=by
 unfold Ba Wu Dt;simp only[List.flatten_cons,List.flatten_nil,List.append_nil,Zzp,Zzq,XX,List.length_map]
theorem Aog {x:Me}{r:List It}(h:Ei x=0)(hr:x.rts):Ly (Ba x++r,false)=(x,(r,false)):=by
 obtain⟨h1,h2,h3,h4⟩:=T7 h;have e1:Bg 5 (Ba x++r,false)=(Kq 3,(Ib x.model::Kq x.ans.length::((x.ans.map C5).flatten++(Kq x.sts.length::((x.sts.map De).flatten++r))),false)):=by rw[HU];exact Fu rfl
 have e2:Bg 1 (Ib x.model::Kq x.ans.length::((x.ans.map C5).flatten++(Kq x.sts.length::((x.sts.map De).flatten++r))),false)=(Ib x.model,(Kq x.ans.length::((x.ans.map C5).flatten++(Kq x.sts.length::((x.sts.map De).flatten++r))),false)):=Fu rfl
 have eA:CD (Ba x++r,false)=(Kq x.ans.length,((x.ans.map C5).flatten++(Kq x.sts.length::((x.sts.map De).flatten++r)),false)):=by
  unfold CD;rw[e1];simp only[e2];exact Fu rfl
 have len:x.ans.length<(Ba x++r).length+2∧x.sts.length<(Ba x++r).length+2:=by
  rw[HU];simp only[Io,Kb,Hl N6,Hl Ul];omega
 have eB:Zx (Ba x++r,false)=(x.ans,(Kq x.sts.length::((x.sts.map De).flatten++r),false)):=by
  unfold Zx;rw[eA];exact Adm x.ans _ len.1 (fun a ha=>⟨Xt h3 a ha,hr a ha⟩)
 have eC:Zn (Ba x++r,false)=(Kq x.sts.length,((x.sts.map De).flatten++r,false)):=by
  unfold Zn;rw[eB];exact Fu rfl
 have eD:Ab8 (Ba x++r,false)=(x.sts,(r,false)):=by
  unfold Ab8;rw[eC];exact Acw x.sts _ len.2 (EI h4)
 unfold Ly;rw[eB,eD,e1];simp only[e2];rfl
theorem WE {rest:List It}:∀(l:List Me)(f:Nat),l.length<f->(∀x∈l,Ei x=0∧x.rts)->Hr f l.length ((l.map Ba).flatten++rest,false)=(l,(rest,false))
 |_,0,h,_=>by omega
 |[],f+1,_,_=>by
  unfold Hr;rw[Bj (by simp)]
  rfl
 |a::l,f+1,h,hk=>by
  simp only[Io] at h;have ih:=WE (rest:=rest) l f (by omega) (fun x hx=>hk x (by simp[hx]))
  have e:=Aog (x:=a) (r:=(l.map Ba).flatten++rest) (hk a (by simp)).1 (hk a (by simp)).2
  rw[VO,List.flatten_cons,XX];unfold Hr;rw[Cy ⟨by simp only[Io];omega,rfl⟩,e]
  have el:(((a::l).length:Nat):Int)-1=(l.length:Int):=by simp only[Io];omega
  rw[el];simp only[ih]
theorem AZ (m:Md):Be m=Kq 4::Ib m.ver::Ib m.iss::Ib m.nxt::Kq m.ents.length::(m.ents.map Ba).flatten:=by
 unfold Be O9 Dt;simp only[List.flatten_cons,List.flatten_nil,List.append_nil,Zzp,Zzq,List.length_map]
theorem Aqv {l:List Me}:l.length<=(l.map Ba).flatten.length:=by
 induction l with
 |nil=>simp
 |cons x l ih=>
  rw[VO,List.flatten_cons,Kb,Io];have:1<=(Ba x).length:=by unfold Ba;simp
  omega
theorem Aqd {m:Md}(h:B9 m=0)(hr:∀x∈m.ents,x.rts):FA (Be m)=({ m with sig:=sg0 },true):=by
 obtain⟨h1,h2,h3,h4,h5,h6,h7⟩:=Qi h;have e1:Bg 5 (Be m,false)=(Kq 4,(Ib m.ver::Ib m.iss::Ib m.nxt::Kq m.ents.length::(m.ents.map Ba).flatten,false)):=by rw[AZ];exact Fu rfl
 have eA:BE (Be m)=(Ib m.ver,(Ib m.iss::Ib m.nxt::Kq m.ents.length::(m.ents.map Ba).flatten,false)):=by unfold BE;rw[e1];exact Fu rfl
 have eB:DC (Be m)=(Ib m.iss,(Ib m.nxt::Kq m.ents.length::(m.ents.map Ba).flatten,false)):=by unfold DC;rw[eA];exact Fu rfl
 have eC:BJ (Be m)=(Ib m.nxt,(Kq m.ents.length::(m.ents.map Ba).flatten,false)):=by unfold BJ;rw[eB];exact Fu rfl
 have eD:Wy (Be m)=(Kq m.ents.length,((m.ents.map Ba).flatten,false)):=by unfold Wy;rw[eC];exact Fu rfl
 have eE:Agw (Be m)=(m.ents,([],false)):=by
  unfold Agw;rw[eD];have:=WE (rest:=[]) m.ents ((Be m).length+2) (by rw[AZ];simp only[Io];have:=Aqv (l:=m.ents);omega) (fun x hx=>⟨Ql h7 x hx,hr x hx⟩)
  rw[List.append_nil] at this;exact this
 have n1:(Ib m.ver).n=m.ver:=rfl;have n2:(Ib m.iss).n=m.iss:=rfl;have n3:(Ib m.nxt).n=m.nxt:=rfl;unfold FA;rw[eA,eB,eC,eE];simp only[n1,n2,n3];rw[Ak (by omega) (by omega),Ak (by omega) (by omega),Ak (by omega) (by omega)]
 rfl
end
section
open Go.IntKind (wrap)
def okA (a:An):Prop:=Wr a.key.root∧a.name.size<=1024
def okM (x:Me):Prop:=Wr x.model∧(∀a∈x.ans,okA a)∧x.ans.length<=1010∧x.sts.length<=1010
def FP (l:List It):Prop:=∀x∈l,OkX x
theorem An4:Wr it0.n:=⟨by decide,by decide⟩
theorem Arl:it0.s.size<=1024:=by decide
theorem C9 {k:Int}{s:RS}(h:FP s.1):Wr (Bg k s).1.n∧(Bg k s).1.s.size<=1024∧FP (Bg k s).2.1∧(Bg k s).2.1.length<=s.1.length∧((Bg k s).2.2=false->s.2=false∧(Bg k s).2.1.length<s.1.length):=by
 obtain⟨l,b⟩:=s;unfold Bg;cases b
 ·rw[Bj (by simp)]
  cases l with
  |nil=>exact⟨An4,Arl,h,Nat.le_refl _,fun e=>(by cases e)⟩
  |cons x r=>
   simp only;by_cases hk:x.k=k
   ·simp only[hk,if_true];have hx:=h x (by simp)
    exact⟨⟨hx.n0,hx.n1⟩,hx.s1,fun y hy=>h y (by simp[hy]),by simp,fun _=>⟨by trivial,by simp⟩⟩
   ·simp only[hk,if_false];exact⟨An4,Arl,h,Nat.le_refl _,fun e=>(by cases e)⟩
 ·rw[Cy rfl];exact⟨An4,Arl,h,Nat.le_refl _,fun e=>(by cases e)⟩
theorem Ass (l:List Int):Wr (Ao2 l).root:=by
 unfold Ao2;cases h:NP l with
 |none=>exact⟨by simp,by simp⟩
 |some k=>exact (As1 h).2
theorem Anq {s:RS}(h:FP s.1):okA (NM s).1∧FP (NM s).2.1∧(NM s).2.1.length<=s.1.length∧((NM s).2.2=false->(NM s).2.1.length<s.1.length):=by
 obtain⟨_,_,a3,a4,a5⟩:=C9 (k:=5) h;obtain⟨_,b2,b3,b4,b5⟩:=C9 (k:=4) a3;obtain⟨_,_,c3,c4,c5⟩:=C9 (k:=3) b3;unfold NM;refine⟨⟨Ass _,b2⟩,c3,by simp only;omega,fun e=>?_⟩
 simp only[Bool.or_eq_false_iff] at e;have:=c5 e.1;simp only;omega
theorem ZS:∀{f:Nat}{n:Int}{s:RS},FP s.1->(∀a∈(Lr f n s).1,okA a)∧(Lr f n s).1.length<=f∧FP (Lr f n s).2.1∧(Lr f n s).2.1.length<=s.1.length
 |0,n,s,h=>⟨fun a ha=>(by cases ha),Nat.le_refl _,h,Nat.le_refl _⟩
 |f+1,n,s,h=>by
  obtain⟨a1,a2,a3,_⟩:=Anq h;obtain⟨b1,b2,b3,b4⟩:=ZS (f:=f) (n:=n-1) a2;unfold Lr;split
  ·refine⟨fun a ha=>?_,by simp only[Io];omega,b3,by simp only;omega⟩
   rcases List.mem_cons.1 ha with rfl|ha
   ·exact a1
   ·exact b1 a ha
  ·exact⟨fun a ha=>(by cases ha),Nat.zero_le _,h,Nat.le_refl _⟩
theorem Apa {s:RS}(h:FP s.1):FP (SE s).2.1∧(SE s).2.1.length<=s.1.length∧((SE s).2.2=false->(SE s).2.1.length<s.1.length):=by
 obtain⟨_,_,a3,a4,a5⟩:=C9 (k:=5) h;obtain⟨_,_,b3,b4,b5⟩:=C9 (k:=1) a3;obtain⟨_,_,c3,c4,c5⟩:=C9 (k:=1) b3;unfold SE;refine⟨c3,by simp only;omega,fun e=>?_⟩
 have:=c5 e;simp only;omega
theorem Ai3:∀{f:Nat}{n:Int}{s:RS},FP s.1->(Ol f n s).1.length<=f∧FP (Ol f n s).2.1∧(Ol f n s).2.1.length<=s.1.length
 |0,n,s,h=>⟨Nat.le_refl _,h,Nat.le_refl _⟩
 |f+1,n,s,h=>by
  obtain⟨a2,a3,_⟩:=Apa h;obtain⟨b2,b3,b4⟩:=Ai3 (f:=f) (n:=n-1) a2;unfold Ol;split
  ·exact⟨by simp only[Io];omega,b3,by simp only;omega⟩
  ·exact⟨Nat.zero_le _,h,Nat.le_refl _⟩
theorem Aaj {s:RS}(h:FP s.1)(hl:s.1.length<=1000):okM (Ly s).1∧FP (Ly s).2.1∧(Ly s).2.1.length<=s.1.length∧((Bg 5 s).2.2=false->(Ly s).2.1.length<s.1.length):=by
 obtain⟨_,_,a3,a4,a5⟩:=C9 (k:=5) h;obtain⟨b1,_,b3,b4,b5⟩:=C9 (k:=1) a3;have hA:=C9 (k:=5) b3;have hB:=ZS (f:=s.1.length+2) (n:=(CD s).1.n) (s:=(CD s).2) hA.2.2.1;have hC:=C9 (k:=5) (s:=(Zx s).2) hB.2.2.1;have hD:=Ai3 (f:=s.1.length+2) (n:=(Zn s).1.n) (s:=(Zn s).2) hC.2.2.1;have l1:(CD s).2.1.length<=(Bg 5 s).2.1.length:=Nat.le_trans hA.2.2.2.1 b4;have l2:(Zx s).2.1.length<=(CD s).2.1.length:=hB.2.2.2;have l3:(Zn s).2.1.length<=(Zx s).2.1.length:=hC.2.2.2.1;have l4:(Ab8 s).2.1.length<=(Zn s).2.1.length:=hD.2.2;have m1:(Zx s).1.length<=s.1.length+2:=hB.2.1;have m2:(Ab8 s).1.length<=s.1.length+2:=hD.1;unfold Ly;refine⟨⟨b1,hB.1,by simp only;omega,by simp only;omega⟩,hD.2.1,by simp only;omega,fun e=>?_⟩
 have:=(a5 e).2;simp only;omega
theorem Arb {s:RS}(h:FP s.1)(hl:s.1.length<=1000):(Ly s).2.2=false->(Ly s).2.1.length<s.1.length:=by
 intro e;by_cases hf:(Bg 5 s).2.2=false
 ·exact (Aaj h hl).2.2.2 hf
 ·exfalso;have hf:(Bg 5 s).2.2=true:=by simpa using hf
  have st:∀{k:Int} {q:RS},q.2=true->(Bg k q).2.2=true:=fun {k q} hq=>by unfold Bg;rw[Cy hq]
  have h1:(CD s).2.2=true:=st (st hf)
  have h2:(Zx s).2.2=true:=by
   unfold Zx Lr;rw[Bj (by simp[h1])]
   exact h1
  have h3:(Zn s).2.2=true:=st h2
  have h4:(Ab8 s).2.2=true:=by
   unfold Ab8 Ol;rw[Bj (by simp[h3])]
   exact h3
  have:(Ly s).2.2=true:=h4;rw[this] at e;cases e
theorem Ach:∀{f:Nat}{n:Int}{s:RS},FP s.1->s.1.length<=1000->(∀x∈(Hr f n s).1,okM x)∧(Hr f n s).1.length<=f∧FP (Hr f n s).2.1∧(Hr f n s).2.1.length<=s.1.length
 |0,n,s,h,_=>⟨fun a ha=>(by cases ha),Nat.le_refl _,h,Nat.le_refl _⟩
 |f+1,n,s,h,hl=>by
  obtain⟨a1,a2,a3,_⟩:=Aaj h hl;obtain⟨b1,b2,b3,b4⟩:=Ach (f:=f) (n:=n-1) a2 (by omega)
  unfold Hr;split
  ·refine⟨fun a ha=>?_,by simp only[Io];omega,b3,by simp only;omega⟩
   rcases List.mem_cons.1 ha with rfl|ha
   ·exact a1
   ·exact b1 a ha
  ·exact⟨fun a ha=>(by cases ha),Nat.zero_le _,h,Nat.le_refl _⟩
theorem YU {l:List It}(h:FP l)(hl:l.length<=1000):(∀x∈(FA l).1.ents,okM x)∧(FA l).1.ents.length<=1010∧FP (BE l).2.1∧(BE l).2.1.length<=1000∧FP (DC l).2.1∧(DC l).2.1.length<=1000∧FP (BJ l).2.1∧(BJ l).2.1.length<=1000∧FP (Wy l).2.1∧(Wy l).2.1.length<=l.length:=by
 have h0:=C9 (k:=5) (s:=(l,false)) h;have hA:=C9 (k:=1) h0.2.2.1;have hB:=C9 (k:=1) (s:=(BE l).2) hA.2.2.1;have hC:=C9 (k:=1) (s:=(DC l).2) hB.2.2.1;have hD:=C9 (k:=5) (s:=(BJ l).2) hC.2.2.1;have l0:(Bg 5 ((l,false):RS)).2.1.length<=l.length:=h0.2.2.2.1;have l1:(BE l).2.1.length<=(Bg 5 ((l,false):RS)).2.1.length:=hA.2.2.2.1;have l2:(DC l).2.1.length<=(BE l).2.1.length:=hB.2.2.2.1;have l3:(BJ l).2.1.length<=(DC l).2.1.length:=hC.2.2.2.1;have l4:(Wy l).2.1.length<=(BJ l).2.1.length:=hD.2.2.2.1;have hE:=Ach (f:=l.length+2) (n:=(Wy l).1.n) (s:=(Wy l).2) hD.2.2.1 (by omega)
 exact⟨hE.1,by have:(Agw l).1.length<=l.length+2:=hE.2.1;show (Agw l).1.length<=_;omega,hA.2.2.1,by omega,hB.2.2.1,by omega,hC.2.2.1,by omega,hD.2.2.1,by omega⟩
end
section
open Go.Proofs.Tryd (prog)
open Go.IntKind (wrap)
set_option maxRecDepth 100000
abbrev Mw:FuncId:=50
theorem Vm (fu d:Nat)(Aj:ByteArray)(Ao Bc:Int):Ad C0 prog fu (d+1) Mw [.agg [.sc (.string Aj),.sc (.int .i64 Ao),.sc (.int .u64 Bc)]]=(fun (call:Ah)=>Bi (decide ((↑(ByteArray.size Aj):Int)<1)) (some (A5.mk [.own 3 0 [],.sc (.int .i64 9)] [])) (Bi (decide ((↑(ByteArray.size Aj):Int)>32)) (some (A5.mk [.own 3 0 [],.sc (.int .i64 9)] [])) (Ai (call 71 [.sc (.string Aj)]) fun x1 x2=>Ac x2<|Ab x1 fun x3 x4=>Bu x3 fun x5=>Ac x4<|Bi (!x5) (some (A5.mk [.own 3 0 [],.sc (.int .i64 6)] [])) (Ai (call 72 [.agg [.sc (.int .i64 Ao),.sc (.int .u64 Bc)]]) fun x6 x7=>Ac x7<|Ab x6 fun x8 x9=>Gl 1 x8 fun C6 Dr=>Ab x9 fun Eg Ez=>Ae .i64 Eg fun D7=>Ac Ez<|Bi (D7 != 0) (some (A5.mk [.own 3 0 [],.sc (.int .i64 D7)] [])) (Ai (call 73 [.sc (.string Aj)]) fun Ew Fw=>Ac Fw<|Ab Ew fun Gm G4=>Gl 3 Gm fun Gi Gy=>Ac G4<|Ar (decide (0+C6*1<=Dr.length))<|Ai (call 74 [.lst false 1 C6 (List.take (C6*1) (List.drop 0 Dr))]) fun Jk Ia=>Ac Ia<|Ab Jk fun Je Fn=>Gl 3 Je fun Eu Hv=>Ac Fn<|Ar (decide (0+Gi*3<=Gy.length))<|Ar (decide (0+Eu*3<=Hv.length))<|Ai (call 29 [.lst false 1 2 [.lst false 3 Gi (List.take (Gi*3) (List.drop 0 Gy)),.lst false 3 Eu (List.take (Eu*3) (List.drop 0 Hv))]]) fun J8 G3=>Ac G3<|Ab J8 fun O6 M7=>Gl 3 O6 fun Kw Mz=>Ab M7 fun O8 Pn=>Ae .i64 O8 fun O5=>Ac Pn<|Ar (decide (Kw*3<=Mz.length))<|some (A5.mk [.own 3 Kw (List.take (Kw*3) Mz),.sc (.int .i64 O5)] [])))))) (Ad C0 prog fu d):=by kernel_rfl
abbrev Na:FuncId:=28
noncomputable def Gf (fu:Nat)(call:Ah)(Aj:Int)(Cc:Nat)(Ao:List PV)(Bm:Nat)(Bc:List PV)(nn y0 y1:Nat)(y2:List PV)(y3 y4 y5:Int)(y6:Nat)(y7:List PV)(y8:Nat)(y9 y10:List PV):Option A5:=Du CB prog fu call 28 Tryd.f28 (Ca Tryd.f28) [.agg [.sc (.int .u64 Aj),.lst false 3 Cc Ao,.lst false 2 Bm Bc]] [.r,.r,.r,.l,.r,.l] nn ⟨lk [(1,(.ptr 1 0)),(4,(.view 4 1 0 y0)),(27,(.lst false 3 y1 y2)),(28,(.sc (.int .i64 y3))),(29,(.sc (.int .i64 y4)))],Br [(1,(.st [(.sc (.int .u64 y5)),(.lst false 3 y6 y7),(.lst false 2 y8 y9)])),(4,(.ar false y10))]⟩
noncomputable def E5 (fu:Nat)(call:Ah)(Aj:Int)(Cc:Nat)(Ao:List PV)(Bm:Nat)(Bc:List PV)(nn y0:Nat)(y1 y2:Nat)(y3:List PV)(y4 y5 y6:Int)(y7:Nat)(y8:List PV)(y9:Nat)(y10 G5 Hq:List PV):Option A5:=Du CB prog fu call 28 Tryd.f28 (Ca Tryd.f28) [.agg [.sc (.int .u64 Aj),.lst false 3 Cc Ao,.lst false 2 Bm Bc]] [.r,.r,.r,.r,.r,.r,.r,.l,.r,.l] nn ⟨lk [(1,(.ptr 1 0)),(4,(.view 4 1 0 y0)),(9,(.view 9 3 0 y1)),(55,(.lst false 2 y2 y3)),(56,(.sc (.int .i64 y4))),(57,(.sc (.int .i64 y5)))],Br [(1,(.st [(.sc (.int .u64 y6)),(.lst false 3 y7 y8),(.lst false 2 y9 y10)])),(4,(.ar false G5)),(9,(.ar false Hq))]⟩
noncomputable def Mc (fu:Nat)(call:Ah)(Aj:Int)(Cc:Nat)(Ao:List PV)(Bm:Nat)(Bc:List PV)(m0 nn:Nat)(y0 y1:Nat)(y2:Int)(y3:Nat)(y4:List PV)(y5 y6 y7:Int)(y8:Nat)(y9:List PV)(y10:Nat)(G5 Hq J0:List PV)(O7 M5:Int):Option A5:=Du CB prog fu call 28 Tryd.f28 (Ca Tryd.f28) [.agg [.sc (.int .u64 Aj),.lst false 3 Cc Ao,.lst false 2 Bm Bc]] [.r,.r,.r,.r,.r,.r,.r,.l,.r,.l,.i m0,.r,.r,.l,.l,.r] nn ⟨lk [(1,(.ptr 1 0)),(4,(.view 4 1 0 y0)),(9,(.view 9 3 0 y1)),(11,(.sc (.int .i64 y2))),(12,(.ptr 12 0)),(55,(.lst false 2 y3 y4)),(56,(.sc (.int .i64 y5))),(57,(.sc (.int .i64 y6)))],Br [(1,(.st [(.sc (.int .u64 y7)),(.lst false 3 y8 y9),(.lst false 2 y10 G5)])),(4,(.ar false Hq)),(9,(.ar false J0)),(12,(.st [(.sc (.int .i64 O7)),(.sc (.int .i64 M5))]))]⟩
theorem Hp (fu:Nat)(call:Ah)(Aj:Int)(Cc:Nat)(Ao:List PV)(Bm:Nat)(Bc:List PV)(nn y0 y1:Nat)(y2:List PV)(y3 y4 y5:Int)(y6:Nat)(y7:List PV)(y8:Nat)(y9 y10:List PV):Gf fu call Aj Cc Ao Bm Bc (nn+1) y0 y1 y2 y3 y4 y5 y6 y7 y8 y9 y10=(Bi (decide (y4<y3)) (Ar (decide (0<=y4)&&decide (y4<(↑y1:Int)))<|Iz (List.getD y2 (Int.toNat y4*3) .top) fun x1=>Ae .i64 (List.getD y2 (Int.toNat y4*3+1) .top) fun x2=>Ae .u64 (List.getD y2 (Int.toNat y4*3+1+1) .top) fun x3=>Ai (call 50 [.agg [.sc (.string x1),.sc (.int .i64 x2),.sc (.int .u64 x3)]]) fun x4 x5=>Ac x5<|Ab x4 fun x6 x7=>Gl 3 x6 fun x8 x9=>Ab x7 fun C6 Dr=>Ae .i64 C6 fun Eg=>Ac Dr<|Bi (Eg != 0) (some (A5.mk [.own 3 0 [],.sc (.int .i64 Eg)] [])) (Ar (decide (0+x8*3<=x9.length))<|Ar (decide (y0*1<=y10.length)&&true&&decide ((y0+1)*24<=1099511627776)&&decide (y0+1<=1099511627776))<|Aa (y0+1) fun Ez=>Aa (List.take (y0*1) y10++[.lst false 3 x8 (List.take (x8*3) (List.drop 0 x9))]) fun D7=>Aa (wrap .i64 (y4+1)) fun Ew=>Gf fu call Aj Cc Ao Bm Bc (nn) Ez (y1) (y2) (y3) Ew (y5) (y6) (y7) (y8) (y9) D7)) (Ar (decide (0+y0*1<=y10.length))<|Ai (call 29 [.lst false 1 y0 (List.take (y0*1) (List.drop 0 y10))]) fun Fw Gm=>Ac Gm<|Ab Fw fun G4 Gi=>Gl 3 G4 fun Gy Jk=>Ab Gi fun Ia Je=>Ae .i64 Ia fun Fn=>Ac Je<|Bi (Fn != 0) (some (A5.mk [.own 3 0 [],.sc (.int .i64 Fn)] [])) (E5 fu call Aj Cc Ao Bm Bc (fu) 0 Gy (y8) (y9) ((↑y8:Int)) 0 (y5) (y6) (y7) (y8) (y9) ([]) Jk))):=by kernel_rfl
theorem Ds (fu:Nat)(call:Ah)(Aj:Int)(Cc:Nat)(Ao:List PV)(Bm:Nat)(Bc:List PV)(nn y0:Nat)(y1 y2:Nat)(y3:List PV)(y4 y5 y6:Int)(y7:Nat)(y8:List PV)(y9:Nat)(y10 G5 Hq:List PV):E5 fu call Aj Cc Ao Bm Bc (nn+1) y0 y1 y2 y3 y4 y5 y6 y7 y8 y9 y10 G5 Hq=(Bi (decide (y5<y4)) (Ar (decide (0<=y5)&&decide (y5<(↑y2:Int)))<|Ae .i64 (List.getD y3 (Int.toNat y5*2) .top) fun Eu=>Ae .i64 (List.getD y3 (Int.toNat y5*2+1) .top) fun Hv=>Bi (decide (Eu<1)) (some (A5.mk [.own 3 0 [],.sc (.int .i64 9)] [])) (Bi (decide (Eu>4)) (some (A5.mk [.own 3 0 [],.sc (.int .i64 9)] [])) (Bi (decide (Hv<0)) (some (A5.mk [.own 3 0 [],.sc (.int .i64 9)] [])) (Bi (decide (Hv>1099511627776)) (some (A5.mk [.own 3 0 [],.sc (.int .i64 9)] [])) (Mc fu call Aj Cc Ao Bm Bc nn (fu) (y0) (y1) (y5) (y2) (y3) (y4) (y5) (y6) (y7) (y8) (y9) (y10) (G5) (Hq) Eu Hv))))) (Ar (decide (0+y0*1<=G5.length))<|Ai (call 29 [.lst false 1 y0 (List.take (y0*1) (List.drop 0 G5))]) fun J8 G3=>Ac G3<|Ab J8 fun O6 M7=>Gl 3 O6 fun Kw Mz=>Ab M7 fun O8 Pn=>Ae .i64 O8 fun O5=>Ac Pn<|Bi (O5 != 0) (some (A5.mk [.own 3 0 [],.sc (.int .i64 O5)] [])) (Ai (call 30 [.sc (.int .u64 y6)]) fun Ry Vb=>Ac Vb<|Ab Ry fun Ic Ln=>Gl 3 Ic fun S4 Xb=>Ac Ln<|Ar (decide (0+S4*3<=Xb.length))<|Ar (decide (0+y1*3<=Hq.length))<|Ar (decide (0+Kw*3<=Mz.length))<|Ai (call 29 [.lst false 1 3 [.lst false 3 S4 (List.take (S4*3) (List.drop 0 Xb)),.lst false 3 y1 (List.take (y1*3) (List.drop 0 Hq)),.lst false 3 Kw (List.take (Kw*3) (List.drop 0 Mz))]]) fun R9 Ye=>Ac Ye<|Ab R9 fun Za X6=>Gl 3 Za fun Xc Yd=>Ab X6 fun Yq Yu=>Ae .i64 Yq fun BD=>Ac Yu<|Ar (decide (Xc*3<=Yd.length))<|some (A5.mk [.own 3 Xc (List.take (Xc*3) Yd),.sc (.int .i64 BD)] [])))):=by kernel_rfl
theorem Hn (fu:Nat)(call:Ah)(Aj:Int)(Cc:Nat)(Ao:List PV)(Bm:Nat)(Bc:List PV)(m0 nn:Nat)(U7:0<nn)(y0 y1:Nat)(y2:Int)(y3:Nat)(y4:List PV)(y5 y6 y7:Int)(y8:Nat)(y9:List PV)(y10:Nat)(G5 Hq J0:List PV)(O7 M5:Int):Mc fu call Aj Cc Ao Bm Bc m0 nn y0 y1 y2 y3 y4 y5 y6 y7 y8 y9 y10 G5 Hq J0 O7 M5=(Bi (decide (y2>0)) (Aa (wrap .i64 (y2-1)) fun Zz=>Ar (decide (0<=Zz)&&decide (Zz<(↑y10:Int)))<|Ae .i64 (List.getD G5 (Int.toNat Zz*2+1) .top) fun Zg=>Bi (decide (M5<=Zg)) (some (A5.mk [.own 3 0 [],.sc (.int .i64 7)] [])) (Aa (wrap .u64 O7) fun BX=>Ai (call 30 [.sc (.int .u64 BX)]) fun EJ DK=>Ac DK<|Ab EJ fun CJ CI=>Gl 3 CJ fun Z3 GV=>Ac CI<|Aa (wrap .u64 M5) fun AF=>Ai (call 30 [.sc (.int .u64 AF)]) fun CU FF=>Ac FF<|Ab CU fun DM AA=>Gl 3 DM fun Y9 Xd=>Ac AA<|Ar (decide (0+Z3*3<=GV.length))<|Ar (decide (0+Y9*3<=Xd.length))<|Ai (call 29 [.lst false 1 2 [.lst false 3 Z3 (List.take (Z3*3) (List.drop 0 GV)),.lst false 3 Y9 (List.take (Y9*3) (List.drop 0 Xd))]]) fun EH GU=>Ac GU<|Ab EH fun DN FH=>Gl 3 DN fun DJ FS=>Ab FH fun GW AL=>Ae .i64 GW fun KL=>Ac AL<|Bi (KL != 0) (some (A5.mk [.own 3 0 [],.sc (.int .i64 KL)] [])) (Ar (decide (0+DJ*3<=FS.length))<|Ar (decide (y0*1<=Hq.length)&&true&&decide ((y0+1)*24<=1099511627776)&&decide (y0+1<=1099511627776))<|Aa (y0+1) fun MX=>Aa (List.take (y0*1) Hq++[.lst false 3 DJ (List.take (DJ*3) (List.drop 0 FS))]) fun DH=>Aa (wrap .i64 (y6+1)) fun LX=>E5 fu call Aj Cc Ao Bm Bc (m0) MX (y1) (y3) (y4) (y5) LX (y7) (y8) (y9) (y10) (G5) DH (J0)))) (Aa (wrap .u64 O7) fun QU=>Ai (call 30 [.sc (.int .u64 QU)]) fun RT OM=>Ac OM<|Ab RT fun TH x83=>Gl 3 TH fun VU x85=>Ac x83<|Aa (wrap .u64 M5) fun YL=>Ai (call 30 [.sc (.int .u64 YL)]) fun x87 YA=>Ac YA<|Ab x87 fun NB RV=>Gl 3 NB fun UR x92=>Ac RV<|Ar (decide (0+VU*3<=x85.length))<|Ar (decide (0+UR*3<=x92.length))<|Ai (call 29 [.lst false 1 2 [.lst false 3 VU (List.take (VU*3) (List.drop 0 x85)),.lst false 3 UR (List.take (UR*3) (List.drop 0 x92))]]) fun x93 x94=>Ac x94<|Ab x93 fun x95 x96=>Gl 3 x95 fun WG SB=>Ab x96 fun x99 T0=>Ae .i64 x99 fun ES=>Ac T0<|Bi (ES != 0) (some (A5.mk [.own 3 0 [],.sc (.int .i64 ES)] [])) (Ar (decide (0+WG*3<=SB.length))<|Ar (decide (y0*1<=Hq.length)&&true&&decide ((y0+1)*24<=1099511627776)&&decide (y0+1<=1099511627776))<|Aa (y0+1) fun Jq=>Aa (List.take (y0*1) Hq++[.lst false 3 WG (List.take (WG*3) (List.drop 0 SB))]) fun M0=>Aa (wrap .i64 (y6+1)) fun Z4=>E5 fu call Aj Cc Ao Bm Bc (m0) Jq (y1) (y3) (y4) (y5) Z4 (y7) (y8) (y9) (y10) (G5) M0 (J0)))):=by cases nn with|zero=>exact absurd U7 (Nat.lt_irrefl 0)|succ nn=>kernel_rfl
theorem W6 (fu d:Nat)(Aj:Int)(Cc:Nat)(Ao:List PV)(Bm:Nat)(Bc:List PV):Ad C0 prog fu (d+1) Na [.agg [.sc (.int .u64 Aj),.lst false 3 Cc Ao,.lst false 2 Bm Bc]]=(fun (call:Ah)=>Bi (decide ((↑Cc:Int)>4)) (some (A5.mk [.own 3 0 [],.sc (.int .i64 8)] [])) (Bi (decide ((↑Bm:Int)>4)) (some (A5.mk [.own 3 0 [],.sc (.int .i64 8)] [])) (Gf fu call Aj Cc Ao Bm Bc (fu) 0 (Cc) (Ao) ((↑Cc:Int)) 0 (Aj) (Cc) (Ao) (Bm) (Bc) ([])))) (Ad C0 prog fu d):=by kernel_rfl
abbrev Wo:FuncId:=13
noncomputable def H5 (fu:Nat)(call:Ah)(Aj Ao Bc:Int)(Cp:Nat)(Cv:List PV)(Fa:Int)(C3:Nat)(Fd:List PV)(C2:Nat)(Fc:List PV)(nn y0 y1:Nat)(y2:List PV)(y3 y4:Int)(y5 y6 y7:Int)(y8:Nat)(y9:List PV)(y10:Int)(G5:Nat)(Hq:List PV)(J0:Nat)(O7 M5:List PV):Option A5:=Du CB prog fu call 13 Tryd.f13 (Ca Tryd.f13) [.agg [.sc (.int .i64 Aj),.sc (.int .i64 Ao),.sc (.int .i64 Bc),.lst false 3 Cp Cv,.sc (.int .i64 Fa),.lst false 1 C3 Fd,.lst false 1 C2 Fc]] [.r,.r,.r,.r,.r,.l,.r,.l] nn ⟨lk [(1,(.ptr 1 0)),(4,(.view 4 1 0 y0)),(40,(.lst false 3 y1 y2)),(41,(.sc (.int .i64 y3))),(42,(.sc (.int .i64 y4)))],Br [(1,(.st [(.sc (.int .i64 y5)),(.sc (.int .i64 y6)),(.sc (.int .i64 y7)),(.lst false 3 y8 y9),(.sc (.int .i64 y10)),(.lst false 1 G5 Hq),(.lst false 1 J0 O7)])),(4,(.ar false M5))]⟩
theorem Qq (fu:Nat)(call:Ah)(Aj Ao Bc:Int)(Cp:Nat)(Cv:List PV)(Fa:Int)(C3:Nat)(Fd:List PV)(C2:Nat)(Fc:List PV)(nn y0 y1:Nat)(y2:List PV)(y3 y4:Int)(y5 y6 y7:Int)(y8:Nat)(y9:List PV)(y10:Int)(G5:Nat)(Hq:List PV)(J0:Nat)(O7 M5:List PV):H5 fu call Aj Ao Bc Cp Cv Fa C3 Fd C2 Fc (nn+1) y0 y1 y2 y3 y4 y5 y6 y7 y8 y9 y10 G5 Hq J0 O7 M5=(Bi (decide (y4<y3)) (Ar (decide (0<=y4)&&decide (y4<(↑y1:Int)))<|Ae .u64 (List.getD y2 (Int.toNat y4*3) .top) fun x1=>Fq 3 (List.getD y2 (Int.toNat y4*3+1) .top) fun x2 x3 x4=>Fq 2 (List.getD y2 (Int.toNat y4*3+1+1) .top) fun x5 x6 x7=>Bi (decide (y4>0)) (Aa (wrap .i64 (y4-1)) fun x8=>Ar (decide (0<=x8)&&decide (x8<(↑y8:Int)))<|Ae .u64 (List.getD y9 (Int.toNat x8*3+0) .top) fun x9=>Bi (decide (x1<=x9)) (some (A5.mk [.own 1 0 [],.sc (.int .i64 7)] [])) (Ai (call 28 [.agg [.sc (.int .u64 x1),.lst false 3 x3 x4,.lst false 2 x6 x7]]) fun C6 Dr=>Ac Dr<|Ab C6 fun Eg Ez=>Gl 3 Eg fun D7 Ew=>Ab Ez fun Fw Gm=>Ae .i64 Fw fun G4=>Ac Gm<|Bi (G4 != 0) (some (A5.mk [.own 1 0 [],.sc (.int .i64 G4)] [])) (Ar (decide (0+D7*3<=Ew.length))<|Ar (decide (y0*1<=M5.length)&&true&&decide ((y0+1)*24<=1099511627776)&&decide (y0+1<=1099511627776))<|Aa (y0+1) fun Gi=>Aa (List.take (y0*1) M5++[.lst false 3 D7 (List.take (D7*3) (List.drop 0 Ew))]) fun Gy=>Aa (wrap .i64 (y4+1)) fun Jk=>H5 fu call Aj Ao Bc Cp Cv Fa C3 Fd C2 Fc (nn) Gi (y1) (y2) (y3) Jk (y5) (y6) (y7) (y8) (y9) (y10) (G5) (Hq) (J0) (O7) Gy))) (Ai (call 28 [.agg [.sc (.int .u64 x1),.lst false 3 x3 x4,.lst false 2 x6 x7]]) fun Ia Je=>Ac Je<|Ab Ia fun Fn Eu=>Gl 3 Fn fun Hv J8=>Ab Eu fun G3 O6=>Ae .i64 G3 fun M7=>Ac O6<|Bi (M7 != 0) (some (A5.mk [.own 1 0 [],.sc (.int .i64 M7)] [])) (Ar (decide (0+Hv*3<=J8.length))<|Ar (decide (y0*1<=M5.length)&&true&&decide ((y0+1)*24<=1099511627776)&&decide (y0+1<=1099511627776))<|Aa (y0+1) fun Kw=>Aa (List.take (y0*1) M5++[.lst false 3 Hv (List.take (Hv*3) (List.drop 0 J8))]) fun Mz=>Aa (wrap .i64 (y4+1)) fun O8=>H5 fu call Aj Ao Bc Cp Cv Fa C3 Fd C2 Fc (nn) Kw (y1) (y2) (y3) O8 (y5) (y6) (y7) (y8) (y9) (y10) (G5) (Hq) (J0) (O7) Mz))) (Ar (decide (0+y0*1<=M5.length))<|Ai (call 29 [.lst false 1 y0 (List.take (y0*1) (List.drop 0 M5))]) fun Pn O5=>Ac O5<|Ab Pn fun Ry Vb=>Gl 3 Ry fun Ic Ln=>Ab Vb fun S4 Xb=>Ae .i64 S4 fun R9=>Ac Xb<|Bi (R9 != 0) (some (A5.mk [.own 1 0 [],.sc (.int .i64 R9)] [])) (Aa (wrap .u64 y5) fun Ye=>Ai (call 30 [.sc (.int .u64 Ye)]) fun Za X6=>Ac X6<|Ab Za fun Xc Yd=>Gl 3 Xc fun Yq Yu=>Ac Yd<|Aa (wrap .u64 y6) fun BD=>Ai (call 30 [.sc (.int .u64 BD)]) fun Zz Zg=>Ac Zg<|Ab Zz fun BX EJ=>Gl 3 BX fun DK CJ=>Ac EJ<|Aa (wrap .u64 y7) fun CI=>Ai (call 30 [.sc (.int .u64 CI)]) fun Z3 GV=>Ac GV<|Ab Z3 fun AF CU=>Gl 3 AF fun FF DM=>Ac CU<|Ar (decide (0+Yq*3<=Yu.length))<|Ar (decide (0+DK*3<=CJ.length))<|Ar (decide (0+FF*3<=DM.length))<|Ar (decide (0+Ic*3<=Ln.length))<|Ai (call 29 [.lst false 1 4 [.lst false 3 Yq (List.take (Yq*3) (List.drop 0 Yu)),.lst false 3 DK (List.take (DK*3) (List.drop 0 CJ)),.lst false 3 FF (List.take (FF*3) (List.drop 0 DM)),.lst false 3 Ic (List.take (Ic*3) (List.drop 0 Ln))]]) fun AA Y9=>Ac Y9<|Ab AA fun Xd EH=>Gl 3 Xd fun GU DN=>Ab EH fun FH DJ=>Ae .i64 FH fun FS=>Ac DJ<|Bi (FS != 0) (some (A5.mk [.own 1 0 [],.sc (.int .i64 FS)] [])) (Ar (decide (0+GU*3<=DN.length))<|Ai (call 31 [.lst false 3 GU (List.take (GU*3) (List.drop 0 DN))]) fun GW AL=>Ac AL<|Ab GW fun KL MX=>Gl 1 KL fun DH LX=>Ab MX fun QU RT=>Ae .i64 QU fun OM=>Ac RT<|Ar (decide (DH*1<=LX.length))<|some (A5.mk [.own 1 DH (List.take (DH*1) LX),.sc (.int .i64 OM)] []))))):=by kernel_rfl
theorem MN (fu d:Nat)(Aj Ao Bc:Int)(Cp:Nat)(Cv:List PV)(Fa:Int)(C3:Nat)(Fd:List PV)(C2:Nat)(Fc:List PV):Ad C0 prog fu (d+1) Wo [.agg [.sc (.int .i64 Aj),.sc (.int .i64 Ao),.sc (.int .i64 Bc),.lst false 3 Cp Cv,.sc (.int .i64 Fa),.lst false 1 C3 Fd,.lst false 1 C2 Fc]]=(fun (call:Ah)=>Bi (decide (Aj<1)) (some (A5.mk [.own 1 0 [],.sc (.int .i64 9)] [])) (Bi (decide (Aj>16)) (some (A5.mk [.own 1 0 [],.sc (.int .i64 9)] [])) (Bi (decide (Ao<0)) (some (A5.mk [.own 1 0 [],.sc (.int .i64 9)] [])) (Bi (decide (Ao>Bc)) (some (A5.mk [.own 1 0 [],.sc (.int .i64 9)] [])) (Bi (decide (Bc>1099511627776)) (some (A5.mk [.own 1 0 [],.sc (.int .i64 9)] [])) (Bi (decide ((↑Cp:Int)>16)) (some (A5.mk [.own 1 0 [],.sc (.int .i64 8)] [])) (H5 fu call Aj Ao Bc Cp Cv Fa C3 Fd C2 Fc (fu) 0 (Cp) (Cv) ((↑Cp:Int)) 0 (Aj) (Ao) (Bc) (Cp) (Cv) (Fa) (C3) (Fd) (C2) (Fc) ([])))))))) (Ad C0 prog fu d):=by kernel_rfl
abbrev Wn:FuncId:=10
theorem MW (fu d:Nat)(Aj Ao Bc:Int)(Cp:Nat)(Cv:List PV)(Fa:Int)(C3:Nat)(Fd:List PV)(C2:Nat)(Fc:List PV):Ad C0 prog fu (d+1) Wn [.agg [.sc (.int .i64 Aj),.sc (.int .i64 Ao),.sc (.int .i64 Bc),.lst false 3 Cp Cv,.sc (.int .i64 Fa),.lst false 1 C3 Fd,.lst false 1 C2 Fc]]=(fun (call:Ah)=>Ai (call 13 [.agg [.sc (.int .i64 Aj),.sc (.int .i64 Ao),.sc (.int .i64 Bc),.lst false 3 Cp Cv,.sc (.int .i64 Fa),.lst false 1 C3 Fd,.lst false 1 C2 Fc]]) fun x1 x2=>Ac x2<|Ab x1 fun x3 x4=>Gl 1 x3 fun x5 x6=>Ab x4 fun x7 x8=>Ae .i64 x7 fun x9=>Ac x8<|Bi (x9 != 0) (some (A5.mk [.sc (.int .u64 0),.sc (.int .i64 x9)] [])) (Ar (decide (0+x5*1<=x6.length))<|Ai (call 21 [.sc (.int .i64 15),.lst false 1 x5 (List.take (x5*1) (List.drop 0 x6))]) fun C6 Dr=>Ac Dr<|Ab C6 fun Eg Ez=>Ae .u64 Eg fun D7=>Ac Ez<|some (A5.mk [.sc (.int .u64 D7),.sc (.int .i64 0)] []))) (Ad C0 prog fu d):=by kernel_rfl
abbrev R7:FuncId:=16
theorem DW (fu d:Nat)(Aj Ao Bc:Int)(Cp:Nat)(Cv:List PV)(Fa:Int)(C3:Nat)(Fd:List PV)(C2:Nat)(Fc:List PV)(Cg Cf:Int):Ad C0 prog fu (d+1) R7 [.agg [.sc (.int .i64 Aj),.sc (.int .i64 Ao),.sc (.int .i64 Bc),.lst false 3 Cp Cv,.sc (.int .i64 Fa),.lst false 1 C3 Fd,.lst false 1 C2 Fc],.agg [.sc (.int .i64 Cg),.sc (.int .u64 Cf)]]=(fun (call:Ah)=>Ai (call 10 [.agg [.sc (.int .i64 Aj),.sc (.int .i64 Ao),.sc (.int .i64 Bc),.lst false 3 Cp Cv,.sc (.int .i64 Fa),.lst false 1 C3 Fd,.lst false 1 C2 Fc]]) fun x1 x2=>Ac x2<|Ab x1 fun x3 x4=>Ae .u64 x3 fun x5=>Ab x4 fun x6 x7=>Ae .i64 x6 fun x8=>Ac x7<|Bi (x8 != 0) (some (A5.mk [.sc (.int .i64 x8)] [])) (Aa (wrap .i64 (Aj-1)) fun x9=>Bi (Fa != x9) (some (A5.mk [.sc (.int .i64 33)] [])) (Ai (call 37 [.agg [.sc (.int .i64 Cg),.sc (.int .u64 Cf)],.sc (.int .u64 x5),.agg [.sc (.int .i64 Fa),.lst false 1 C3 Fd,.lst false 1 C2 Fc]]) fun C6 Dr=>Ac Dr<|Ab C6 fun Eg Ez=>Ae .i64 Eg fun D7=>Ac Ez<|some (A5.mk [.sc (.int .i64 D7)] [])))) (Ad C0 prog fu d):=by kernel_rfl
abbrev Mt:FuncId:=5
theorem DS (fu d:Nat)(Aj Ao Bc:Int)(Cp:Nat)(Cv:List PV)(Fa:Int)(C3:Nat)(Fd:List PV)(C2:Nat)(Fc:List PV):Ad C0 prog fu (d+1) Mt [.agg [.sc (.int .i64 Aj),.sc (.int .i64 Ao),.sc (.int .i64 Bc),.lst false 3 Cp Cv,.sc (.int .i64 Fa),.lst false 1 C3 Fd,.lst false 1 C2 Fc]]=(fun (call:Ah)=>Ai (call 13 [.agg [.sc (.int .i64 Aj),.sc (.int .i64 Ao),.sc (.int .i64 Bc),.lst false 3 Cp Cv,.sc (.int .i64 Fa),.lst false 1 C3 Fd,.lst false 1 C2 Fc]]) fun x1 x2=>Ac x2<|Ab x1 fun x3 x4=>Gl 1 x3 fun x5 x6=>Ab x4 fun x7 x8=>Ae .i64 x7 fun x9=>Ac x8<|Bi (x9 != 0) (some (A5.mk [.own 1 0 [],.sc (.int .i64 x9)] [])) (Ai (call 14 [.agg [.sc (.int .i64 Fa),.lst false 1 C3 Fd,.lst false 1 C2 Fc]]) fun C6 Dr=>Ac Dr<|Ab C6 fun Eg Ez=>Gl 1 Eg fun D7 Ew=>Ab Ez fun Fw Gm=>Ae .i64 Fw fun G4=>Ac Gm<|Bi (G4 != 0) (some (A5.mk [.own 1 0 [],.sc (.int .i64 G4)] [])) (Ar (decide (0+D7*1<=Ew.length))<|Ar (decide (x5*1<=x6.length)&&decide (List.length (List.take (D7*1) (List.drop 0 Ew))=D7*1)&&decide ((x5+D7)*1<=1099511627776)&&decide (x5+D7<=1099511627776))<|Aa (x5+D7) fun Gi=>Aa (List.take (x5*1) x6++List.take (D7*1) (List.drop 0 Ew)) fun Gy=>Ar (decide (Gi*1<=Gy.length))<|some (A5.mk [.own 1 Gi (List.take (Gi*1) Gy),.sc (.int .i64 0)] [])))) (Ad C0 prog fu d):=by kernel_rfl
abbrev Iq:FuncId:=4
noncomputable def J3 (fu:Nat)(call:Ah)(Aj Ao Bc:Int)(Cp:Nat)(Cv:List PV)(Fa:Int)(C3:Nat)(Fd:List PV)(C2:Nat)(Fc:List PV)(a1 a2:Int)(nn y0 y1:Nat)(y2:List PV)(y3 y4:Int)(y5 y6 y7:Int)(y8:Nat)(y9:List PV)(y10:Int)(G5:Nat)(Hq:List PV)(J0:Nat)(O7:List PV)(M5 Vd Wz:Int)(LG:Nat)(Zt:Int)(To Sn:Nat)(MZ y23 y24:List PV)(y25:Int)(y26:Nat)(y27:List PV)(y28:Nat)(y29 y30:List PV):Option A5:=Du CB prog fu call 4 Tryd.f4 (Ca Tryd.f4) [.agg [.sc (.int .i64 Aj),.sc (.int .i64 Ao),.sc (.int .i64 Bc),.lst false 3 Cp Cv,.sc (.int .i64 Fa),.lst false 1 C3 Fd,.lst false 1 C2 Fc],.sc (.int .u64 a1),.sc (.int .i64 a2)] [.r,.r,.r,.r,.r,.r,.l,.r,.l] nn ⟨lk [(3,(.ptr 3 0)),(6,(.ptr 6 0)),(10,(.ptr 10 0)),(11,(.view 11 3 0 y0)),(42,(.lst false 3 y1 y2)),(43,(.sc (.int .i64 y3))),(44,(.sc (.int .i64 y4)))],Br [(3,(.st [(.sc (.int .i64 y5)),(.sc (.int .i64 y6)),(.sc (.int .i64 y7)),(.lst false 3 y8 y9),(.sc (.int .i64 y10)),(.lst false 1 G5 Hq),(.lst false 1 J0 O7)])),(6,(.st [(.sc (.int .i64 M5)),(.sc (.int .i64 Vd)),(.sc (.int .i64 Wz)),(.view 242 3 0 LG),(.sc (.int .i64 Zt)),(.view 360 1 0 To),(.view 419 1 0 Sn)])),(242,(.ar false MZ)),(360,(.ar false y23)),(419,(.ar false y24)),(10,(.st [(.sc (.int .i64 y25)),(.lst false 1 y26 y27),(.lst false 1 y28 y29)])),(11,(.ar false y30))]⟩
theorem Ri (fu:Nat)(call:Ah)(Aj Ao Bc:Int)(Cp:Nat)(Cv:List PV)(Fa:Int)(C3:Nat)(Fd:List PV)(C2:Nat)(Fc:List PV)(a1 a2:Int)(nn y0 y1:Nat)(y2:List PV)(y3 y4:Int)(y5 y6 y7:Int)(y8:Nat)(y9:List PV)(y10:Int)(G5:Nat)(Hq:List PV)(J0:Nat)(O7:List PV)(M5 Vd Wz:Int)(LG:Nat)(Zt:Int)(To Sn:Nat)(MZ y23 y24:List PV)(y25:Int)(y26:Nat)(y27:List PV)(y28:Nat)(y29 y30:List PV):J3 fu call Aj Ao Bc Cp Cv Fa C3 Fd C2 Fc a1 a2 (nn+1) y0 y1 y2 y3 y4 y5 y6 y7 y8 y9 y10 G5 Hq J0 O7 M5 Vd Wz LG Zt To Sn MZ y23 y24 y25 y26 y27 y28 y29 y30=(Bi (decide (y4<y3)) (Ar (decide (0<=y4)&&decide (y4<(↑y1:Int)))<|Ae .u64 (List.getD y2 (Int.toNat y4*3) .top) fun Kw=>Fq 3 (List.getD y2 (Int.toNat y4*3+1) .top) fun Mz O8 Pn=>Fq 2 (List.getD y2 (Int.toNat y4*3+1+1) .top) fun O5 Ry Vb=>Ai (call 12 [.agg [.sc (.int .u64 Kw),.lst false 3 O8 Pn,.lst false 2 Ry Vb]]) fun Ic Ln=>Ac Ln<|Ab Ic fun S4 Xb=>Fm S4 fun R9=>Ab R9 fun Ye Za=>Ae .u64 Ye fun X6=>Ab Za fun Xc Yd=>Fq 3 Xc fun Yq Yu BD=>Ab Yd fun Zz Zg=>Fq 2 Zz fun BX EJ DK=>Ac Zg<|Ac Xb<|Ar (decide (y0*3<=y30.length)&&true&&decide ((y0+1)*56<=1099511627776)&&decide (y0+1<=1099511627776))<|Aa (y0+1) fun CJ=>Aa (List.take (y0*3) y30++[.sc (.int .u64 X6),.lst false 3 Yu BD,.lst false 2 EJ DK]) fun CI=>Aa (wrap .i64 (y4+1)) fun Z3=>J3 fu call Aj Ao Bc Cp Cv Fa C3 Fd C2 Fc a1 a2 (nn) CJ (y1) (y2) (y3) Z3 (y5) (y6) (y7) (y8) (y9) (y10) (G5) (Hq) (J0) (O7) (M5) (Vd) (Wz) (LG) (Zt) (To) (Sn) (MZ) (y23) (y24) (y25) (y26) (y27) (y28) (y29) CI) (Ar (decide (0+y0*3<=y30.length))<|some (A5.mk [.agg [.sc (.int .i64 y5),.sc (.int .i64 y6),.sc (.int .i64 y7),.lst false 3 y0 (List.take (y0*3) (List.drop 0 y30)),.sc (.int .i64 y25),.lst false 1 y26 y27,.lst false 1 y28 y29],.sc (.int .i64 0)] []))):=by kernel_rfl
theorem MB (fu d:Nat)(Aj Ao Bc:Int)(Cp:Nat)(Cv:List PV)(Fa:Int)(C3:Nat)(Fd:List PV)(C2:Nat)(Fc:List PV)(a1 a2:Int):Ad C0 prog fu (d+1) Iq [.agg [.sc (.int .i64 Aj),.sc (.int .i64 Ao),.sc (.int .i64 Bc),.lst false 3 Cp Cv,.sc (.int .i64 Fa),.lst false 1 C3 Fd,.lst false 1 C2 Fc],.sc (.int .u64 a1),.sc (.int .i64 a2)]=(fun (call:Ah)=>Ai (call 10 [.agg [.sc (.int .i64 Aj),.sc (.int .i64 Ao),.sc (.int .i64 Bc),.lst false 3 Cp Cv,.sc (.int .i64 Fa),.lst false 1 C3 Fd,.lst false 1 C2 Fc]]) fun x1 x2=>Ac x2<|Ab x1 fun x3 x4=>Ae .u64 x3 fun x5=>Ab x4 fun x6 x7=>Ae .i64 x6 fun x8=>Ac x7<|Bi (x8 != 0) (some (A5.mk [.agg [.sc (.int .i64 0),.sc (.int .i64 0),.sc (.int .i64 0),.lst false 3 0 [],.sc (.int .i64 0),.lst false 1 0 [],.lst false 1 0 []],.sc (.int .i64 x8)] [])) (Aa (wrap .i64 (Aj-1)) fun x9=>Ai (call 11 [.sc (.int .u64 a1),.sc (.int .i64 a2),.sc (.int .i64 x9),.sc (.int .u64 x5)]) fun C6 Dr=>Ac Dr<|Ab C6 fun Eg Ez=>Fm Eg fun D7=>Ab D7 fun Ew Fw=>Ae .i64 Ew fun Gm=>Ab Fw fun G4 Gi=>Fq 1 G4 fun Gy Jk Ia=>Ab Gi fun Je Fn=>Fq 1 Je fun Eu Hv J8=>Ac Fn<|Ab Ez fun G3 O6=>Ae .i64 G3 fun M7=>Ac O6<|Bi (M7 != 0) (some (A5.mk [.agg [.sc (.int .i64 0),.sc (.int .i64 0),.sc (.int .i64 0),.lst false 3 0 [],.sc (.int .i64 0),.lst false 1 0 [],.lst false 1 0 []],.sc (.int .i64 M7)] [])) (Ar (decide ((↑Cp:Int)*56<=1099511627776)&&decide ((↑Cp:Int)<=1099511627776))<|J3 fu call Aj Ao Bc Cp Cv Fa C3 Fd C2 Fc a1 a2 (fu) 0 (Cp) (Cv) ((↑Cp:Int)) 0 (Aj) (Ao) (Bc) (Cp) (Cv) (Fa) (C3) (Fd) (C2) (Fc) 0 0 0 0 0 0 0 ([]) ([]) ([]) Gm Jk Ia Hv J8 ([])))) (Ad C0 prog fu d):=by kernel_rfl
abbrev Ms:FuncId:=80
theorem Vx (fu d Al:Nat)(Aj:List PV)(Ao:Bool)(a1:Int):Ad C0 prog fu (d+1) Ms [.pbox [.lst false 3 Al Aj,.sc (.bool Ao)],.sc (.int .i64 a1)]=(fun (call:Ah)=>Bi (Ao) (some (A5.mk [.agg [.sc (.int .i64 0),.sc (.int .u64 0),.sc (.string (ByteArray.mk #[]))]] [[.lst false 3 Al Aj,.sc (.bool true)]])) (Bi ((↑Al:Int)==0) (some (A5.mk [.agg [.sc (.int .i64 0),.sc (.int .u64 0),.sc (.string (ByteArray.mk #[]))]] [[.lst false 3 Al Aj,.sc (.bool true)]])) (Ar (decide (0<(↑Al:Int)))<|Ae .i64 (List.getD Aj 0 .top) fun x1=>Bi (x1 != a1) (some (A5.mk [.agg [.sc (.int .i64 0),.sc (.int .u64 0),.sc (.string (ByteArray.mk #[]))]] [[.lst false 3 Al Aj,.sc (.bool true)]])) (Ar (decide (0<(↑Al:Int)))<|Ae .i64 (List.getD Aj 0 .top) fun x2=>Ae .u64 (List.getD Aj 1 .top) fun x3=>Iz (List.getD Aj 2 .top) fun x4=>Ar (decide (1<=Al)&&decide (Al<=Al))<|Aa (Al-1) fun x5=>Aa (List.take (x5*3) (List.drop 3 Aj)) fun x6=>some (A5.mk [.agg [.sc (.int .i64 x2),.sc (.int .u64 x3),.sc (.string x4)]] [[.lst false 3 x5 x6,.sc (.bool Ao)]]))))) (Ad C0 prog fu d):=by kernel_rfl
abbrev Kn:FuncId:=58
theorem Th (fu d Al:Nat)(Aj:List PV)(Ao:Bool):Ad C0 prog fu (d+1) Kn [.pbox [.lst false 3 Al Aj,.sc (.bool Ao)]]=(fun (call:Ah)=>Ai (call 80 [.pbox [.lst false 3 Al Aj,.sc (.bool Ao)],.sc (.int .i64 1)]) fun x1 x2=>Ab x1 fun x3 x4=>Fm x3 fun x5=>Ab x5 fun x6 x7=>Ae .i64 x6 fun x8=>Ab x7 fun x9 C6=>Ae .u64 x9 fun Dr=>Ab C6 fun Eg Ez=>Iz Eg fun D7=>Ac Ez<|Ac x4<|Ab x2 fun Ew Fw=>Ab Ew fun Gm G4=>Fq 3 Gm fun Gi Gy Jk=>Ab G4 fun Ia Je=>Bu Ia fun Fn=>Ac Je<|Ac Fw<|some (A5.mk [.sc (.int .u64 Dr)] [[.lst false 3 Gy Jk,.sc (.bool Fn)]])) (Ad C0 prog fu d):=by kernel_rfl
abbrev Mm:FuncId:=57
theorem V8 (fu d Al:Nat)(Aj:List PV)(Ao:Bool):Ad C0 prog fu (d+1) Mm [.pbox [.lst false 3 Al Aj,.sc (.bool Ao)]]=(fun (call:Ah)=>Ai (call 80 [.pbox [.lst false 3 Al Aj,.sc (.bool Ao)],.sc (.int .i64 5)]) fun x1 x2=>Ab x1 fun x3 x4=>Fm x3 fun x5=>Ab x5 fun x6 x7=>Ae .i64 x6 fun x8=>Ab x7 fun x9 C6=>Ae .u64 x9 fun Dr=>Ab C6 fun Eg Ez=>Iz Eg fun D7=>Ac Ez<|Ac x4<|Ab x2 fun Ew Fw=>Ab Ew fun Gm G4=>Fq 3 Gm fun Gi Gy Jk=>Ab G4 fun Ia Je=>Bu Ia fun Fn=>Ac Je<|Ac Fw<|some (A5.mk [.sc (.int .u64 Dr)] [[.lst false 3 Gy Jk,.sc (.bool Fn)]])) (Ad C0 prog fu d):=by kernel_rfl
abbrev I9:FuncId:=59
noncomputable def Dm (fu:Nat)(call:Ah)(Al:Nat)(Aj:List PV)(Ao:Bool)(nn:Nat)(y0:Int)(y1:Nat)(y2:List PV)(y3:Bool)(y4:Int)(y5 y6:Nat)(y7 y8:List PV)(y9:Int)(y10 G5:Nat)(Hq J0:List PV):Option A5:=Du CB prog fu call 59 Tryd.f59 (Ca Tryd.f59) [.pbox [.lst false 3 Al Aj,.sc (.bool Ao)]] [.r,.r,.r,.l,.r,.l] nn ⟨lk [(0,(.ptr 162000 0)),(2,(.ptr 2 0)),(3,(.ptr 3 0)),(4,(.sc (.int .u64 y0)))],Br [(162000,(.st [(.lst false 3 y1 y2),(.sc (.bool y3))])),(2,(.st [(.sc (.int .u64 y4)),(.view 164 3 0 y5),(.view 245 2 0 y6)])),(164,(.ar false y7)),(245,(.ar false y8)),(3,(.st [(.sc (.int .u64 y9)),(.view 165 3 0 y10),(.view 246 2 0 G5)])),(165,(.ar false Hq)),(246,(.ar false J0))]⟩
noncomputable def Cx (fu:Nat)(call:Ah)(Al:Nat)(Aj:List PV)(Ao:Bool)(nn:Nat)(y0:Int)(y1:Nat)(y2:List PV)(y3:Bool)(y4:Int)(y5 y6:Nat)(y7 y8:List PV)(y9:Int)(y10 G5:Nat)(Hq J0:List PV):Option A5:=Du CB prog fu call 59 Tryd.f59 (Ca Tryd.f59) [.pbox [.lst false 3 Al Aj,.sc (.bool Ao)]] [.r,.r,.r,.r,.l,.r,.l] nn ⟨lk [(0,(.ptr 162000 0)),(2,(.ptr 2 0)),(3,(.ptr 3 0)),(8,(.sc (.int .u64 y0)))],Br [(162000,(.st [(.lst false 3 y1 y2),(.sc (.bool y3))])),(2,(.st [(.sc (.int .u64 y4)),(.view 164 3 0 y5),(.view 245 2 0 y6)])),(164,(.ar false y7)),(245,(.ar false y8)),(3,(.st [(.sc (.int .u64 y9)),(.view 165 3 0 y10),(.view 246 2 0 G5)])),(165,(.ar false Hq)),(246,(.ar false J0))]⟩
theorem Np (fu:Nat)(call:Ah)(Al:Nat)(Aj:List PV)(Ao:Bool)(nn:Nat)(y0:Int)(y1:Nat)(y2:List PV)(y3:Bool)(y4:Int)(y5 y6:Nat)(y7 y8:List PV)(y9:Int)(y10 G5:Nat)(Hq J0:List PV):Dm fu call Al Aj Ao (nn+1) y0 y1 y2 y3 y4 y5 y6 y7 y8 y9 y10 G5 Hq J0=(Bi (decide (y0>0)) (Bi (!y3) (Ai (call 57 [.pbox [.lst false 3 y1 y2,.sc (.bool y3)]]) fun Xc Yd=>Ab Xc fun Yq Yu=>Ae .u64 Yq fun BD=>Ac Yu<|Ab Yd fun Zz Zg=>Ab Zz fun BX EJ=>Fq 3 BX fun DK CJ CI=>Ab EJ fun Z3 GV=>Bu Z3 fun AF=>Ac GV<|Ac Zg<|Ai (call 80 [.pbox [.lst false 3 CJ CI,.sc (.bool AF)],.sc (.int .i64 4)]) fun CU FF=>Ab CU fun DM AA=>Fm DM fun Y9=>Ab Y9 fun Xd EH=>Ae .i64 Xd fun GU=>Ab EH fun DN FH=>Ae .u64 DN fun DJ=>Ab FH fun FS GW=>Iz FS fun AL=>Ac GW<|Ac AA<|Ab FF fun KL MX=>Ab KL fun DH LX=>Fq 3 DH fun QU RT OM=>Ab LX fun TH x83=>Bu TH fun VU=>Ac x83<|Ac MX<|Ai (call 80 [.pbox [.lst false 3 RT OM,.sc (.bool VU)],.sc (.int .i64 3)]) fun x85 YL=>Ab x85 fun x87 YA=>Fm x87 fun NB=>Ab NB fun RV UR=>Ae .i64 RV fun x92=>Ab UR fun x93 x94=>Ae .u64 x93 fun x95=>Ab x94 fun x96 WG=>Iz x96 fun SB=>Ac WG<|Ac YA<|Ab YL fun x99 T0=>Ab x99 fun ES Jq=>Fq 3 ES fun M0 Z4 We=>Ab Jq fun Ww Qd=>Bu Ww fun HM=>Ac Qd<|Ac T0<|Ar (decide (ByteArray.size SB<=1099511627776))<|Ar (decide (0+ByteArray.size SB*1<=List.length (Fo SB)))<|Ai (call 81 [.lst false 1 (ByteArray.size SB) (List.take (ByteArray.size SB*1) (List.drop 0 (Fo SB)))]) fun MD PW=>Ac PW<|Ab MD fun QN Ma=>Fm QN fun Q2=>Ab Q2 fun SP SF=>Ae .i64 SP fun MJ=>Ab SF fun TZ SZ=>Ae .u64 TZ fun QW=>Ac SZ<|Ab Ma fun TO LU=>Ae .i64 TO fun EB=>Ac LU<|Bi (EB != 0) (Ar (decide (y10*3<=Hq.length)&&true&&decide ((y10+1)*32<=1099511627776)&&decide (y10+1<=1099511627776))<|Aa (y10+1) fun SG=>Aa (List.take (y10*3) Hq++[.sc (.string AL),.sc (.int .i64 MJ),.sc (.int .u64 QW)]) fun QE=>Aa (wrap .u64 (y0-1)) fun CO=>Dm fu call Al Aj Ao (nn) CO Z4 We (true) (y4) (y5) (y6) (y7) (y8) (y9) SG (G5) QE (J0)) (Ar (decide (y10*3<=Hq.length)&&true&&decide ((y10+1)*32<=1099511627776)&&decide (y10+1<=1099511627776))<|Aa (y10+1) fun DF=>Aa (List.take (y10*3) Hq++[.sc (.string AL),.sc (.int .i64 MJ),.sc (.int .u64 QW)]) fun IV=>Aa (wrap .u64 (y0-1)) fun HA=>Dm fu call Al Aj Ao (nn) HA Z4 We HM (y4) (y5) (y6) (y7) (y8) (y9) DF (G5) IV (J0))) (Ai (call 57 [.pbox [.lst false 3 y1 y2,.sc (.bool y3)]]) fun QT MK=>Ab QT fun Ae1 HF=>Ae .u64 Ae1 fun MI=>Ac HF<|Ab MK fun YX XZ=>Ab YX fun MO Abw=>Fq 3 MO fun Ac7 Ab5 MT=>Ab Abw fun ME ZV=>Bu ME fun YG=>Ac ZV<|Ac XZ<|Cx fu call Al Aj Ao (fu) MI Ab5 MT YG (y4) (y5) (y6) (y7) (y8) (y9) (y10) (G5) (Hq) (J0))) (Ai (call 57 [.pbox [.lst false 3 y1 y2,.sc (.bool y3)]]) fun TT HN=>Ab TT fun MP YD=>Ae .u64 MP fun ZU=>Ac YD<|Ab HN fun Adh Afn=>Ab Adh fun Af9 Af2=>Fq 3 Af9 fun Arh An6 Ard=>Ab Af2 fun Am8 Alv=>Bu Am8 fun Aj3=>Ac Alv<|Ac Afn<|Cx fu call Al Aj Ao (fu) ZU An6 Ard Aj3 (y4) (y5) (y6) (y7) (y8) (y9) (y10) (G5) (Hq) (J0))):=by kernel_rfl
theorem N4 (fu:Nat)(call:Ah)(Al:Nat)(Aj:List PV)(Ao:Bool)(nn:Nat)(y0:Int)(y1:Nat)(y2:List PV)(y3:Bool)(y4:Int)(y5 y6:Nat)(y7 y8:List PV)(y9:Int)(y10 G5:Nat)(Hq J0:List PV):Cx fu call Al Aj Ao (nn+1) y0 y1 y2 y3 y4 y5 y6 y7 y8 y9 y10 G5 Hq J0=(Bi (decide (y0>0)) (Bi (!y3) (Ai (call 57 [.pbox [.lst false 3 y1 y2,.sc (.bool y3)]]) fun Apx Amu=>Ab Apx fun Aml Aqb=>Ae .u64 Aml fun Au9=>Ac Aqb<|Ab Amu fun Agv Ald=>Ab Agv fun Amz Apu=>Fq 3 Amz fun Aun Amv Api=>Ab Apu fun Aq8 Aoh=>Bu Aq8 fun Apd=>Ac Aoh<|Ac Ald<|Ai (call 58 [.pbox [.lst false 3 Amv Api,.sc (.bool Apd)]]) fun Amy Anf=>Ab Amy fun Auj Ax0=>Ae .u64 Auj fun A0a=>Ac Ax0<|Ab Anf fun Azz Bak=>Ab Azz fun A56 A6p=>Fq 3 A56 fun Bct A5l Bai=>Ab A6p fun A9o A54=>Bu A9o fun A7y=>Ac A54<|Ac Bak<|Aa (wrap .i64 A0a) fun A51=>Ai (call 58 [.pbox [.lst false 3 A5l Bai,.sc (.bool A7y)]]) fun A52 A5m=>Ab A52 fun A58 A7q=>Ae .u64 A58 fun A5h=>Ac A7q<|Ab A5m fun A7b A9d=>Ab A7b fun A95 A94=>Fq 3 A95 fun Bd1 A5n A75=>Ab A94 fun A81 A9x=>Bu A81 fun A8v=>Ac A9x<|Ac A9d<|Aa (wrap .i64 A5h) fun A70=>Ar (decide (G5*2<=J0.length)&&true&&decide ((G5+1)*16<=1099511627776)&&decide (G5+1<=1099511627776))<|Aa (G5+1) fun A9u=>Aa (List.take (G5*2) J0++[.sc (.int .i64 A51),.sc (.int .i64 A70)]) fun A72=>Aa (wrap .u64 (y0-1)) fun A93=>Cx fu call Al Aj Ao (nn) A93 A5n A75 A8v (y4) (y5) (y6) (y7) (y8) (y9) (y10) A9u (Hq) A72) (Ar (decide (0+y10*3<=Hq.length))<|Ar (decide (0+G5*2<=J0.length))<|some (A5.mk [.agg [.sc (.int .u64 y9),.lst false 3 y10 (List.take (y10*3) (List.drop 0 Hq)),.lst false 2 G5 (List.take (G5*2) (List.drop 0 J0))]] [[.lst false 3 y1 y2,.sc (.bool y3)]]))) (Ar (decide (0+y10*3<=Hq.length))<|Ar (decide (0+G5*2<=J0.length))<|some (A5.mk [.agg [.sc (.int .u64 y9),.lst false 3 y10 (List.take (y10*3) (List.drop 0 Hq)),.lst false 2 G5 (List.take (G5*2) (List.drop 0 J0))]] [[.lst false 3 y1 y2,.sc (.bool y3)]]))):=by kernel_rfl
theorem Qa (fu d Al:Nat)(Aj:List PV)(Ao:Bool):Ad C0 prog fu (d+1) I9 [.pbox [.lst false 3 Al Aj,.sc (.bool Ao)]]=(fun (call:Ah)=>Ai (call 57 [.pbox [.lst false 3 Al Aj,.sc (.bool Ao)]]) fun x1 x2=>Ab x1 fun x3 x4=>Ae .u64 x3 fun x5=>Ac x4<|Ab x2 fun x6 x7=>Ab x6 fun x8 x9=>Fq 3 x8 fun C6 Dr Eg=>Ab x9 fun Ez D7=>Bu Ez fun Ew=>Ac D7<|Ac x7<|Ai (call 58 [.pbox [.lst false 3 Dr Eg,.sc (.bool Ew)]]) fun Fw Gm=>Ab Fw fun G4 Gi=>Ae .u64 G4 fun Gy=>Ac Gi<|Ab Gm fun Jk Ia=>Ab Jk fun Je Fn=>Fq 3 Je fun Eu Hv J8=>Ab Fn fun G3 O6=>Bu G3 fun M7=>Ac O6<|Ac Ia<|Ai (call 57 [.pbox [.lst false 3 Hv J8,.sc (.bool M7)]]) fun Kw Mz=>Ab Kw fun O8 Pn=>Ae .u64 O8 fun O5=>Ac Pn<|Ab Mz fun Ry Vb=>Ab Ry fun Ic Ln=>Fq 3 Ic fun S4 Xb R9=>Ab Ln fun Ye Za=>Bu Ye fun X6=>Ac Za<|Ac Vb<|Dm fu call Al Aj Ao (fu) O5 Xb R9 X6 0 0 0 ([]) ([]) Gy 0 0 ([]) ([])) (Ad C0 prog fu d):=by kernel_rfl
abbrev Pi:FuncId:=34
noncomputable def Hi (fu:Nat)(call:Ah)(Bd:Nat)(a0:List PV)(nn:Nat)(y0 y1:Int)(y2 y3:Int)(y4:Nat)(y5:Int)(y6 y7:Nat)(y8 y9 y10:List PV)(G5:Nat)(Hq:List PV)(J0:Bool)(O7 M5 Vd:Int)(Wz:Nat)(LG:Int)(Zt To:Nat)(Sn MZ y23:List PV):Option A5:=Du CB prog fu call 34 Tryd.f34 (Ca Tryd.f34) [.lst false 3 Bd a0] [.r,.r,.r,.r,.l,.r,.l] nn ⟨lk [(2,(.ptr 2 0)),(4,(.ptr 4 0)),(5,(.ptr 5 0)),(6,(.sc (.int .u64 y0)))],Br [(2,(.st [(.sc (.int .i64 y1)),(.sc (.int .i64 y2)),(.sc (.int .i64 y3)),(.view 226 3 0 y4),(.sc (.int .i64 y5)),(.view 338 1 0 y6),(.view 394 1 0 y7)])),(226,(.ar false y8)),(338,(.ar false y9)),(394,(.ar false y10)),(4,(.st [(.lst false 3 G5 Hq),(.sc (.bool J0))])),(5,(.st [(.sc (.int .i64 O7)),(.sc (.int .i64 M5)),(.sc (.int .i64 Vd)),(.view 229 3 0 Wz),(.sc (.int .i64 LG)),(.view 341 1 0 Zt),(.view 397 1 0 To)])),(229,(.ar false Sn)),(341,(.ar false MZ)),(397,(.ar false y23))]⟩
theorem V4 (fu:Nat)(call:Ah)(Bd:Nat)(a0:List PV)(nn:Nat)(y0 y1:Int)(y2 y3:Int)(y4:Nat)(y5:Int)(y6 y7:Nat)(y8 y9 y10:List PV)(G5:Nat)(Hq:List PV)(J0:Bool)(O7 M5 Vd:Int)(Wz:Nat)(LG:Int)(Zt To:Nat)(Sn MZ y23:List PV):Hi fu call Bd a0 (nn+1) y0 y1 y2 y3 y4 y5 y6 y7 y8 y9 y10 G5 Hq J0 O7 M5 Vd Wz LG Zt To Sn MZ y23=(Bi (decide (y0>0)) (Bi (!J0) (Ai (call 59 [.pbox [.lst false 3 G5 Hq,.sc (.bool J0)]]) fun QU RT=>Ab QU fun OM TH=>Fm OM fun x83=>Ab x83 fun VU x85=>Ae .u64 VU fun YL=>Ab x85 fun x87 YA=>Fq 3 x87 fun NB RV UR=>Ab YA fun x92 x93=>Fq 2 x92 fun x94 x95 x96=>Ac x93<|Ac TH<|Ab RT fun WG SB=>Ab WG fun x99 T0=>Fq 3 x99 fun ES Jq M0=>Ab T0 fun Z4 We=>Bu Z4 fun Ww=>Ac We<|Ac SB<|Ar (decide (Wz*3<=Sn.length)&&true&&decide ((Wz+1)*56<=1099511627776)&&decide (Wz+1<=1099511627776))<|Aa (Wz+1) fun Qd=>Aa (List.take (Wz*3) Sn++[.sc (.int .u64 YL),.lst false 3 RV UR,.lst false 2 x95 x96]) fun HM=>Aa (wrap .u64 (y0-1)) fun MD=>Hi fu call Bd a0 (nn) MD (y1) (y2) (y3) (y4) (y5) (y6) (y7) (y8) (y9) (y10) Jq M0 Ww (O7) (M5) (Vd) Qd (LG) (Zt) (To) HM (MZ) (y23)) (Bi (!J0) (Ar (decide (0+Wz*3<=Sn.length))<|Ar (decide (0+Zt*1<=MZ.length))<|Ar (decide (0+To*1<=y23.length))<|some (A5.mk [.agg [.sc (.int .i64 O7),.sc (.int .i64 M5),.sc (.int .i64 Vd),.lst false 3 Wz (List.take (Wz*3) (List.drop 0 Sn)),.sc (.int .i64 LG),.lst false 1 Zt (List.take (Zt*1) (List.drop 0 MZ)),.lst false 1 To (List.take (To*1) (List.drop 0 y23))],.sc (.bool ((↑G5:Int)==0))] [])) (Ar (decide (0+Wz*3<=Sn.length))<|Ar (decide (0+Zt*1<=MZ.length))<|Ar (decide (0+To*1<=y23.length))<|some (A5.mk [.agg [.sc (.int .i64 O7),.sc (.int .i64 M5),.sc (.int .i64 Vd),.lst false 3 Wz (List.take (Wz*3) (List.drop 0 Sn)),.sc (.int .i64 LG),.lst false 1 Zt (List.take (Zt*1) (List.drop 0 MZ)),.lst false 1 To (List.take (To*1) (List.drop 0 y23))],.sc (.bool false)] [])))) (Bi (!J0) (Ar (decide (0+Wz*3<=Sn.length))<|Ar (decide (0+Zt*1<=MZ.length))<|Ar (decide (0+To*1<=y23.length))<|some (A5.mk [.agg [.sc (.int .i64 O7),.sc (.int .i64 M5),.sc (.int .i64 Vd),.lst false 3 Wz (List.take (Wz*3) (List.drop 0 Sn)),.sc (.int .i64 LG),.lst false 1 Zt (List.take (Zt*1) (List.drop 0 MZ)),.lst false 1 To (List.take (To*1) (List.drop 0 y23))],.sc (.bool ((↑G5:Int)==0))] [])) (Ar (decide (0+Wz*3<=Sn.length))<|Ar (decide (0+Zt*1<=MZ.length))<|Ar (decide (0+To*1<=y23.length))<|some (A5.mk [.agg [.sc (.int .i64 O7),.sc (.int .i64 M5),.sc (.int .i64 Vd),.lst false 3 Wz (List.take (Wz*3) (List.drop 0 Sn)),.sc (.int .i64 LG),.lst false 1 Zt (List.take (Zt*1) (List.drop 0 MZ)),.lst false 1 To (List.take (To*1) (List.drop 0 y23))],.sc (.bool false)] [])))):=by kernel_rfl
theorem Zs (fu d Bd:Nat)(a0:List PV):Ad C0 prog fu (d+1) Pi [.lst false 3 Bd a0]=(fun (call:Ah)=>Ai (call 57 [.pbox [.lst false 3 Bd a0,.sc (.bool false)]]) fun x1 x2=>Ab x1 fun x3 x4=>Ae .u64 x3 fun x5=>Ac x4<|Ab x2 fun x6 x7=>Ab x6 fun x8 x9=>Fq 3 x8 fun C6 Dr Eg=>Ab x9 fun Ez D7=>Bu Ez fun Ew=>Ac D7<|Ac x7<|Ai (call 58 [.pbox [.lst false 3 Dr Eg,.sc (.bool Ew)]]) fun Fw Gm=>Ab Fw fun G4 Gi=>Ae .u64 G4 fun Gy=>Ac Gi<|Ab Gm fun Jk Ia=>Ab Jk fun Je Fn=>Fq 3 Je fun Eu Hv J8=>Ab Fn fun G3 O6=>Bu G3 fun M7=>Ac O6<|Ac Ia<|Aa (wrap .i64 Gy) fun Kw=>Ai (call 58 [.pbox [.lst false 3 Hv J8,.sc (.bool M7)]]) fun Mz O8=>Ab Mz fun Pn O5=>Ae .u64 Pn fun Ry=>Ac O5<|Ab O8 fun Vb Ic=>Ab Vb fun Ln S4=>Fq 3 Ln fun Xb R9 Ye=>Ab S4 fun Za X6=>Bu Za fun Xc=>Ac X6<|Ac Ic<|Aa (wrap .i64 Ry) fun Yd=>Ai (call 58 [.pbox [.lst false 3 R9 Ye,.sc (.bool Xc)]]) fun Yq Yu=>Ab Yq fun BD Zz=>Ae .u64 BD fun Zg=>Ac Zz<|Ab Yu fun BX EJ=>Ab BX fun DK CJ=>Fq 3 DK fun CI Z3 GV=>Ab CJ fun AF CU=>Bu AF fun FF=>Ac CU<|Ac EJ<|Aa (wrap .i64 Zg) fun DM=>Ai (call 57 [.pbox [.lst false 3 Z3 GV,.sc (.bool FF)]]) fun AA Y9=>Ab AA fun Xd EH=>Ae .u64 Xd fun GU=>Ac EH<|Ab Y9 fun DN FH=>Ab DN fun DJ FS=>Fq 3 DJ fun GW AL KL=>Ab FS fun MX DH=>Bu MX fun LX=>Ac DH<|Ac FH<|Hi fu call Bd a0 (fu) GU 0 0 0 0 0 0 0 ([]) ([]) ([]) AL KL LX Kw Yd DM 0 0 0 0 ([]) ([]) ([])) (Ad C0 prog fu d):=by kernel_rfl
abbrev L8:FuncId:=15
theorem FG (fu d Bd:Nat)(a0:List PV):Ad C0 prog fu (d+1) L8 [.lst false 1 Bd a0]=(fun (call:Ah)=>Bi (decide ((↑Bd:Int)>4096)) (some (A5.mk [.agg [.sc (.int .i64 0),.sc (.int .i64 0),.sc (.int .i64 0),.lst false 3 0 [],.sc (.int .i64 0),.lst false 1 0 [],.lst false 1 0 []],.sc (.int .i64 8)] [])) (Ai (call 33 [.lst false 1 Bd a0]) fun x1 x2=>Ac x2<|Ab x1 fun x3 x4=>Gl 3 x3 fun x5 x6=>Ab x4 fun x7 x8=>Ae .i64 x7 fun x9=>Ab x8 fun C6 Dr=>Ae .i64 C6 fun Eg=>Ac Dr<|Bi (Eg != 0) (some (A5.mk [.agg [.sc (.int .i64 0),.sc (.int .i64 0),.sc (.int .i64 0),.lst false 3 0 [],.sc (.int .i64 0),.lst false 1 0 [],.lst false 1 0 []],.sc (.int .i64 2)] [])) (Ar (decide (0+x5*3<=x6.length))<|Ai (call 34 [.lst false 3 x5 (List.take (x5*3) (List.drop 0 x6))]) fun Ez D7=>Ac D7<|Ab Ez fun Ew Fw=>Fm Ew fun Gm=>Ab Gm fun G4 Gi=>Ae .i64 G4 fun Gy=>Ab Gi fun Jk Ia=>Ae .i64 Jk fun Je=>Ab Ia fun Fn Eu=>Ae .i64 Fn fun Hv=>Ab Eu fun J8 G3=>Fq 3 J8 fun O6 M7 Kw=>Ab G3 fun Mz O8=>Ae .i64 Mz fun Pn=>Ab O8 fun O5 Ry=>Fq 1 O5 fun Vb Ic Ln=>Ab Ry fun S4 Xb=>Fq 1 S4 fun R9 Ye Za=>Ac Xb<|Ab Fw fun X6 Xc=>Bu X6 fun Yd=>Ac Xc<|Bi (!Yd) (some (A5.mk [.agg [.sc (.int .i64 0),.sc (.int .i64 0),.sc (.int .i64 0),.lst false 3 0 [],.sc (.int .i64 0),.lst false 1 0 [],.lst false 1 0 []],.sc (.int .i64 2)] [])) (Ar (decide (0<=x9))<|Ar (decide (Int.toNat x9<=Bd)&&decide (Bd<=Bd))<|Aa (Bd-Int.toNat x9) fun Yq=>Aa (List.take (Yq*1) (List.drop (Int.toNat x9*1) a0)) fun Yu=>Ai (call 35 [.lst false 1 Yq Yu]) fun BD Zz=>Ac Zz<|Ab BD fun Zg BX=>Fm Zg fun EJ=>Ab EJ fun DK CJ=>Ae .i64 DK fun CI=>Ab CJ fun Z3 GV=>Gl 1 Z3 fun AF CU=>Ab GV fun FF DM=>Gl 1 FF fun AA Y9=>Ac DM<|Ab BX fun Xd EH=>Ae .i64 Xd fun GU=>Ac EH<|Bi (GU != 0) (some (A5.mk [.agg [.sc (.int .i64 0),.sc (.int .i64 0),.sc (.int .i64 0),.lst false 3 0 [],.sc (.int .i64 0),.lst false 1 0 [],.lst false 1 0 []],.sc (.int .i64 2)] [])) (Ar (decide (0+AF*1<=CU.length))<|Ar (decide (0+AA*1<=Y9.length))<|Ai (call 5 [.agg [.sc (.int .i64 Gy),.sc (.int .i64 Je),.sc (.int .i64 Hv),.lst false 3 M7 Kw,.sc (.int .i64 CI),.lst false 1 AF (List.take (AF*1) (List.drop 0 CU)),.lst false 1 AA (List.take (AA*1) (List.drop 0 Y9))]]) fun DN FH=>Ac FH<|Ab DN fun DJ FS=>Gl 1 DJ fun GW AL=>Ab FS fun KL MX=>Ae .i64 KL fun DH=>Ac MX<|Bi (DH != 0) (some (A5.mk [.agg [.sc (.int .i64 0),.sc (.int .i64 0),.sc (.int .i64 0),.lst false 3 0 [],.sc (.int .i64 0),.lst false 1 0 [],.lst false 1 0 []],.sc (.int .i64 2)] [])) (Ar (decide (0+GW*1<=AL.length))<|Ai (call 36 [.lst false 1 GW (List.take (GW*1) (List.drop 0 AL)),.lst false 1 Bd a0]) fun LX QU=>Ac QU<|Ab LX fun RT OM=>Bu RT fun TH=>Ac OM<|Bi (!TH) (some (A5.mk [.agg [.sc (.int .i64 0),.sc (.int .i64 0),.sc (.int .i64 0),.lst false 3 0 [],.sc (.int .i64 0),.lst false 1 0 [],.lst false 1 0 []],.sc (.int .i64 2)] [])) (Ar (decide (0+AF*1<=CU.length))<|Ar (decide (0+AA*1<=Y9.length))<|some (A5.mk [.agg [.sc (.int .i64 Gy),.sc (.int .i64 Je),.sc (.int .i64 Hv),.lst false 3 M7 Kw,.sc (.int .i64 CI),.lst false 1 AF (List.take (AF*1) (List.drop 0 CU)),.lst false 1 AA (List.take (AA*1) (List.drop 0 Y9))],.sc (.int .i64 0)] [])))))))) (Ad C0 prog fu d):=by kernel_rfl
abbrev F7:FuncId:=6
theorem FO (fu d:Nat)(Aj Ao Bc:Int)(Cp:Nat)(Cv:List PV)(Fa:Int)(C3:Nat)(Fd:List PV)(C2:Nat)(Fc:List PV)(P4:Nat)(a1:List PV)(EV HB a3:Int):Ad C0 prog fu (d+1) F7 [.agg [.sc (.int .i64 Aj),.sc (.int .i64 Ao),.sc (.int .i64 Bc),.lst false 3 Cp Cv,.sc (.int .i64 Fa),.lst false 1 C3 Fd,.lst false 1 C2 Fc],.lst false 1 P4 a1,.agg [.sc (.int .i64 EV),.sc (.int .u64 HB)],.sc (.int .i64 a3)]=(fun (call:Ah)=>Bi (decide (a3<0)) (some (A5.mk [.agg [.sc (.int .i64 0),.sc (.int .i64 0),.sc (.int .i64 0),.lst false 3 0 [],.sc (.int .i64 0),.lst false 1 0 [],.lst false 1 0 []],.sc (.int .i64 9)] [])) (Bi (decide (a3>1099511627776)) (some (A5.mk [.agg [.sc (.int .i64 0),.sc (.int .i64 0),.sc (.int .i64 0),.lst false 3 0 [],.sc (.int .i64 0),.lst false 1 0 [],.lst false 1 0 []],.sc (.int .i64 9)] [])) (Ai (call 15 [.lst false 1 P4 a1]) fun x1 x2=>Ac x2<|Ab x1 fun x3 x4=>Fm x3 fun x5=>Ab x5 fun x6 x7=>Ae .i64 x6 fun x8=>Ab x7 fun x9 C6=>Ae .i64 x9 fun Dr=>Ab C6 fun Eg Ez=>Ae .i64 Eg fun D7=>Ab Ez fun Ew Fw=>Fq 3 Ew fun Gm G4 Gi=>Ab Fw fun Gy Jk=>Ae .i64 Gy fun Ia=>Ab Jk fun Je Fn=>Fq 1 Je fun Eu Hv J8=>Ab Fn fun G3 O6=>Fq 1 G3 fun M7 Kw Mz=>Ac O6<|Ab x4 fun O8 Pn=>Ae .i64 O8 fun O5=>Ac Pn<|Bi (O5 != 0) (some (A5.mk [.agg [.sc (.int .i64 0),.sc (.int .i64 0),.sc (.int .i64 0),.lst false 3 0 [],.sc (.int .i64 0),.lst false 1 0 [],.lst false 1 0 []],.sc (.int .i64 O5)] [])) (Bi (decide (x8<=Aj)) (some (A5.mk [.agg [.sc (.int .i64 0),.sc (.int .i64 0),.sc (.int .i64 0),.lst false 3 0 [],.sc (.int .i64 0),.lst false 1 0 [],.lst false 1 0 []],.sc (.int .i64 7)] [])) (Ai (call 16 [.agg [.sc (.int .i64 x8),.sc (.int .i64 Dr),.sc (.int .i64 D7),.lst false 3 G4 Gi,.sc (.int .i64 Ia),.lst false 1 Hv J8,.lst false 1 Kw Mz],.agg [.sc (.int .i64 EV),.sc (.int .u64 HB)]]) fun Ry Vb=>Ac Vb<|Ab Ry fun Ic Ln=>Ae .i64 Ic fun S4=>Ac Ln<|Bi (S4 != 0) (some (A5.mk [.agg [.sc (.int .i64 0),.sc (.int .i64 0),.sc (.int .i64 0),.lst false 3 0 [],.sc (.int .i64 0),.lst false 1 0 [],.lst false 1 0 []],.sc (.int .i64 S4)] [])) (Bi (decide (a3<Dr)) (some (A5.mk [.agg [.sc (.int .i64 0),.sc (.int .i64 0),.sc (.int .i64 0),.lst false 3 0 [],.sc (.int .i64 0),.lst false 1 0 [],.lst false 1 0 []],.sc (.int .i64 19)] [])) (Bi (decide (a3>D7)) (some (A5.mk [.agg [.sc (.int .i64 0),.sc (.int .i64 0),.sc (.int .i64 0),.lst false 3 0 [],.sc (.int .i64 0),.lst false 1 0 [],.lst false 1 0 []],.sc (.int .i64 19)] [])) (some (A5.mk [.agg [.sc (.int .i64 x8),.sc (.int .i64 Dr),.sc (.int .i64 D7),.lst false 3 G4 Gi,.sc (.int .i64 Ia),.lst false 1 Hv J8,.lst false 1 Kw Mz],.sc (.int .i64 0)] []))))))))) (Ad C0 prog fu d):=by kernel_rfl
end
section
open Go.Proofs.Tryd (prog)
open Go.IntKind (wrap)
set_option maxRecDepth 1000000
section
variable {fu d:Nat}
theorem AX (Cb:1000<=fu){k:Nat}(hk:k<=5){vs:List (List It)} (hv:∀v∈vs,Val k v∧v≠[]∧v.length<=499) (hn:vs.length<=400)(hb:vs.flatten.length<=499):
  Ad C0 prog fu (d+6) Ii [.lst false 1 vs.length (F0 vs)]=some ⟨[.own 3 (Dt vs).length (Bf (Dt vs)),.sc (.int .i64 0)],[]⟩:=
 Ae7 Cb (fun v h=>⟨(hv v h).1.goods (by omega) (hv v h).2.1 (by have:=(hv v h).2.2;omega),by have:=(hv v h).2.2;omega⟩) hn ((Sw (fun v h=>(hv v h).1) (by omega)).goods (by omega) (by simp) (by simp only[Io];omega)) hb
def UP (a:An):List PV:=if Hu a=0 then [.own 3 (C5 a).length (Bf (C5 a)),.sc (.int .i64 0)] else [.own 3 0 [],.sc (.int .i64 (Hu a))]
theorem Aqx (Cb:1000<=fu)(a:An):Ad C0 prog fu (d+7) Mw [.agg a.cells]=some ⟨UP a,[]⟩:=by
 refine (Vm fu (d+6) a.name a.key.h a.key.root).trans ?_;have bad:∀{e:Int},Hu a=e->e≠0->some (A5.mk [.own 3 0 [],.sc (.int .i64 e)] [])=some (A5.mk (UP a) []):=fun h he=>by unfold UP;rw[h,Bj he]
 by_cases e1:a.name.size<1
 ·have hb:Hu a=9:=by unfold Hu;rw[Cy (.inl e1)]
  rw[←bad hb (by omega)]
  try unfold Aa
  repeat first
   |((with_reducible first|apply Ax|apply Ap|apply Az|apply A9|apply Cz|apply Bq|apply Aq|apply A4|apply A3);· first|with_reducible rfl|(simp (disch:=omega) only[gT,D2]<;>first|with_reducible rfl|omega)|omega)
   |(with_reducible apply Ay;· first|with_reducible rfl|(simp (disch:=omega) only[gF,D2]<;>omega))
  try simp (disch:=omega) only[D2]
 by_cases e2:32<a.name.size
 ·have hb:Hu a=9:=by unfold Hu;rw[Cy (.inr e2)]
  rw[←bad hb (by omega)]
  try unfold Aa
  repeat first
   |((with_reducible first|apply Ax|apply Ap|apply Az|apply A9|apply Cz|apply Bq|apply Aq|apply A4|apply A3);· first|with_reducible rfl|(simp (disch:=omega) only[gT,D2]<;>first|with_reducible rfl|omega)|omega)
   |(with_reducible apply Ay;· first|with_reducible rfl|(simp (disch:=omega) only[gF,D2]<;>omega))
  try simp (disch:=omega) only[D2]
 have v1:=DY (fu:=fu) (d:=d+5) a.name (by omega)
 have e12:¬(a.name.size<1∨32<a.name.size):=by omega
 cases e3:okS a.name
 ·have hb:Hu a=6:=by unfold Hu;rw[Bj e12,Cy e3]
  rw[e3] at v1;rw[←bad hb (by omega)]
  try unfold Aa
  repeat first
   |((with_reducible first|apply Ax|apply Ap|apply Az|apply A9|apply Cz|apply Bq|apply Aq|apply A4|apply A3);· first|with_reducible rfl|(simp (disch:=omega) only[gT,v1,D2,Lt]<;>first|with_reducible rfl|omega)|omega)
   |(with_reducible apply Ay;· first|with_reducible rfl|(simp (disch:=omega) only[gF,v1,D2,Lt]<;>omega))
  try simp (disch:=omega) only[v1,D2,Lt]
 rw[e3] at v1;have ek:=Ajy (xs:=Oc) (fu:=fu) (d:=d+4) Cb a.key;simp only[Ky.cells] at ek;have e90:((9:Int) != 0)=true:=rfl;have e00:((0:Int) != 0)=false:=rfl;cases e5:Ey a.key.h
 rotate_left
 ·have hb:Hu a=9:=by unfold Hu;rw[Bj e12,Bj (by simp[e3]),Cy e5]
  rw[e5,Cy rfl] at ek;rw[←bad hb (by omega)]
  try unfold Aa
  repeat first
   |((with_reducible first|apply Ax|apply Ap|apply Az|apply A9|apply Cz|apply Bq|apply Aq|apply A4|apply A3);· first|with_reducible rfl|(simp (disch:=omega) only[gT,v1,ek,e90,D2,Lt]<;>first|with_reducible rfl|omega)|omega)
   |(with_reducible apply Ay;· first|with_reducible rfl|(simp (disch:=omega) only[gF,v1,ek,e90,D2,Lt]<;>omega))
  try simp (disch:=omega) only[v1,ek,e90,D2,Lt]
 rw[e5,Bj (by simp)] at ek
 have hz:Hu a=0:=by unfold Hu;rw[Bj e12,Bj (by simp[e3]),Bj (by simp[e5])]
 have f1:SH ⟨4,0,a.name⟩:=⟨.inr (.inr (.inr (.inl rfl))),by simp only;omega,fun _=>e3,by unfold Kz;rfl,by simp⟩
 have f2:SH ⟨3,0,Dq (Oz a.key)⟩:=⟨.inr (.inr (.inl rfl)),by simp only[Agq];omega,(fun e=>by cases e),by unfold Kz;rfl,by simp⟩
 have ar:Ad C0 prog fu (d+6) Ii [.lst false 1 2 [.lst false 3 1 (Bf [⟨4,0,a.name⟩]),.lst false 3 1 (Bf [⟨3,0,Dq (Oz a.key)⟩])]]=some ⟨[.own 3 3 (Bf (C5 a)),.sc (.int .i64 0)],[]⟩:=AX (fu:=fu) (d:=d) Cb (k:=0) (by omega) (vs:=XU a) (fun v hv=>by
  simp only[XU,List.mem_cons,List.not_mem_nil,or_false] at hv;rcases hv with rfl|rfl
  ·exact⟨Gb f1 0,by simp,by simp⟩
  ·exact⟨Gb f2 0,by simp,by simp⟩) (by simp[XU]) (by simp[XU])
 have t1:=Ari (fu:=fu) (d:=d+5) a.name;have by_:=Aj5 (fu:=fu) (d:=d+5) (Oz a.key);have k9:(Oz a.key).length=9:=rfl;rw[k9] at by_;have L9:=At .u8 (Oz a.key);rw[k9] at L9;have tk9:List.take 9 (Af .u8 (Oz a.key))=Af .u8 (Oz a.key):=My (by omega)
 have R:UP a=[.own 3 3 (Bf (C5 a)),.sc (.int .i64 0)]:=by unfold UP;rw[Cy hz,N6]
 rw[R];have LI:(Bf (C5 a)).length=9:=rfl;have tI:List.take 9 (Bf (C5 a))=Bf (C5 a):=rfl;generalize Bf (C5 a)=I at ar LI tI ⊢;have K1:List.take 3 (Bf [⟨4,0,a.name⟩])=Bf [⟨4,0,a.name⟩]:=rfl;have K2:List.take 3 (Bf [⟨3,0,Dq (Oz a.key)⟩])=Bf [⟨3,0,Dq (Oz a.key)⟩]:=rfl;have N1:(Bf [⟨4,0,a.name⟩]).length=3:=rfl;have N2:(Bf [⟨3,0,Dq (Oz a.key)⟩]).length=3:=rfl;generalize Bf [⟨4,0,a.name⟩]=T1 at *
 generalize Bf [⟨3,0,Dq (Oz a.key)⟩]=T2 at *
 generalize Af .u8 (Oz a.key)=KB at *
 try unfold Aa
 repeat first
  |((with_reducible first|apply Ax|apply Ap|apply Az|apply A9|apply Cz|apply Bq|apply Aq|apply A4|apply A3);· first|with_reducible rfl|(simp (disch:=omega) only[gT,v1,ek,e00,t1,by_,L9,tk9,K1,K2,N1,N2,C8,Nat.one_mul,Dp,Nat.reduceMul,Fg,ar,LI,tI,D2,Lt]<;>first|with_reducible rfl|omega)|omega)
  |(with_reducible apply Ay;· first|with_reducible rfl|(simp (disch:=omega) only[gF,v1,ek,e00,t1,by_,L9,tk9,K1,K2,N1,N2,C8,Nat.one_mul,Dp,Nat.reduceMul,Fg,ar,LI,tI,D2,Lt]<;>omega))
 try simp (disch:=omega) only[v1,ek,e00,t1,by_,L9,tk9,K1,K2,N1,N2,C8,Nat.one_mul,Dp,Nat.reduceMul,Fg,ar,LI,tI,D2,Lt]
def Aoq (x:Me):List PV:=if Ei x=0 then [.own 3 (Ba x).length (Bf (Ba x)),.sc (.int .i64 0)] else [.own 3 0 [],.sc (.int .i64 (Ei x))]
theorem NO (a:List (List It)) (v:List It):F0 a++[.lst false 3 v.length (Bf v)]=F0 (a++[v]):=by
 unfold F0;rw[List.flatMap_append,List.flatMap_cons,List.flatMap_nil,List.append_nil];rfl
theorem Uq (a:List (List It)):(F0 a).length=a.length:=by
 unfold F0;rw[Te UX];omega
theorem Axl (Cb:1000<=fu){Aj:Int}{Cc Bm:Nat}{Ao Bc:List PV}{x:Me}(hm:0<=x.model)(h1:x.ans.length<=4)(h2:x.sts.length<=4)(h3:E9 x.ans=0):∀(r:List Sa)(i nn:Nat)(p:Option Int),x.sts.drop i=r->r.length<nn->i<=x.sts.length ->
  ((i=0∧p=none)∨∃s',0<i∧x.sts[i-1]?=some s'∧p=some s'.at_)->(∀s∈x.sts.take i,1<=s.kd∧s.kd<=4∧0<=s.at_∧s.at_<=1099511627776) ->
  E5 fu (Ad C0 prog fu (d+7)) Aj Cc Ao Bm Bc nn i (Dt (x.ans.map C5)).length x.sts.length (Eb x.sts) (x.sts.length:Int) (i:Int) x.model x.ans.length (D8 x.ans) x.sts.length (Eb x.sts) (F0 ((x.sts.take i).map De)) (Bf (Dt (x.ans.map C5))) =
   some ⟨(if Ge p r=0 then [.own 3 (Ba x).length (Bf (Ba x)),.sc (.int .i64 0)] else [.own 3 0 [],.sc (.int .i64 (Ge p r))]),[]⟩
 |_,_,0,_,_,h,_,_,_=>by omega
 |[],i,nn+1,p,hd,hn,hi,hp,hk=>by
  have hl:=drop_nil hd;have ei:i=x.sts.length:=by omega
  have eall:x.sts.take i=x.sts:=My (by omega)
  rw[eall] at hk ⊢;have vs:=Aiv h2 (fun s hs=>by have:=hk s hs;exact⟨by omega,by omega⟩)
  have va:=XO h1 (Xt h3);have Gk:Ge p []=0:=by unfold Ge;rfl
  rw[Cy Gk]
  have ar:=AX (fu:=fu) (d:=d+1) Cb (k:=1) (by omega) (vs:=x.sts.map De) (fun v hv=>by
   obtain⟨s,hs,rfl⟩:=List.mem_map.1 hv;have:=hk s hs;exact⟨(Af0 (by omega) (by omega)).1,by simp[De],by rw[Ul];omega⟩) (by rw[List.length_map];omega) (by rw[Hl Ul];omega)
  rw[List.length_map] at ar;have u:=Tx (fu:=fu) (d:=d+6) x.model;have la:(Dt (x.ans.map C5)).length<=20:=by unfold Dt;rw[Io,Hl N6];omega
  have ls:(Dt (x.sts.map De)).length<=20:=by unfold Dt;rw[Io,Hl Ul];omega
  have ar3:Ad C0 prog fu (d+7) Ii [.lst false 1 3 [.lst false 3 1 (Bf [⟨1,x.model,Ug⟩]),.lst false 3 (Dt (x.ans.map C5)).length (Bf (Dt (x.ans.map C5))),.lst false 3 (Dt (x.sts.map De)).length (Bf (Dt (x.sts.map De)))]]=some ⟨[.own 3 (Ba x).length (Bf (Ba x)),.sc (.int .i64 0)],[]⟩:=AX (fu:=fu) (d:=d+1) Cb (k:=2) (by omega) (vs:=Wu x) (fun v hv=>by
   simp only[Wu,List.mem_cons,List.not_mem_nil,or_false] at hv;rcases hv with rfl|rfl|rfl
   ·exact⟨Gb (Iy hm) 2,by simp,by simp⟩
   ·exact⟨va.1,by simp[Dt],by omega⟩
   ·exact⟨vs.1,by simp[Dt],by omega⟩) (by simp[Wu]) (by simp only[Wu,List.flatten_cons,List.flatten_nil,List.append_nil,Kb,List.length_singleton];omega)
  have e00:((0:Int) != 0)=false:=rfl;have LV:(F0 (x.sts.map De)).length=x.sts.length:=by rw[Uq,List.length_map]
  have tV:List.take x.sts.length (F0 (x.sts.map De))=F0 (x.sts.map De):=My (by omega)
  have LA:=H0 (Dt (x.ans.map C5));have LS:=H0 (Dt (x.sts.map De));have LE:=H0 (Ba x);have tA:List.take ((Dt (x.ans.map C5)).length*3) (Bf (Dt (x.ans.map C5)))=Bf (Dt (x.ans.map C5)):=My (by omega)
  have tS:List.take ((Dt (x.sts.map De)).length*3) (Bf (Dt (x.sts.map De)))=Bf (Dt (x.sts.map De)):=My (by omega)
  have tE:List.take ((Ba x).length*3) (Bf (Ba x))=Bf (Ba x):=My (by omega)
  have K1:List.take 3 (Bf [⟨1,x.model,Ug⟩])=Bf [⟨1,x.model,Ug⟩]:=rfl;have N1:(Bf [⟨1,x.model,Ug⟩]).length=3:=rfl;subst ei;rw[Ds];generalize Bf [⟨1,x.model,Ug⟩]=T1 at *
  generalize Bf (Ba x)=TE at *
  generalize (Ba x).length=nE at *
  generalize Bf (Dt (x.sts.map De))=TS at *
  generalize Bf (Dt (x.ans.map C5))=TA at *
  generalize (Dt (x.sts.map De)).length=nS at *
  generalize (Dt (x.ans.map C5)).length=nA at *
  generalize F0 (x.sts.map De)=TV at *
  try unfold Aa
  repeat first
   |((with_reducible first|apply Ax|apply Ap|apply Az|apply A9|apply Cz|apply Bq|apply Aq|apply A4|apply A3);· first|with_reducible rfl|(simp (disch:=omega) only[gT,LV,tV,ar,e00,u,K1,N1,LA,LS,tA,tS,ar3,LE,tE,C8,Nat.one_mul,Dp,Fg,D2,Lt]<;>first|with_reducible rfl|omega)|omega)
   |(with_reducible apply Ay;· first|with_reducible rfl|(simp (disch:=omega) only[gF,LV,tV,ar,e00,u,K1,N1,LA,LS,tA,tS,ar3,LE,tE,C8,Nat.one_mul,Dp,Fg,D2,Lt]<;>omega))
  try simp (disch:=omega) only[LV,tV,ar,e00,u,K1,N1,LA,LS,tA,tS,ar3,LE,tE,C8,Nat.one_mul,Dp,Fg,D2,Lt]
  all_goals rfl
 |s::rs,i,nn+1,p,hd,hn,hi,hp,hk=>by
  obtain⟨q1,q2,q3⟩:=Dx hd;simp only[Io] at hn;obtain⟨c0,c1⟩:=saa q2;have nt:Int.toNat (i:Int)=i:=Hs _
  have bad:∀{e:Int},Ka p s=e->e≠0->some (A5.mk [.own 3 0 [],.sc (.int .i64 e)] [])=some (A5.mk (if Ge p (s::rs)=0 then [.own 3 (Ba x).length (Bf (Ba x)),.sc (.int .i64 0)] else [.own 3 0 [],.sc (.int .i64 (Ge p (s::rs)))]) []):=fun {e} h he=>by
   have:Ge p (s::rs)=e:=by rw[Ge,Cy (by rw[h];exact he),h]
   rw[this,Bj he]
  by_cases g1:s.kd<1
  ·have hb:Ka p s=9:=by unfold Ka;rw[Cy (.inl g1)]
   rw[←bad hb (by omega),Ds]
   try unfold Aa
   repeat first
    |((with_reducible first|apply Ax|apply Ap|apply Az|apply A9|apply Cz|apply Bq|apply Aq|apply A4|apply A3);· first|with_reducible rfl|(simp (disch:=omega) only[gT,nt,c0,c1]<;>first|with_reducible rfl|omega)|omega)
    |(with_reducible apply Ay;· first|with_reducible rfl|(simp (disch:=omega) only[gF,nt,c0,c1]<;>omega))
   try simp (disch:=omega) only[nt,c0,c1]
   all_goals rfl
  by_cases g2:4<s.kd
  ·have hb:Ka p s=9:=by unfold Ka;rw[Cy (.inr (.inl g2))]
   rw[←bad hb (by omega),Ds]
   try unfold Aa
   repeat first
    |((with_reducible first|apply Ax|apply Ap|apply Az|apply A9|apply Cz|apply Bq|apply Aq|apply A4|apply A3);· first|with_reducible rfl|(simp (disch:=omega) only[gT,nt,c0,c1]<;>first|with_reducible rfl|omega)|omega)
    |(with_reducible apply Ay;· first|with_reducible rfl|(simp (disch:=omega) only[gF,nt,c0,c1]<;>omega))
   try simp (disch:=omega) only[nt,c0,c1]
   all_goals rfl
  by_cases g3:s.at_<0
  ·have hb:Ka p s=9:=by unfold Ka;rw[Cy (.inr (.inr (.inl g3)))]
   rw[←bad hb (by omega),Ds]
   try unfold Aa
   repeat first
    |((with_reducible first|apply Ax|apply Ap|apply Az|apply A9|apply Cz|apply Bq|apply Aq|apply A4|apply A3);· first|with_reducible rfl|(simp (disch:=omega) only[gT,nt,c0,c1]<;>first|with_reducible rfl|omega)|omega)
    |(with_reducible apply Ay;· first|with_reducible rfl|(simp (disch:=omega) only[gF,nt,c0,c1]<;>omega))
   try simp (disch:=omega) only[nt,c0,c1]
   all_goals rfl
  by_cases g4:1099511627776<s.at_
  ·have hb:Ka p s=9:=by unfold Ka;rw[Cy (.inr (.inr (.inr g4)))]
   rw[←bad hb (by omega),Ds]
   try unfold Aa
   repeat first
    |((with_reducible first|apply Ax|apply Ap|apply Az|apply A9|apply Cz|apply Bq|apply Aq|apply A4|apply A3);· first|with_reducible rfl|(simp (disch:=omega) only[gT,nt,c0,c1]<;>first|with_reducible rfl|omega)|omega)
    |(with_reducible apply Ay;· first|with_reducible rfl|(simp (disch:=omega) only[gF,nt,c0,c1]<;>omega))
   try simp (disch:=omega) only[nt,c0,c1]
   all_goals rfl
  have S1:Ka none s=0:=by unfold Ka;rw[Bj (by omega)]
  have S0:∀q:Int,Ka (some q) s=if s.at_<=q then 7 else 0:=fun q=>by unfold Ka;rw[Bj (by omega)]
  have wk:wrap .u64 s.kd=s.kd:=Ea (by omega) (by omega)
  have wa:wrap .u64 s.at_=s.at_:=Ea (by omega) (by omega)
  have u1:=Tx (fu:=fu) (d:=d+6) s.kd;have u2:=Tx (fu:=fu) (d:=d+6) s.at_
  have ar:Ad C0 prog fu (d+7) Ii [.lst false 1 2 [.lst false 3 1 (Bf [⟨1,s.kd,Ug⟩]),.lst false 3 1 (Bf [⟨1,s.at_,Ug⟩])]]=some ⟨[.own 3 3 (Bf (De s)),.sc (.int .i64 0)],[]⟩:=AX (fu:=fu) (d:=d+1) Cb (k:=0) (by omega) (vs:=ZL s) (fun v hv=>by
   simp only[ZL,List.mem_cons,List.not_mem_nil,or_false] at hv;rcases hv with rfl|rfl
   ·exact⟨Gb (Iy (by omega)) 0,by simp,by simp⟩
   ·exact⟨Gb (Iy (by omega)) 0,by simp,by simp⟩) (by simp[ZL]) (by simp[ZL])
  have e00:((0:Int) != 0)=false:=rfl;have LI:(Bf (De s)).length=9:=rfl;have tI:List.take 9 (Bf (De s))=Bf (De s):=rfl;have K1:List.take 3 (Bf [⟨1,s.kd,Ug⟩])=Bf [⟨1,s.kd,Ug⟩]:=rfl;have K2:List.take 3 (Bf [⟨1,s.at_,Ug⟩])=Bf [⟨1,s.at_,Ug⟩]:=rfl;have N1:(Bf [⟨1,s.kd,Ug⟩]).length=3:=rfl;have N2:(Bf [⟨1,s.at_,Ug⟩]).length=3:=rfl;have LV:(F0 ((x.sts.take i).map De)).length=i:=by rw[Uq,List.length_map,List.length_take];omega
  have tV:List.take i (F0 ((x.sts.take i).map De))=F0 ((x.sts.take i).map De):=My (by omega)
  have w:wrap .i64 ((i:Int)+1)=((i+1:Nat):Int):=by rw[Ak (by omega) (by omega)];omega
  have et:x.sts.take (i+1)=x.sts.take i++[s]:=by rw[List.take_add_one,q2];rfl
  have ea:F0 ((x.sts.take i).map De)++[.lst false 3 3 (Bf (De s))]=F0 ((x.sts.take (i+1)).map De):=by
   rw[et,List.map_append,List.map_singleton];exact NO _ (De s)
  have hz:∀{v:Int},Ka p s=0->Ge p (s::rs)=Ge (some s.at_) rs:=fun {v} h=>by rw[Ge,Bj (by simp[h])]
  have ih:=Axl Cb (Aj:=Aj) (Cc:=Cc) (Bm:=Bm) (Ao:=Ao) (Bc:=Bc) hm h1 h2 h3 rs (i+1) nn (some s.at_) q3 (by omega) (by omega) (.inr ⟨s,by omega,by rw[Nat.add_sub_cancel];exact q2,rfl⟩) (fun y hy=>by
   rw[et] at hy;rcases List.mem_append.1 hy with hy|hy
   ·exact hk y hy
   ·rw[List.mem_singleton.1 hy];omega)
  rw[Ds];rcases hp with⟨rfl,rfl⟩|⟨s',h0,h5,rfl⟩
  ·have hs:Ka none s=0:=S1;rw[hz (v:=0) hs,←ih];generalize Bf (De s)=TI at *
   generalize Bf [⟨1,s.kd,Ug⟩]=T1 at *
   generalize Bf [⟨1,s.at_,Ug⟩]=T2 at *
   generalize F0 ((x.sts.take 0).map De)=TV at *
   generalize F0 ((x.sts.take (0+1)).map De)=TV' at *
   try unfold Aa
   repeat first
    |((with_reducible first|apply Ax|apply Ap|apply Az|apply A9|apply Cz|apply Bq|apply Aq|apply A4|apply A3);· first|with_reducible rfl|(simp (disch:=omega) only[gT,nt,c0,c1]<;>first|with_reducible rfl|omega)|omega)
    |(with_reducible apply Ay;· first|with_reducible rfl|(simp (disch:=omega) only[gF,nt,c0,c1]<;>omega))
   try simp (disch:=omega) only[nt,c0,c1]
   rw[Hn (U7:=by omega)]
   try unfold Aa
   repeat first
    |((with_reducible first|apply Ax|apply Ap|apply Az|apply A9|apply Cz|apply Bq|apply Aq|apply A4|apply A3);· first|with_reducible rfl|(simp (disch:=omega) only[gT,wk,wa,u1,u2,K1,K2,N1,N2,ar,e00,LI,tI,LV,tV,ea,w,C8,Nat.one_mul,Dp,Nat.reduceMul,Fg,D2]<;>first|with_reducible rfl|omega)|omega)
    |(with_reducible apply Ay;· first|with_reducible rfl|(simp (disch:=omega) only[gF,wk,wa,u1,u2,K1,K2,N1,N2,ar,e00,LI,tI,LV,tV,ea,w,C8,Nat.one_mul,Dp,Nat.reduceMul,Fg,D2]<;>omega))
   try simp (disch:=omega) only[wk,wa,u1,u2,K1,K2,N1,N2,ar,e00,LI,tI,LV,tV,ea,w,C8,Nat.one_mul,Dp,Nat.reduceMul,Fg,D2]
   all_goals rfl
  ·obtain⟨b0,b1⟩:=saa h5;have wi:wrap .i64 ((i:Int)-1)=((i-1:Nat):Int):=by rw[Ak (by omega) (by omega)];omega
   have nt1:Int.toNat ((i-1:Nat):Int)=i-1:=Hs _;by_cases g5:s.at_<=s'.at_
   ·have hb:Ka (some s'.at_) s=7:=by rw[S0,Cy g5]
    rw[←bad hb (by omega)]
    try unfold Aa
    repeat first
     |((with_reducible first|apply Ax|apply Ap|apply Az|apply A9|apply Cz|apply Bq|apply Aq|apply A4|apply A3);· first|with_reducible rfl|(simp (disch:=omega) only[gT,nt,c0,c1]<;>first|with_reducible rfl|omega)|omega)
     |(with_reducible apply Ay;· first|with_reducible rfl|(simp (disch:=omega) only[gF,nt,c0,c1]<;>omega))
    try simp (disch:=omega) only[nt,c0,c1]
    rw[Hn (U7:=by omega)]
    try unfold Aa
    repeat first
     |((with_reducible first|apply Ax|apply Ap|apply Az|apply A9|apply Cz|apply Bq|apply Aq|apply A4|apply A3);· first|with_reducible rfl|(simp (disch:=omega) only[gT,wi,nt1,b1]<;>first|with_reducible rfl|omega)|omega)
     |(with_reducible apply Ay;· first|with_reducible rfl|(simp (disch:=omega) only[gF,wi,nt1,b1]<;>omega))
    try simp (disch:=omega) only[wi,nt1,b1]
    all_goals rfl
   ·have hs:Ka (some s'.at_) s=0:=by rw[S0,Bj g5]
    rw[hz (v:=0) hs,←ih];generalize Bf (De s)=TI at *
    generalize Bf [⟨1,s.kd,Ug⟩]=T1 at *
    generalize Bf [⟨1,s.at_,Ug⟩]=T2 at *
    generalize F0 ((x.sts.take i).map De)=TV at *
    generalize F0 ((x.sts.take (i+1)).map De)=TV' at *
    try unfold Aa
    repeat first
     |((with_reducible first|apply Ax|apply Ap|apply Az|apply A9|apply Cz|apply Bq|apply Aq|apply A4|apply A3);· first|with_reducible rfl|(simp (disch:=omega) only[gT,nt,c0,c1]<;>first|with_reducible rfl|omega)|omega)
     |(with_reducible apply Ay;· first|with_reducible rfl|(simp (disch:=omega) only[gF,nt,c0,c1]<;>omega))
    try simp (disch:=omega) only[nt,c0,c1]
    rw[Hn (U7:=by omega)]
    try unfold Aa
    repeat first
     |((with_reducible first|apply Ax|apply Ap|apply Az|apply A9|apply Cz|apply Bq|apply Aq|apply A4|apply A3);· first|with_reducible rfl|(simp (disch:=omega) only[gT,wi,nt1,b1,wk,wa,u1,u2,K1,K2,N1,N2,ar,e00,LI,tI,LV,tV,ea,w,C8,Nat.one_mul,Dp,Nat.reduceMul,Fg,D2]<;>first|with_reducible rfl|omega)|omega)
     |(with_reducible apply Ay;· first|with_reducible rfl|(simp (disch:=omega) only[gF,wi,nt1,b1,wk,wa,u1,u2,K1,K2,N1,N2,ar,e00,LI,tI,LV,tV,ea,w,C8,Nat.one_mul,Dp,Nat.reduceMul,Fg,D2]<;>omega))
    try simp (disch:=omega) only[wi,nt1,b1,wk,wa,u1,u2,K1,K2,N1,N2,ar,e00,LI,tI,LV,tV,ea,w,C8,Nat.one_mul,Dp,Nat.reduceMul,Fg,D2]
    all_goals rfl
theorem Aw9 (Cb:1000<=fu){Aj:Int}{Cc Bm:Nat}{Ao Bc:List PV}{x:Me}(hm:0<=x.model)(h1:x.ans.length<=4)(h2:x.sts.length<=4):∀(r:List An)(i nn:Nat),x.ans.drop i=r->r.length<nn->i<=x.ans.length->(E9 r=0->E9 x.ans=0)->(∀a∈x.ans.take i,Hu a=0) ->
  Gf fu (Ad C0 prog fu (d+7)) Aj Cc Ao Bm Bc nn i x.ans.length (D8 x.ans) (x.ans.length:Int) (i:Int) x.model x.ans.length (D8 x.ans) x.sts.length (Eb x.sts) (F0 ((x.ans.take i).map C5)) =
   some ⟨(if E9 r=0 then (if Ge none x.sts=0 then [.own 3 (Ba x).length (Bf (Ba x)),.sc (.int .i64 0)] else [.own 3 0 [],.sc (.int .i64 (Ge none x.sts))]) else [.own 3 0 [],.sc (.int .i64 (E9 r))]),[]⟩
 |_,_,0,_,h,_,_,_=>by omega
 |[],i,nn+1,hd,hn,hi,hz,hk=>by
  have hl:=drop_nil hd;have ei:i=x.ans.length:=by omega
  have eall:x.ans.take i=x.ans:=My (by omega)
  rw[eall] at hk ⊢;have h3:=hz rfl;have va:=XO h1 (Xt h3);have Gk:E9 []=0:=by unfold E9;rfl
  rw[Cy Gk]
  have ar:=AX (fu:=fu) (d:=d+1) Cb (k:=1) (by omega) (vs:=x.ans.map C5) (fun v hv=>by
   obtain⟨a,ha,rfl⟩:=List.mem_map.1 hv;exact⟨(Agz (hk a ha)).1,by simp[C5],by rw[N6];omega⟩) (by rw[List.length_map];omega) (by rw[Hl N6];omega)
  rw[List.length_map] at ar;have e00:((0:Int) != 0)=false:=rfl;have LV:(F0 (x.ans.map C5)).length=x.ans.length:=by rw[Uq,List.length_map]
  have tV:List.take x.ans.length (F0 (x.ans.map C5))=F0 (x.ans.map C5):=My (by omega)
  have l1:=Axl (fu:=fu) (d:=d) Cb (Aj:=Aj) (Cc:=Cc) (Bm:=Bm) (Ao:=Ao) (Bc:=Bc) hm h1 h2 h3 x.sts 0 fu none rfl (by omega) (by omega) (.inl ⟨rfl,rfl⟩) (fun s hs=>by cases hs)
  have ev:F0 ((x.sts.take 0).map De)=[]:=rfl;have z0:((0:Nat):Int)=0:=rfl;rw[ev,z0] at l1;subst ei;rw[Hp,←l1]
  try unfold Aa
  repeat first
   |((with_reducible first|apply Ax|apply Ap|apply Az|apply A9|apply Cz|apply Bq|apply Aq|apply A4|apply A3);· first|with_reducible rfl|(simp (disch:=omega) only[gT,LV,tV,ar,e00,C8,Nat.one_mul,Dp,Fg,D2,Lt]<;>first|with_reducible rfl|omega)|omega)
   |(with_reducible apply Ay;· first|with_reducible rfl|(simp (disch:=omega) only[gF,LV,tV,ar,e00,C8,Nat.one_mul,Dp,Fg,D2,Lt]<;>omega))
  try simp (disch:=omega) only[LV,tV,ar,e00,C8,Nat.one_mul,Dp,Fg,D2,Lt]
  all_goals rfl
 |a::rs,i,nn+1,hd,hn,hi,hz,hk=>by
  obtain⟨q1,q2,q3⟩:=Dx hd;simp only[Io] at hn;obtain⟨c0,c1,c2⟩:=ana q2;have c2':(D8 x.ans).getD (i*3+1+1) .top=.sc (.int .u64 a.key.root):=c2;have nt:Int.toNat (i:Int)=i:=Hs _;have an:=Aqx (fu:=fu) (d:=d) Cb a;unfold UP at an;simp only[An.cells] at an;by_cases h0:Hu a=0
  ·rw[Cy h0,N6] at an;have e00:((0:Int) != 0)=false:=rfl;have LI:(Bf (C5 a)).length=9:=rfl;have tI:List.take 9 (Bf (C5 a))=Bf (C5 a):=rfl;have LV:(F0 ((x.ans.take i).map C5)).length=i:=by rw[Uq,List.length_map,List.length_take];omega
   have tV:List.take i (F0 ((x.ans.take i).map C5))=F0 ((x.ans.take i).map C5):=My (by omega)
   have w:wrap .i64 ((i:Int)+1)=((i+1:Nat):Int):=by rw[Ak (by omega) (by omega)];omega
   have et:x.ans.take (i+1)=x.ans.take i++[a]:=by rw[List.take_add_one,q2];rfl
   have ea:F0 ((x.ans.take i).map C5)++[.lst false 3 3 (Bf (C5 a))]=F0 ((x.ans.take (i+1)).map C5):=by
    rw[et,List.map_append,List.map_singleton];exact NO _ (C5 a)
   have he:E9 (a::rs)=E9 rs:=by rw[E9,Bj (by simp[h0])]
   have ih:=Aw9 Cb (Aj:=Aj) (Cc:=Cc) (Bm:=Bm) (Ao:=Ao) (Bc:=Bc) hm h1 h2 rs (i+1) nn q3 (by omega) (by omega) (fun h=>hz (by rw[he];exact h)) (fun y hy=>by
    rw[et] at hy;rcases List.mem_append.1 hy with hy|hy
    ·exact hk y hy
    ·rw[List.mem_singleton.1 hy];exact h0)
   rw[he,←ih,Hp];generalize Bf (C5 a)=TI at *
   generalize F0 ((x.ans.take i).map C5)=TV at *
   generalize F0 ((x.ans.take (i+1)).map C5)=TV' at *
   try unfold Aa
   repeat first
    |((with_reducible first|apply Ax|apply Ap|apply Az|apply A9|apply Cz|apply Bq|apply Aq|apply A4|apply A3);· first|with_reducible rfl|(simp (disch:=omega) only[gT,nt,c0,c1,c2',an,e00,LI,tI,LV,tV,ea,w,C8,Nat.one_mul,Dp,Nat.reduceMul,Fg,D2]<;>first|with_reducible rfl|omega)|omega)
    |(with_reducible apply Ay;· first|with_reducible rfl|(simp (disch:=omega) only[gF,nt,c0,c1,c2',an,e00,LI,tI,LV,tV,ea,w,C8,Nat.one_mul,Dp,Nat.reduceMul,Fg,D2]<;>omega))
   try simp (disch:=omega) only[nt,c0,c1,c2',an,e00,LI,tI,LV,tV,ea,w,C8,Nat.one_mul,Dp,Nat.reduceMul,Fg,D2]
   all_goals rfl
  ·rw[Bj h0] at an;have he:E9 (a::rs)=Hu a:=by rw[E9,Cy h0]
   have F9:(Hu a != 0)=true:=by simp[h0]
   rw[he,Bj h0,Hp]
   try unfold Aa
   repeat first
    |((with_reducible first|apply Ax|apply Ap|apply Az|apply A9|apply Cz|apply Bq|apply Aq|apply A4|apply A3);· first|with_reducible rfl|(simp (disch:=omega) only[gT,nt,c0,c1,c2',an,F9]<;>first|with_reducible rfl|omega)|omega)
    |(with_reducible apply Ay;· first|with_reducible rfl|(simp (disch:=omega) only[gF,nt,c0,c1,c2',an,F9]<;>omega))
   try simp (disch:=omega) only[nt,c0,c1,c2',an,F9]
   all_goals rfl
theorem Aon (Cb:1000<=fu){x:Me}(hm:0<=x.model):Ad C0 prog fu (d+8) Na [.agg x.cells]=some ⟨Aoq x,[]⟩:=by
 refine (W6 fu (d+7) x.model x.ans.length (D8 x.ans) x.sts.length (Eb x.sts)).trans ?_;unfold Aoq;by_cases e1:4<x.ans.length
 ·have hb:Ei x=8:=by unfold Ei;rw[Cy (.inl e1)]
  rw[hb,Bj (by omega)]
  try unfold Aa
  repeat first
   |((with_reducible first|apply Ax|apply Ap|apply Az|apply A9|apply Cz|apply Bq|apply Aq|apply A4|apply A3);· first|with_reducible rfl|(simp (disch:=omega) only[gT,D2]<;>first|with_reducible rfl|omega)|omega)
   |(with_reducible apply Ay;· first|with_reducible rfl|(simp (disch:=omega) only[gF,D2]<;>omega))
  try simp (disch:=omega) only[D2]
  all_goals rfl
 by_cases e2:4<x.sts.length
 ·have hb:Ei x=8:=by unfold Ei;rw[Cy (.inr e2)]
  rw[hb,Bj (by omega)]
  try unfold Aa
  repeat first
   |((with_reducible first|apply Ax|apply Ap|apply Az|apply A9|apply Cz|apply Bq|apply Aq|apply A4|apply A3);· first|with_reducible rfl|(simp (disch:=omega) only[gT,D2]<;>first|with_reducible rfl|omega)|omega)
   |(with_reducible apply Ay;· first|with_reducible rfl|(simp (disch:=omega) only[gF,D2]<;>omega))
  try simp (disch:=omega) only[D2]
  all_goals rfl
 have l0:=Aw9 (fu:=fu) (d:=d) Cb (Aj:=x.model) (Cc:=x.ans.length) (Ao:=D8 x.ans) (Bm:=x.sts.length) (Bc:=Eb x.sts) hm (by omega) (by omega) x.ans 0 fu rfl (by omega) (by omega) (fun h=>h) (fun a ha=>by cases ha)
 have ev:F0 ((x.ans.take 0).map C5)=[]:=rfl;have z0:((0:Nat):Int)=0:=rfl;have hb:Ei x=if E9 x.ans≠0 then E9 x.ans else Ge none x.sts:=by unfold Ei;rw[Bj (by omega)]
 have R:(if Ei x=0 then [PV.own 3 (Ba x).length (Bf (Ba x)),.sc (.int .i64 0)] else [.own 3 0 [],.sc (.int .i64 (Ei x))])=(if E9 x.ans=0 then (if Ge none x.sts=0 then [PV.own 3 (Ba x).length (Bf (Ba x)),.sc (.int .i64 0)] else [.own 3 0 [],.sc (.int .i64 (Ge none x.sts))]) else [.own 3 0 [],.sc (.int .i64 (E9 x.ans))]):=by
  rw[hb];by_cases h:E9 x.ans=0
  ·have e:(if E9 x.ans≠0 then E9 x.ans else Ge none x.sts)=Ge none x.sts:=Bj (by simp[h])
   rw[e,Cy h]
  ·have e:(if E9 x.ans≠0 then E9 x.ans else Ge none x.sts)=E9 x.ans:=Cy h
   rw[e,Bj h,Bj h]
 rw[R,←l0,ev,z0]
 try unfold Aa
 repeat first
  |((with_reducible first|apply Ax|apply Ap|apply Az|apply A9|apply Cz|apply Bq|apply Aq|apply A4|apply A3);· first|with_reducible rfl|(simp (disch:=omega) only[gT,D2]<;>first|with_reducible rfl|omega)|omega)
  |(with_reducible apply Ay;· first|with_reducible rfl|(simp (disch:=omega) only[gF,D2]<;>omega))
 try simp (disch:=omega) only[D2]
 all_goals rfl
end
end
section
open Go.Proofs.Tryd (prog)
open Go.IntKind (wrap)
set_option maxRecDepth 1000000
theorem Et.len:∀{l:List It},Et l->(Ch l).length<=41*l.length
 |[],_=>by simp[Ch]
 |x::l,h=>by
  have h1:=Alh x;have h2:=(h x (by simp)).2.2
  have ih:=Et.len (l:=l) (fun y hy=>h y (by simp[hy]))
  have e:Ch (x::l)=Do x++Ch l:=rfl;rw[e,Kb,Io];omega
def Y5 (m:Md):List PV:=if B9 m=0 then [.own 1 (Ch (Be m)).length (Af .u8 (Ch (Be m))),.sc (.int .i64 0)] else [.own 1 0 [],.sc (.int .i64 (B9 m))]
section
variable {fu d:Nat}
theorem Av2 (Cb:1000<=fu){Aj Ao Bc Fa:Int}{Cp C3 C2:Nat}{Cv Fd Fc:List PV}{m:Md}(hw:m.wf)(h1:¬(m.ver<1∨16<m.ver)) (h2:¬(m.iss<0∨m.nxt<m.iss∨1099511627776<m.nxt)) (h3:m.ents.length<=16):∀(r:List Me)(i nn:Nat)(p:Option Int),m.ents.drop i=r->r.length<nn->i<=m.ents.length ->
  ((i=0∧p=none)∨∃x',0<i∧m.ents[i-1]?=some x'∧p=some x'.model)->(Fz p r=0->Fz none m.ents=0)->(∀x∈m.ents.take i,Ei x=0) ->
  H5 fu (Ad C0 prog fu (d+8)) Aj Ao Bc Cp Cv Fa C3 Fd C2 Fc nn i m.ents.length (Dd m.ents) (m.ents.length:Int) (i:Int) m.ver m.iss m.nxt m.ents.length (Dd m.ents) m.sig.leaf m.sig.chains.length (Af .u64 m.sig.chains) m.sig.path.length (Af .u64 m.sig.path) (F0 ((m.ents.take i).map Ba)) =
   some ⟨(if Fz p r=0 then [.own 1 (Ch (Be m)).length (Af .u8 (Ch (Be m))),.sc (.int .i64 0)] else [.own 1 0 [],.sc (.int .i64 (Fz p r))]),[]⟩
 |_,_,0,_,_,h,_,_,_,_=>by omega
 |[],i,nn+1,p,hd,hn,hi,hp,hz,hk=>by
  have hl:=drop_nil hd;have ei:i=m.ents.length:=by omega
  have eall:m.ents.take i=m.ents:=My (by omega)
  rw[eall] at hk ⊢;have Gk:Fz p []=0:=by unfold Fz;rfl
  have h0:=hz Gk;have hm0:B9 m=0:=by unfold B9;rw[Bj h1,Bj h2,Bj (by omega),h0]
  rw[Cy Gk];obtain⟨ve,fe,le⟩:=Ab6 h3 (fun x hx=>⟨hw.mod x hx,hk x hx⟩)
  obtain⟨vm,fm,lm⟩:=Yp hw hm0;have fl:=BV (f:=Ba) (k:=28) (l:=m.ents) (fun x hx=>(EX (hw.mod x hx) (hk x hx)).2.2)
  have ar:=AX (fu:=fu) (d:=d+2) Cb (k:=3) (by omega) (vs:=m.ents.map Ba) (fun v hv=>by
   obtain⟨x,hx,rfl⟩:=List.mem_map.1 hv;have:=EX (hw.mod x hx) (hk x hx);exact⟨this.1,by simp[Ba],by have:=this.2.2;omega⟩) (by rw[List.length_map];omega) (by omega)
  rw[List.length_map] at ar
  have ar4:Ad C0 prog fu (d+8) Ii [.lst false 1 4 [.lst false 3 1 (Bf [⟨1,m.ver,Ug⟩]),.lst false 3 1 (Bf [⟨1,m.iss,Ug⟩]),.lst false 3 1 (Bf [⟨1,m.nxt,Ug⟩]),.lst false 3 (Dt (m.ents.map Ba)).length (Bf (Dt (m.ents.map Ba)))]]=some ⟨[.own 3 (Be m).length (Bf (Be m)),.sc (.int .i64 0)],[]⟩:=AX (fu:=fu) (d:=d+2) Cb (k:=4) (by omega) (vs:=O9 m) (fun v hv=>by
   simp only[O9,List.mem_cons,List.not_mem_nil,or_false] at hv;rcases hv with rfl|rfl|rfl|rfl
   ·exact⟨Gb (Iy (by omega)) 4,by simp,by simp⟩
   ·exact⟨Gb (Iy (by omega)) 4,by simp,by simp⟩
   ·exact⟨Gb (Iy (by omega)) 4,by simp,by simp⟩
   ·exact⟨ve,by simp[Dt],by omega⟩) (by simp[O9]) (by simp only[O9,List.flatten_cons,List.flatten_nil,List.append_nil,Kb,List.length_singleton];omega)
  have en:=Ad4 (fu:=fu) (d:=d+3) Cb (l:=Be m) (by omega) (by omega) (vm.goods (by omega) (by simp[Be]) (by omega)) (fun x hx=>(fm x hx).1) (by have:=fm.len;omega)
  have u1:=Tx (fu:=fu) (d:=d+7) m.ver;have u2:=Tx (fu:=fu) (d:=d+7) m.iss;have u3:=Tx (fu:=fu) (d:=d+7) m.nxt;have w1:wrap .u64 m.ver=m.ver:=Ea (by omega) (by omega)
  have w2:wrap .u64 m.iss=m.iss:=Ea (by omega) (by omega)
  have w3:wrap .u64 m.nxt=m.nxt:=Ea (by omega) (by omega)
  have e00:((0:Int) != 0)=false:=rfl;have LV:(F0 (m.ents.map Ba)).length=m.ents.length:=by rw[Uq,List.length_map]
  have tV:List.take m.ents.length (F0 (m.ents.map Ba))=F0 (m.ents.map Ba):=My (by omega)
  have LA:=H0 (Dt (m.ents.map Ba));have LM:=H0 (Be m);have tA:List.take ((Dt (m.ents.map Ba)).length*3) (Bf (Dt (m.ents.map Ba)))=Bf (Dt (m.ents.map Ba)):=My (by omega)
  have tM:List.take ((Be m).length*3) (Bf (Be m))=Bf (Be m):=My (by omega)
  have LB:=At .u8 (Ch (Be m));have tB:=Tl .u8 (Ch (Be m));have K1:List.take 3 (Bf [⟨1,m.ver,Ug⟩])=Bf [⟨1,m.ver,Ug⟩]:=rfl;have K2:List.take 3 (Bf [⟨1,m.iss,Ug⟩])=Bf [⟨1,m.iss,Ug⟩]:=rfl;have K3:List.take 3 (Bf [⟨1,m.nxt,Ug⟩])=Bf [⟨1,m.nxt,Ug⟩]:=rfl;have N1:(Bf [⟨1,m.ver,Ug⟩]).length=3:=rfl;have N2:(Bf [⟨1,m.iss,Ug⟩]).length=3:=rfl;have N3:(Bf [⟨1,m.nxt,Ug⟩]).length=3:=rfl;subst ei;rw[Qq];generalize Bf [⟨1,m.ver,Ug⟩]=T1 at *
  generalize Bf [⟨1,m.iss,Ug⟩]=T2 at *
  generalize Bf [⟨1,m.nxt,Ug⟩]=T3 at *
  generalize Ch (Be m)=B at *
  generalize Bf (Be m)=TM at *
  generalize (Be m).length=nM at *
  generalize Bf (Dt (m.ents.map Ba))=TA at *
  generalize (Dt (m.ents.map Ba)).length=nA at *
  generalize F0 (m.ents.map Ba)=TV at *
  try unfold Aa
  repeat first
   |((with_reducible first|apply Ax|apply Ap|apply Az|apply Bq|apply Bv|apply Aq|apply A4|apply A3);· first|with_reducible rfl|(simp (disch:=omega) only[gT,LV,tV,ar,e00,u1,u2,u3,w1,w2,w3,K1,K2,K3,N1,N2,N3,LA,tA,ar4,LM,tM,en,LB,tB,C8,Nat.one_mul,Dp,Fg,D2,Lt]<;>first|with_reducible rfl|omega)|omega)
   |(with_reducible apply Ay;· first|with_reducible rfl|(simp (disch:=omega) only[gF,LV,tV,ar,e00,u1,u2,u3,w1,w2,w3,K1,K2,K3,N1,N2,N3,LA,tA,ar4,LM,tM,en,LB,tB,C8,Nat.one_mul,Dp,Fg,D2,Lt]<;>omega))
  try simp (disch:=omega) only[LV,tV,ar,e00,u1,u2,u3,w1,w2,w3,K1,K2,K3,N1,N2,N3,LA,tA,ar4,LM,tM,en,LB,tB,C8,Nat.one_mul,Dp,Fg,D2,Lt]
  all_goals rfl
 |x::rs,i,nn+1,p,hd,hn,hi,hp,hz,hk=>by
  obtain⟨q1,q2,q3⟩:=Dx hd;simp only[Io] at hn;obtain⟨c0,c1,c2⟩:=mea q2;have c2':(Dd m.ents).getD (i*3+1+1) .top=.lst false 2 x.sts.length (Eb x.sts):=c2;have nt:Int.toNat (i:Int)=i:=Hs _;have hxm:=hw.mod x (List.mem_of_getElem? q2);have en:=Aon (fu:=fu) (d:=d) Cb hxm;unfold Aoq at en;simp only[Me.cells] at en;have w:wrap .i64 ((i:Int)+1)=((i+1:Nat):Int):=by rw[Ak (by omega) (by omega)];omega
  have et:m.ents.take (i+1)=m.ents.take i++[x]:=by rw[List.take_add_one,q2];rfl
  have O1:Q1 none x=0:=rfl;have O0:∀q:Int,Q1 (some q) x=if x.model<=q then 7 else 0:=fun q=>rfl
  have LV:(F0 ((m.ents.take i).map Ba)).length=i:=by rw[Uq,List.length_map,List.length_take];omega
  have tV:List.take i (F0 ((m.ents.take i).map Ba))=F0 ((m.ents.take i).map Ba):=My (by omega)
  have ea:F0 ((m.ents.take i).map Ba)++[.lst false 3 (Ba x).length (Bf (Ba x))]=F0 ((m.ents.take (i+1)).map Ba):=by
   rw[et,List.map_append,List.map_singleton];exact NO _ (Ba x)
  have LE:=H0 (Ba x);have tE:List.take ((Ba x).length*3) (Bf (Ba x))=Bf (Ba x):=My (by omega)
  have e00:((0:Int) != 0)=false:=rfl;have hgo:Q1 p x=0->Ei x=0->Fz p (x::rs)=Fz (some x.model) rs:=fun h h'=>by rw[Fz,Bj (by simp[h]),Bj (by simp[h'])]
  have Amq:Q1 p x=0->Ei x≠0->Fz p (x::rs)=Ei x:=fun h h'=>by rw[Fz,Bj (by simp[h]),Cy h']
  have A6m:Q1 p x=7->Fz p (x::rs)=7:=fun h=>by rw[Fz,Cy (by rw[h];omega),h]
  have ih:=fun (h:Q1 p x=0) (h':Ei x=0)=>Av2 Cb (Aj:=Aj) (Ao:=Ao) (Bc:=Bc) (Fa:=Fa) (Cp:=Cp) (C3:=C3) (C2:=C2) (Cv:=Cv) (Fd:=Fd) (Fc:=Fc) hw h1 h2 h3 rs (i+1) nn (some x.model) q3 (by omega) (by omega) (.inr ⟨x,by omega,by rw[Nat.add_sub_cancel];exact q2,rfl⟩) (fun e=>hz (by rw[hgo h h'];exact e)) (fun y hy=>by
   rw[et] at hy;rcases List.mem_append.1 hy with hy|hy
   ·exact hk y hy
   ·rw[List.mem_singleton.1 hy];exact h')
  rw[Qq];rcases hp with⟨rfl,rfl⟩|⟨x',h0,h5,rfl⟩
  ·by_cases he:Ei x=0
   ·rw[Cy he] at en;have ih:=ih O1 he;rw[hgo O1 he,←ih];generalize Bf (Ba x)=TE at *
    generalize (Ba x).length=nE at *
    generalize F0 ((m.ents.take 0).map Ba)=TV at *
    generalize F0 ((m.ents.take (0+1)).map Ba)=TV' at *
    try unfold Aa
    repeat first
     |((with_reducible first|apply Ax|apply Ap|apply Az|apply Bq|apply Bv|apply Aq|apply A4|apply A3);· first|with_reducible rfl|(simp (disch:=omega) only[gT,nt,c0,c1,c2',en,e00,LE,tE,LV,tV,ea,w,C8,Dp,Fg]<;>first|with_reducible rfl|omega)|omega)
     |(with_reducible apply Ay;· first|with_reducible rfl|(simp (disch:=omega) only[gF,nt,c0,c1,c2',en,e00,LE,tE,LV,tV,ea,w,C8,Dp,Fg]<;>omega))
    try simp (disch:=omega) only[nt,c0,c1,c2',en,e00,LE,tE,LV,tV,ea,w,C8,Dp,Fg]
    all_goals rfl
   ·rw[Bj he] at en;have F9:(Ei x != 0)=true:=by simp[he]
    rw[Amq O1 he,Bj he]
    try unfold Aa
    repeat first
     |((with_reducible first|apply Ax|apply Ap|apply Az|apply Bq|apply Bv|apply Aq|apply A4|apply A3);· first|with_reducible rfl|(simp (disch:=omega) only[gT,nt,c0,c1,c2',en,F9]<;>first|with_reducible rfl|omega)|omega)
     |(with_reducible apply Ay;· first|with_reducible rfl|(simp (disch:=omega) only[gF,nt,c0,c1,c2',en,F9]<;>omega))
    try simp (disch:=omega) only[nt,c0,c1,c2',en,F9]
    all_goals rfl
  ·obtain⟨b0,b1,b2⟩:=mea h5;have b0':(Dd m.ents).getD ((i-1)*3+0) .top=.sc (.int .u64 x'.model):=b0;have wi:wrap .i64 ((i:Int)-1)=((i-1:Nat):Int):=by rw[Ak (by omega) (by omega)];omega
   have nt1:Int.toNat ((i-1:Nat):Int)=i-1:=Hs _;by_cases ho:x.model<=x'.model
   ·have h7:Q1 (some x'.model) x=7:=by rw[O0,Cy ho]
    rw[A6m h7,Bj (by omega)]
    try unfold Aa
    repeat first
     |((with_reducible first|apply Ax|apply Ap|apply Az|apply Bq|apply Bv|apply Aq|apply A4|apply A3);· first|with_reducible rfl|(simp (disch:=omega) only[gT,nt,c0,c1,c2',wi,nt1,b0']<;>first|with_reducible rfl|omega)|omega)
     |(with_reducible apply Ay;· first|with_reducible rfl|(simp (disch:=omega) only[gF,nt,c0,c1,c2',wi,nt1,b0']<;>omega))
    try simp (disch:=omega) only[nt,c0,c1,c2',wi,nt1,b0']
    all_goals rfl
   ·have h7:Q1 (some x'.model) x=0:=by rw[O0,Bj ho]
    by_cases he:Ei x=0
    ·rw[Cy he] at en;have ih:=ih h7 he;rw[hgo h7 he,←ih];generalize Bf (Ba x)=TE at *
     generalize (Ba x).length=nE at *
     generalize F0 ((m.ents.take i).map Ba)=TV at *
     generalize F0 ((m.ents.take (i+1)).map Ba)=TV' at *
     try unfold Aa
     repeat first
      |((with_reducible first|apply Ax|apply Ap|apply Az|apply Bq|apply Bv|apply Aq|apply A4|apply A3);· first|with_reducible rfl|(simp (disch:=omega) only[gT,nt,c0,c1,c2',wi,nt1,b0',en,e00,LE,tE,LV,tV,ea,w,C8,Dp,Fg]<;>first|with_reducible rfl|omega)|omega)
      |(with_reducible apply Ay;· first|with_reducible rfl|(simp (disch:=omega) only[gF,nt,c0,c1,c2',wi,nt1,b0',en,e00,LE,tE,LV,tV,ea,w,C8,Dp,Fg]<;>omega))
     try simp (disch:=omega) only[nt,c0,c1,c2',wi,nt1,b0',en,e00,LE,tE,LV,tV,ea,w,C8,Dp,Fg]
     all_goals rfl
    ·rw[Bj he] at en;have F9:(Ei x != 0)=true:=by simp[he]
     rw[Amq h7 he,Bj he]
     try unfold Aa
     repeat first
      |((with_reducible first|apply Ax|apply Ap|apply Az|apply Bq|apply Bv|apply Aq|apply A4|apply A3);· first|with_reducible rfl|(simp (disch:=omega) only[gT,nt,c0,c1,c2',wi,nt1,b0',en,F9]<;>first|with_reducible rfl|omega)|omega)
      |(with_reducible apply Ay;· first|with_reducible rfl|(simp (disch:=omega) only[gF,nt,c0,c1,c2',wi,nt1,b0',en,F9]<;>omega))
     try simp (disch:=omega) only[nt,c0,c1,c2',wi,nt1,b0',en,F9]
     all_goals rfl
theorem Ac9 (Cb:1000<=fu){m:Md}(hw:m.wf):Ad C0 prog fu (d+9) Wo [.agg m.cells]=some ⟨Y5 m,[]⟩:=by
 refine (MN fu (d+8) m.ver m.iss m.nxt m.ents.length (Dd m.ents) m.sig.leaf m.sig.chains.length (Af .u64 m.sig.chains) m.sig.path.length (Af .u64 m.sig.path)).trans ?_;have bad:∀{e:Int},B9 m=e->e≠0->some (A5.mk [.own 1 0 [],.sc (.int .i64 e)] [])=some (A5.mk (Y5 m) []):=fun {e} h he=>by unfold Y5;rw[h,Bj he]
 by_cases h1:m.ver<1∨16<m.ver
 ·have hb:B9 m=9:=by unfold B9;rw[Cy h1]
  rw[←bad hb (by omega)]
  by_cases VE:m.ver<1
  ·skip
   try unfold Aa
   repeat first
    |((with_reducible first|apply Ax|apply Ap|apply Az|apply Bq|apply Bv|apply Aq|apply A4|apply A3);· first|with_reducible rfl|(simp (disch:=omega) only[gT,D2]<;>first|with_reducible rfl|omega)|omega)
    |(with_reducible apply Ay;· first|with_reducible rfl|(simp (disch:=omega) only[gF,D2]<;>omega))
   try simp (disch:=omega) only[D2]
   all_goals rfl
  ·skip
   try unfold Aa
   repeat first
    |((with_reducible first|apply Ax|apply Ap|apply Az|apply Bq|apply Bv|apply Aq|apply A4|apply A3);· first|with_reducible rfl|(simp (disch:=omega) only[gT,D2]<;>first|with_reducible rfl|omega)|omega)
    |(with_reducible apply Ay;· first|with_reducible rfl|(simp (disch:=omega) only[gF,D2]<;>omega))
   try simp (disch:=omega) only[D2]
   all_goals rfl
 by_cases h2:m.iss<0∨m.nxt<m.iss∨1099511627776<m.nxt
 ·have hb:B9 m=9:=by unfold B9;rw[Bj h1,Cy h2]
  rw[←bad hb (by omega)]
  by_cases h2':m.iss<0
  ·skip
   try unfold Aa
   repeat first
    |((with_reducible first|apply Ax|apply Ap|apply Az|apply Bq|apply Bv|apply Aq|apply A4|apply A3);· first|with_reducible rfl|(simp (disch:=omega) only[gT,D2]<;>first|with_reducible rfl|omega)|omega)
    |(with_reducible apply Ay;· first|with_reducible rfl|(simp (disch:=omega) only[gF,D2]<;>omega))
   try simp (disch:=omega) only[D2]
   all_goals rfl
  by_cases Bb2:m.nxt<m.iss
  ·skip
   try unfold Aa
   repeat first
    |((with_reducible first|apply Ax|apply Ap|apply Az|apply Bq|apply Bv|apply Aq|apply A4|apply A3);· first|with_reducible rfl|(simp (disch:=omega) only[gT,D2]<;>first|with_reducible rfl|omega)|omega)
    |(with_reducible apply Ay;· first|with_reducible rfl|(simp (disch:=omega) only[gF,D2]<;>omega))
   try simp (disch:=omega) only[D2]
   all_goals rfl
  ·skip
   try unfold Aa
   repeat first
    |((with_reducible first|apply Ax|apply Ap|apply Az|apply Bq|apply Bv|apply Aq|apply A4|apply A3);· first|with_reducible rfl|(simp (disch:=omega) only[gT,D2]<;>first|with_reducible rfl|omega)|omega)
    |(with_reducible apply Ay;· first|with_reducible rfl|(simp (disch:=omega) only[gF,D2]<;>omega))
   try simp (disch:=omega) only[D2]
   all_goals rfl
 by_cases h3:16<m.ents.length
 ·have hb:B9 m=8:=by unfold B9;rw[Bj h1,Bj h2,Cy h3]
  rw[←bad hb (by omega)]
  try unfold Aa
  repeat first
   |((with_reducible first|apply Ax|apply Ap|apply Az|apply Bq|apply Bv|apply Aq|apply A4|apply A3);· first|with_reducible rfl|(simp (disch:=omega) only[gT,D2]<;>first|with_reducible rfl|omega)|omega)
   |(with_reducible apply Ay;· first|with_reducible rfl|(simp (disch:=omega) only[gF,D2]<;>omega))
  try simp (disch:=omega) only[D2]
  all_goals rfl
 have hb:B9 m=Fz none m.ents:=by unfold B9;rw[Bj h1,Bj h2,Bj h3]
 have l0:=Av2 (fu:=fu) (d:=d) Cb (Aj:=m.ver) (Ao:=m.iss) (Bc:=m.nxt) (Cp:=m.ents.length) (Cv:=Dd m.ents) (Fa:=m.sig.leaf) (C3:=m.sig.chains.length) (Fd:=Af .u64 m.sig.chains) (C2:=m.sig.path.length) (Fc:=Af .u64 m.sig.path) hw h1 h2 (by omega) m.ents 0 fu none rfl (by omega) (by omega) (.inl ⟨rfl,rfl⟩) (fun h=>h) (fun x hx=>by cases hx)
 have ev:F0 ((m.ents.take 0).map Ba)=[]:=rfl;have z0:((0:Nat):Int)=0:=rfl;rw[ev,z0] at l0;unfold Y5;rw[hb,←l0]
 try unfold Aa
 repeat first
  |((with_reducible first|apply Ax|apply Ap|apply Az|apply Bq|apply Bv|apply Aq|apply A4|apply A3);· first|with_reducible rfl|(simp (disch:=omega) only[gT,D2]<;>first|with_reducible rfl|omega)|omega)
  |(with_reducible apply Ay;· first|with_reducible rfl|(simp (disch:=omega) only[gF,D2]<;>omega))
 try simp (disch:=omega) only[D2]
 all_goals rfl
end
end
section
open Go.Proofs.Tryd (prog)
open Go.IntKind (wrap)
set_option maxRecDepth 1000000
def AB (m:Md):Int:=Q0 15 (Ch (Be m))
def Ad2 (m:Md)(k:Ky):Int:=if B9 m=0 then (if m.sig.leaf≠m.ver-1 then 33 else Aj1 k (AB m) m.sig) else B9 m
def D6 (m:Md):Int:=if B9 m=0 then PP m.sig else B9 m
def G0 (m:Md):List Int:=Ch (Be m)++AJ m.sig
def FX (m:Md):List PV:=if D6 m=0 then [.own 1 (G0 m).length (Af .u8 (G0 m)),.sc (.int .i64 0)] else [.own 1 0 [],.sc (.int .i64 (D6 m))]
def EZ (m:Md):List PV:=if B9 m=0 then [.sc (.int .u64 (AB m)),.sc (.int .i64 0)] else [.sc (.int .u64 0),.sc (.int .i64 (B9 m))]
def TY:Md:=⟨0,0,0,[],⟨0,[],[]⟩⟩
def KM (m:Md)(seed h:Int):Md × Int:=
 if B9 m=0 then (match Ajx seed h (m.ver-1) (AB m) with|some s=>({ m with sig:=s },0)|none=>(TY,9)) else (TY,B9 m)
theorem IE {m:Md}(hw:m.wf)(h:B9 m=0):(Ch (Be m)).length<=18573:=by
 obtain⟨_,f,l⟩:=Yp hw h;have:=f.len;omega
theorem ZF {m:Md}(hw:m.wf)(h:B9 m=0):Kg (Ch (Be m)):=by
 obtain⟨_,f,_⟩:=Yp hw h;intro y hy;obtain⟨x,hx,hy⟩:=List.mem_flatMap.1 hy;have:=(f x hx).1;exact Ato this.k1 this.k8 this.n0 y hy
section
variable {fu d:Nat} {m:Md}
theorem Ad3 (Cb:20000<=fu)(hw:m.wf):Ad C0 prog fu (d+10) Wn [.agg m.cells]=some ⟨EZ m,[]⟩:=by
 refine (MW fu (d+9) m.ver m.iss m.nxt m.ents.length (Dd m.ents) m.sig.leaf m.sig.chains.length (Af .u64 m.sig.chains) m.sig.path.length (Af .u64 m.sig.path)).trans ?_;have bq:=Ac9 (fu:=fu) (d:=d) (by omega) hw
 simp only[Md.cells] at bq;unfold Y5 at bq;unfold EZ;by_cases h0:B9 m=0
 ·have lb:=IE hw h0;rw[Cy h0] at bq;rw[Cy h0];have e00:((0:Int) != 0)=false:=rfl;have hh:=Ahm (xs:=Oc) (fu:=fu) (d:=d+4) (ZF hw h0) (by omega) (by omega) (by omega) 15
  have eW:Q0 15 (Ch (Be m))=AB m:=rfl;rw[eW] at hh;have L1:=At .u8 (Ch (Be m));have t1:=Tl .u8 (Ch (Be m));generalize (Ch (Be m)).length=n1 at *
  generalize Af .u8 (Ch (Be m))=c1 at *
  try unfold Aa
  repeat first
   |((with_reducible first|apply Ax|apply Ap|apply Az|apply Bq|apply Bv|apply Bp|apply Aq|apply A4|apply A3);· first|with_reducible rfl|(simp (disch:=omega) only[gT,bq,e00,Dp,C8,Fg,L1,t1,hh]<;>first|with_reducible rfl|omega)|omega)
   |(with_reducible apply Ay;· first|with_reducible rfl|(simp (disch:=omega) only[gF,bq,e00,Dp,C8,Fg,L1,t1,hh]<;>omega))
  try simp (disch:=omega) only[bq,e00,Dp,C8,Fg,L1,t1,hh]
  all_goals rfl
 ·have F9:(B9 m != 0)=true:=by simp[h0]
  rw[Bj h0] at bq;rw[Bj h0]
  try unfold Aa
  repeat first
   |((with_reducible first|apply Ax|apply Ap|apply Az|apply Bq|apply Bv|apply Bp|apply Aq|apply A4|apply A3);· first|with_reducible rfl|(simp (disch:=omega) only[gT,bq,F9]<;>first|with_reducible rfl|omega)|omega)
   |(with_reducible apply Ay;· first|with_reducible rfl|(simp (disch:=omega) only[gF,bq,F9]<;>omega))
  try simp (disch:=omega) only[bq,F9]
  all_goals rfl
theorem Ava (Cb:20000<=fu)(hw:m.wf)(k:Ky):Ad C0 prog fu (d+11) R7 [.agg m.cells,.agg k.cells]=some ⟨[.sc (.int .i64 (Ad2 m k))],[]⟩:=by
 refine (DW fu (d+10) m.ver m.iss m.nxt m.ents.length (Dd m.ents) m.sig.leaf m.sig.chains.length (Af .u64 m.sig.chains) m.sig.path.length (Af .u64 m.sig.path) k.h k.root).trans ?_;have bq:=Ad3 (fu:=fu) (d:=d) Cb hw;simp only[Md.cells] at bq;unfold EZ at bq;unfold Ad2;by_cases h0:B9 m=0
 ·rw[Cy h0] at bq;rw[Cy h0];have hv:=Qi h0;have e00:((0:Int) != 0)=false:=rfl;have w:wrap .i64 (m.ver-1)=m.ver-1:=Ak (by omega) (by omega)
  by_cases h1:m.sig.leaf≠m.ver-1
  ·have hn:(m.sig.leaf != m.ver-1)=true:=by simp[h1]
   rw[Cy h1]
   try unfold Aa
   repeat first
    |((with_reducible first|apply Ax|apply Ap|apply Az|apply Bq|apply Bv|apply Bp|apply Aq|apply A4|apply A3);· first|with_reducible rfl|(simp (disch:=omega) only[gT,bq,e00,w,hn]<;>first|with_reducible rfl|omega)|omega)
    |(with_reducible apply Ay;· first|with_reducible rfl|(simp (disch:=omega) only[gF,bq,e00,w,hn]<;>omega))
   try simp (disch:=omega) only[bq,e00,w,hn]
   all_goals rfl
  ·have hn:(m.sig.leaf != m.ver-1)=false:=by simp only[ne_eq,Decidable.not_not] at h1;simp[h1]
   rw[Bj h1];have vr:=Al0 (xs:=Oc) (fu:=fu) (d:=d+2) (by omega) k (AB m) m.sig
   simp only[Ky.cells,Sg.cells] at vr
   try unfold Aa
   repeat first
    |((with_reducible first|apply Ax|apply Ap|apply Az|apply Bq|apply Bv|apply Bp|apply Aq|apply A4|apply A3);· first|with_reducible rfl|(simp (disch:=omega) only[gT,bq,e00,w,hn,vr]<;>first|with_reducible rfl|omega)|omega)
    |(with_reducible apply Ay;· first|with_reducible rfl|(simp (disch:=omega) only[gF,bq,e00,w,hn,vr]<;>omega))
   try simp (disch:=omega) only[bq,e00,w,hn,vr]
   all_goals rfl
 ·have F9:(B9 m != 0)=true:=by simp[h0]
  rw[Bj h0] at bq;rw[Bj h0]
  try unfold Aa
  repeat first
   |((with_reducible first|apply Ax|apply Ap|apply Az|apply Bq|apply Bv|apply Bp|apply Aq|apply A4|apply A3);· first|with_reducible rfl|(simp (disch:=omega) only[gT,bq,F9]<;>first|with_reducible rfl|omega)|omega)
   |(with_reducible apply Ay;· first|with_reducible rfl|(simp (disch:=omega) only[gF,bq,F9]<;>omega))
  try simp (disch:=omega) only[bq,F9]
  all_goals rfl
theorem ZB (Cb:20000<=fu)(hw:m.wf)(hp:m.sig.path.length<=1000000000)(hf:m.sig.path.length<fu):Ad C0 prog fu (d+10) Mt [.agg m.cells]=some ⟨FX m,[]⟩:=by
 refine (DS fu (d+9) m.ver m.iss m.nxt m.ents.length (Dd m.ents) m.sig.leaf m.sig.chains.length (Af .u64 m.sig.chains) m.sig.path.length (Af .u64 m.sig.path)).trans ?_;have bq:=Ac9 (fu:=fu) (d:=d) (by omega) hw
 simp only[Md.cells] at bq;have es:=Aj8 (xs:=Oc) (fu:=fu) (d:=d+7) (by omega) m.sig hp hf
 simp only[Sg.cells] at es;unfold Y5 at bq;unfold FX D6;by_cases h0:B9 m=0
 ·have lb:=IE hw h0;rw[Cy h0] at bq;rw[Cy h0];have L1:=At .u8 (Ch (Be m));have t1:=Tl .u8 (Ch (Be m));have e00:((0:Int) != 0)=false:=rfl;have e90:((9:Int) != 0)=true:=rfl;have e40:((4:Int) != 0)=true:=rfl;unfold PP;by_cases g1:Ey m.sig.path.length=true
  ·rw[Cy g1] at es;rw[Cy g1,Bj (by omega)]
   try unfold Aa
   repeat first
    |((with_reducible first|apply Ax|apply Ap|apply Az|apply Bq|apply Bv|apply Bp|apply Aq|apply A4|apply A3);· first|with_reducible rfl|(simp (disch:=omega) only[gT,bq,es,e00,e90]<;>first|with_reducible rfl|omega)|omega)
    |(with_reducible apply Ay;· first|with_reducible rfl|(simp (disch:=omega) only[gF,bq,es,e00,e90]<;>omega))
   try simp (disch:=omega) only[bq,es,e00,e90]
   all_goals rfl
  rw[Bj g1] at es;rw[Bj g1];by_cases g2:Qb m.sig.leaf m.sig.path.length=true
  ·rw[Cy g2] at es;rw[Cy g2,Bj (by omega)]
   try unfold Aa
   repeat first
    |((with_reducible first|apply Ax|apply Ap|apply Az|apply Bq|apply Bv|apply Bp|apply Aq|apply A4|apply A3);· first|with_reducible rfl|(simp (disch:=omega) only[gT,bq,es,e00,e90]<;>first|with_reducible rfl|omega)|omega)
    |(with_reducible apply Ay;· first|with_reducible rfl|(simp (disch:=omega) only[gF,bq,es,e00,e90]<;>omega))
   try simp (disch:=omega) only[bq,es,e00,e90]
   all_goals rfl
  rw[Bj g2] at es;rw[Bj g2];by_cases g3:m.sig.chains.length≠18
  ·rw[Cy g3] at es;rw[Cy g3,Bj (by omega)]
   try unfold Aa
   repeat first
    |((with_reducible first|apply Ax|apply Ap|apply Az|apply Bq|apply Bv|apply Bp|apply Aq|apply A4|apply A3);· first|with_reducible rfl|(simp (disch:=omega) only[gT,bq,es,e00,e40]<;>first|with_reducible rfl|omega)|omega)
    |(with_reducible apply Ay;· first|with_reducible rfl|(simp (disch:=omega) only[gF,bq,es,e00,e40]<;>omega))
   try simp (disch:=omega) only[bq,es,e00,e40]
   all_goals rfl
  rw[Bj g3] at es;rw[Bj g3,Cy rfl];have hb4:=Kv (h:=m.sig.path.length) (by simpa using g1)
  have ls:(AJ m.sig).length=2+8*m.sig.chains.length+8*m.sig.path.length:=by
   unfold AJ;simp only[Io,Kb,Dz];omega
  have L2:=At .u8 (AJ m.sig);have t2:=Tl .u8 (AJ m.sig)
  have ea:Af .u8 (Ch (Be m))++Af .u8 (AJ m.sig)=Af .u8 (G0 m):=by
   unfold G0;rw[Af,Af,Af,List.flatMap_append]
  have le:(G0 m).length=(Ch (Be m)).length+(AJ m.sig).length:=by unfold G0;rw[Kb]
  have L3:=At .u8 (G0 m);have t3:List.take ((Ch (Be m)).length+(AJ m.sig).length) (Af .u8 (G0 m))=Af .u8 (G0 m):=My (by omega)
  rw[le] at L3 ⊢;generalize (Ch (Be m)).length=n1 at *
  generalize (AJ m.sig).length=n2 at *
  generalize Af .u8 (Ch (Be m))=c1 at *
  generalize Af .u8 (AJ m.sig)=c2 at *
  try unfold Aa
  repeat first
   |((with_reducible first|apply Ax|apply Ap|apply Az|apply Bq|apply Bv|apply Bp|apply Aq|apply A4|apply A3);· first|with_reducible rfl|(simp (disch:=omega) only[gT,bq,es,e00,Dp,C8,Fg,L1,t1,L2,t2,ea,L3,t3]<;>first|with_reducible rfl|omega)|omega)
   |(with_reducible apply Ay;· first|with_reducible rfl|(simp (disch:=omega) only[gF,bq,es,e00,Dp,C8,Fg,L1,t1,L2,t2,ea,L3,t3]<;>omega))
  try simp (disch:=omega) only[bq,es,e00,Dp,C8,Fg,L1,t1,L2,t2,ea,L3,t3]
  all_goals rfl
 ·have F9:(B9 m != 0)=true:=by simp[h0]
  rw[Bj h0] at bq;rw[Bj h0,Bj h0]
  try unfold Aa
  repeat first
   |((with_reducible first|apply Ax|apply Ap|apply Az|apply Bq|apply Bv|apply Bp|apply Aq|apply A4|apply A3);· first|with_reducible rfl|(simp (disch:=omega) only[gT,bq,F9]<;>first|with_reducible rfl|omega)|omega)
   |(with_reducible apply Ay;· first|with_reducible rfl|(simp (disch:=omega) only[gF,bq,F9]<;>omega))
  try simp (disch:=omega) only[bq,F9]
  all_goals rfl
theorem Als {l:List An}(hl:l.length<=1000000):Ad C0 prog fu (d+1) I5 [.lst false 3 l.length (D8 l)]=some ⟨[.lst false 3 l.length (D8 l)],[]⟩:=by
 refine (M8 fu d l.length (D8 l)).trans ?_;have L:=Yv l;have t:List.take (l.length*3) (D8 l)=D8 l:=My (by omega)
 by_cases h:0<l.length
 ·skip
  try unfold Aa
  repeat first
   |((with_reducible first|apply Ax|apply Ap|apply Az|apply Bq|apply Bv|apply Bp|apply Aq|apply A4|apply A3);· first|with_reducible rfl|(simp (disch:=omega) only[gT,L,t,Zzq,C8,Fg]<;>first|with_reducible rfl|omega)|omega)
   |(with_reducible apply Ay;· first|with_reducible rfl|(simp (disch:=omega) only[gF,L,t,Zzq,C8,Fg]<;>omega))
  try simp (disch:=omega) only[L,t,Zzq,C8,Fg]
  all_goals rfl
 ·have h0:l=[]:=List.eq_nil_of_length_eq_zero (by omega)
  subst h0;rw[Fi _ _ _ (by simp)]
  exact NF _
theorem Ai9 {l:List Sa}(hl:l.length<=1000000):Ad C0 prog fu (d+1) I6 [.lst false 2 l.length (Eb l)]=some ⟨[.lst false 2 l.length (Eb l)],[]⟩:=by
 refine (M9 fu d l.length (Eb l)).trans ?_;have L:=GY l;have t:List.take (l.length*2) (Eb l)=Eb l:=My (by omega)
 by_cases h:0<l.length
 ·skip
  try unfold Aa
  repeat first
   |((with_reducible first|apply Ax|apply Ap|apply Az|apply Bq|apply Bv|apply Bp|apply Aq|apply A4|apply A3);· first|with_reducible rfl|(simp (disch:=omega) only[gT,L,t,Zzq,C8,Fg]<;>first|with_reducible rfl|omega)|omega)
   |(with_reducible apply Ay;· first|with_reducible rfl|(simp (disch:=omega) only[gF,L,t,Zzq,C8,Fg]<;>omega))
  try simp (disch:=omega) only[L,t,Zzq,C8,Fg]
  all_goals rfl
 ·have h0:l=[]:=List.eq_nil_of_length_eq_zero (by omega)
  subst h0;rw[Fi _ _ _ (by simp)]
  exact NF _
theorem An8 {x:Me}(h1:x.ans.length<=1000000)(h2:x.sts.length<=1000000):Ad C0 prog fu (d+2) Jm [.agg x.cells]=some ⟨[.agg x.cells],[]⟩:=by
 refine (O3 fu (d+1) x.model x.ans.length (D8 x.ans) x.sts.length (Eb x.sts)).trans ?_;have c1:=Als (fu:=fu) (d:=d) h1;have c2:=Ai9 (fu:=fu) (d:=d) h2
 try unfold Aa
 repeat first
  |((with_reducible first|apply Ax|apply Ap|apply Az|apply Bq|apply Bv|apply Bp|apply Aq|apply A4|apply A3);· first|with_reducible rfl|(simp (disch:=omega) only[gT,c1,c2]<;>first|with_reducible rfl|omega)|omega)
  |(with_reducible apply Ay;· first|with_reducible rfl|(simp (disch:=omega) only[gF,c1,c2]<;>omega))
 try simp (disch:=omega) only[c1,c2]
 all_goals rfl
theorem UL (a:List Me)(x:Me):Dd a++[.sc (.int .u64 x.model),.lst false 3 x.ans.length (D8 x.ans),.lst false 2 x.sts.length (Eb x.sts)]=Dd (a++[x]):=by
 unfold Dd;rw[List.flatMap_append,List.flatMap_cons,List.flatMap_nil,List.append_nil];rfl
theorem Aim {Aj Ao Bc Fa a1 a2:Int}{Cp C3 C2:Nat}{Cv Fd Fc:List PV}{s:Sg}(h3:m.ents.length<=16)(h4:∀x∈m.ents,x.ans.length<=4∧x.sts.length<=4):∀(r:List Me)(i nn:Nat),m.ents.drop i=r->r.length<nn->i<=m.ents.length ->
  J3 fu (Ad C0 prog fu (d+2)) Aj Ao Bc Cp Cv Fa C3 Fd C2 Fc a1 a2 nn i m.ents.length (Dd m.ents) (m.ents.length:Int) (i:Int) m.ver m.iss m.nxt m.ents.length (Dd m.ents) m.sig.leaf m.sig.chains.length (Af .u64 m.sig.chains) m.sig.path.length (Af .u64 m.sig.path) 0 0 0 0 0 0 0 [] [] [] s.leaf s.chains.length (Af .u64 s.chains) s.path.length (Af .u64 s.path) (Dd (m.ents.take i)) =
   some ⟨[.agg ({ m with sig:=s }:Md).cells,.sc (.int .i64 0)],[]⟩
 |_,_,0,_,h,_=>by omega
 |[],i,nn+1,hd,hn,hi=>by
  have hl:=drop_nil hd;have ei:i=m.ents.length:=by omega
  have eall:m.ents.take i=m.ents:=My (by omega)
  rw[eall];subst ei;have L:=Yy m.ents;have t:List.take (m.ents.length*3) (Dd m.ents)=Dd m.ents:=My (by omega)
  rw[Ri]
  try unfold Aa
  repeat first
   |((with_reducible first|apply Ax|apply Ap|apply Az|apply Bq|apply Bv|apply Bp|apply Aq|apply A4|apply A3);· first|with_reducible rfl|(simp (disch:=omega) only[gT,L,t,C8,Fg]<;>first|with_reducible rfl|omega)|omega)
   |(with_reducible apply Ay;· first|with_reducible rfl|(simp (disch:=omega) only[gF,L,t,C8,Fg]<;>omega))
  try simp (disch:=omega) only[L,t,C8,Fg]
  all_goals rfl
 |x::rs,i,nn+1,hd,hn,hi=>by
  obtain⟨q1,q2,q3⟩:=Dx hd;simp only[Io] at hn;obtain⟨c0,c1,c2⟩:=mea q2;have c2':(Dd m.ents).getD (i*3+1+1) .top=.lst false 2 x.sts.length (Eb x.sts):=c2;have hx:=h4 x (List.mem_of_getElem? q2);have nt:Int.toNat (i:Int)=i:=Hs _;have w:wrap .i64 ((i:Int)+1)=((i+1:Nat):Int):=by rw[Ak (by omega) (by omega)];omega
  have et:m.ents.take (i+1)=m.ents.take i++[x]:=by rw[List.take_add_one,q2];rfl
  have cp:=An8 (fu:=fu) (d:=d) (x:=x) (by omega) (by omega)
  simp only[Me.cells] at cp;have lt:(m.ents.take i).length=i:=by rw[List.length_take];omega
  have L:(Dd (m.ents.take i)).length=i*3:=by rw[Yy,lt]
  have t:List.take (i*3) (Dd (m.ents.take i))=Dd (m.ents.take i):=My (by omega)
  have ea:=UL (m.ents.take i) x;rw[←et] at ea;have ih:=Aim (Aj:=Aj) (Ao:=Ao) (Bc:=Bc) (Fa:=Fa) (a1:=a1) (a2:=a2) (Cp:=Cp) (C3:=C3) (C2:=C2) (Cv:=Cv) (Fd:=Fd) (Fc:=Fc) (s:=s) h3 h4 rs (i+1) nn q3 (by omega) (by omega)
  rw[←ih,Ri];generalize Dd (m.ents.take i)=E1 at *
  generalize Dd (m.ents.take (i+1))=E2 at *
  try unfold Aa
  repeat first
   |((with_reducible first|apply Ax|apply Ap|apply Az|apply Bq|apply Bv|apply Bp|apply Aq|apply A4|apply A3);· first|with_reducible rfl|(simp (disch:=omega) only[gT,nt,c0,c1,c2',cp,L,t,ea,w]<;>first|with_reducible rfl|omega)|omega)
   |(with_reducible apply Ay;· first|with_reducible rfl|(simp (disch:=omega) only[gF,nt,c0,c1,c2',cp,L,t,ea,w]<;>omega))
  try simp (disch:=omega) only[nt,c0,c1,c2',cp,L,t,ea,w]
  all_goals rfl
theorem Ath (seed h leaf w:Int):Ad C0 prog fu (d+1) 11 [.sc (.int .u64 seed),.sc (.int .i64 h),.sc (.int .i64 leaf),.sc (.int .u64 w)] =
  some ⟨[.agg [.sc (.int .i64 (tkL h leaf)),.lst false 1 (tkC seed h leaf w).length (Af .u64 (tkC seed h leaf w)),.lst false 1 (tkP seed h leaf).length (Af .u64 (tkP seed h leaf))],.sc (.int .i64 (tkE h leaf))],[]⟩:=by kernel_rfl
theorem Auf (seed h leaf w:Int):(Ajx seed h leaf w=none∧tkE h leaf=9)∨(Ajx seed h leaf w=some ⟨tkL h leaf,tkC seed h leaf w,tkP seed h leaf⟩∧tkE h leaf=0):=by
 unfold Ajx tkE tkL tkC tkP OU;cases Ey h
 ·cases Qb leaf h
  ·exact .inr ⟨rfl,rfl⟩
  ·exact .inl ⟨rfl,rfl⟩
 ·exact .inl ⟨rfl,rfl⟩
theorem Ack {p:Option Int}:∀{l:List Me},(∀x∈l,Ei x=0)->∀x∈l,x.ans.length<=4∧x.sts.length<=4:=fun h x hx=>⟨(T7 (h x hx)).1,(T7 (h x hx)).2.1⟩
theorem Abm (Cb:20000<=fu)(hw:m.wf)(seed h:Int):Ad C0 prog fu (d+11) Iq [.agg m.cells,.sc (.int .u64 seed),.sc (.int .i64 h)]=some ⟨[.agg (KM m seed h).1.cells,.sc (.int .i64 (KM m seed h).2)],[]⟩:=by
 refine (MB fu (d+10) m.ver m.iss m.nxt m.ents.length (Dd m.ents) m.sig.leaf m.sig.chains.length (Af .u64 m.sig.chains) m.sig.path.length (Af .u64 m.sig.path) seed h).trans ?_;have bq:=Ad3 (fu:=fu) (d:=d) Cb hw;simp only[Md.cells] at bq;unfold EZ at bq;unfold KM;by_cases h0:B9 m=0
 ·rw[Cy h0] at bq;rw[Cy h0];have hv:=Qi h0;have e00:((0:Int) != 0)=false:=rfl;have e90:((9:Int) != 0)=true:=rfl;have w:wrap .i64 (m.ver-1)=m.ver-1:=Ak (by omega) (by omega)
  have tk:=Ath (fu:=fu) (d:=d+9) seed h (m.ver-1) (AB m);have La:=At .u64 (tkC seed h (m.ver-1) (AB m));have Lb:=At .u64 (tkP seed h (m.ver-1));rcases Auf seed h (m.ver-1) (AB m) with⟨hs,he⟩|⟨hs,he⟩
  ·rw[hs];rw[he] at tk
   try unfold Aa
   repeat first
    |((with_reducible first|apply Ax|apply Ap|apply Az|apply Bq|apply Bv|apply Bp|apply Aq|apply A4|apply A3);· first|with_reducible rfl|(simp (disch:=omega) only[gT,bq,e00,e90,w,tk]<;>first|with_reducible rfl|omega)|omega)
    |(with_reducible apply Ay;· first|with_reducible rfl|(simp (disch:=omega) only[gF,bq,e00,e90,w,tk]<;>omega))
   try simp (disch:=omega) only[bq,e00,e90,w,tk]
   all_goals rfl
  ·rw[hs];rw[he] at tk;have sl:=Aim (fu:=fu) (d:=d+8) (m:=m) (Aj:=m.ver) (Ao:=m.iss) (Bc:=m.nxt) (Fa:=m.sig.leaf) (a1:=seed) (a2:=h) (Cp:=m.ents.length) (C3:=m.sig.chains.length) (C2:=m.sig.path.length) (Cv:=Dd m.ents) (Fd:=Af .u64 m.sig.chains) (Fc:=Af .u64 m.sig.path) (s:=⟨tkL h (m.ver-1),tkC seed h (m.ver-1) (AB m),tkP seed h (m.ver-1)⟩) (by omega) (Ack (p:=none) (Ql hv.2.2.2.2.2.2)) m.ents 0 fu rfl (by omega) (by omega)
   have ev:Dd (m.ents.take 0)=[]:=rfl;have z0:((0:Nat):Int)=0:=rfl;rw[ev,z0] at sl;simp only;rw[←sl]
   try unfold Aa
   repeat first
    |((with_reducible first|apply Ax|apply Ap|apply Az|apply Bq|apply Bv|apply Bp|apply Aq|apply A4|apply A3);· first|with_reducible rfl|(simp (disch:=omega) only[gT,bq,e00,e90,w,tk]<;>first|with_reducible rfl|omega)|omega)
    |(with_reducible apply Ay;· first|with_reducible rfl|(simp (disch:=omega) only[gF,bq,e00,e90,w,tk]<;>omega))
   try simp (disch:=omega) only[bq,e00,e90,w,tk]
   all_goals rfl
 ·have F9:(B9 m != 0)=true:=by simp[h0]
  rw[Bj h0] at bq;rw[Bj h0]
  try unfold Aa
  repeat first
   |((with_reducible first|apply Ax|apply Ap|apply Az|apply Bq|apply Bv|apply Bp|apply Aq|apply A4|apply A3);· first|with_reducible rfl|(simp (disch:=omega) only[gT,bq,F9]<;>first|with_reducible rfl|omega)|omega)
   |(with_reducible apply Ay;· first|with_reducible rfl|(simp (disch:=omega) only[gF,bq,F9]<;>omega))
  try simp (disch:=omega) only[bq,F9]
  all_goals rfl
end
end
section
open Go.Proofs.Tryd (prog)
open Go.IntKind (wrap)
set_option maxRecDepth 100000
abbrev Kp:FuncId:=64
noncomputable def Fk (fu:Nat)(call:Ah)(Aj:Int)(Cc:Nat)(Ao:List PV)(Bm:Nat)(Bc:List PV)(Cg:Int)(Hj:Nat)(Cf:List PV)(He:Nat)(Cm:List PV)(nn:Nat)(y0 y1:Int)(y2:Nat)(y3:List PV)(y4:Nat)(y5:List PV)(y6:Int)(y7:Nat)(y8:List PV)(y9:Nat)(y10:List PV):Option A5:=Du CB prog fu call 64 Tryd.f64 (Ca Tryd.f64) [.agg [.sc (.int .u64 Aj),.lst false 3 Cc Ao,.lst false 2 Bm Bc],.agg [.sc (.int .u64 Cg),.lst false 3 Hj Cf,.lst false 2 He Cm]] [.r,.r,.l,.r,.l] nn ⟨lk [(2,(.ptr 2 0)),(3,(.ptr 3 0)),(5,(.sc (.int .i64 y0)))],Br [(2,(.st [(.sc (.int .u64 y1)),(.lst false 3 y2 y3),(.lst false 2 y4 y5)])),(3,(.st [(.sc (.int .u64 y6)),(.lst false 3 y7 y8),(.lst false 2 y9 y10)]))]⟩
noncomputable def Fl (fu:Nat)(call:Ah)(Aj:Int)(Cc:Nat)(Ao:List PV)(Bm:Nat)(Bc:List PV)(Cg:Int)(Hj:Nat)(Cf:List PV)(He:Nat)(Cm:List PV)(nn:Nat)(y0 y1:Int)(y2:Nat)(y3:List PV)(y4:Nat)(y5:List PV)(y6:Int)(y7:Nat)(y8:List PV)(y9:Nat)(y10:List PV):Option A5:=Du CB prog fu call 64 Tryd.f64 (Ca Tryd.f64) [.agg [.sc (.int .u64 Aj),.lst false 3 Cc Ao,.lst false 2 Bm Bc],.agg [.sc (.int .u64 Cg),.lst false 3 Hj Cf,.lst false 2 He Cm]] [.r,.r,.r,.l,.r,.l] nn ⟨lk [(2,(.ptr 2 0)),(3,(.ptr 3 0)),(6,(.sc (.int .i64 y0)))],Br [(2,(.st [(.sc (.int .u64 y1)),(.lst false 3 y2 y3),(.lst false 2 y4 y5)])),(3,(.st [(.sc (.int .u64 y6)),(.lst false 3 y7 y8),(.lst false 2 y9 y10)]))]⟩
theorem Jc (fu:Nat)(call:Ah)(Aj:Int)(Cc:Nat)(Ao:List PV)(Bm:Nat)(Bc:List PV)(Cg:Int)(Hj:Nat)(Cf:List PV)(He:Nat)(Cm:List PV)(nn:Nat)(y0 y1:Int)(y2:Nat)(y3:List PV)(y4:Nat)(y5:List PV)(y6:Int)(y7:Nat)(y8:List PV)(y9:Nat)(y10:List PV):Fk fu call Aj Cc Ao Bm Bc Cg Hj Cf He Cm (nn+1) y0 y1 y2 y3 y4 y5 y6 y7 y8 y9 y10=(Bi (decide (y0<(↑y2:Int))) (Ar (decide (0<=y0)&&decide (y0<(↑y2:Int)))<|Iz (List.getD y3 (Int.toNat y0*3) .top) fun x1=>Ae .i64 (List.getD y3 (Int.toNat y0*3+1) .top) fun x2=>Ae .u64 (List.getD y3 (Int.toNat y0*3+1+1) .top) fun x3=>Ar (decide (0<=y0)&&decide (y0<(↑y7:Int)))<|Iz (List.getD y8 (Int.toNat y0*3) .top) fun x4=>Ae .i64 (List.getD y8 (Int.toNat y0*3+1) .top) fun x5=>Ae .u64 (List.getD y8 (Int.toNat y0*3+1+1) .top) fun x6=>Bi (!(x1==x4&&(x2==x5&&(x3==x6&&true)))) (some (A5.mk [.sc (.bool false)] [])) (Aa (wrap .i64 (y0+1)) fun x7=>Fk fu call Aj Cc Ao Bm Bc Cg Hj Cf He Cm (nn) x7 (y1) (y2) (y3) (y4) (y5) (y6) (y7) (y8) (y9) (y10))) (Fl fu call Aj Cc Ao Bm Bc Cg Hj Cf He Cm (fu) 0 (y1) (y2) (y3) (y4) (y5) (y6) (y7) (y8) (y9) (y10))):=by kernel_rfl
theorem Jb (fu:Nat)(call:Ah)(Aj:Int)(Cc:Nat)(Ao:List PV)(Bm:Nat)(Bc:List PV)(Cg:Int)(Hj:Nat)(Cf:List PV)(He:Nat)(Cm:List PV)(nn:Nat)(y0 y1:Int)(y2:Nat)(y3:List PV)(y4:Nat)(y5:List PV)(y6:Int)(y7:Nat)(y8:List PV)(y9:Nat)(y10:List PV):Fl fu call Aj Cc Ao Bm Bc Cg Hj Cf He Cm (nn+1) y0 y1 y2 y3 y4 y5 y6 y7 y8 y9 y10=(Bi (decide (y0<(↑y4:Int))) (Ar (decide (0<=y0)&&decide (y0<(↑y4:Int)))<|Ae .i64 (List.getD y5 (Int.toNat y0*2) .top) fun x8=>Ae .i64 (List.getD y5 (Int.toNat y0*2+1) .top) fun x9=>Ar (decide (0<=y0)&&decide (y0<(↑y9:Int)))<|Ae .i64 (List.getD y10 (Int.toNat y0*2) .top) fun C6=>Ae .i64 (List.getD y10 (Int.toNat y0*2+1) .top) fun Dr=>Bi (!(x8==C6&&(x9==Dr&&true))) (some (A5.mk [.sc (.bool false)] [])) (Aa (wrap .i64 (y0+1)) fun Eg=>Fl fu call Aj Cc Ao Bm Bc Cg Hj Cf He Cm (nn) Eg (y1) (y2) (y3) (y4) (y5) (y6) (y7) (y8) (y9) (y10))) (some (A5.mk [.sc (.bool true)] []))):=by kernel_rfl
theorem S8 (fu d:Nat)(Aj:Int)(Cc:Nat)(Ao:List PV)(Bm:Nat)(Bc:List PV)(Cg:Int)(Hj:Nat)(Cf:List PV)(He:Nat)(Cm:List PV):Ad C0 prog fu (d+1) Kp [.agg [.sc (.int .u64 Aj),.lst false 3 Cc Ao,.lst false 2 Bm Bc],.agg [.sc (.int .u64 Cg),.lst false 3 Hj Cf,.lst false 2 He Cm]]=(fun (call:Ah)=>Bi (Aj != Cg) (some (A5.mk [.sc (.bool false)] [])) (Bi ((↑Cc:Int) != (↑Hj:Int)) (some (A5.mk [.sc (.bool false)] [])) (Bi ((↑Bm:Int) != (↑He:Int)) (some (A5.mk [.sc (.bool false)] [])) (Fk fu call Aj Cc Ao Bm Bc Cg Hj Cf He Cm (fu) 0 (Aj) (Cc) (Ao) (Bm) (Bc) (Cg) (Hj) (Cf) (He) (Cm))))) (Ad C0 prog fu d):=by kernel_rfl
abbrev Ju:FuncId:=41
noncomputable def Em (fu:Nat)(call:Ah)(Bd:Nat)(a0:List PV)(P4:Nat)(a1:List PV)(nn y0:Nat)(y1:List PV)(y2:Nat)(y3:List PV)(y4:Int):Option A5:=Du CB prog fu call 41 Tryd.f41 (Ca Tryd.f41) [.lst false 3 Bd a0,.lst false 3 P4 a1] [.r,.r,.l,.r,.l] nn ⟨lk [(0,(.lst false 3 y0 y1)),(1,(.lst false 3 y2 y3)),(5,(.sc (.int .i64 y4)))],Br []⟩
theorem Ig (fu:Nat)(call:Ah)(Bd:Nat)(a0:List PV)(P4:Nat)(a1:List PV)(nn y0:Nat)(y1:List PV)(y2:Nat)(y3:List PV)(y4:Int):Em fu call Bd a0 P4 a1 (nn+1) y0 y1 y2 y3 y4=(Bi (decide (y4<(↑y0:Int))) (Ar (decide (0<=y4)&&decide (y4<(↑y0:Int)))<|Ae .u64 (List.getD y1 (Int.toNat y4*3) .top) fun x1=>Fq 3 (List.getD y1 (Int.toNat y4*3+1) .top) fun x2 x3 x4=>Fq 2 (List.getD y1 (Int.toNat y4*3+1+1) .top) fun x5 x6 x7=>Ar (decide (0<=y4)&&decide (y4<(↑y2:Int)))<|Ae .u64 (List.getD y3 (Int.toNat y4*3) .top) fun x8=>Fq 3 (List.getD y3 (Int.toNat y4*3+1) .top) fun x9 C6 Dr=>Fq 2 (List.getD y3 (Int.toNat y4*3+1+1) .top) fun Eg Ez D7=>Ai (call 64 [.agg [.sc (.int .u64 x1),.lst false 3 x3 x4,.lst false 2 x6 x7],.agg [.sc (.int .u64 x8),.lst false 3 C6 Dr,.lst false 2 Ez D7]]) fun Ew Fw=>Ac Fw<|Ab Ew fun Gm G4=>Bu Gm fun Gi=>Ac G4<|Bi (!Gi) (some (A5.mk [.sc (.bool false)] [])) (Aa (wrap .i64 (y4+1)) fun Gy=>Em fu call Bd a0 P4 a1 (nn) (y0) (y1) (y2) (y3) Gy)) (some (A5.mk [.sc (.bool true)] []))):=by kernel_rfl
theorem Qr (fu d Bd:Nat)(a0:List PV)(P4:Nat)(a1:List PV):Ad C0 prog fu (d+1) Ju [.lst false 3 Bd a0,.lst false 3 P4 a1]=(fun (call:Ah)=>Bi ((↑Bd:Int) != (↑P4:Int)) (some (A5.mk [.sc (.bool false)] [])) (Em fu call Bd a0 P4 a1 (fu) (Bd) (a0) (P4) (a1) 0)) (Ad C0 prog fu d):=by kernel_rfl
abbrev Lf:FuncId:=20
theorem Tw (fu d:Nat)(Aj Ao Bc:Int)(Cp:Nat)(Cv:List PV)(Fa:Int)(C3:Nat)(Fd:List PV)(C2:Nat)(Fc:List PV)(Cg Cf Cm:Int)(Axb:Nat)(Amh:List PV)(Aom:Int)(Awl:Nat)(Aqy:List PV)(Awk:Nat)(Ark:List PV):Ad C0 prog fu (d+1) Lf [.agg [.sc (.int .i64 Aj),.sc (.int .i64 Ao),.sc (.int .i64 Bc),.lst false 3 Cp Cv,.sc (.int .i64 Fa),.lst false 1 C3 Fd,.lst false 1 C2 Fc],.agg [.sc (.int .i64 Cg),.sc (.int .i64 Cf),.sc (.int .i64 Cm),.lst false 3 Axb Amh,.sc (.int .i64 Aom),.lst false 1 Awl Aqy,.lst false 1 Awk Ark]]=(fun (call:Ah)=>Bi (Aj==Cg) (Bi (Ao==Cf) (Bi (Bc==Cm) (Ai (call 41 [.lst false 3 Cp Cv,.lst false 3 Axb Amh]) fun x1 x2=>Ac x2<|Ab x1 fun x3 x4=>Bu x3 fun x5=>Ac x4<|Bi x5 (Ai (call 42 [.agg [.sc (.int .i64 Fa),.lst false 1 C3 Fd,.lst false 1 C2 Fc],.agg [.sc (.int .i64 Aom),.lst false 1 Awl Aqy,.lst false 1 Awk Ark]]) fun x6 x7=>Ac x7<|Ab x6 fun x8 x9=>Bu x8 fun C6=>Ac x9<|some (A5.mk [.sc (.bool C6)] [])) (some (A5.mk [.sc (.bool false)] []))) (some (A5.mk [.sc (.bool false)] []))) (some (A5.mk [.sc (.bool false)] []))) (some (A5.mk [.sc (.bool false)] []))) (Ad C0 prog fu d):=by kernel_rfl
end
section
open Go.Proofs.Tryd (prog)
open Go.IntKind (wrap)
set_option maxRecDepth 1000000
def SC (s:RS):List PV:=[.lst false 3 s.1.length (Bf s.1),.sc (.bool s.2)]
theorem Akc (x:It)(r:List It):Bf (x::r)=.sc (.int .i64 x.k) :: .sc (.int .u64 x.n) :: .sc (.string x.s)::Bf r:=rfl
section
variable {fu d:Nat}
theorem GN (k:Int)(s:RS):Ad C0 prog fu (d+1) Ms [.pbox (SC s),.sc (.int .i64 k)]=some ⟨[.agg (Bg k s).1.cells],[SC (Bg k s).2]⟩:=by
 refine (Vx fu d s.1.length (Bf s.1) s.2 k).trans ?_;obtain⟨l,b⟩:=s;cases b
 ·cases l with
  |nil=>rfl
  |cons x r=>
   unfold Bg;rw[Bj (by simp)]
   simp only[Akc,Io];have g0:List.getD (PV.sc (.int .i64 x.k) :: .sc (.int .u64 x.n) :: .sc (.string x.s)::Bf r) 0 .top=.sc (.int .i64 x.k):=rfl;have g1:List.getD (PV.sc (.int .i64 x.k) :: .sc (.int .u64 x.n) :: .sc (.string x.s)::Bf r) 1 .top=.sc (.int .u64 x.n):=rfl;have g2:List.getD (PV.sc (.int .i64 x.k) :: .sc (.int .u64 x.n) :: .sc (.string x.s)::Bf r) 2 .top=.sc (.string x.s):=rfl;have g3:List.drop 3 (PV.sc (.int .i64 x.k) :: .sc (.int .u64 x.n) :: .sc (.string x.s)::Bf r)=Bf r:=rfl;have L:=H0 r;have t:List.take (r.length*3) (Bf r)=Bf r:=My (by omega)
   have z:(((r.length+1:Nat):Int)==0)=false:=by simp;omega
   have e1:r.length+1-1=r.length:=rfl;by_cases hk:x.k=k
   ·have hn:(x.k != k)=false:=by simp[hk]
    rw[Cy hk]
    try unfold Aa
    repeat first
     |((with_reducible first|apply Ax|apply Ap|apply Az|apply A9|apply Cz|apply Bv|apply Bp|apply Aq|apply A4|apply A3);· first|with_reducible rfl|(simp (disch:=omega) only[gT,z,g0,g1,g2,g3,hn,e1,t]<;>first|with_reducible rfl|omega)|omega)
     |(with_reducible apply Ay;· first|with_reducible rfl|(simp (disch:=omega) only[gF,z,g0,g1,g2,g3,hn,e1,t]<;>omega))
    try simp (disch:=omega) only[z,g0,g1,g2,g3,hn,e1,t]
    all_goals rfl
   ·have hn:(x.k != k)=true:=by simp[hk]
    rw[Bj hk]
    try unfold Aa
    repeat first
     |((with_reducible first|apply Ax|apply Ap|apply Az|apply A9|apply Cz|apply Bv|apply Bp|apply Aq|apply A4|apply A3);· first|with_reducible rfl|(simp (disch:=omega) only[gT,z,g0,g1,g2,g3,hn]<;>first|with_reducible rfl|omega)|omega)
     |(with_reducible apply Ay;· first|with_reducible rfl|(simp (disch:=omega) only[gF,z,g0,g1,g2,g3,hn]<;>omega))
    try simp (disch:=omega) only[z,g0,g1,g2,g3,hn]
    all_goals rfl
 ·rfl
theorem Zd (s:RS):Ad C0 prog fu (d+2) Kn [.pbox (SC s)]=some ⟨[.sc (.int .u64 (Bg 1 s).1.n)],[SC (Bg 1 s).2]⟩:=by
 refine (Th fu (d+1) s.1.length (Bf s.1) s.2).trans ?_;have t:=GN (fu:=fu) (d:=d) 1 s;simp only[SC,It.cells] at t ⊢
 try unfold Aa
 repeat first
  |((with_reducible first|apply Ax|apply Ap|apply Az|apply A9|apply Cz|apply Bv|apply Bp|apply Aq|apply A4|apply A3);· first|with_reducible rfl|(simp (disch:=omega) only[gT,t]<;>first|with_reducible rfl|omega)|omega)
  |(with_reducible apply Ay;· first|with_reducible rfl|(simp (disch:=omega) only[gF,t]<;>omega))
 try simp (disch:=omega) only[t]
theorem Ot (s:RS):Ad C0 prog fu (d+2) Mm [.pbox (SC s)]=some ⟨[.sc (.int .u64 (Bg 5 s).1.n)],[SC (Bg 5 s).2]⟩:=by
 refine (V8 fu (d+1) s.1.length (Bf s.1) s.2).trans ?_;have t:=GN (fu:=fu) (d:=d) 5 s;simp only[SC,It.cells] at t ⊢
 try unfold Aa
 repeat first
  |((with_reducible first|apply Ax|apply Ap|apply Az|apply A9|apply Cz|apply Bv|apply Bp|apply Aq|apply A4|apply A3);· first|with_reducible rfl|(simp (disch:=omega) only[gT,t]<;>first|with_reducible rfl|omega)|omega)
  |(with_reducible apply Ay;· first|with_reducible rfl|(simp (disch:=omega) only[gF,t]<;>omega))
 try simp (disch:=omega) only[t]
def MA (f:Nat)(s:RS):Prop:=s.1.length+2<=f∨(s.2=true∧1<=f)
theorem NX {n:Int}(h:Wr n)(h1:n>0):wrap .u64 (n-1)=n-1∧Wr (n-1):=by
 unfold Wr at *
 exact⟨Ea (by omega) (by omega),by omega⟩
theorem Ak0 (a:List An)(x:An):D8 a++[.sc (.string x.name),.sc (.int .i64 x.key.h),.sc (.int .u64 x.key.root)]=D8 (a++[x]):=by
 unfold D8;rw[List.flatMap_append,List.flatMap_cons,List.flatMap_nil,List.append_nil];rfl
theorem Aj0 (a:List Sa)(x:Sa):Eb a++[.sc (.int .i64 x.kd),.sc (.int .i64 x.at_)]=Eb (a++[x]):=by
 unfold Eb;rw[List.flatMap_append,List.flatMap_cons,List.flatMap_nil,List.append_nil];rfl
theorem Aw0 {Al:Nat}{Aj:List PV}{Ao:Bool}{mo:Int}{A:List An}(hA:A.length<=3000):∀(f nn:Nat)(n:Int)(s:RS)(B:List Sa),MA f s->f<nn->Wr n->FP s.1->B.length+f<=3000 ->
  Cx fu (Ad C0 prog fu (d+2)) Al Aj Ao nn n s.1.length (Bf s.1) s.2 0 0 0 [] [] mo A.length B.length (D8 A) (Eb B) =
   some ⟨[.agg (Me.mk mo A (B++(Ol f n s).1)).cells],[SC (Ol f n s).2]⟩
 |0,_,n,s,_,h,_,_,_,_=>by unfold MA at h;omega
 |f+1,0,_,_,_,_,h,_,_,_=>by omega
 |f+1,nn+1,n,s,B,hr,hn,hu,ho,hB=>by
  have LA:=Yv A;have LB:=GY B;have tA:List.take (A.length*3) (D8 A)=D8 A:=My (by omega)
  have tB:List.take (B.length*2) (Eb B)=Eb B:=My (by omega)
  have ex:¬(n>0∧s.2=false)->(Me.mk mo A (B++(Ol (f+1) n s).1))=Me.mk mo A B∧(Ol (f+1) n s).2=s:=fun h=>by
   unfold Ol;rw[Bj h];exact⟨by simp,rfl⟩
  obtain⟨l,b⟩:=s;rw[N4];by_cases h0:n>0
  rotate_left
  ·obtain⟨e1,e2⟩:=ex (fun h=>h0 h.1)
   rw[e1,e2];simp only[SC,Me.cells]
   try unfold Aa
   repeat first
    |((with_reducible first|apply Ax|apply Ap|apply Az|apply A9|apply Cz|apply Bv|apply Bp|apply Aq|apply A4|apply A3);· first|with_reducible rfl|(simp (disch:=omega) only[gT,LA,LB,tA,tB,C8,Fg]<;>first|with_reducible rfl|omega)|omega)
    |(with_reducible apply Ay;· first|with_reducible rfl|(simp (disch:=omega) only[gF,LA,LB,tA,tB,C8,Fg]<;>omega))
   try simp (disch:=omega) only[LA,LB,tA,tB,C8,Fg]
   all_goals rfl
  cases b
  rotate_left
  ·obtain⟨e1,e2⟩:=ex (fun h=>by cases h.2)
   rw[e1,e2];simp only[SC,Me.cells]
   try unfold Aa
   repeat first
    |((with_reducible first|apply Ax|apply Ap|apply Az|apply A9|apply Cz|apply Bv|apply Bp|apply Aq|apply A4|apply A3);· first|with_reducible rfl|(simp (disch:=omega) only[gT,LA,LB,tA,tB,C8,Fg,D2,Lt]<;>first|with_reducible rfl|omega)|omega)
    |(with_reducible apply Ay;· first|with_reducible rfl|(simp (disch:=omega) only[gF,LA,LB,tA,tB,C8,Fg,D2,Lt]<;>omega))
   try simp (disch:=omega) only[LA,LB,tA,tB,C8,Fg,D2,Lt]
   all_goals rfl
  clear ex;obtain⟨wd,ud⟩:=NX hu h0;obtain⟨k2,k3,k4⟩:=Apa (s:=(l,false)) ho
  have ih:=Aw0 (Al:=Al) (Aj:=Aj) (Ao:=Ao) (mo:=mo) hA f nn (n-1) (SE (l,false)).2 (B++[(SE (l,false)).1]) (by
   unfold MA at hr ⊢;simp only at hr k4;cases q:(SE (l,false)).2.2
   ·have:=k4 q;simp at hr;omega
   ·simp at hr;right;exact⟨rfl,by omega⟩) (by omega) ud k2 (by rw[Kb,List.length_singleton];omega)
  have es:Ol (f+1) n (l,false)=((SE (l,false)).1::(Ol f (n-1) (SE (l,false)).2).1,(Ol f (n-1) (SE (l,false)).2).2):=by
   rw[Ol,Cy ⟨h0,rfl⟩]
  have eB:B++(Ol (f+1) n (l,false)).1=(B++[(SE (l,false)).1])++(Ol f (n-1) (SE (l,false)).2).1:=by rw[es];simp
  have e2:(Ol (f+1) n (l,false)).2=(Ol f (n-1) (SE (l,false)).2).2:=by rw[es]
  have lB:(B++[(SE (l,false)).1]).length=B.length+1:=by rw[Kb];rfl
  rw[eB,e2];rw[lB] at ih;rw[←ih];clear ih es eB e2;have o1:=Ot (fu:=fu) (d:=d) (l,false);have o2:=Zd (fu:=fu) (d:=d) (Bg 5 (l,false)).2;have o3:=Zd (fu:=fu) (d:=d) (Bg 1 (Bg 5 (l,false)).2).2;have ea:=Aj0 B (SE (l,false)).1;simp only[SE] at ea ⊢;simp only[SC] at o1 o2 o3;generalize Eb (B++[_])=B' at *
  generalize Bg 1 (Bg 1 (Bg 5 (l,false)).2).2=u3 at *
  generalize Bg 1 (Bg 5 (l,false)).2=u2 at *
  generalize Bg 5 (l,false)=u1 at *
  try unfold Aa
  repeat first
   |((with_reducible first|apply Ax|apply Ap|apply Az|apply A9|apply Cz|apply Bv|apply Bp|apply Aq|apply A4|apply A3);· first|with_reducible rfl|(simp (disch:=omega) only[gT,o1,o2,o3,wd,LB,tB,ea,D2,Lt]<;>first|with_reducible rfl|omega)|omega)
   |(with_reducible apply Ay;· first|with_reducible rfl|(simp (disch:=omega) only[gF,o1,o2,o3,wd,LB,tB,ea,D2,Lt]<;>omega))
  try simp (disch:=omega) only[o1,o2,o3,wd,LB,tB,ea,D2,Lt]
  all_goals rfl
theorem Avz (Cb:2000<=fu){Al:Nat}{Aj:List PV}{Ao:Bool}{mo:Int}:∀(f nn:Nat)(n:Int)(s:RS)(A:List An),MA f s->f<nn->Wr n->FP s.1->A.length+f<=3000 ->
  Dm fu (Ad C0 prog fu (d+2)) Al Aj Ao nn n s.1.length (Bf s.1) s.2 0 0 0 [] [] mo A.length 0 (D8 A) [] =
   Cx fu (Ad C0 prog fu (d+2)) Al Aj Ao fu (Bg 5 (Lr f n s).2).1.n (Bg 5 (Lr f n s).2).2.1.length (Bf (Bg 5 (Lr f n s).2).2.1) (Bg 5 (Lr f n s).2).2.2 0 0 0 [] [] mo (A++(Lr f n s).1).length 0 (D8 (A++(Lr f n s).1)) []
 |0,_,n,s,_,h,_,_,_,_=>by unfold MA at h;omega
 |f+1,0,_,_,_,_,h,_,_,_=>by omega
 |f+1,nn+1,n,s,A,hr,hn,hu,ho,hB=>by
  have LA:=Yv A;have tA:List.take (A.length*3) (D8 A)=D8 A:=My (by omega)
  have ex:¬(n>0∧s.2=false)->A++(Lr (f+1) n s).1=A∧(Lr (f+1) n s).2=s:=fun h=>by
   unfold Lr;rw[Bj h];exact⟨by simp,rfl⟩
  obtain⟨l,b⟩:=s;rw[Np];by_cases h0:n>0
  rotate_left
  ·obtain⟨e1,e2⟩:=ex (fun h=>h0 h.1)
   rw[e1,e2];have o1:=Ot (fu:=fu) (d:=d) (l,b);simp only[SC] at o1
   try unfold Aa
   repeat first
    |((with_reducible first|apply Ax|apply Ap|apply Az|apply A9|apply Cz|apply Bv|apply Bp|apply Aq|apply A4|apply A3);· first|with_reducible rfl|(simp (disch:=omega) only[gT,o1]<;>first|with_reducible rfl|omega)|omega)
    |(with_reducible apply Ay;· first|with_reducible rfl|(simp (disch:=omega) only[gF,o1]<;>omega))
   try simp (disch:=omega) only[o1]
   all_goals rfl
  cases b
  rotate_left
  ·obtain⟨e1,e2⟩:=ex (fun h=>by cases h.2)
   rw[e1,e2];have o1:=Ot (fu:=fu) (d:=d) (l,true);simp only[SC] at o1
   try unfold Aa
   repeat first
    |((with_reducible first|apply Ax|apply Ap|apply Az|apply A9|apply Cz|apply Bv|apply Bp|apply Aq|apply A4|apply A3);· first|with_reducible rfl|(simp (disch:=omega) only[gT,o1,D2,Lt]<;>first|with_reducible rfl|omega)|omega)
    |(with_reducible apply Ay;· first|with_reducible rfl|(simp (disch:=omega) only[gF,o1,D2,Lt]<;>omega))
   try simp (disch:=omega) only[o1,D2,Lt]
   all_goals rfl
  clear ex;obtain⟨wd,ud⟩:=NX hu h0;obtain⟨k1,k2,k3,k4⟩:=Anq (s:=(l,false)) ho
  have ih:=Avz Cb (Al:=Al) (Aj:=Aj) (Ao:=Ao) (mo:=mo) f nn (n-1) (NM (l,false)).2 (A++[(NM (l,false)).1]) (by
   unfold MA at hr ⊢;simp only at hr k4;cases q:(NM (l,false)).2.2
   ·have:=k4 q;simp at hr;omega
   ·simp at hr;right;exact⟨rfl,by omega⟩) (by omega) ud k2 (by rw[Kb,List.length_singleton];omega)
  have es:Lr (f+1) n (l,false)=((NM (l,false)).1::(Lr f (n-1) (NM (l,false)).2).1,(Lr f (n-1) (NM (l,false)).2).2):=by
   rw[Lr,Cy ⟨h0,rfl⟩]
  have eA:A++(Lr (f+1) n (l,false)).1=(A++[(NM (l,false)).1])++(Lr f (n-1) (NM (l,false)).2).1:=by rw[es];simp
  have e2:(Lr (f+1) n (l,false)).2=(Lr f (n-1) (NM (l,false)).2).2:=by rw[es]
  have lA:(A++[(NM (l,false)).1]).length=A.length+1:=by rw[Kb];rfl
  rw[eA,e2];generalize Lr f (n-1) (NM (l,false)).2=qq at *
  rw[←ih,lA];clear ih es eA e2;obtain⟨_,_,a3,a4,a5⟩:=C9 (k:=5) (s:=(l,false)) ho;obtain⟨_,b2,b3,b4,b5⟩:=C9 (k:=4) a3;obtain⟨_,hs4,c3,c4,c5⟩:=C9 (k:=3) b3;have o1:=Ot (fu:=fu) (d:=d) (l,false);have o2:=GN (fu:=fu) (d:=d+1) 4 (Bg 5 (l,false)).2;have o3:=GN (fu:=fu) (d:=d+1) 3 (Bg 4 (Bg 5 (l,false)).2).2;have ea:=Ak0 A (NM (l,false)).1;simp only[NM] at ea ⊢;simp only[SC,It.cells] at o1 o2 o3;generalize Bg 3 (Bg 4 (Bg 5 (l,false)).2).2=u3 at *
  generalize Bg 4 (Bg 5 (l,false)).2=u2 at *
  generalize Bg 5 (l,false)=u1 at *
  have L4:(Fo u3.1.s).length=u3.1.s.size:=by rw[S2,At,Re]
  have t4:List.take u3.1.s.size (Fo u3.1.s)=Af .u8 (Mb u3.1.s):=by rw[S2,My (by rw[At,Re];omega)]
  have dk:=Ajb (xs:=Oc) (fu:=fu) (d:=d) (by omega) (Aen u3.1.s)
  rw[Re] at dk;have e00:((0:Int) != 0)=false:=rfl;have e20:((2:Int) != 0)=true:=rfl;unfold Ao2 at ea ⊢;cases hk:NP (Mb u3.1.s) with
  |none=>
   rw[hk] at dk;simp only[Afb,Ky.cells] at dk;simp only[hk,Option.getD_none,Option.isNone_none,Bool.or_true] at ea ⊢;generalize D8 (A++[_])=A' at *
   try unfold Aa
   repeat first
    |((with_reducible first|apply Ax|apply Ap|apply Az|apply A9|apply Cz|apply Bv|apply Bp|apply Aq|apply A4|apply A3);· first|with_reducible rfl|(simp (disch:=omega) only[gT,o1,o2,o3,L4,t4,dk,e20,wd,LA,tA,ea,Dp,C8,Fg,D2,Lt]<;>first|with_reducible rfl|omega)|omega)
    |(with_reducible apply Ay;· first|with_reducible rfl|(simp (disch:=omega) only[gF,o1,o2,o3,L4,t4,dk,e20,wd,LA,tA,ea,Dp,C8,Fg,D2,Lt]<;>omega))
   try simp (disch:=omega) only[o1,o2,o3,L4,t4,dk,e20,wd,LA,tA,ea,Dp,C8,Fg,D2,Lt]
   all_goals rfl
  |some k=>
   rw[hk] at dk;simp only[Afb,Ky.cells] at dk;simp only[hk,Option.getD_some,Option.isNone_some,Bool.or_false] at ea ⊢;generalize D8 (A++[_])=A' at *
   try unfold Aa
   repeat first
    |((with_reducible first|apply Ax|apply Ap|apply Az|apply A9|apply Cz|apply Bv|apply Bp|apply Aq|apply A4|apply A3);· first|with_reducible rfl|(simp (disch:=omega) only[gT,o1,o2,o3,L4,t4,dk,e00,wd,LA,tA,ea,Dp,C8,Fg,D2,Lt]<;>first|with_reducible rfl|omega)|omega)
    |(with_reducible apply Ay;· first|with_reducible rfl|(simp (disch:=omega) only[gF,o1,o2,o3,L4,t4,dk,e00,wd,LA,tA,ea,Dp,C8,Fg,D2,Lt]<;>omega))
   try simp (disch:=omega) only[o1,o2,o3,L4,t4,dk,e00,wd,LA,tA,ea,Dp,C8,Fg,D2,Lt]
   all_goals rfl
theorem Aum (Cb:2000<=fu){s:RS}(ho:FP s.1)(hl:s.1.length<=1000):Ad C0 prog fu (d+3) I9 [.pbox (SC s)]=some ⟨[.agg (Ly s).1.cells],[SC (Ly s).2]⟩:=by
 refine (Qa fu (d+2) s.1.length (Bf s.1) s.2).trans ?_;obtain⟨_,_,a3,a4,a5⟩:=C9 (k:=5) ho;obtain⟨_,_,b3,b4,b5⟩:=C9 (k:=1) a3;have hA:=C9 (k:=5) b3;have hB:=ZS (f:=s.1.length+2) (n:=(CD s).1.n) (s:=(CD s).2) hA.2.2.1;have hC:=C9 (k:=5) (s:=(Zx s).2) hB.2.2.1;have l1:(CD s).2.1.length<=(Bg 5 s).2.1.length:=Nat.le_trans hA.2.2.2.1 b4;have l2:(Zx s).2.1.length<=(CD s).2.1.length:=hB.2.2.2;have l3:(Zn s).2.1.length<=(Zx s).2.1.length:=hC.2.2.2.1;have m1:(Zx s).1.length<=s.1.length+2:=hB.2.1;have r0:=Avz (fu:=fu) (d:=d) Cb (Al:=s.1.length) (Aj:=Bf s.1) (Ao:=s.2) (mo:=(Bg 1 (Bg 5 s).2).1.n) (s.1.length+2) fu (CD s).1.n (CD s).2 [] (by unfold MA;left;omega) (by omega) hA.1 hA.2.2.1 (by simp only[W5];omega)
 have r1:=Aw0 (fu:=fu) (d:=d) (Al:=s.1.length) (Aj:=Bf s.1) (Ao:=s.2) (mo:=(Bg 1 (Bg 5 s).2).1.n) (A:=(Zx s).1) (by omega) (s.1.length+2) fu (Zn s).1.n (Zn s).2 [] (by unfold MA;left;omega) (by omega) hC.1 hC.2.2.1 (by simp only[W5];omega)
 have r2:=r0.trans r1;have o1:=Ot (fu:=fu) (d:=d) s;have o2:=Zd (fu:=fu) (d:=d) (Bg 5 s).2;have o3:=Ot (fu:=fu) (d:=d) (Bg 1 (Bg 5 s).2).2;simp only[SC] at o1 o2 o3;have eR:(some ⟨[.agg (Ly s).1.cells],[SC (Ly s).2]⟩:Option A5)=some ⟨[.agg (Me.mk (Bg 1 (Bg 5 s).2).1.n (Zx s).1 ([]++(Ol (s.1.length+2) (Zn s).1.n (Zn s).2).1)).cells],[SC (Ol (s.1.length+2) (Zn s).1.n (Zn s).2).2]⟩:=rfl;rw[eR,←r2];clear r0 r1 r2 eR
 try unfold Aa
 repeat first
  |((with_reducible first|apply Ax|apply Ap|apply Az|apply A9|apply Cz|apply Bv|apply Bp|apply Aq|apply A4|apply A3);· first|with_reducible rfl|(simp (disch:=omega) only[gT,o1,o2,o3]<;>first|with_reducible rfl|omega)|omega)
  |(with_reducible apply Ay;· first|with_reducible rfl|(simp (disch:=omega) only[gF,o1,o2,o3]<;>omega))
 try simp (disch:=omega) only[o1,o2,o3]
 all_goals rfl
theorem Aw1 (Cb:2000<=fu){Bd:Nat}{a0:List PV}{v i x:Int}:∀(f nn:Nat)(n:Int)(s:RS)(A:List Me),MA f s->f<nn->Wr n->FP s.1->s.1.length<=1000->A.length+f<=3000 ->
  Hi fu (Ad C0 prog fu (d+3)) Bd a0 nn n 0 0 0 0 0 0 0 [] [] [] s.1.length (Bf s.1) s.2 v i x A.length 0 0 0 (Dd A) [] [] =
   some ⟨[.agg (Md.mk v i x (A++(Hr f n s).1) sg0).cells,.sc (.bool (!(Hr f n s).2.2&&(((Hr f n s).2.1.length:Int)==0)))],[]⟩
 |0,_,n,s,_,h,_,_,_,_,_=>by unfold MA at h;omega
 |f+1,0,_,_,_,_,h,_,_,_,_=>by omega
 |f+1,nn+1,n,s,A,hr,hn,hu,ho,hl,hB=>by
  have LA:=Yy A;have tA:List.take (A.length*3) (Dd A)=Dd A:=My (by omega)
  have ex:¬(n>0∧s.2=false)->A++(Hr (f+1) n s).1=A∧(Hr (f+1) n s).2=s:=fun h=>by
   unfold Hr;rw[Bj h];exact⟨by simp,rfl⟩
  obtain⟨l,b⟩:=s;rw[V4];by_cases h0:n>0
  rotate_left
  ·obtain⟨e1,e2⟩:=ex (fun h=>h0 h.1)
   rw[e1,e2];simp only[Md.cells];cases b
   ·skip
    try unfold Aa
    repeat first
     |((with_reducible first|apply Ax|apply Ap|apply Az|apply A9|apply Cz|apply Bv|apply Bp|apply Aq|apply A4|apply A3);· first|with_reducible rfl|(simp (disch:=omega) only[gT,LA,tA,C8,Fg,D2,Lt]<;>first|with_reducible rfl|omega)|omega)
     |(with_reducible apply Ay;· first|with_reducible rfl|(simp (disch:=omega) only[gF,LA,tA,C8,Fg,D2,Lt]<;>omega))
    try simp (disch:=omega) only[LA,tA,C8,Fg,D2,Lt]
    all_goals rfl
   ·skip
    try unfold Aa
    repeat first
     |((with_reducible first|apply Ax|apply Ap|apply Az|apply A9|apply Cz|apply Bv|apply Bp|apply Aq|apply A4|apply A3);· first|with_reducible rfl|(simp (disch:=omega) only[gT,LA,tA,C8,Fg,D2,Lt]<;>first|with_reducible rfl|omega)|omega)
     |(with_reducible apply Ay;· first|with_reducible rfl|(simp (disch:=omega) only[gF,LA,tA,C8,Fg,D2,Lt]<;>omega))
    try simp (disch:=omega) only[LA,tA,C8,Fg,D2,Lt]
    all_goals rfl
  cases b
  rotate_left
  ·obtain⟨e1,e2⟩:=ex (fun h=>by cases h.2)
   rw[e1,e2];simp only[Md.cells]
   try unfold Aa
   repeat first
    |((with_reducible first|apply Ax|apply Ap|apply Az|apply A9|apply Cz|apply Bv|apply Bp|apply Aq|apply A4|apply A3);· first|with_reducible rfl|(simp (disch:=omega) only[gT,LA,tA,C8,Fg,D2,Lt]<;>first|with_reducible rfl|omega)|omega)
    |(with_reducible apply Ay;· first|with_reducible rfl|(simp (disch:=omega) only[gF,LA,tA,C8,Fg,D2,Lt]<;>omega))
   try simp (disch:=omega) only[LA,tA,C8,Fg,D2,Lt]
   all_goals rfl
  clear ex;obtain⟨wd,ud⟩:=NX hu h0;obtain⟨k1,k2,k3,_⟩:=Aaj (s:=(l,false)) ho hl;have k4:=Arb (s:=(l,false)) ho hl
  have ih:=Aw1 Cb (Bd:=Bd) (a0:=a0) (v:=v) (i:=i) (x:=x) f nn (n-1) (Ly (l,false)).2 (A++[(Ly (l,false)).1]) (by
   unfold MA at hr ⊢;simp only at hr k4;cases q:(Ly (l,false)).2.2
   ·have:=k4 q;simp at hr;omega
   ·simp at hr;right;exact⟨rfl,by omega⟩) (by omega) ud k2 (by simp only at k3 hl;omega) (by rw[Kb,List.length_singleton];omega)
  have es:Hr (f+1) n (l,false)=((Ly (l,false)).1::(Hr f (n-1) (Ly (l,false)).2).1,(Hr f (n-1) (Ly (l,false)).2).2):=by
   rw[Hr,Cy ⟨h0,rfl⟩]
  have eA:A++(Hr (f+1) n (l,false)).1=(A++[(Ly (l,false)).1])++(Hr f (n-1) (Ly (l,false)).2).1:=by rw[es];simp
  have e2:(Hr (f+1) n (l,false)).2=(Hr f (n-1) (Ly (l,false)).2).2:=by rw[es]
  have lA:(A++[(Ly (l,false)).1]).length=A.length+1:=by rw[Kb];rfl
  rw[eA,e2];rw[←ih,lA];clear ih es eA e2;have o1:=Aum (fu:=fu) (d:=d) Cb (s:=(l,false)) ho hl;have ea:=UL A (Ly (l,false)).1;simp only[SC,Me.cells] at o1;generalize Ly (l,false)=u at *
  generalize Dd (A++[_])=A' at *
  try unfold Aa
  repeat first
   |((with_reducible first|apply Ax|apply Ap|apply Az|apply A9|apply Cz|apply Bv|apply Bp|apply Aq|apply A4|apply A3);· first|with_reducible rfl|(simp (disch:=omega) only[gT,o1,wd,LA,tA,ea,D2,Lt]<;>first|with_reducible rfl|omega)|omega)
   |(with_reducible apply Ay;· first|with_reducible rfl|(simp (disch:=omega) only[gF,o1,wd,LA,tA,ea,D2,Lt]<;>omega))
  try simp (disch:=omega) only[o1,wd,LA,tA,ea,D2,Lt]
  all_goals rfl
theorem Au6 (Cb:2000<=fu){l:List It}(ho:FP l)(hl:l.length<=1000):Ad C0 prog fu (d+4) Pi [.lst false 3 l.length (Bf l)]=some ⟨[.agg (FA l).1.cells,.sc (.bool (FA l).2)],[]⟩:=by
 refine (Zs fu (d+3) l.length (Bf l)).trans ?_;obtain⟨_,_,_,_,_,_,_,_,q1,q2⟩:=YU ho hl;have h0:=C9 (k:=5) (s:=(l,false)) ho;have hA:=C9 (k:=1) h0.2.2.1;have hB:=C9 (k:=1) (s:=(BE l).2) hA.2.2.1;have hC:=C9 (k:=1) (s:=(DC l).2) hB.2.2.1;have hD:=C9 (k:=5) (s:=(BJ l).2) hC.2.2.1;have r0:=Aw1 (fu:=fu) (d:=d) Cb (Bd:=l.length) (a0:=Bf l) (v:=wrap .i64 (BE l).1.n) (i:=wrap .i64 (DC l).1.n) (x:=wrap .i64 (BJ l).1.n) (l.length+2) fu (Wy l).1.n (Wy l).2 [] (by unfold MA;left;omega) (by omega) hD.1 q1 (by omega) (by simp only[W5];omega)
 have o1:=Ot (fu:=fu) (d:=d+1) (l,false);have o2:=Zd (fu:=fu) (d:=d+1) (Bg 5 (l,false)).2;have o3:=Zd (fu:=fu) (d:=d+1) (BE l).2;have o4:=Zd (fu:=fu) (d:=d+1) (DC l).2;have o5:=Ot (fu:=fu) (d:=d+1) (BJ l).2;have eA:Bg 1 (Bg 5 (l,false)).2=BE l:=rfl;have eB:Bg 1 (BE l).2=DC l:=rfl;have eC:Bg 1 (DC l).2=BJ l:=rfl;have eD:Bg 5 (BJ l).2=Wy l:=rfl;rw[eA] at o2;rw[eB] at o3;rw[eC] at o4;rw[eD] at o5;simp only[SC] at o1 o2 o3 o4 o5;have eR:(some ⟨[.agg (FA l).1.cells,.sc (.bool (FA l).2)],[]⟩:Option A5)=some ⟨[.agg (Md.mk (wrap .i64 (BE l).1.n) (wrap .i64 (DC l).1.n) (wrap .i64 (BJ l).1.n) ([]++(Hr (l.length+2) (Wy l).1.n (Wy l).2).1) sg0).cells,.sc (.bool (!(Hr (l.length+2) (Wy l).1.n (Wy l).2).2.2&&(((Hr (l.length+2) (Wy l).1.n (Wy l).2).2.1.length:Int)==0)))],[]⟩:=rfl
 rw[eR,←r0];clear r0 eR
 try unfold Aa
 repeat first
  |((with_reducible first|apply Ax|apply Ap|apply Az|apply A9|apply Cz|apply Bv|apply Bp|apply Aq|apply A4|apply A3);· first|with_reducible rfl|(simp (disch:=omega) only[gT,o1,o2,o3,o4,o5]<;>first|with_reducible rfl|omega)|omega)
  |(with_reducible apply Ay;· first|with_reducible rfl|(simp (disch:=omega) only[gF,o1,o2,o3,o4,o5]<;>omega))
 try simp (disch:=omega) only[o1,o2,o3,o4,o5]
 all_goals rfl
end
end
section
open Go.IntKind (wrap)
structure Md.ok (m:Md):Prop where
 ent:∀x∈m.ents,Wr x.model∧x.rts
 sg:m.sig.ok
theorem Md.ok.wf {m:Md}(h:m.ok):m.wf:=⟨fun x hx=>(h.ent x hx).1.1⟩
def Ak1 (b:List Int)(used:Nat)(r:Md × Bool):Md × Int:=if r.2=false then (TY,2) else match sgD (b.drop used) with
 |none=>(TY,2)
 |some s=>if D6 { r.1 with sig:=s }=0∧G0 { r.1 with sig:=s }=b then ({ r.1 with sig:=s },0) else (TY,2)
def Pd (P:List It->Md × Bool)(b:List Int)(r:List It × Nat × Int):Md × Int:=if b.length>4096 then (TY,8) else if r.2.2≠0 then (TY,2) else Ak1 b r.2.1 (P r.1)
def Qe (b:List Int):Md × Int:=Pd FA b (Jd 1000 [] 0 b 0 [])
def Im (l:List It):Prop:=∀x∈l,Wr x.n
theorem Im.app {a b:List It}(ha:Im a)(hb:Im b):Im (a++b):=fun x hx=>(List.mem_append.1 hx).elim (ha x) (hb x)
theorem Im.cons {x:It}{l:List It}(h:Wr x.n)(hl:Im l):Im (x::l):=fun y hy=>by
 rcases List.mem_cons.1 hy with rfl|hy
 ·exact h
 ·exact hl y hy
theorem Im.nil:Im []:=fun x hx=>by cases hx
theorem Im.flat {α:Type}{f:α->List It}{l:List α}(h:∀x∈l,Im (f x)):Im (l.map f).flatten:=fun y hy=>by
 obtain⟨v,hv,hy⟩:=List.mem_flatten.1 hy;obtain⟨x,hx,rfl⟩:=List.mem_map.1 hv;exact h x hx y hy
theorem ZC {n:Nat}(h:n<=1000):Wr (n:Int):=⟨by omega,by omega⟩
theorem Qz {n:Int}(h:0<=n)(h1:n<=1099511627776):Wr n:=⟨h,by omega⟩
theorem Asn (a:An):Im (C5 a):=by
 refine Im.cons (Qz (by show (0:Int)<=2;omega) (by show (2:Int)<=_;omega)) (Im.cons (Qz (by show (0:Int)<=0;omega) (by show (0:Int)<=_;omega)) (Im.cons (Qz (by show (0:Int)<=0;omega) (by show (0:Int)<=_;omega)) Im.nil))
theorem Aue {s:Sa}(h:1<=s.kd∧s.kd<=4∧0<=s.at_∧s.at_<=1099511627776):Im (De s):=by
 refine Im.cons (Qz (by show (0:Int)<=2;omega) (by show (2:Int)<=_;omega)) (Im.cons (Qz (by show (0:Int)<=s.kd;omega) (by show s.kd<=_;omega)) (Im.cons (Qz (by show (0:Int)<=s.at_;omega) (by show s.at_<=_;omega)) Im.nil))
theorem Ap0 {x:Me}(hm:Wr x.model)(h:Ei x=0):Im (Ba x):=by
 obtain⟨h1,h2,h3,h4⟩:=T7 h;have e:=HU x [];rw[List.append_nil] at e;rw[e];refine Im.cons (Qz (by show (0:Int)<=3;omega) (by show (3:Int)<=_;omega)) (Im.cons hm (Im.cons (ZC (by omega)) (Im.app (Im.flat fun a ha=>Asn a) (Im.cons (ZC (by omega)) (Im.app (Im.flat fun s hs=>Aue (EI h4 s hs)) Im.nil)))))
theorem Akb {m:Md}(hm:∀x∈m.ents,Wr x.model)(h:B9 m=0):Im (Be m):=by
 obtain⟨h1,h2,h3,h4,h5,h6,h7⟩:=Qi h;rw[AZ];exact Im.cons (Qz (by show (0:Int)<=4;omega) (by show (4:Int)<=_;omega)) (Im.cons (Qz (by show (0:Int)<=m.ver;omega) (by show m.ver<=_;omega)) (Im.cons (Qz (by show (0:Int)<=m.iss;omega) (by show m.iss<=_;omega)) (Im.cons (Qz (by show (0:Int)<=m.nxt;omega) (by show m.nxt<=_;omega)) (Im.cons (ZC (by omega)) (Im.flat fun x hx=>Ap0 (hm x hx) (Ql h7 x hx))))))
theorem J7 {m:Md}(h:D6 m=0):B9 m=0∧Ey m.sig.path.length=false∧Qb m.sig.leaf m.sig.path.length=false∧m.sig.chains.length=18:=by
 unfold D6 at h;by_cases h0:B9 m=0
 ·rw[Cy h0] at h;unfold PP at h;split at h
  ·cases h
  ·split at h
   ·cases h
   ·split at h
    ·cases h
    ·exact⟨h0,by simp_all,by simp_all,by simp_all⟩
 ·rw[Bj h0] at h;exact absurd h h0
theorem Ac8 {m:Md}(hc:m.ok)(h:D6 m=0){k:Nat}(hk:500<k):Jd k [] 0 (G0 m) 0 []=(Be m,(Ch (Be m)).length,0):=by
 have h0:=(J7 h).1;obtain⟨vm,fm,lm⟩:=Yp hc.wf h0;have r:=WY (b:=G0 m) (rest:=AJ m.sig) (Be m) [] 0 0 k [] (vm.goods (by omega) (by simp[Be]) (by omega)) (fun x hx=>Akb (fun x hx=>(hc.ent x hx).1) h0 x hx) rfl (by omega)
 simpa using r
theorem Aoj {m:Md}(hc:m.ok)(h:D6 m=0):Ak1 (G0 m) (Ch (Be m)).length ({ m with sig:=sg0 },true)=(m,0):=by
 obtain⟨h0,h1,h2,h3⟩:=J7 h;have e:(G0 m).drop (Ch (Be m)).length=AJ m.sig:=by unfold G0;rw[List.drop_left]
 unfold Ak1;rw[Bj (by simp),e,Asa hc.sg h1 h2 h3]
 simp only;rw[Cy ⟨h,by trivial⟩]
theorem Ajw {b:List Int}{used:Nat}{r:Md × Bool}(hr:∀x∈r.1.ents,Wr x.model∧x.rts)(hn:∀m:Md,m.ok->D6 m=0->G0 m≠b):Ak1 b used r=(TY,2):=by
 unfold Ak1;split
 ·rfl
 ·split
  ·rfl
  ·rename_i s hs;rw[Bj];intro ⟨h1,h2⟩;exact hn { r.1 with sig:=s } ⟨hr,(Aok hs).1⟩ h1 h2
theorem Arn {x:Me}(h:okM x):Wr x.model∧x.rts:=⟨h.1,fun a ha=>(h.2.1 a ha).1⟩
theorem UN {b:List Int}(hb:Kg b):∀(k:Nat)(l:List Ha)(cnt:Int)(at_:Nat)(its:List It),at_<=b.length->(its.length:Int)=cnt->its.length<=512->(Jd k l cnt b at_ its).1.length<=512
 |0,l,cnt,at_,its,h,hi,h5=>by simp[Jd]
 |k+1,l,cnt,at_,its,h,hi,h5=>by
  unfold Jd;by_cases hd:RO l cnt=true
  ·rw[Cy hd];exact h5
  ·rw[Bj hd];by_cases he:(Gg l cnt b at_).e=0
   ·rw[Bj (by simp[he])]
    obtain⟨c1,c2,_,_,p,q⟩:=HT hb h he;exact UN hb k _ _ _ _ p (by rw[c2,Kb,List.length_singleton];omega) (by rw[Kb,List.length_singleton];omega)
   ·rw[Cy he];simp
structure Rdr (P:List It->Md × Bool):Prop where
 ok:∀l,FP l->l.length<=1000->∀x∈(P l).1.ents,Wr x.model∧x.rts
 hit:∀m:Md,m.ok->B9 m=0->P (Be m)=({ m with sig:=sg0 },true)
theorem Apt:Rdr FA:=⟨fun l h hl x hx=>Arn ((YU h hl).1 x hx),fun m hm h=>Aqd h (fun x hx=>(hm.ent x hx).2)⟩
theorem PB {P:List It->Md × Bool}(hP:Rdr P){m:Md}(hc:m.ok)(h:D6 m=0)(hl:(G0 m).length<=4096):Pd P (G0 m) (Be m,(Ch (Be m)).length,0)=(m,0):=by
 unfold Pd;rw[Bj (by omega),Bj (by simp)]
 simp only;rw[hP.hit m hc (J7 h).1];exact Aoj hc h
theorem JY {P:List It->Md × Bool}(hP:Rdr P){b:List Int}(hl:b.length<=4096){r:List It × Nat × Int}(hx:FP r.1)(h5:r.1.length<=1000)(hn:∀m:Md,m.ok->D6 m=0->G0 m≠b):Pd P b r=(TY,2):=by
 unfold Pd;rw[Bj (by omega)]
 split
 ·rfl
 ·exact Ajw (hP.ok _ hx h5) hn
theorem Xw {b:List Int}(hb:Kg b)(k:Nat):FP (Jd k [] 0 b 0 []).1∧(Jd k [] 0 b 0 []).1.length<=1000∧(Jd k [] 0 b 0 []).2.1<=b.length:=by
 have h:=Abf hb k [] 0 0 [] (by omega) (by simp)
 exact⟨h.2,Nat.le_trans (UN hb k [] 0 0 [] (by omega) rfl (by simp)) (by omega),h.1⟩
theorem GS {m:Md}(hc:m.ok)(h:D6 m=0)(hl:(G0 m).length<=4096):Qe (G0 m)=(m,0):=by
 unfold Qe;rw[Ac8 hc h (by omega)]
 exact PB Apt hc h hl
theorem VQ {b:List Int}(hb:Kg b)(hl:b.length<=4096)(hn:∀m:Md,m.ok->D6 m=0->G0 m≠b):Qe b=(TY,2):=JY Apt hl (Xw hb 1000).1 (Xw hb 1000).2.1 hn
theorem UC {b:List Int}(hl:b.length>4096):Qe b=(TY,8):=by
 unfold Qe Pd;rw[Cy hl]
theorem Akj {P:List It->Md × Bool}(hP:Rdr P){b:List Int}(hb:Kg b){r:List It × Nat × Int}(hx:FP r.1)(h5:r.1.length<=1000)(hc:∀m:Md,m.ok->D6 m=0->G0 m=b->r=(Be m,(Ch (Be m)).length,0)):Pd P b r=Qe b:=by
 by_cases hl:b.length>4096
 ·rw[UC hl];unfold Pd;rw[Cy hl]
 by_cases hex:∃m:Md,m.ok∧D6 m=0∧G0 m=b
 ·obtain⟨m,m1,m2,m3⟩:=hex;have e:=hc m m1 m2 m3;subst m3;rw[GS m1 m2 (by omega),e]
  exact PB hP m1 m2 (by omega)
 ·have hn:∀m:Md,m.ok->D6 m=0->G0 m≠b:=fun m h1 h2 h3=>hex ⟨m,h1,h2,h3⟩
  rw[VQ hb (by omega) hn]
  exact JY hP (by omega) hx h5 hn
theorem Aq3 {b:List Int}(hb:Kg b){k:Nat}(hk:500<k):Pd FA b (Jd k [] 0 b 0 [])=Qe b:=
 Akj Apt hb (Xw hb k).1 (Xw hb k).2.1 (fun m m1 m2 m3=>by subst m3;exact Ac8 m1 m2 hk)
theorem Avc {b:List Int}(hb:Kg b):((Qe b).2=0∧(Qe b).1.ok∧D6 (Qe b).1=0∧G0 (Qe b).1=b∧b.length<=4096)∨(Qe b=(TY,8))∨(Qe b=(TY,2)):=by
 by_cases hl:b.length>4096
 ·exact .inr (.inl (UC hl))
 by_cases hex:∃m:Md,m.ok∧D6 m=0∧G0 m=b
 ·obtain⟨m,m1,m2,m3⟩:=hex;subst m3;rw[GS m1 m2 (by omega)]
  exact .inl ⟨rfl,m1,m2,rfl,by omega⟩
 ·exact .inr (.inr (VQ hb (by omega) fun m h1 h2 h3=>hex ⟨m,h1,h2,h3⟩))
end
section
open Go.Proofs.Tryd (prog)
open Go.IntKind (wrap)
set_option maxRecDepth 1000000
section
variable {fu d:Nat}
theorem Aga (Cb:20000<=fu){b:List Int}(hb:Kg b)(hl:b.length<=1000000):
  Ad C0 prog fu (d+11) L8 [.lst false 1 b.length (Af .u8 b)]=some ⟨[.agg (Pd FA b (Jd fu [] 0 b 0 [])).1.cells,.sc (.int .i64 (Pd FA b (Jd fu [] 0 b 0 [])).2)],[]⟩:=by
 refine (FG fu (d+10) b.length (Af .u8 b)).trans ?_;have dec:=Ak2 (fu:=fu) (d:=d+5) (by omega) hb hl
 obtain⟨hox,hln,hat⟩:=Xw hb fu;generalize Jd fu [] 0 b 0 []=r at dec hat hox hln ⊢;obtain⟨its,used,e⟩:=r;simp only at hat hox hln;unfold Aez at dec;simp only at dec;unfold Pd;simp only;by_cases h5:b.length>4096
 ·rw[Cy h5]
  try unfold Aa
  repeat first
   |((with_reducible first|apply Ax|apply Ap|apply Az|apply A9|apply Bq|apply Bv|apply Bp|apply Aq|apply A4|apply A3);· first|with_reducible rfl|(simp (disch:=omega) only[gT,Dp]<;>first|with_reducible rfl|omega)|omega)
   |(with_reducible apply Ay;· first|with_reducible rfl|(simp (disch:=omega) only[gF,Dp]<;>omega))
  try simp (disch:=omega) only[Dp]
  all_goals rfl
 rw[Bj h5];by_cases he:e=0
 rotate_left
 ·rw[Cy he];have VM:(e != 0)=true:=by simp[he]
  try unfold Aa
  repeat first
   |((with_reducible first|apply Ax|apply Ap|apply Az|apply A9|apply Bq|apply Bv|apply Bp|apply Aq|apply A4|apply A3);· first|with_reducible rfl|(simp (disch:=omega) only[gT,dec,VM]<;>first|with_reducible rfl|omega)|omega)
   |(with_reducible apply Ay;· first|with_reducible rfl|(simp (disch:=omega) only[gF,dec,VM]<;>omega))
  try simp (disch:=omega) only[dec,VM]
  all_goals rfl
 rw[Bj (by simp[he])]
 subst he;have e00:((0:Int) != 0)=false:=rfl;have e20:((2:Int) != 0)=true:=rfl;have LT:=H0 its;have tT:List.take (its.length*3) (Bf its)=Bf its:=My (by omega)
 have bo:=Au6 (fu:=fu) (d:=d+6) (by omega) (l:=its) hox hln
 have bk:=(YU hox hln).1;generalize FA its=p at bo bk ⊢;obtain⟨m,q⟩:=p;simp only at bo bk;simp only[Md.cells] at bo;unfold Ak1;simp only;generalize Bf its=T at *
 generalize its.length=nT at *
 cases q
 ·rw[Cy rfl]
  try unfold Aa
  repeat first
   |((with_reducible first|apply Ax|apply Ap|apply Az|apply A9|apply Bq|apply Bv|apply Bp|apply Aq|apply A4|apply A3);· first|with_reducible rfl|(simp (disch:=omega) only[gT,dec,e00,Fg,C8,LT,tT,bo,D2,Lt]<;>first|with_reducible rfl|omega)|omega)
   |(with_reducible apply Ay;· first|with_reducible rfl|(simp (disch:=omega) only[gF,dec,e00,Fg,C8,LT,tT,bo,D2,Lt]<;>omega))
  try simp (disch:=omega) only[dec,e00,Fg,C8,LT,tT,bo,D2,Lt]
  all_goals rfl
 rw[Bj (by simp)]
 have ds:=Alg (xs:=Oc) (fu:=fu) (d:=d+8) (by omega) (l:=b.drop used) (fun x hx=>hb x (List.mem_of_mem_drop hx))
 rw[List.length_drop] at ds;have tb:List.take (b.length-used) (List.drop used (Af .u8 b))=Af .u8 (b.drop used):=by rw[J6,My (by rw[At,List.length_drop];omega)]
 have nu:Int.toNat (used:Int)=used:=Hs used;cases hs:sgD (b.drop used) with
 |none=>
  rw[hs] at ds;simp only[Ahp,Sg.owned] at ds
  try unfold Aa
  repeat first
   |((with_reducible first|apply Ax|apply Ap|apply Az|apply A9|apply Bq|apply Bv|apply Bp|apply Aq|apply A4|apply A3);· first|with_reducible rfl|(simp (disch:=omega) only[gT,dec,e00,e20,Fg,C8,Dp,LT,tT,bo,nu,tb,ds,D2,Lt]<;>first|with_reducible rfl|omega)|omega)
   |(with_reducible apply Ay;· first|with_reducible rfl|(simp (disch:=omega) only[gF,dec,e00,e20,Fg,C8,Dp,LT,tT,bo,nu,tb,ds,D2,Lt]<;>omega))
  try simp (disch:=omega) only[dec,e00,e20,Fg,C8,Dp,LT,tT,bo,nu,tb,ds,D2,Lt]
  all_goals rfl
 |some s=>
  rw[hs] at ds;simp only[Ahp,Sg.owned] at ds;obtain⟨s1,s2,s3⟩:=Aok hs;simp only;have cok:({ m with sig:=s }:Md).ok:=⟨fun x hx=>Arn (bk x hx),s1⟩
  have en:=ZB (fu:=fu) (d:=d) (m:={ m with sig:=s }) Cb cok.wf (Nat.le_trans s2 (by omega)) (Nat.lt_of_le_of_lt s2 (by omega))
  have ec:({ m with sig:=s }:Md).cells=[.sc (.int .i64 m.ver),.sc (.int .i64 m.iss),.sc (.int .i64 m.nxt),.lst false 3 m.ents.length (Dd m.ents),.sc (.int .i64 s.leaf),.lst false 1 s.chains.length (Af .u64 s.chains),.lst false 1 s.path.length (Af .u64 s.path)]:=rfl;have eB:∀h:D6 { m with sig:=s }=0,Kg (G0 { m with sig:=s }):=fun h y hy=>(List.mem_append.1 hy).elim (ZF cok.wf (J7 h).1 y) (Awd s y)
  have eL:∀h:D6 { m with sig:=s }=0,(G0 { m with sig:=s }).length<=100000:=fun h=>by
   have h1:=IE cok.wf (J7 h).1;have h2:=Kv (h:=s.path.length) (by simpa using (J7 h).2.1)
   have ls:(AJ s).length=2+8*s.chains.length+8*s.path.length:=by
    unfold AJ;simp only[Io,Kb,Dz];omega
   show (Ch (Be { m with sig:=s })++AJ s).length<=_;rw[Kb];omega
  have Lc:=At .u64 s.chains;have Lp:=At .u64 s.path;have tc:=Tl .u64 s.chains;have tp:=Tl .u64 s.path;generalize ({ m with sig:=s }:Md)=c at *
  rw[ec] at en;unfold FX at en;by_cases hz:D6 c=0
  rotate_left
  ·have hz':(D6 c != 0)=true:=by simp[hz]
   rw[Bj hz] at en;rw[Bj (fun h=>hz h.1)]
   try unfold Aa
   repeat first
    |((with_reducible first|apply Ax|apply Ap|apply Az|apply A9|apply Bq|apply Bv|apply Bp|apply Aq|apply A4|apply A3);· first|with_reducible rfl|(simp (disch:=omega) only[gT,dec,e00,e20,Fg,C8,Dp,LT,tT,bo,nu,tb,ds,Lc,Lp,tc,tp,en,hz',D2,Lt]<;>first|with_reducible rfl|omega)|omega)
    |(with_reducible apply Ay;· first|with_reducible rfl|(simp (disch:=omega) only[gF,dec,e00,e20,Fg,C8,Dp,LT,tT,bo,nu,tb,ds,Lc,Lp,tc,tp,en,hz',D2,Lt]<;>omega))
   try simp (disch:=omega) only[dec,e00,e20,Fg,C8,Dp,LT,tT,bo,nu,tb,ds,Lc,Lp,tc,tp,en,hz',D2,Lt]
   all_goals rfl
  rw[Cy hz] at en;have eL:=eL hz;have be:=TX (fu:=fu) (d:=d+9) (eB hz) hb;have LE:=At .u8 (G0 c);have tE:=Tl .u8 (G0 c);by_cases hq:G0 c=b
  ·rw[Cy ⟨hz,hq⟩];simp only[hq,decide_true] at be en LE tE;simp only[ec]
   try unfold Aa
   repeat first
    |((with_reducible first|apply Ax|apply Ap|apply Az|apply A9|apply Bq|apply Bv|apply Bp|apply Aq|apply A4|apply A3);· first|with_reducible rfl|(simp (disch:=omega) only[gT,dec,e00,e20,Fg,C8,Dp,LT,tT,bo,nu,tb,ds,Lc,Lp,tc,tp,en,LE,tE,be,D2,Lt]<;>first|with_reducible rfl|omega)|omega)
    |(with_reducible apply Ay;· first|with_reducible rfl|(simp (disch:=omega) only[gF,dec,e00,e20,Fg,C8,Dp,LT,tT,bo,nu,tb,ds,Lc,Lp,tc,tp,en,LE,tE,be,D2,Lt]<;>omega))
   try simp (disch:=omega) only[dec,e00,e20,Fg,C8,Dp,LT,tT,bo,nu,tb,ds,Lc,Lp,tc,tp,en,LE,tE,be,D2,Lt]
   all_goals rfl
  ·rw[Bj (fun h=>hq h.2)]
   simp only[hq,decide_false] at be
   try unfold Aa
   repeat first
    |((with_reducible first|apply Ax|apply Ap|apply Az|apply A9|apply Bq|apply Bv|apply Bp|apply Aq|apply A4|apply A3);· first|with_reducible rfl|(simp (disch:=omega) only[gT,dec,e00,e20,Fg,C8,Dp,LT,tT,bo,nu,tb,ds,Lc,Lp,tc,tp,en,LE,tE,be,D2,Lt]<;>first|with_reducible rfl|omega)|omega)
    |(with_reducible apply Ay;· first|with_reducible rfl|(simp (disch:=omega) only[gF,dec,e00,e20,Fg,C8,Dp,LT,tT,bo,nu,tb,ds,Lc,Lp,tc,tp,en,LE,tE,be,D2,Lt]<;>omega))
   try simp (disch:=omega) only[dec,e00,e20,Fg,C8,Dp,LT,tT,bo,nu,tb,ds,Lc,Lp,tc,tp,en,LE,tE,be,D2,Lt]
   all_goals rfl
theorem Aqu (Cb:20000<=fu){b:List Int}(hb:Kg b)(hl:b.length<=1000000):
  Ad C0 prog fu (d+11) L8 [.lst false 1 b.length (Af .u8 b)]=some ⟨[.agg (Qe b).1.cells,.sc (.int .i64 (Qe b).2)],[]⟩:=by
 rw[←Aq3 hb (k:=fu) (by omega)]
 exact Aga Cb hb hl
def Aal (cur:Md)(b:List Int)(k:Ky)(now:Int):Md × Int:=
 if now<0∨1099511627776<now then (TY,9) else if (Qe b).2≠0 then (TY,(Qe b).2) else if (Qe b).1.ver<=cur.ver then (TY,7) else if Ad2 (Qe b).1 k≠0 then (TY,Ad2 (Qe b).1 k) else if now<(Qe b).1.iss∨(Qe b).1.nxt<now then (TY,19) else ((Qe b).1,0)
theorem EL (Cb:20000<=fu){b:List Int}(hb:Kg b)(hl:b.length<=1000000)(cur:Md)(k:Ky)(now:Int):
  Ad C0 prog fu (d+12) F7 [.agg cur.cells,.lst false 1 b.length (Af .u8 b),.agg k.cells,.sc (.int .i64 now)]=some ⟨[.agg (Aal cur b k now).1.cells,.sc (.int .i64 (Aal cur b k now).2)],[]⟩:=by
 refine (FO fu (d+11) cur.ver cur.iss cur.nxt cur.ents.length (Dd cur.ents) cur.sig.leaf cur.sig.chains.length (Af .u64 cur.sig.chains) cur.sig.path.length (Af .u64 cur.sig.path) b.length (Af .u8 b) k.h k.root now).trans ?_;unfold Aal;by_cases h1:now<0
 ·rw[Cy (.inl h1)]
  try unfold Aa
  repeat first
   |((with_reducible first|apply Ax|apply Ap|apply Az|apply A9|apply Bq|apply Bv|apply Bp|apply Aq|apply A4|apply A3);· first|with_reducible rfl|(simp (disch:=omega) only[gT,D2]<;>first|with_reducible rfl|omega)|omega)
   |(with_reducible apply Ay;· first|with_reducible rfl|(simp (disch:=omega) only[gF,D2]<;>omega))
  try simp (disch:=omega) only[D2]
  all_goals rfl
 by_cases h2:1099511627776<now
 ·rw[Cy (.inr h2)]
  try unfold Aa
  repeat first
   |((with_reducible first|apply Ax|apply Ap|apply Az|apply A9|apply Bq|apply Bv|apply Bp|apply Aq|apply A4|apply A3);· first|with_reducible rfl|(simp (disch:=omega) only[gT,D2]<;>first|with_reducible rfl|omega)|omega)
   |(with_reducible apply Ay;· first|with_reducible rfl|(simp (disch:=omega) only[gF,D2]<;>omega))
  try simp (disch:=omega) only[D2]
  all_goals rfl
 rw[Bj (by omega)]
 have dec:=Aqu (fu:=fu) (d:=d) Cb hb hl;have dok:=Avc hb;generalize Qe b=r at dec dok ⊢;obtain⟨m,e⟩:=r;simp only at dec dok ⊢;simp only[Md.cells] at dec;by_cases h3:e=0
 rotate_left
 ·have h3':(e != 0)=true:=by simp[h3]
  rw[Cy h3]
  try unfold Aa
  repeat first
   |((with_reducible first|apply Ax|apply Ap|apply Az|apply A9|apply Bq|apply Bv|apply Bp|apply Aq|apply A4|apply A3);· first|with_reducible rfl|(simp (disch:=omega) only[gT,dec,h3']<;>first|with_reducible rfl|omega)|omega)
   |(with_reducible apply Ay;· first|with_reducible rfl|(simp (disch:=omega) only[gF,dec,h3']<;>omega))
  try simp (disch:=omega) only[dec,h3']
  all_goals rfl
 subst h3;have e00:((0:Int) != 0)=false:=rfl
 have mk:m.ok:=by
  rcases dok with h|h|h
  ·exact h.2.1
  ·have:=congrArg Prod.snd h;simp at this
  ·have:=congrArg Prod.snd h;simp at this
 rw[Bj (by simp)]
 by_cases h4:m.ver<=cur.ver
 ·rw[Cy h4]
  try unfold Aa
  repeat first
   |((with_reducible first|apply Ax|apply Ap|apply Az|apply A9|apply Bq|apply Bv|apply Bp|apply Aq|apply A4|apply A3);· first|with_reducible rfl|(simp (disch:=omega) only[gT,dec,e00]<;>first|with_reducible rfl|omega)|omega)
   |(with_reducible apply Ay;· first|with_reducible rfl|(simp (disch:=omega) only[gF,dec,e00]<;>omega))
  try simp (disch:=omega) only[dec,e00]
  all_goals rfl
 rw[Bj h4];have vr:=Ava (fu:=fu) (d:=d) (m:=m) Cb mk.wf k;simp only[Md.cells,Ky.cells] at vr;by_cases h5:Ad2 m k=0
 rotate_left
 ·have h5':(Ad2 m k != 0)=true:=by simp[h5]
  rw[Cy h5]
  try unfold Aa
  repeat first
   |((with_reducible first|apply Ax|apply Ap|apply Az|apply A9|apply Bq|apply Bv|apply Bp|apply Aq|apply A4|apply A3);· first|with_reducible rfl|(simp (disch:=omega) only[gT,dec,e00,vr,h5']<;>first|with_reducible rfl|omega)|omega)
   |(with_reducible apply Ay;· first|with_reducible rfl|(simp (disch:=omega) only[gF,dec,e00,vr,h5']<;>omega))
  try simp (disch:=omega) only[dec,e00,vr,h5']
  all_goals rfl
 rw[Bj (by simp[h5])]
 rw[h5] at vr;by_cases h6:now<m.iss
 ·rw[Cy (.inl h6)]
  try unfold Aa
  repeat first
   |((with_reducible first|apply Ax|apply Ap|apply Az|apply A9|apply Bq|apply Bv|apply Bp|apply Aq|apply A4|apply A3);· first|with_reducible rfl|(simp (disch:=omega) only[gT,dec,e00,vr]<;>first|with_reducible rfl|omega)|omega)
   |(with_reducible apply Ay;· first|with_reducible rfl|(simp (disch:=omega) only[gF,dec,e00,vr]<;>omega))
  try simp (disch:=omega) only[dec,e00,vr]
  all_goals rfl
 by_cases h7:m.nxt<now
 ·rw[Cy (.inr h7)]
  try unfold Aa
  repeat first
   |((with_reducible first|apply Ax|apply Ap|apply Az|apply A9|apply Bq|apply Bv|apply Bp|apply Aq|apply A4|apply A3);· first|with_reducible rfl|(simp (disch:=omega) only[gT,dec,e00,vr]<;>first|with_reducible rfl|omega)|omega)
   |(with_reducible apply Ay;· first|with_reducible rfl|(simp (disch:=omega) only[gF,dec,e00,vr]<;>omega))
  try simp (disch:=omega) only[dec,e00,vr]
  all_goals rfl
 rw[Bj (by omega)]
 simp only[Md.cells]
 try unfold Aa
 repeat first
  |((with_reducible first|apply Ax|apply Ap|apply Az|apply A9|apply Bq|apply Bv|apply Bp|apply Aq|apply A4|apply A3);· first|with_reducible rfl|(simp (disch:=omega) only[gT,dec,e00,vr]<;>first|with_reducible rfl|omega)|omega)
  |(with_reducible apply Ay;· first|with_reducible rfl|(simp (disch:=omega) only[gF,dec,e00,vr]<;>omega))
 try simp (disch:=omega) only[dec,e00,vr]
 all_goals rfl
end
end
section
open Go.Proofs.Tryd (prog)
open Go.IntKind (wrap)
set_option maxRecDepth 1000000
section
variable {fu d:Nat}
theorem Afj (Cb:1000<=fu)(seed h:Int):Ad C0 prog fu (d+13) Sk [.sc (.int .u64 seed),.sc (.int .i64 h)]=some ⟨[.agg (Rs seed h).cells],[]⟩:=by
 rw[DU];have p:=Agk (fu:=fu) (d:=d) Cb seed h;simp only[Ky.cells] at p ⊢;simp only[Cu,p]
end
theorem ZX (dom:Int)(l:List Int):Wr (Q0 dom l):=Qy _
theorem Ay6 (key dom:Int)(l:List Int):Wr (Au7 key dom l):=Qy _
theorem Ap4 (leaf chain:Int):∀(k:Nat)(p:Int){x:Int},Wr x->Wr (Tj leaf chain k p x)
 |0,_,_,h=>h
 |k+1,p,x,h=>Ap4 leaf chain k (p+1) (ZX _ _)
theorem A0i (seed leaf m:Int):isW (Of seed leaf m):=by
 intro x hx;obtain⟨k,_,rfl⟩:=List.mem_map.1 hx;exact Ap4 _ _ _ _ (Ay6 _ _ _)
theorem Asx (seed:Int):∀(l:Nat)(i:Int),Wr (Cq seed l i)
 |0,i=>ZX _ _
 |l+1,i=>ZX _ _
theorem Auv {seed h leaf m:Int}(hh:Ey h=false)(ho:Qb leaf h=false):∃s,Ajx seed h leaf m=some s∧s.ok∧s.leaf=leaf∧s.chains.length=18∧(s.path.length:Int)=h∧Aj1 (Rs seed h) m s=0:=by
 have hb:=Kv hh;refine⟨⟨leaf,Of seed leaf m,(List.range h.toNat).map fun k=>Cq seed k (Jo leaf k)⟩,?_,⟨A0i _ _ _,?_⟩,rfl,by simp[Of],?_,Anv hh ho⟩
 ·unfold Ajx;rw[Bj (by simp[hh]),Bj (by simp[ho])]
 ·intro x hx;obtain⟨k,_,rfl⟩:=List.mem_map.1 hx;exact Asx _ _ _
 ·simp only[List.length_map,List.length_range];omega
theorem Au3 {s:Sg}:(AJ s).length=2+8*s.chains.length+8*s.path.length:=by
 unfold AJ;simp only[Io,Kb,Dz];omega
end
section
open Go.Proofs.Tryd (prog)
open Go.IntKind (wrap)
set_option maxRecDepth 100000
abbrev Ow:FuncId:=9
theorem X8 (fu d:Nat):Ad C0 prog fu (d+1) Ow []=(fun (call:Ah)=>Ai (call 4 [.agg [.sc (.int .i64 2),.sc (.int .i64 1),.sc (.int .i64 9),.lst false 3 1 [.sc (.int .u64 4),.lst false 3 0 [],.lst false 2 2 [.sc (.int .i64 1),.sc (.int .i64 0),.sc (.int .i64 4),.sc (.int .i64 50)]],.sc (.int .i64 0),.lst false 1 0 [],.lst false 1 0 []],.sc (.int .u64 7),.sc (.int .i64 2)]) fun x1 x2=>Ac x2<|Ab x1 fun x3 x4=>Fm x3 fun x5=>Ab x5 fun x6 x7=>Ae .i64 x6 fun x8=>Ab x7 fun x9 C6=>Ae .i64 x9 fun Dr=>Ab C6 fun Eg Ez=>Ae .i64 Eg fun D7=>Ab Ez fun Ew Fw=>Fq 3 Ew fun Gm G4 Gi=>Ab Fw fun Gy Jk=>Ae .i64 Gy fun Ia=>Ab Jk fun Je Fn=>Fq 1 Je fun Eu Hv J8=>Ab Fn fun G3 O6=>Fq 1 G3 fun M7 Kw Mz=>Ac O6<|Ab x4 fun O8 Pn=>Ae .i64 O8 fun O5=>Ac Pn<|Ai (call 5 [.agg [.sc (.int .i64 x8),.sc (.int .i64 Dr),.sc (.int .i64 D7),.lst false 3 G4 Gi,.sc (.int .i64 Ia),.lst false 1 Hv J8,.lst false 1 Kw Mz]]) fun Ry Vb=>Ac Vb<|Ab Ry fun Ic Ln=>Gl 1 Ic fun S4 Xb=>Ab Ln fun R9 Ye=>Ae .i64 R9 fun Za=>Ac Ye<|Ai (call 7 [.sc (.int .u64 7),.sc (.int .i64 2)]) fun X6 Xc=>Ac Xc<|Ab X6 fun Yd Yq=>Fm Yd fun Yu=>Ab Yu fun BD Zz=>Ae .i64 BD fun Zg=>Ab Zz fun BX EJ=>Ae .u64 BX fun DK=>Ac EJ<|Ac Yq<|Ar (decide (0+S4*1<=Xb.length))<|Ai (call 6 [.agg [.sc (.int .i64 1),.sc (.int .i64 0),.sc (.int .i64 0),.lst false 3 0 [],.sc (.int .i64 0),.lst false 1 0 [],.lst false 1 0 []],.lst false 1 S4 (List.take (S4*1) (List.drop 0 Xb)),.agg [.sc (.int .i64 Zg),.sc (.int .u64 DK)],.sc (.int .i64 5)]) fun CJ CI=>Ac CI<|Ab CJ fun Z3 GV=>Fm Z3 fun AF=>Ab AF fun CU FF=>Ae .i64 CU fun DM=>Ab FF fun AA Y9=>Ae .i64 AA fun Xd=>Ab Y9 fun EH GU=>Ae .i64 EH fun DN=>Ab GU fun FH DJ=>Fq 3 FH fun FS GW AL=>Ab DJ fun KL MX=>Ae .i64 KL fun DH=>Ab MX fun LX QU=>Fq 1 LX fun RT OM TH=>Ab QU fun x83 VU=>Fq 1 x83 fun x85 YL x87=>Ac VU<|Ab GV fun YA NB=>Ae .i64 YA fun RV=>Ac NB<|Ai (call 7 [.sc (.int .u64 7),.sc (.int .i64 2)]) fun UR x92=>Ac x92<|Ab UR fun x93 x94=>Fm x93 fun x95=>Ab x95 fun x96 WG=>Ae .i64 x96 fun SB=>Ab WG fun x99 T0=>Ae .u64 x99 fun ES=>Ac T0<|Ac x94<|Ar (decide (0+S4*1<=Xb.length))<|Ai (call 6 [.agg [.sc (.int .i64 x8),.sc (.int .i64 Dr),.sc (.int .i64 D7),.lst false 3 G4 Gi,.sc (.int .i64 Ia),.lst false 1 Hv J8,.lst false 1 Kw Mz],.lst false 1 S4 (List.take (S4*1) (List.drop 0 Xb)),.agg [.sc (.int .i64 SB),.sc (.int .u64 ES)],.sc (.int .i64 5)]) fun Jq M0=>Ac M0<|Ab Jq fun Z4 We=>Fm Z4 fun Ww=>Ab Ww fun Qd HM=>Ae .i64 Qd fun MD=>Ab HM fun PW QN=>Ae .i64 PW fun Ma=>Ab QN fun Q2 SP=>Ae .i64 Q2 fun SF=>Ab SP fun MJ TZ=>Fq 3 MJ fun SZ QW TO=>Ab TZ fun LU EB=>Ae .i64 LU fun SG=>Ab EB fun QE CO=>Fq 1 QE fun DF IV HA=>Ab CO fun QT MK=>Fq 1 QT fun Ae1 HF MI=>Ac MK<|Ab We fun YX XZ=>Ae .i64 YX fun MO=>Ac XZ<|Bi (O5==0) (Bi (Za==0) (Bi (RV==0) (Bi (MO==7) (Bi (Ia==1) (Ai (call 20 [.agg [.sc (.int .i64 x8),.sc (.int .i64 Dr),.sc (.int .i64 D7),.lst false 3 G4 Gi,.sc (.int .i64 Ia),.lst false 1 Hv J8,.lst false 1 Kw Mz],.agg [.sc (.int .i64 DM),.sc (.int .i64 Xd),.sc (.int .i64 DN),.lst false 3 GW AL,.sc (.int .i64 DH),.lst false 1 OM TH,.lst false 1 YL x87]]) fun Abw Ac7=>Ac Ac7<|Ab Abw fun Ab5 MT=>Bu Ab5 fun ME=>Ac MT<|Bi ME (Ai (call 8 [.agg [.sc (.int .i64 DM),.sc (.int .i64 Xd),.sc (.int .i64 DN),.lst false 3 GW AL,.sc (.int .i64 DH),.lst false 1 OM TH,.lst false 1 YL x87],.sc (.int .u64 4),.sc (.int .i64 49)]) fun ZV YG=>Ac YG<|Ab ZV fun TT HN=>Ae .i64 TT fun MP=>Ac HN<|Bi (MP==1) (Ai (call 8 [.agg [.sc (.int .i64 DM),.sc (.int .i64 Xd),.sc (.int .i64 DN),.lst false 3 GW AL,.sc (.int .i64 DH),.lst false 1 OM TH,.lst false 1 YL x87],.sc (.int .u64 4),.sc (.int .i64 50)]) fun YD ZU=>Ac ZU<|Ab YD fun Adh Afn=>Ae .i64 Adh fun Af9=>Ac Afn<|some (A5.mk [.sc (.bool (Af9==4))] [])) (some (A5.mk [.sc (.bool false)] []))) (some (A5.mk [.sc (.bool false)] []))) (some (A5.mk [.sc (.bool false)] []))) (some (A5.mk [.sc (.bool false)] []))) (some (A5.mk [.sc (.bool false)] []))) (some (A5.mk [.sc (.bool false)] []))) (some (A5.mk [.sc (.bool false)] []))) (Ad C0 prog fu d):=by kernel_rfl
end
section
open Go.IntKind (wrap)
set_option maxRecDepth 1000000
structure Me.few (x:Me):Prop where
 model:Wr x.model
 rts:x.rts
 ans:x.ans.length<=2
 sts:x.sts.length<=3
 nam:∀a∈x.ans,a.name.size<=60
structure Md.plain (m:Md):Prop where
 ent:∀x∈m.ents,x.few
 len:m.ents.length<=4
 sg:m.sig=sg0
section
variable {fu d:Nat} {l:List Int}
end
end
section
open Go.Proofs.Tryd (prog)
open Go.IntKind (wrap)
set_option maxRecDepth 1000000
section
variable {fu d:Nat}
theorem Acj {call:Ah}{Bd P4:Nat}{a0 a1:List PV}{l:List Int}(hl:l.length<=1000):∀(k i nn:Nat),i+k=l.length->k<nn ->
  Fx fu call Bd a0 P4 a1 nn l.length (Af .u64 l) l.length (Af .u64 l) i=some ⟨[.sc (.bool true)],[]⟩
 |_,_,0,_,h=>by omega
 |0,i,nn+1,hi,hn=>by
  have e:i=l.length:=by omega
  subst e;rw[Jz];simp (disch:=omega) only[Cu]
 |k+1,i,nn+1,hi,hn=>by
  have ih:=Acj (call:=call) (Bd:=Bd) (P4:=P4) (a0:=a0) (a1:=a1) hl k (i+1) nn (by omega) (by omega)
  obtain⟨x,hx⟩:∃x,l[i]?=some x:=⟨_,List.getElem?_eq_getElem (by omega)⟩
  have w:wrap .i64 ((i:Int)+1)=((i+1:Nat):Int):=by rw[Ak (by omega) (by omega)];omega
  have q:(x != x)=false:=bne_self_eq_false x;rw[Jz];simp (disch:=omega) only[Cu,Hs,Dp,C8,BI hx,q,w];exact ih
theorem Ars (Cb:2000<=fu){l:List Int}(hl:l.length<=1000):Ad C0 prog fu (d+1) Li [.lst false 1 l.length (Af .u64 l),.lst false 1 l.length (Af .u64 l)]=some ⟨[.sc (.bool true)],[]⟩:=by
 refine (Un fu d l.length (Af .u64 l) l.length (Af .u64 l)).trans ?_;have q:=Acj (fu:=fu) (call:=Ad C0 prog fu d) (Bd:=l.length) (P4:=l.length) (a0:=Af .u64 l) (a1:=Af .u64 l) hl l.length 0 fu (by omega) (by omega)
 have b:((l.length:Int) != (l.length:Int))=false:=bne_self_eq_false _;simp only[Cu,b];exact q
theorem A0b (Cb:2000<=fu){s:Sg}(h1:s.chains.length<=1000)(h2:s.path.length<=1000):Ad C0 prog fu (d+2) Jg [.agg s.cells,.agg s.cells]=some ⟨[.sc (.bool true)],[]⟩:=by
 refine (P7 fu (d+1) s.leaf s.chains.length (Af .u64 s.chains) s.path.length (Af .u64 s.path) s.leaf s.chains.length (Af .u64 s.chains) s.path.length (Af .u64 s.path)).trans ?_;have w1:=Ars (fu:=fu) (d:=d) Cb h1;have w2:=Ars (fu:=fu) (d:=d) Cb h2;have q1:(s.leaf==s.leaf)=true:=beq_self_eq_true _
 try unfold Aa
 repeat first
  |((with_reducible first|apply Ax|apply Ap|apply Az|apply A9|apply Cz|apply Bv|apply Aq|apply A4|apply A3);· first|with_reducible rfl|(simp (disch:=omega) only[gT,q1,w1,w2]<;>first|with_reducible rfl|omega)|omega)
  |(with_reducible apply Ay;· first|with_reducible rfl|(simp (disch:=omega) only[gF,q1,w1,w2]<;>omega))
 try simp (disch:=omega) only[q1,w1,w2]
 all_goals rfl
theorem Amr {call:Ah}{Aj Cg:Int}{Cc Bm Hj He:Nat}{Ao Bc Cf Cm:List PV}{x:Me}(hl:x.sts.length<=1000):∀(k i nn:Nat),i+k=x.sts.length->k<nn ->
  Fl fu call Aj Cc Ao Bm Bc Cg Hj Cf He Cm nn (i:Int) x.model x.ans.length (D8 x.ans) x.sts.length (Eb x.sts) x.model x.ans.length (D8 x.ans) x.sts.length (Eb x.sts)=some ⟨[.sc (.bool true)],[]⟩
 |_,_,0,_,h=>by omega
 |0,i,nn+1,hi,hn=>by
  have e:i=x.sts.length:=by omega
  subst e;rw[Jb];simp (disch:=omega) only[Cu]
 |k+1,i,nn+1,hi,hn=>by
  have ih:=Amr (call:=call) (Aj:=Aj) (Cg:=Cg) (Cc:=Cc) (Bm:=Bm) (Hj:=Hj) (He:=He) (Ao:=Ao) (Bc:=Bc) (Cf:=Cf) (Cm:=Cm) hl k (i+1) nn (by omega) (by omega)
  obtain⟨s,hx⟩:∃s,x.sts[i]?=some s:=⟨_,List.getElem?_eq_getElem (by omega)⟩
  obtain⟨g0,g1⟩:=saa hx;have w:wrap .i64 ((i:Int)+1)=((i+1:Nat):Int):=by rw[Ak (by omega) (by omega)];omega
  have q:∀x:Int,(x==x)=true:=fun x=>beq_self_eq_true x
  rw[Jb,←ih];simp (disch:=omega) only[Cu,Hs,g0,g1,q,w,Bool.and_true,D2]
theorem Ano {call:Ah}{Aj Cg:Int}{Cc Bm Hj He:Nat}{Ao Bc Cf Cm:List PV}{x:Me}(Cb:2000<=fu)(hl:x.sts.length<=1000)(LZ:x.ans.length<=1000):∀(k i nn:Nat),i+k=x.ans.length->k<nn ->
  Fk fu call Aj Cc Ao Bm Bc Cg Hj Cf He Cm nn (i:Int) x.model x.ans.length (D8 x.ans) x.sts.length (Eb x.sts) x.model x.ans.length (D8 x.ans) x.sts.length (Eb x.sts)=some ⟨[.sc (.bool true)],[]⟩
 |_,_,0,_,h=>by omega
 |0,i,nn+1,hi,hn=>by
  have e:i=x.ans.length:=by omega
  subst e;have l1:=Amr (fu:=fu) (call:=call) (Aj:=Aj) (Cg:=Cg) (Cc:=Cc) (Bm:=Bm) (Hj:=Hj) (He:=He) (Ao:=Ao) (Bc:=Bc) (Cf:=Cf) (Cm:=Cm) hl x.sts.length 0 fu (by omega) (by omega)
  rw[Jc,←l1];simp (disch:=omega) only[Cu];rfl
 |k+1,i,nn+1,hi,hn=>by
  have ih:=Ano (call:=call) (Aj:=Aj) (Cg:=Cg) (Cc:=Cc) (Bm:=Bm) (Hj:=Hj) (He:=He) (Ao:=Ao) (Bc:=Bc) (Cf:=Cf) (Cm:=Cm) Cb hl LZ k (i+1) nn (by omega) (by omega)
  obtain⟨s,hx⟩:∃s,x.ans[i]?=some s:=⟨_,List.getElem?_eq_getElem (by omega)⟩
  obtain⟨g0,g1,g2⟩:=ana hx;have g2':(D8 x.ans).getD (i*3+1+1) .top=.sc (.int .u64 s.key.root):=g2;have w:wrap .i64 ((i:Int)+1)=((i+1:Nat):Int):=by rw[Ak (by omega) (by omega)];omega
  have q:∀x:Int,(x==x)=true:=fun x=>beq_self_eq_true x
  have qs:∀x:ByteArray,(x==x)=true:=fun x=>by
   rcases x with⟨x⟩;show (x==x)=true;exact beq_self_eq_true x
  rw[Jc,←ih];simp (disch:=omega) only[Cu,Hs,g0,g1,g2',q,qs,w,Bool.and_true,D2]
theorem Ayt (Cb:2000<=fu){x:Me}(hl:x.sts.length<=1000)(LZ:x.ans.length<=1000):Ad C0 prog fu (d+1) Kp [.agg x.cells,.agg x.cells]=some ⟨[.sc (.bool true)],[]⟩:=by
 refine (S8 fu d x.model x.ans.length (D8 x.ans) x.sts.length (Eb x.sts) x.model x.ans.length (D8 x.ans) x.sts.length (Eb x.sts)).trans ?_;have l0:=Ano (fu:=fu) (call:=Ad C0 prog fu d) (Aj:=x.model) (Cg:=x.model) (Cc:=x.ans.length) (Bm:=x.sts.length) (Hj:=x.ans.length) (He:=x.sts.length) (Ao:=D8 x.ans) (Bc:=Eb x.sts) (Cf:=D8 x.ans) (Cm:=Eb x.sts) Cb hl LZ x.ans.length 0 fu (by omega) (by omega)
 have b:∀x:Int,(x != x)=false:=fun x=>bne_self_eq_false _
 simp only[Cu,b];exact l0
def Md.shrt (m:Md):Prop:=m.ents.length<=1000∧∀x∈m.ents,x.sts.length<=1000∧x.ans.length<=1000
theorem Aow {Bd P4:Nat}{a0 a1:List PV}{l:List Me}(Cb:2000<=fu)(hl:l.length<=1000)(hx:∀x∈l,x.sts.length<=1000∧x.ans.length<=1000):∀(k i nn:Nat),i+k=l.length->k<nn ->
  Em fu (Ad C0 prog fu (d+1)) Bd a0 P4 a1 nn l.length (Dd l) l.length (Dd l) (i:Int)=some ⟨[.sc (.bool true)],[]⟩
 |_,_,0,_,h=>by omega
 |0,i,nn+1,hi,hn=>by
  have e:i=l.length:=by omega
  subst e;rw[Ig];simp (disch:=omega) only[Cu]
 |k+1,i,nn+1,hi,hn=>by
  have ih:=Aow (Bd:=Bd) (P4:=P4) (a0:=a0) (a1:=a1) Cb hl hx k (i+1) nn (by omega) (by omega)
  have hil:i<l.length:=by omega
  have hs:=List.getElem?_eq_getElem hil;have hm:=hx _ (List.getElem_mem hil);generalize l[i]=s at hs hm;obtain⟨g0,g1,g2⟩:=mea hs;have g2':(Dd l).getD (i*3+1+1) .top=.lst false 2 s.sts.length (Eb s.sts):=g2;have w:wrap .i64 ((i:Int)+1)=((i+1:Nat):Int):=by rw[Ak (by omega) (by omega)];omega
  have se:=Ayt (fu:=fu) (d:=d) Cb hm.1 hm.2;simp only[Me.cells] at se;rw[Ig,←ih];simp (disch:=omega) only[Cu,Hs,g0,g1,g2',se,w,Bool.and_true,D2]
theorem Aod (Cb:2000<=fu){m:Md}(hm:m.shrt)(h1:m.sig.chains.length<=1000)(h2:m.sig.path.length<=1000):Ad C0 prog fu (d+3) Lf [.agg m.cells,.agg m.cells]=some ⟨[.sc (.bool true)],[]⟩:=by
 refine (Tw fu (d+2) m.ver m.iss m.nxt m.ents.length (Dd m.ents) m.sig.leaf m.sig.chains.length (Af .u64 m.sig.chains) m.sig.path.length (Af .u64 m.sig.path) m.ver m.iss m.nxt m.ents.length (Dd m.ents) m.sig.leaf m.sig.chains.length (Af .u64 m.sig.chains) m.sig.path.length (Af .u64 m.sig.path)).trans ?_
 have sl:Ad C0 prog fu (d+2) Ju [.lst false 3 m.ents.length (Dd m.ents),.lst false 3 m.ents.length (Dd m.ents)]=some ⟨[.sc (.bool true)],[]⟩:=by
  refine (Qr fu (d+1) m.ents.length (Dd m.ents) m.ents.length (Dd m.ents)).trans ?_;have l0:=Aow (fu:=fu) (d:=d) (Bd:=m.ents.length) (P4:=m.ents.length) (a0:=Dd m.ents) (a1:=Dd m.ents) Cb hm.1 hm.2 m.ents.length 0 fu (by omega) (by have:=hm.1;omega)
  have b:∀x:Int,(x != x)=false:=fun x=>bne_self_eq_false _
  simp only[Cu,b];exact l0
 have sg:=A0b (fu:=fu) (d:=d) Cb h1 h2;simp only[Sg.cells] at sg;have q:∀x:Int,(x==x)=true:=fun x=>beq_self_eq_true x
 try unfold Aa
 repeat first
  |((with_reducible first|apply Ax|apply Ap|apply Az|apply A9|apply Cz|apply Bv|apply Aq|apply A4|apply A3);· first|with_reducible rfl|(simp (disch:=omega) only[gT,q,sl,sg]<;>first|with_reducible rfl|omega)|omega)
  |(with_reducible apply Ay;· first|with_reducible rfl|(simp (disch:=omega) only[gF,q,sl,sg]<;>omega))
 try simp (disch:=omega) only[q,sl,sg]
 all_goals rfl
end
end
end Go.Proofs.YtpogefhpiaaliaaDoor.Pv
