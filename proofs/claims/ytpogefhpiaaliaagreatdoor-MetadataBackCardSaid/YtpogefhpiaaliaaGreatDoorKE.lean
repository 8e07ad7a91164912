/-
  The proof of MetadataBack, part 5.
-/
import Derived.Test.YtpogefhpiaaliaaGreatDoorKD
import Derived.Test.YtpogefhpiaaliaaGreatDoorRows
set_option linter.unusedSimpArgs false
set_option linter.unusedVariables false
namespace Go.Proofs.YtpogefhpiaaliaaGreatDoor.Pv
section
open Go.Proofs.Tryz (prog)
open Go.IntKind (wrap)
set_option maxRecDepth 100000
abbrev R7:FuncId:=121
noncomputable def H6 (fu:Nat)(call:Af)(Ai:Nat)(Ak:List PV)(Al:Int)(Bp:Nat)(Bd:List PV)(Cy:Int)(nn:Nat)(y0 y1 y2:Int)(y3:Nat)(y4:List PV)(y5 y6:Int)(y7:Nat)(y8:Int)(y9:Nat)(y10:List PV)(Fq:Int)(Gc:List PV):Option A5:=Dh CB prog fu call 121 Tryz.f121 (B7 Tryz.f121) [.pbox [.own 3 Ai Ak,.sc (.int .i64 Al),.lst false 1 Bp Bd,.sc (.int .i64 Cy)]] [.r,.r,.r,.r,.r,.r,.r,.r,.r,.r,.r,.l,.r,.l] nn ⟨lk [(0,(.ptr 240000 0)),(2,(.sc (.int .i64 y0))),(3,(.sc (.int .u64 y1))),(8,(.sc (.int .i64 y2))),(94,(.lst false 1 y3 y4)),(95,(.sc (.int .i64 y5))),(96,(.sc (.int .i64 y6)))],Bu [(240000,(.st [(.view 240120 3 0 y7),(.sc (.int .i64 y8)),(.lst false 1 y9 y10),(.sc (.int .i64 Fq))])),(240120,(.ar false Gc))]⟩
theorem Oc (fu:Nat)(call:Af)(Ai:Nat)(Ak:List PV)(Al:Int)(Bp:Nat)(Bd:List PV)(Cy:Int)(nn:Nat)(y0 y1 y2:Int)(y3:Nat)(y4:List PV)(y5 y6:Int)(y7:Nat)(y8:Int)(y9:Nat)(y10:List PV)(Fq:Int)(Gc:List PV):H6 fu call Ai Ak Al Bp Bd Cy (nn+1) y0 y1 y2 y3 y4 y5 y6 y7 y8 y9 y10 Fq Gc=(Bk (decide (y6<y5)) (Ar (decide (0<=y6)&&decide (y6<(↑y3:Int)))<|Ae .u8 (List.getD y4 (Int.toNat y6*1) .top) fun G7=>Aa (J0 .u64 y1 8) fun Gj=>Aa (wrap .u64 G7) fun Gx=>Aa (YE .u64 Gj Gx) fun Ju=>Aa (wrap .i64 (y6+1)) fun H3=>H6 fu call Ai Ak Al Bp Bd Cy (nn) (y0) Ju (y2) (y3) (y4) (y5) H3 (y7) (y8) (y9) (y10) (Fq) (Gc)) (Aa (wrap .i64 (Fq+y2)) fun Jd=>Aj (call 141 [.sc (.int .u64 y1)]) fun Fn Ev=>Ac Ev<|Ab Fn fun Hz J3=>Ae .i64 Hz fun Gy=>Ac J3<|Bk (decide (Gy<y2)) (Ar (decide (y7*3<=Gc.length))<|some (A5.mk [.sc (.int .i64 0),.sc (.int .u64 0),.sc (.int .i64 2)] [[.own 3 y7 (List.take (y7*3) Gc),.sc (.int .i64 y8),.lst false 1 y9 y10,.sc (.int .i64 Jd)]])) (Ar (decide (y7*3<=Gc.length))<|some (A5.mk [.sc (.int .i64 y0),.sc (.int .u64 y1),.sc (.int .i64 0)] [[.own 3 y7 (List.take (y7*3) Gc),.sc (.int .i64 y8),.lst false 1 y9 y10,.sc (.int .i64 Jd)]])))):=by kernel_rfl
theorem ES (fu d Ai:Nat)(Ak:List PV)(Al:Int)(Bp:Nat)(Bd:List PV)(Cy:Int):Ad C0 prog fu (d+1) R7 [.pbox [.own 3 Ai Ak,.sc (.int .i64 Al),.lst false 1 Bp Bd,.sc (.int .i64 Cy)]]=(fun (call:Af)=>Bk (decide (Cy>=(↑Bp:Int))) (Ar (decide (Ai*3<=Ak.length))<|some (A5.mk [.sc (.int .i64 0),.sc (.int .u64 0),.sc (.int .i64 1)] [[.own 3 Ai (List.take (Ai*3) Ak),.sc (.int .i64 Al),.lst false 1 Bp Bd,.sc (.int .i64 Cy)]])) (Ar (decide (0<=Cy)&&decide (Cy<(↑Bp:Int)))<|Ae .u8 (List.getD Bd (Int.toNat Cy*1) .top) fun x1=>Aa (wrap .i64 (Cy+1)) fun x2=>Bk (x1==244) (Aa (wrap .u8 (x1-244)) fun x3=>Aa (wrap .u64 x3) fun x4=>Ar (decide (Ai*3<=Ak.length))<|some (A5.mk [.sc (.int .i64 7),.sc (.int .u64 x4),.sc (.int .i64 0)] [[.own 3 Ai (List.take (Ai*3) Ak),.sc (.int .i64 Al),.lst false 1 Bp Bd,.sc (.int .i64 x2)]])) (Bk (x1==245) (Aa (wrap .u8 (x1-244)) fun x5=>Aa (wrap .u64 x5) fun x6=>Ar (decide (Ai*3<=Ak.length))<|some (A5.mk [.sc (.int .i64 7),.sc (.int .u64 x6),.sc (.int .i64 0)] [[.own 3 Ai (List.take (Ai*3) Ak),.sc (.int .i64 Al),.lst false 1 Bp Bd,.sc (.int .i64 x2)]])) (Bk (x1==246) (Ar (decide (Ai*3<=Ak.length))<|some (A5.mk [.sc (.int .i64 8),.sc (.int .u64 0),.sc (.int .i64 0)] [[.own 3 Ai (List.take (Ai*3) Ak),.sc (.int .i64 Al),.lst false 1 Bp Bd,.sc (.int .i64 x2)]])) (Aa (Is .u8 x1 5) fun x7=>Aa (X3 .u8 x1 31) fun x8=>Bk (decide (x7>5)) (Ar (decide (Ai*3<=Ak.length))<|some (A5.mk [.sc (.int .i64 0),.sc (.int .u64 0),.sc (.int .i64 2)] [[.own 3 Ai (List.take (Ai*3) Ak),.sc (.int .i64 Al),.lst false 1 Bp Bd,.sc (.int .i64 x2)]])) (Bk (decide (x8>27)) (Ar (decide (Ai*3<=Ak.length))<|some (A5.mk [.sc (.int .i64 0),.sc (.int .u64 0),.sc (.int .i64 2)] [[.own 3 Ai (List.take (Ai*3) Ak),.sc (.int .i64 Al),.lst false 1 Bp Bd,.sc (.int .i64 x2)]])) (Aa (wrap .i64 x7) fun x9=>Aa (wrap .i64 (1+x9)) fun C7=>Bk (decide (x8<24)) (Aa (wrap .u64 x8) fun Dm=>Ar (decide (Ai*3<=Ak.length))<|some (A5.mk [.sc (.int .i64 C7),.sc (.int .u64 Dm),.sc (.int .i64 0)] [[.own 3 Ai (List.take (Ai*3) Ak),.sc (.int .i64 Al),.lst false 1 Bp Bd,.sc (.int .i64 x2)]])) (Aa (wrap .u8 (x8-24)) fun Eh=>Ar (decide (0<=Eh))<|Aa (J0 .i64 1 Eh) fun E6=>Aa (wrap .i64 ((↑Bp:Int)-x2)) fun D8=>Bk (decide (D8<E6)) (Ar (decide (Ai*3<=Ak.length))<|some (A5.mk [.sc (.int .i64 0),.sc (.int .u64 0),.sc (.int .i64 1)] [[.own 3 Ai (List.take (Ai*3) Ak),.sc (.int .i64 Al),.lst false 1 Bp Bd,.sc (.int .i64 x2)]])) (Aa (wrap .i64 (x2+E6)) fun Ez=>Ar (decide (0<=x2))<|Ar (decide (0<=Ez))<|Ar (decide (Int.toNat x2<=Int.toNat Ez)&&decide (Int.toNat Ez<=Bp))<|Aa (Int.toNat Ez-Int.toNat x2) fun Fu=>Aa (List.take (Fu*1) (List.drop (Int.toNat x2*1) Bd)) fun Gt=>H6 fu call Ai Ak Al Bp Bd Cy (fu) C7 0 E6 Fu Gt ((↑Fu:Int)) 0 (Ai) (Al) (Bp) (Bd) x2 (Ak)))))))))) (Ad C0 prog fu d):=by kernel_rfl
abbrev R0:FuncId:=88
theorem EA (fu d Ai:Nat)(Ak:List PV)(Al:Int)(Bp:Nat)(Bd:List PV)(Cy:Int):Ad C0 prog fu (d+1) R0 [.pbox [.own 3 Ai Ak,.sc (.int .i64 Al),.lst false 1 Bp Bd,.sc (.int .i64 Cy)]]=(fun (call:Af)=>Ar (decide (Ai*3<=Ak.length))<|Aj (call 121 [.pbox [.own 3 Ai (List.take (Ai*3) Ak),.sc (.int .i64 Al),.lst false 1 Bp Bd,.sc (.int .i64 Cy)]]) fun x1 x2=>Ab x1 fun x3 x4=>Ae .i64 x3 fun x5=>Ab x4 fun x6 x7=>Ae .u64 x6 fun x8=>Ab x7 fun x9 C7=>Ae .i64 x9 fun Dm=>Ac C7<|Ab x2 fun Eh E6=>Ab Eh fun D8 Ez=>Gw 3 D8 fun Fu Gt=>Ab Ez fun G7 Gj=>Ae .i64 G7 fun Gx=>Ab Gj fun Ju H3=>Em 1 Ju fun Jd Fn Ev=>Ab H3 fun Hz J3=>Ae .i64 Hz fun Gy=>Ac J3<|Ac E6<|Bk (Dm != 0) (Ar (decide (Fu*3<=Gt.length))<|some (A5.mk [.agg [.sc (.int .i64 0),.sc (.int .u64 0),.sc (.string (ByteArray.mk #[]))],.sc (.int .i64 Dm)] [[.own 3 Fu (List.take (Fu*3) Gt),.sc (.int .i64 Gx),.lst false 1 Fn Ev,.sc (.int .i64 Gy)]])) (Ar (decide (Fu*3<=Gt.length))<|Aj (call 122 [.pbox [.own 3 Fu (List.take (Fu*3) Gt),.sc (.int .i64 Gx)],.sc (.int .i64 x5)]) fun O4 Nu=>Ab O4 fun K7 M4=>Ae .i64 K7 fun Oh=>Ac M4<|Ab Nu fun P1 Py=>Ab P1 fun Q9 Um=>Gw 3 Q9 fun Ii Lq=>Ab Um fun Sr Xv=>Ae .i64 Sr fun Ss=>Ac Xv<|Ac Py<|Bk (Oh != 0) (Ar (decide (Ii*3<=Lq.length))<|some (A5.mk [.agg [.sc (.int .i64 0),.sc (.int .u64 0),.sc (.string (ByteArray.mk #[]))],.sc (.int .i64 Oh)] [[.own 3 Ii (List.take (Ii*3) Lq),.sc (.int .i64 Ss),.lst false 1 Fn Ev,.sc (.int .i64 Gy)]])) (Bk (x5==5) (Bk (decide (x8>512)) (Ar (decide (Ii*3<=Lq.length))<|some (A5.mk [.agg [.sc (.int .i64 0),.sc (.int .u64 0),.sc (.string (ByteArray.mk #[]))],.sc (.int .i64 8)] [[.own 3 Ii (List.take (Ii*3) Lq),.sc (.int .i64 Ss),.lst false 1 Fn Ev,.sc (.int .i64 Gy)]])) (Ar (decide (Ii*3<=Lq.length))<|Aj (call 123 [.pbox [.own 3 Ii (List.take (Ii*3) Lq),.sc (.int .i64 Ss)],.agg [.sc (.int .i64 x5),.sc (.int .u64 x8),.sc (.string (ByteArray.mk #[]))]]) fun Zu Y5=>Ab Zu fun Xw Xe=>Ae .i64 Xw fun Xx=>Ac Xe<|Ab Y5 fun X9 X8=>Ab X9 fun AW Yu=>Gw 3 AW fun X7 BF=>Ab Yu fun DR EL=>Ae .i64 DR fun BO=>Ac EL<|Ac X8<|Bk (Xx != 0) (Ar (decide (X7*3<=BF.length))<|some (A5.mk [.agg [.sc (.int .i64 0),.sc (.int .u64 0),.sc (.string (ByteArray.mk #[]))],.sc (.int .i64 Xx)] [[.own 3 X7 (List.take (X7*3) BF),.sc (.int .i64 BO),.lst false 1 Fn Ev,.sc (.int .i64 Gy)]])) (Ar (decide (X7*3<=BF.length))<|some (A5.mk [.agg [.sc (.int .i64 x5),.sc (.int .u64 x8),.sc (.string (ByteArray.mk #[]))],.sc (.int .i64 0)] [[.own 3 X7 (List.take (X7*3) BF),.sc (.int .i64 BO),.lst false 1 Fn Ev,.sc (.int .i64 Gy)]])))) (Bk (x5==6) (Bk (decide (x8>512)) (Ar (decide (Ii*3<=Lq.length))<|some (A5.mk [.agg [.sc (.int .i64 0),.sc (.int .u64 0),.sc (.string (ByteArray.mk #[]))],.sc (.int .i64 8)] [[.own 3 Ii (List.take (Ii*3) Lq),.sc (.int .i64 Ss),.lst false 1 Fn Ev,.sc (.int .i64 Gy)]])) (Ar (decide (Ii*3<=Lq.length))<|Aj (call 123 [.pbox [.own 3 Ii (List.take (Ii*3) Lq),.sc (.int .i64 Ss)],.agg [.sc (.int .i64 x5),.sc (.int .u64 x8),.sc (.string (ByteArray.mk #[]))]]) fun DV Yy=>Ab DV fun EW AM=>Ae .i64 EW fun BB=>Ac AM<|Ab Yy fun DI BJ=>Ab DI fun Zw Ya=>Gw 3 Zw fun Xg BS=>Ab Ya fun ET CH=>Ae .i64 ET fun CN=>Ac CH<|Ac BJ<|Bk (BB != 0) (Ar (decide (Xg*3<=BS.length))<|some (A5.mk [.agg [.sc (.int .i64 0),.sc (.int .u64 0),.sc (.string (ByteArray.mk #[]))],.sc (.int .i64 BB)] [[.own 3 Xg (List.take (Xg*3) BS),.sc (.int .i64 CN),.lst false 1 Fn Ev,.sc (.int .i64 Gy)]])) (Ar (decide (Xg*3<=BS.length))<|some (A5.mk [.agg [.sc (.int .i64 x5),.sc (.int .u64 x8),.sc (.string (ByteArray.mk #[]))],.sc (.int .i64 0)] [[.own 3 Xg (List.take (Xg*3) BS),.sc (.int .i64 CN),.lst false 1 Fn Ev,.sc (.int .i64 Gy)]])))) (Bk (x5==3) (Bk (decide (x8>1024)) (Ar (decide (Ii*3<=Lq.length))<|some (A5.mk [.agg [.sc (.int .i64 0),.sc (.int .u64 0),.sc (.string (ByteArray.mk #[]))],.sc (.int .i64 8)] [[.own 3 Ii (List.take (Ii*3) Lq),.sc (.int .i64 Ss),.lst false 1 Fn Ev,.sc (.int .i64 Gy)]])) (Aa (wrap .i64 ((↑Fn:Int)-Gy)) fun CF=>Aa (wrap .i64 x8) fun CO=>Bk (decide (CF<CO)) (Ar (decide (Ii*3<=Lq.length))<|some (A5.mk [.agg [.sc (.int .i64 0),.sc (.int .u64 0),.sc (.string (ByteArray.mk #[]))],.sc (.int .i64 1)] [[.own 3 Ii (List.take (Ii*3) Lq),.sc (.int .i64 Ss),.lst false 1 Fn Ev,.sc (.int .i64 Gy)]])) (Aa (wrap .i64 x8) fun FJ=>Aa (wrap .i64 (Gy+FJ)) fun Z9=>Ar (decide (0<=Gy))<|Ar (decide (0<=Z9))<|Ar (decide (Int.toNat Gy<=Int.toNat Z9)&&decide (Int.toNat Z9<=Fn))<|Aa (Int.toNat Z9-Int.toNat Gy) fun HN=>Aa (List.take (HN*1) (List.drop (Int.toNat Gy*1) Ev)) fun LC=>Ar (decide (LC.length=HN))<|F7 (bytesOf LC) fun EG=>Aa (wrap .i64 x8) fun JX=>Aa (wrap .i64 (Gy+JX)) fun OB=>Ar (decide (Ii*3<=Lq.length))<|Aj (call 123 [.pbox [.own 3 Ii (List.take (Ii*3) Lq),.sc (.int .i64 Ss)],.agg [.sc (.int .i64 x5),.sc (.int .u64 0),.sc (.string (ByteArray.mk (List.toArray EG)))]]) fun NB NK=>Ab NB fun QN ZP=>Ae .i64 QN fun UB=>Ac ZP<|Ab NK fun x85 VR=>Ab x85 fun VO UM=>Gw 3 VO fun MA YS=>Ab UM fun UP x92=>Ae .i64 UP fun x93=>Ac x92<|Ac VR<|Bk (UB != 0) (Ar (decide (MA*3<=YS.length))<|some (A5.mk [.agg [.sc (.int .i64 0),.sc (.int .u64 0),.sc (.string (ByteArray.mk #[]))],.sc (.int .i64 UB)] [[.own 3 MA (List.take (MA*3) YS),.sc (.int .i64 x93),.lst false 1 Fn Ev,.sc (.int .i64 OB)]])) (Ar (decide (MA*3<=YS.length))<|some (A5.mk [.agg [.sc (.int .i64 x5),.sc (.int .u64 0),.sc (.string (ByteArray.mk (List.toArray EG)))],.sc (.int .i64 0)] [[.own 3 MA (List.take (MA*3) YS),.sc (.int .i64 x93),.lst false 1 Fn Ev,.sc (.int .i64 OB)]]))))) (Bk (x5==4) (Bk (decide (x8>1024)) (Ar (decide (Ii*3<=Lq.length))<|some (A5.mk [.agg [.sc (.int .i64 0),.sc (.int .u64 0),.sc (.string (ByteArray.mk #[]))],.sc (.int .i64 8)] [[.own 3 Ii (List.take (Ii*3) Lq),.sc (.int .i64 Ss),.lst false 1 Fn Ev,.sc (.int .i64 Gy)]])) (Aa (wrap .i64 ((↑Fn:Int)-Gy)) fun x94=>Aa (wrap .i64 x8) fun x95=>Bk (decide (x94<x95)) (Ar (decide (Ii*3<=Lq.length))<|some (A5.mk [.agg [.sc (.int .i64 0),.sc (.int .u64 0),.sc (.string (ByteArray.mk #[]))],.sc (.int .i64 1)] [[.own 3 Ii (List.take (Ii*3) Lq),.sc (.int .i64 Ss),.lst false 1 Fn Ev,.sc (.int .i64 Gy)]])) (Aa (wrap .i64 x8) fun x96=>Aa (wrap .i64 (Gy+x96)) fun UA=>Ar (decide (0<=Gy))<|Ar (decide (0<=UA))<|Ar (decide (Int.toNat Gy<=Int.toNat UA)&&decide (Int.toNat UA<=Fn))<|Aa (Int.toNat UA-Int.toNat Gy) fun OQ=>Aa (List.take (OQ*1) (List.drop (Int.toNat Gy*1) Ev)) fun x99=>Ar (decide (x99.length=OQ))<|F7 (bytesOf x99) fun V2=>Aa (wrap .i64 x8) fun Xs=>Aa (wrap .i64 (Gy+Xs)) fun Jh=>Ar (decide (Ii*3<=Lq.length))<|Aj (call 123 [.pbox [.own 3 Ii (List.take (Ii*3) Lq),.sc (.int .i64 Ss)],.agg [.sc (.int .i64 x5),.sc (.int .u64 0),.sc (.string (ByteArray.mk (List.toArray V2)))]]) fun Mx X1=>Ab Mx fun Uy Vq=>Ae .i64 Uy fun Pa=>Ac Vq<|Ab X1 fun DK HC=>Ab DK fun JS ID=>Gw 3 JS fun Lf P5=>Ab ID fun NW IX=>Ae .i64 NW fun GQ=>Ac IX<|Ac HC<|Bk (Pa != 0) (Ar (decide (Lf*3<=P5.length))<|some (A5.mk [.agg [.sc (.int .i64 0),.sc (.int .u64 0),.sc (.string (ByteArray.mk #[]))],.sc (.int .i64 Pa)] [[.own 3 Lf (List.take (Lf*3) P5),.sc (.int .i64 GQ),.lst false 1 Fn Ev,.sc (.int .i64 Jh)]])) (Ar (decide (Lf*3<=P5.length))<|some (A5.mk [.agg [.sc (.int .i64 x5),.sc (.int .u64 0),.sc (.string (ByteArray.mk (List.toArray V2)))],.sc (.int .i64 0)] [[.own 3 Lf (List.take (Lf*3) P5),.sc (.int .i64 GQ),.lst false 1 Fn Ev,.sc (.int .i64 Jh)]]))))) (Ar (decide (Ii*3<=Lq.length))<|Aj (call 123 [.pbox [.own 3 Ii (List.take (Ii*3) Lq),.sc (.int .i64 Ss)],.agg [.sc (.int .i64 x5),.sc (.int .u64 x8),.sc (.string (ByteArray.mk #[]))]]) fun MY KJ=>Ab MY fun JN MT=>Ae .i64 JN fun JO=>Ac MT<|Ab KJ fun GJ KH=>Ab GJ fun JG IQ=>Gw 3 JG fun Xu EC=>Ab IQ fun OD NF=>Ae .i64 OD fun Zi=>Ac NF<|Ac KH<|Bk (JO != 0) (Ar (decide (Xu*3<=EC.length))<|some (A5.mk [.agg [.sc (.int .i64 0),.sc (.int .u64 0),.sc (.string (ByteArray.mk #[]))],.sc (.int .i64 JO)] [[.own 3 Xu (List.take (Xu*3) EC),.sc (.int .i64 Zi),.lst false 1 Fn Ev,.sc (.int .i64 Gy)]])) (Ar (decide (Xu*3<=EC.length))<|some (A5.mk [.agg [.sc (.int .i64 x5),.sc (.int .u64 x8),.sc (.string (ByteArray.mk #[]))],.sc (.int .i64 0)] [[.own 3 Xu (List.take (Xu*3) EC),.sc (.int .i64 Zi),.lst false 1 Fn Ev,.sc (.int .i64 Gy)]]))))))))) (Ad C0 prog fu d):=by kernel_rfl
abbrev CI:FuncId:=47
noncomputable def Na (fu:Nat)(call:Af)(Be:Nat)(a0:List PV)(nn y0:Nat)(y1:List PV)(y2:Nat)(y3:Int)(y4:Nat)(y5:List PV)(y6:Int)(y7:List PV):Option A5:=Dh CB prog fu call 47 Tryz.f47 (B7 Tryz.f47) [.lst false 1 Be a0] [.r,.r,.l,.l] nn ⟨lk [(2,(.view 2 3 0 y0)),(5,(.ptr 5 0))],Bu [(2,(.ar false y1)),(5,(.st [(.view 32 3 0 y2),(.sc (.int .i64 y3)),(.lst false 1 y4 y5),(.sc (.int .i64 y6))])),(32,(.ar false y7))]⟩
theorem JW (fu:Nat)(call:Af)(Be:Nat)(a0:List PV)(nn y0:Nat)(y1:List PV)(y2:Nat)(y3:Int)(y4:Nat)(y5:List PV)(y6:Int)(y7:List PV):Na fu call Be a0 (nn+1) y0 y1 y2 y3 y4 y5 y6 y7=(Ar (decide (y2*3<=y7.length))<|Aj (call 87 [.pbox [.own 3 y2 (List.take (y2*3) y7),.sc (.int .i64 y3)]]) fun x1 x2=>Ab x1 fun x3 x4=>Bv x3 fun x5=>Ac x4<|Ab x2 fun x6 x7=>Ab x6 fun x8 x9=>Gw 3 x8 fun C7 Dm=>Ab x9 fun Eh E6=>Ae .i64 Eh fun D8=>Ac E6<|Ac x7<|Bk (!x5) (Ar (decide (C7*3<=Dm.length))<|Aj (call 88 [.pbox [.own 3 C7 (List.take (C7*3) Dm),.sc (.int .i64 D8),.lst false 1 y4 y5,.sc (.int .i64 y6)]]) fun Ez Fu=>Ab Ez fun Gt G7=>Ft Gt fun Gj=>Ab Gj fun Gx Ju=>Ae .i64 Gx fun H3=>Ab Ju fun Jd Fn=>Ae .u64 Jd fun Ev=>Ab Fn fun Hz J3=>Iv Hz fun Gy=>Ac J3<|Ab G7 fun O4 Nu=>Ae .i64 O4 fun K7=>Ac Nu<|Ab Fu fun M4 Oh=>Ab M4 fun P1 Py=>Gw 3 P1 fun Q9 Um=>Ab Py fun Ii Lq=>Ae .i64 Ii fun Sr=>Ab Lq fun Xv Ss=>Em 1 Xv fun Zu Y5 Xw=>Ab Ss fun Xe Xx=>Ae .i64 Xe fun X9=>Ac Xx<|Ac Oh<|Bk (K7 != 0) (some (A5.mk [.own 3 0 [],.sc (.int .i64 0),.sc (.int .i64 K7)] [])) (Ar (decide (y0*3<=y1.length)&&true&&decide ((y0+1)*32<=1099511627776)&&decide (y0+1<=1099511627776))<|Aa (y0+1) fun X8=>Aa (List.take (y0*3) y1++[.sc (.int .i64 H3),.sc (.int .u64 Ev),.sc (.string Gy)]) fun AW=>Na fu call Be a0 (nn) X8 AW Q9 Sr Y5 Xw X9 Um)) (Ar (decide (y0*3<=y1.length))<|some (A5.mk [.own 3 y0 (List.take (y0*3) y1),.sc (.int .i64 y6),.sc (.int .i64 0)] []))):=by kernel_rfl
theorem VA (fu d Be:Nat)(a0:List PV):Ad C0 prog fu (d+1) CI [.lst false 1 Be a0]=(fun (call:Af)=>Na fu call Be a0 (fu) 0 ([]) 0 0 (Be) (a0) 0 ([])) (Ad C0 prog fu d):=by kernel_rfl
end
section
open Go.Proofs.Tryz (prog)
open Go.IntKind (wrap)
structure Hd where
 k:Int
 n:Int
 e:Int
 at_:Nat
def Sh (n:Int):Int:=if n<24 then 0 else if n<256 then 1 else if n<65536 then 2 else if n<4294967296 then 4 else 8
def szE (low:Int):Nat:=if low=24 then 1 else if low=25 then 2 else if low=26 then 4 else 8
def Xk (b:List Int)(at_:Nat)(x:Int):Hd:=
 if x=244 then ⟨7,0,0,at_+1⟩ else if x=245 then ⟨7,1,0,at_+1⟩ else if x=246 then ⟨8,0,0,at_+1⟩
 else if x / 32>5 then ⟨0,0,2,at_+1⟩ else if x % 32>27 then ⟨0,0,2,at_+1⟩
 else if x % 32<24 then ⟨1+x / 32,x % 32,0,at_+1⟩
 else if b.length-(at_+1)<szE (x % 32) then ⟨0,0,1,at_+1⟩
 else if Sh (QG ((b.drop (at_+1)).take (szE (x % 32))))<szE (x % 32) then ⟨0,0,2,at_+1+szE (x % 32)⟩
 else ⟨1+x / 32,QG ((b.drop (at_+1)).take (szE (x % 32))),0,at_+1+szE (x % 32)⟩
def Hu (b:List Int)(at_:Nat):Hd:=match b[at_]? with|none=>⟨0,0,1,at_⟩|some x=>Xk b at_ x
theorem A6z {x:Int}(h:0<=x):Is .u8 x 5=x / 32:=by
 unfold Is;show x.fdiv (2 ^ (min (5:Int).toNat IntKind.u8.bits))=_;have h2:(2:Int) ^ (min (5:Int).toNat IntKind.u8.bits)=32:=by decide
 rw[h2,Int.fdiv_eq_ediv_of_nonneg _ (by omega)]
theorem A3j {x:Int}(h0:0<=x)(h1:x<=255):X3 .u8 x 31=x % 32:=by
 obtain⟨n,rfl⟩:=Int.eq_ofNat_of_zero_le h0;have hn:n<256:=by omega
 have e1:(BitVec.ofInt 8 (n:Int)).toNat=n:=by
  rw[BitVec.toNat_ofInt];omega
 have e2:(BitVec.ofInt 8 (31:Int)).toNat=2 ^ 5-1:=by decide
 unfold X3;show wrap .u8 ((BitVec.ofInt 8 (n:Int) &&& BitVec.ofInt 8 (31:Int)).toNat:Int)=_;rw[BitVec.toNat_and,e1,e2,Nat.and_two_pow_sub_one_eq_mod,Lu (by omega) (by omega)]
 omega
abbrev Amm (l:List Hj)(cnt:Int)(b:List Int)(at_:Nat):List PV:=[.own 3 l.length (F6 l),.sc (.int .i64 cnt),.lst false 1 b.length (Ah .u8 b),.sc (.int .i64 at_)]
section
variable {fu d:Nat}
theorem Arx (n:Int):Ad C0 prog fu (d+1) GN [.sc (.int .u64 n)]=some ⟨[.sc (.int .i64 (Sh n))],[]⟩:=by
 rw[YY];unfold Sh
 try unfold Aa
 repeat' first
  |((with_reducible first|apply Av|apply Ao|apply At|apply Am);· first|with_reducible rfl|(simp (disch:=first|with_reducible assumption|omega) only[C5,Bn]<;>with_reducible rfl))
  |((with_reducible first|apply Au|apply Aw);· first|with_reducible rfl|with_reducible assumption|omega|(simp (disch:=first|with_reducible assumption|omega) only[gT,C5,Bn]<;>omega))
  |(with_reducible apply As;· first|with_reducible rfl|with_reducible assumption|(simp (disch:=first|with_reducible assumption|omega) only[gF,C5,Bn]<;>omega))
  |(with_reducible refine Aog ?_ ?_<;>intro hb<;>try simp only[decide_eq_true_eq,decide_eq_false_iff_not,beq_iff_eq,beq_eq_false_iff_ne,bne_iff_ne,bne_eq_false_iff_eq,ne_eq,Bool.not_eq_true',Bool.not_eq_false',Bool.not_eq_true,Bool.not_eq_false] at hb)
  |(with_reducible refine ZC ?_ ?_)
 all_goals try simp (disch:=first|with_reducible assumption|omega) only[C5,Bn]
theorem PP {Be Ld:Nat}{a0 a2:List PV}{a1 a3 k cnt:Int}{l:List Hj}{b:List Int}{off sz:Nat}{q:List Int}(hq:q.length=sz)(hb:b.length<=1000000)(ho:off+sz<=b.length):∀(r:List Int)(i nn:Nat)(v:Int),q.drop i=r->r.length<nn->i<=sz ->
    H6 fu (Ad C0 prog fu (d+1)) Be a0 a1 Ld a2 a3 nn k v (sz:Int) sz (Ah .u8 q) (sz:Int) (i:Int) l.length cnt b.length (Ah .u8 b) (off:Int) (F6 l) =
      (if Sh (r.foldl Gu v)<sz then some ⟨[.sc (.int .i64 0),.sc (.int .u64 0),.sc (.int .i64 2)],[Amm l cnt b (off+sz)]⟩
       else some ⟨[.sc (.int .i64 k),.sc (.int .u64 (r.foldl Gu v)),.sc (.int .i64 0)],[Amm l cnt b (off+sz)]⟩)
  |_,_,0,_,_,h,_=>by omega
  |[],i,nn+1,v,hd,hn,hi=>by
    have:=drop_nil hd
    have sh:=Arx (fu:=fu) (d:=d) v
    have L:=Du l
    have t:=D5 l
    have w:wrap .i64 ((off:Int)+(sz:Int))=((off+sz:Nat):Int):=by rw[Ap (by omega) (by omega)];omega
    rw[Oc,Ej _ _ _ (by omega),List.foldl_nil]
    by_cases hs:Sh v<sz
    · rw[C5 hs]
      simp (disch:=omega) only[Cu,w,sh,L,t,Dc]
    · rw[Bn hs]
      simp (disch:=omega) only[Cu,w,sh,L,t,Dc]
  |x::r,i,nn+1,v,hd,hn,hi=>by
    obtain⟨h1,h2,h3⟩:=D1 hd
    simp only[Ik] at hn
    have g0:=EU (k:=.u8) h2
    have w:wrap .i64 ((i:Int)+1)=((i+1:Nat):Int):=by rw[Ap (by omega) (by omega)];omega
    have ih:=PP (Be:=Be) (Ld:=Ld) (a0:=a0) (a2:=a2) (a1:=a1) (a3:=a3) (k:=k) (cnt:=cnt) (l:=l) hq hb ho r (i+1) nn (Gu v x) h3 (by omega) (by omega)
    rw[List.foldl_cons,←ih,Oc]
    simp (disch:=omega) only[Cu,Kz,Dc,g0,w]
theorem Ar8 {l:List Hj}{cnt:Int}{b:List Int}{at_:Nat}(Ca:1000<=fu)(hb:Li b)(hl:b.length<=1000000):
  Ad C0 prog fu (d+2) R7 [.pbox (Amm l cnt b at_)]=some ⟨[.sc (.int .i64 (Hu b at_).k),.sc (.int .u64 (Hu b at_).n),.sc (.int .i64 (Hu b at_).e)],[Amm l cnt b (Hu b at_).at_]⟩:=by
 refine (ES fu (d+1) l.length (F6 l) cnt b.length (Ah .u8 b) (at_:Int)).trans ?_;have L:=Du l;have t:=D5 l;have Lb:=Ay .u8 b;have tb:=Mt .u8 b;unfold Hu;by_cases Cc:at_<b.length
 rotate_left
 ·have hg:b[at_]?=none:=List.getElem?_eq_none (by omega)
  rw[hg];simp (disch:=omega) only[Cu,L,t,Lb,tb,Dc]
 have hg:b[at_]?=some b[at_]:=List.getElem?_eq_getElem Cc;have hB:=hb _ (List.getElem_mem Cc);rw[hg];generalize b[at_]=x at hg hB;have g0:=EU (k:=.u8) hg;have w1:wrap .i64 ((at_:Int)+1)=((at_+1:Nat):Int):=by rw[Ap (by omega) (by omega)];omega
 have s5:=A6z hB.1;have a31:=A3j hB.1 hB.2;unfold Xk;simp only;by_cases c1:x=244
 ·subst c1;have q:wrap .u64 (wrap .u8 ((244:Int)-244))=0:=by decide
  simp (disch:=omega) only[Cu,Kz,Ch,Dc,g0,Int.reduceBEq,w1,L,t,Lb,tb,q]
 rw[Bn c1];have b1:(x==(244:Int))=false:=by simp[c1]
 by_cases c2:x=245
 ·subst c2;have q:wrap .u64 (wrap .u8 ((245:Int)-244))=1:=by decide
  simp (disch:=omega) only[Cu,Kz,Ch,Dc,g0,Int.reduceBEq,w1,L,t,Lb,tb,q,if_true]
 rw[Bn c2];have b2:(x==(245:Int))=false:=by simp[c2]
 by_cases c3:x=246
 ·subst c3;simp (disch:=omega) only[Cu,Kz,Ch,Dc,g0,Int.reduceBEq,w1,L,t,Lb,tb,if_true]
 rw[Bn c3];have b3:(x==(246:Int))=false:=by simp[c3]
 by_cases c4:x / 32>5
 ·rw[C5 c4];simp (disch:=omega) only[Cu,Kz,Ch,Dc,g0,b1,b2,b3,s5,a31,w1,L,t,Lb,tb]
 rw[Bn c4];by_cases c5:x % 32>27
 ·rw[C5 c5];simp (disch:=omega) only[Cu,Kz,Ch,Dc,g0,b1,b2,b3,s5,a31,w1,L,t,Lb,tb]
 rw[Bn c5];have wk1:wrap .i64 (x / 32)=x / 32:=Ap (by omega) (by omega)
 have wk2:wrap .i64 (1+x / 32)=1+x / 32:=Ap (by omega) (by omega)
 by_cases c6:x % 32<24
 ·have wn:wrap .u64 (x % 32)=x % 32:=D7 (by omega) (by omega)
  rw[C5 c6];simp (disch:=omega) only[Cu,Kz,Ch,Dc,g0,b1,b2,b3,s5,a31,w1,wk1,wk2,wn,L,t,Lb,tb]
 rw[Bn c6];have q1:wrap .u8 (x % 32-24)=x % 32-24:=Lu (by omega) (by omega)
 have q2:J0 .i64 1 (x % 32-24)=(szE (x % 32):Int):=by
  have:x % 32=24∨x % 32=25∨x % 32=26∨x % 32=27:=by omega
  rcases this with h|h|h|h<;>rw[h]<;>decide
 have q3:szE (x % 32)<=8:=by
  unfold szE
  repeat' split
  all_goals omega
 generalize szE (x % 32)=sz at q2 q3 ⊢;have q4:wrap .i64 ((b.length:Int)-((at_+1:Nat):Int))=((b.length-(at_+1):Nat):Int):=by rw[Ap (by omega) (by omega)];omega
 by_cases c7:b.length-(at_+1)<sz
 ·rw[C5 c7];simp (disch:=omega) only[Cu,Kz,Ch,Dc,g0,b1,b2,b3,s5,a31,w1,wk1,wk2,q1,q2,q4,L,t,Lb,tb]
 rw[Bn c7];have q5:wrap .i64 (((at_+1:Nat):Int)+(sz:Int))=((at_+1+sz:Nat):Int):=by rw[Ap (by omega) (by omega)];omega
 have q6:at_+1+sz-(at_+1)=sz:=by omega
 have lp:=PP (fu:=fu) (d:=d) (Be:=l.length) (Ld:=b.length) (a0:=F6 l) (a2:=Ah .u8 b) (a1:=cnt) (a3:=(at_:Int)) (k:=1+x / 32) (cnt:=cnt) (l:=l) (b:=b) (off:=at_+1) (sz:=sz) (q:=(b.drop (at_+1)).take sz) (by rw[List.length_take,List.length_drop];omega) hl (by omega) _ 0 fu 0 rfl (by rw[C8,List.length_take];omega) (by omega)
 rw[C8] at lp;have lp':=lp;unfold QG;by_cases c8:Sh (((b.drop (at_+1)).take sz).foldl Gu 0)<sz
 ·rw[C5 c8] at lp' ⊢;simp (disch:=omega) only[Cu,Kz,Ch,Dc,g0,b1,b2,b3,s5,a31,w1,wk1,wk2,q1,q2,q4,q5,q6,Km,Re,L,t,Lb,tb];exact lp'
 ·rw[Bn c8] at lp' ⊢;simp (disch:=omega) only[Cu,Kz,Ch,Dc,g0,b1,b2,b3,s5,a31,w1,wk1,wk2,q1,q2,q4,q5,q6,Km,Re,L,t,Lb,tb];exact lp'
end
end
section
open Go.Proofs.Tryz (prog)
open Go.IntKind (wrap)
structure Rd where
 x:It
 e:Int
 l:List Hj
 cnt:Int
 at_:Nat
def it0:It:=⟨0,0,⟨#[]⟩⟩
def Xo (l:List Hj)(cnt:Int)(x:It)(at_:Nat):Rd:=if (Et l x).1=0 then ⟨x,0,(Et l x).2,cnt+1,at_⟩ else ⟨it0,(Et l x).1,(Et l x).2,cnt,at_⟩
def ZX (l:List Hj)(cnt:Int)(b:List Int)(h:Hd):Rd:=
 if h.e≠0 then ⟨it0,h.e,l,cnt,h.at_⟩
 else if M6 l cnt h.k≠0 then ⟨it0,M6 l cnt h.k,l,cnt,h.at_⟩
 else if h.k=5∨h.k=6 then (if h.n>512 then ⟨it0,8,l,cnt,h.at_⟩ else Xo l cnt ⟨h.k,h.n,⟨#[]⟩⟩ h.at_)
 else if h.k=3∨h.k=4 then (if h.n>1024 then ⟨it0,8,l,cnt,h.at_⟩ else if b.length-h.at_<h.n.toNat then ⟨it0,1,l,cnt,h.at_⟩
  else Xo l cnt ⟨h.k,0,Dv ((b.drop h.at_).take h.n.toNat)⟩ (h.at_+h.n.toNat))
 else Xo l cnt ⟨h.k,h.n,⟨#[]⟩⟩ h.at_
def Gm (l:List Hj)(cnt:Int)(b:List Int)(at_:Nat):Rd:=ZX l cnt b (Hu b at_)
theorem MP (a b:Int):0<=Gu a b∧Gu a b<=18446744073709551615:=Kh _
theorem Y6:∀(l:List Int)(v:Int),0<=v->v<=18446744073709551615->0<=l.foldl Gu v∧l.foldl Gu v<=18446744073709551615
 |[],v,h0,h1=>⟨h0,h1⟩
 |x::l,v,h0,h1=>Y6 l _ (MP v x).1 (MP v x).2
theorem XO {b:List Int}{at_:Nat}(hb:Li b)(ha:at_<=b.length):(Hu b at_).at_<=b.length∧((Hu b at_).e=0->1<=(Hu b at_).k∧(Hu b at_).k<=8∧0<=(Hu b at_).n∧(Hu b at_).n<=18446744073709551615∧at_<(Hu b at_).at_):=by
 unfold Hu;by_cases Cc:at_<b.length
 rotate_left
 ·have hg:b[at_]?=none:=List.getElem?_eq_none (by omega)
  rw[hg];exact⟨ha,fun h=>by simp at h⟩
 have hg:b[at_]?=some b[at_]:=List.getElem?_eq_getElem Cc;have hB:=hb _ (List.getElem_mem Cc);rw[hg];generalize b[at_]=x at hB;have hd:=Y6 ((b.drop (at_+1)).take (szE (x % 32))) 0 (by omega) (by omega)
 show (Xk b at_ x).at_<=b.length∧_;simp only[Xk];unfold QG
 repeat' split
 all_goals refine⟨by simp only;omega,fun h=>?_⟩
 all_goals first
  |(simp at h;done)
  |(simp only;omega)
section
variable {fu d:Nat}
theorem Aqv {l:List Hj}{cnt:Int}{b:List Int}{at_:Nat}(Ca:1000<=fu)(hb:Li b)(hl:b.length<=1000000)(ha:at_<=b.length)(hf:l.length<=900)(h0:0<=cnt)(h1:cnt<=1000000):
  Ad C0 prog fu (d+4) R0 [.pbox (Amm l cnt b at_)]=some ⟨[.agg (Gm l cnt b at_).x.cells,.sc (.int .i64 (Gm l cnt b at_).e)],[Amm (Gm l cnt b at_).l (Gm l cnt b at_).cnt b (Gm l cnt b at_).at_]⟩:=by
 refine (EA fu (d+3) l.length (F6 l) cnt b.length (Ah .u8 b) (at_:Int)).trans ?_;have hd:=Ar8 (fu:=fu) (d:=d+1) (l:=l) (cnt:=cnt) (at_:=at_) Ca hb hl;have hk:=XO hb ha;unfold Gm;generalize Hu b at_=h at hd hk ⊢;obtain⟨k,n,e,a⟩:=h;obtain⟨ka,hk⟩:=hk;simp only at hd ka hk;have L:=Du l;have t:=D5 l;have ad:=Adq (fu:=fu) (d:=d+1) (l:=l) (by omega) cnt k
 unfold Nw at ad;unfold ZX;by_cases he:e=0
 rotate_left
 ·simp only[ne_eq,he,not_false_eq_true,if_true];have Rc:(e != 0)=true:=by simp[he]
  try unfold Aa
  repeat first
   |((with_reducible first|apply Av|apply Ao|apply At|apply Bo|apply Bg|apply He|apply Am|apply Au|apply Aw);· first|with_reducible rfl|(simp (disch:=omega) only[gT,hd,Rc,L,t]<;>first|with_reducible rfl|omega)|omega)
   |(with_reducible apply As;· first|with_reducible rfl|(simp (disch:=omega) only[gF,hd,Rc,L,t]<;>omega))
  try simp (disch:=omega) only[hd,Rc,L,t]
  all_goals rfl
 subst he;obtain⟨k1,k8,n0,n1,_⟩:=hk rfl;obtain⟨m,rfl⟩:=Int.eq_ofNat_of_zero_le n0;have e00:((0:Int) != 0)=false:=rfl;simp only[ne_eq,not_true_eq_false,if_false];by_cases hm:M6 l cnt k=0
 rotate_left
 ·simp only[hm,not_false_eq_true,if_true];have Rc:(M6 l cnt k != 0)=true:=by simp[hm]
  try unfold Aa
  repeat first
   |((with_reducible first|apply Av|apply Ao|apply At|apply Bo|apply Bg|apply He|apply Am|apply Au|apply Aw);· first|with_reducible rfl|(simp (disch:=omega) only[gT,hd,e00,ad,Rc,L,t]<;>first|with_reducible rfl|omega)|omega)
   |(with_reducible apply As;· first|with_reducible rfl|(simp (disch:=omega) only[gF,hd,e00,ad,Rc,L,t]<;>omega))
  try simp (disch:=omega) only[hd,e00,ad,Rc,L,t]
  all_goals rfl
 rw[hm] at ad ⊢;simp only[not_true_eq_false,if_false,Kz];have ac1:=WI (fu:=fu) (d:=d) (l:=l) (x:=⟨k,m,⟨#[]⟩⟩) (cnt:=cnt) Ca (by omega) h0 h1 ⟨k1,k8,n0,Nat.zero_le _⟩ (Nat.zero_le _)
 have LA:=Du (Et l ⟨k,m,⟨#[]⟩⟩).2;have tA:=D5 (Et l ⟨k,m,⟨#[]⟩⟩).2;have B:=fun (hn:m<=1024)=>WI (fu:=fu) (d:=d) (l:=l) (x:=⟨k,0,Dv ((b.drop a).take m)⟩) (cnt:=cnt) Ca (by omega) h0 h1 ⟨k1,k8,by simp,by rw[Q2,List.length_take];omega⟩ (by rw[Q2,List.length_take];omega)
 have LB:=Du (Et l ⟨k,0,Dv ((b.drop a).take m)⟩).2;have tB:=D5 (Et l ⟨k,0,Dv ((b.drop a).take m)⟩).2;unfold Xo;generalize Et l ⟨k,m,⟨#[]⟩⟩=A at *
 obtain⟨A1,A2⟩:=A;have eB:ByteArray.mk (List.toArray (((b.drop a).take m).map fun n=>n.toNat.toUInt8))=Dv ((b.drop a).take m):=rfl
 have bo:=J4 ((b.drop a).take m);have tk:List.take m (List.drop a (Ah .u8 b))=Ah .u8 ((b.drop a).take m):=by rw[Km,Re]
 have lq:(Ah .u8 ((b.drop a).take m)).length=min m (b.length-a):=by rw[Ay,List.length_take,List.length_drop]
 have Lb:=Ay .u8 b;generalize Dv ((b.drop a).take m)=S at *
 generalize Et l ⟨k,0,S⟩=B' at *
 obtain⟨B1,B2⟩:=B';generalize (b.drop a).take m=q at *
 unfold Nw It.cells at ac1 B;simp only at ac1 B LA tA LB tB;have w1:wrap .i64 ((b.length:Int)-(a:Int))=((b.length-a:Nat):Int):=by rw[Ap (by omega) (by omega)];omega
 have w2:m<=1024->wrap .i64 (m:Int)=m:=fun h=>Ap (by omega) (by omega)
 have w3:m<=1024->wrap .i64 ((a:Int)+(m:Int))=((a+m:Nat):Int):=fun h=>by rw[Ap (by omega) (by omega)];omega
 have w4:a+m-a=m:=by omega
 try unfold Aa
 repeat' first
  |((with_reducible first|apply Av|apply Ao|apply At|apply Bo|apply Bg|apply He|apply Am);· first|with_reducible rfl|(simp (disch:=first|with_reducible assumption|omega) only[hd,e00,ad,L,t,ac1,LA,tA,B,LB,tB,w1,w2,w3,w4,tk,bo,lq,eB,Kz,Dc,Ch]<;>with_reducible rfl))
  |((with_reducible first|apply Au|apply Aw);· first|with_reducible rfl|with_reducible assumption|omega|(simp (disch:=first|with_reducible assumption|omega) only[gT,hd,e00,ad,L,t,ac1,LA,tA,B,LB,tB,w1,w2,w3,w4,tk,bo,lq,eB,Kz,Dc,Ch]<;>omega))
  |(with_reducible apply As;· first|with_reducible rfl|with_reducible assumption|(simp (disch:=first|with_reducible assumption|omega) only[gF,hd,e00,ad,L,t,ac1,LA,tA,B,LB,tB,w1,w2,w3,w4,tk,bo,lq,eB,Kz,Dc,Ch]<;>omega))
  |(with_reducible refine Aog ?_ ?_<;>intro hb<;>try simp only[decide_eq_true_eq,decide_eq_false_iff_not,beq_iff_eq,beq_eq_false_iff_ne,bne_iff_ne,bne_eq_false_iff_eq,ne_eq,Bool.not_eq_true',Bool.not_eq_false',Bool.not_eq_true,Bool.not_eq_false] at hb)
  |(with_reducible refine ZC ?_ ?_)
 all_goals try simp (disch:=first|with_reducible assumption|omega) only[hd,e00,ad,L,t,ac1,LA,tA,B,LB,tB,w1,w2,w3,w4,tk,bo,lq,eB,Kz,Dc,Ch,C5,Bn]
 all_goals rfl
end
end
section
open Go.Proofs.Tryz (prog)
open Go.IntKind (wrap)
def RO (l:List Hj)(cnt:Int):Bool:=decide (cnt>0)&&((l.length:Int)==0)
def Jq:Nat->List Hj->Int->List Int->Nat->List It->List It × Nat × Int
 |0,_,_,_,_,_=>([],0,2)
 |m+1,l,cnt,b,at_,its=>if RO l cnt=true then (its,at_,0) else
  if (Gm l cnt b at_).e≠0 then ([],0,(Gm l cnt b at_).e) else Jq m (Gm l cnt b at_).l (Gm l cnt b at_).cnt b (Gm l cnt b at_).at_ (its++[(Gm l cnt b at_).x])
def Agc (r:List It × Nat × Int):List PV:=[.own 3 r.1.length (Bi r.1),.sc (.int .i64 r.2.1),.sc (.int .i64 r.2.2)]
theorem Aqa (l:List Hj):(GT l).length<=l.length:=by
 unfold GT;rw[List.length_reverse];have:=(List.dropWhile_sublist (l:=l.reverse) fun f=>f.left==0).length_le
 rw[List.length_reverse] at this;exact this
theorem YT (l:List Hj)(x:It):(G2 l x).length<=l.length+1:=by
 unfold G2;refine Nat.le_trans (Aqa _) ?_;have:=DY l;unfold QI
 repeat' split
 all_goals simp
 all_goals omega
theorem Ah8 (l:List Hj)(k:List Int):(Mb l k).length=l.length:=by
 rcases Ke l with rfl|⟨l',f,rfl⟩
 ·rfl
 ·rw[Pg];simp
theorem Ad2 (l:List Hj)(x:It):(Et l x).2.length<=l.length+1:=by
 unfold Et;have h1:=YT l x;have h2:=YT (Mb l (Ds x)) x;rw[Ah8] at h2
 repeat' split
 all_goals simp only
 all_goals omega
structure OkX (x:It):Prop where
 k1:1<=x.k
 k8:x.k<=8
 n0:0<=x.n
 n1:x.n<=18446744073709551615
 s1:x.s.size<=1024
theorem Aql {l:List Hj}{cnt k:Int}(h:M6 l cnt k=0):cnt<512∧l.length<=8:=by
 unfold M6 at h
 repeat' split at h
 all_goals first
  |(cases h;done)
  |omega
theorem PW {l:List Hj}{cnt:Int}{x:It}{at_:Nat}(hx:OkX x)(h:(Xo l cnt x at_).e=0):(Xo l cnt x at_).cnt=cnt+1∧(Xo l cnt x at_).l.length<=l.length+1∧(Xo l cnt x at_).at_=at_∧OkX (Xo l cnt x at_).x:=by
 have:=Ad2 l x;unfold Xo at h ⊢;by_cases hz:(Et l x).1=0
 ·rw[C5 hz];exact⟨rfl,this,rfl,hx⟩
 ·rw[Bn hz] at h;exact absurd h hz
theorem IL {l:List Hj}{cnt:Int}{b:List Int}{at_:Nat}(hb:Li b)(ha:at_<=b.length)(h:(Gm l cnt b at_).e=0):
  cnt<512∧(Gm l cnt b at_).cnt=cnt+1∧(Gm l cnt b at_).l.length<=9∧at_<(Gm l cnt b at_).at_∧(Gm l cnt b at_).at_<=b.length∧OkX (Gm l cnt b at_).x:=by
 have hk:=XO hb ha;unfold Gm at h ⊢;generalize Hu b at_=q at h hk ⊢;obtain⟨k,n,e,a⟩:=q;obtain⟨ka,hk⟩:=hk;unfold ZX at h ⊢;simp only at h hk ka ⊢;by_cases he:e=0
 rotate_left
 ·rw[C5 he] at h;exact absurd h he
 subst he;obtain⟨k1,k8,n0,n1,Cc⟩:=hk rfl;rw[Bn (by simp)] at h ⊢
 by_cases hm:M6 l cnt k=0
 rotate_left
 ·rw[C5 hm] at h;exact absurd h hm
 obtain⟨c1,c2⟩:=Aql hm;rw[Bn (by simp[hm])] at h ⊢
 have z:(ByteArray.mk #[]).size<=1024:=Nat.zero_le _;by_cases h56:k=5∨k=6
 ·rw[C5 h56] at h ⊢;by_cases hn:n>512
  ·rw[C5 hn] at h;exact absurd h (by simp)
  ·rw[Bn hn] at h ⊢;obtain⟨p1,p2,p3,p4⟩:=PW ⟨k1,k8,n0,n1,z⟩ h;exact⟨c1,p1,by omega,by omega,by omega,p4⟩
 ·rw[Bn h56] at h ⊢;by_cases h34:k=3∨k=4
  ·rw[C5 h34] at h ⊢;by_cases hn:n>1024
   ·rw[C5 hn] at h;exact absurd h (by simp)
   ·rw[Bn hn] at h ⊢;by_cases hr:b.length-a<n.toNat
    ·rw[C5 hr] at h;exact absurd h (by simp)
    ·rw[Bn hr] at h ⊢;obtain⟨p1,p2,p3,p4⟩:=PW ⟨k1,k8,by simp,by simp,by rw[Q2,List.length_take];omega⟩ h
     exact⟨c1,p1,by omega,by omega,by omega,p4⟩
  ·rw[Bn h34] at h ⊢;obtain⟨p1,p2,p3,p4⟩:=PW ⟨k1,k8,n0,n1,z⟩ h;exact⟨c1,p1,by omega,by omega,by omega,p4⟩
theorem Afa {b:List Int}(hb:Li b):∀(m:Nat)(l:List Hj)(cnt:Int)(at_:Nat)(its:List It),at_<=b.length->(∀x∈its,OkX x)->(Jq m l cnt b at_ its).2.1<=b.length∧∀x∈(Jq m l cnt b at_ its).1,OkX x
 |0,l,cnt,at_,its,h,hi=>⟨by simp[Jq],by intro x hx;simp[Jq] at hx⟩
 |m+1,l,cnt,at_,its,h,hi=>by
  unfold Jq;by_cases hd:RO l cnt=true
  ·rw[C5 hd];exact⟨h,hi⟩
  ·rw[Bn hd];by_cases he:(Gm l cnt b at_).e=0
   ·rw[Bn (by simp[he])]
    obtain⟨_,_,_,_,p,q⟩:=IL hb h he;refine Afa hb m _ _ _ _ p ?_;intro x hx;rcases List.mem_append.1 hx with hx|hx
    ·exact hi x hx
    ·simp at hx;subst hx;exact q
   ·rw[C5 he];exact⟨by simp,by intro x hx;simp at hx⟩
section
variable {fu d:Nat}
theorem Ae4 (Ca:1000<=fu){Be:Nat}{a0:List PV}{b:List Int}(hb:Li b)(hl:b.length<=1000000):∀(nn:Nat)(l:List Hj)(cnt:Int)(at_:Nat)(its:List It),0<=cnt->cnt<=512->512-cnt<nn->l.length<=9->at_<=b.length->its.length=cnt.toNat ->
  Na fu (Ad C0 prog fu (d+4)) Be a0 nn its.length (Bi its) l.length cnt b.length (Ah .u8 b) (at_:Int) (F6 l)=some ⟨Agc (Jq nn l cnt b at_ its),[]⟩
 |0,_,_,_,_,_,_,h,_,_,_=>by omega
 |nn+1,l,cnt,at_,its,h0,h1,hn,hf,ha,hi=>by
  have dn:=Aa3 (fu:=fu) (d:=d+3) l cnt;have ri:=Aqv (fu:=fu) (d:=d) (l:=l) (cnt:=cnt) (b:=b) (at_:=at_) Ca hb hl ha (by omega) h0 (by omega)
  have ok:=IL (l:=l) (cnt:=cnt) hb ha;have L:=Du l;have t:=D5 l;have LT:=H7 its;have tT:List.take (its.length*3) (Bi its)=Bi its:=L6 (by omega)
  have ih:=Ae4 Ca (Be:=Be) (a0:=a0) hb hl nn;rw[JW];unfold Jq;unfold Nw at dn;change _=some (A5.mk [.sc (.bool (RO l cnt))] _) at dn;generalize Gm l cnt b at_=r at ri ok ⊢;obtain⟨x,e,l2,cnt2,at2⟩:=r;simp only at ri ok ⊢;cases hd:RO l cnt
  ·rw[hd] at dn;rw[Bn (by simp)]
   by_cases he:e=0
   ·subst he;obtain⟨p1,rfl,p3,p4,p5,p6⟩:=ok rfl;have q:=ih l2 (cnt+1) at2 (its++[x]) (by omega) (by omega) (by omega) p3 p5 (by simp;omega)
    rw[Bn (by simp),←q,Ac4,Io]
    have e1:Bi [x]=x.cells:=by simp[Bi]
    rw[e1];obtain⟨xk,xn,xs⟩:=x;unfold It.cells at ri ⊢;have e00:((0:Int) != 0)=false:=rfl
    try unfold Aa
    repeat first
     |((with_reducible first|apply Av|apply Ao|apply At|apply A7|apply B4|apply Bo|apply Bg|apply Bc|apply Am|apply Au|apply Aw);· first|with_reducible rfl|(simp (disch:=omega) only[gT,dn,ri,e00,L,t,LT,tT]<;>first|with_reducible rfl|omega)|omega)
     |(with_reducible apply As;· first|with_reducible rfl|(simp (disch:=omega) only[gF,dn,ri,e00,L,t,LT,tT]<;>omega))
    try simp (disch:=omega) only[dn,ri,e00,L,t,LT,tT]
    all_goals rfl
   ·have Rc:(e != 0)=true:=by simp[he]
    rw[C5 he];obtain⟨xk,xn,xs⟩:=x;unfold It.cells at ri
    try unfold Aa
    repeat first
     |((with_reducible first|apply Av|apply Ao|apply At|apply A7|apply B4|apply Bo|apply Bg|apply Bc|apply Am|apply Au|apply Aw);· first|with_reducible rfl|(simp (disch:=omega) only[gT,dn,ri,Rc,L,t,LT,tT]<;>first|with_reducible rfl|omega)|omega)
     |(with_reducible apply As;· first|with_reducible rfl|(simp (disch:=omega) only[gF,dn,ri,Rc,L,t,LT,tT]<;>omega))
    try simp (disch:=omega) only[dn,ri,Rc,L,t,LT,tT]
    all_goals rfl
  ·rw[hd] at dn;rw[C5 rfl]
   try unfold Aa
   repeat first
    |((with_reducible first|apply Av|apply Ao|apply At|apply A7|apply B4|apply Bo|apply Bg|apply Bc|apply Am|apply Au|apply Aw);· first|with_reducible rfl|(simp (disch:=omega) only[gT,dn,L,t,LT,tT]<;>first|with_reducible rfl|omega)|omega)
    |(with_reducible apply As;· first|with_reducible rfl|(simp (disch:=omega) only[gF,dn,L,t,LT,tT]<;>omega))
   try simp (disch:=omega) only[dn,L,t,LT,tT]
   all_goals rfl
theorem Ane (Ca:1000<=fu){b:List Int}(hb:Li b)(hl:b.length<=1000000):
  Ad C0 prog fu (d+5) CI [.lst false 1 b.length (Ah .u8 b)]=some ⟨Agc (Jq fu [] 0 b 0 []),[]⟩:=by
 rw[VA];exact Ae4 Ca hb hl fu [] 0 0 [] (by omega) (by omega) (by omega) (by simp) (by omega) (by simp)
end
end
section
open Go.IntKind (wrap)
theorem Awc {n:Int}(h0:0<=n):(n<256->QG (tb n 1)=n)∧(n<65536->QG (tb n 2)=n)∧(n<4294967296->QG (tb n 4)=n)∧(n<=18446744073709551615->QG (tb n 8)=n):=by
 have st:∀(k:Nat) (D:Int),n<=18446744073709551615->k<8->(2:Int) ^ (56-8*k)=D->0<D->Gu (n / D / 256) (Dx n k)=n / D:=by
  intro k D h1 hk hD hp;rw[XD k hk,hD];exact Ayc (Int.ediv_nonneg h0 (Int.le_of_lt hp)) (Int.le_trans (Int.ediv_le_self _ h0) h1)
 refine⟨fun h=>?_,fun h=>?_,fun h=>?_,fun h=>YH h0 h⟩
 ·have s7:=st 7 1 (by omega) (by omega) (by decide) (by omega)
  rw[show n / 1 / 256=0 by omega,show n / 1=n by omega] at s7
  exact s7
 ·have s6:=st 6 256 (by omega) (by omega) (by decide) (by omega)
  have s7:=st 7 1 (by omega) (by omega) (by decide) (by omega)
  rw[show n / 256 / 256=0 by omega] at s6
  rw[show n / 1 / 256=n / 256 by omega,show n / 1=n by omega] at s7
  show Gu (Gu 0 (Dx n 6)) (Dx n 7)=n;rw[s6,s7]
 ·have s4:=st 4 16777216 (by omega) (by omega) (by decide) (by omega)
  have s5:=st 5 65536 (by omega) (by omega) (by decide) (by omega)
  have s6:=st 6 256 (by omega) (by omega) (by decide) (by omega)
  have s7:=st 7 1 (by omega) (by omega) (by decide) (by omega)
  rw[show n / 16777216 / 256=0 by omega] at s4
  rw[show n / 65536 / 256=n / 16777216 by omega] at s5
  rw[show n / 256 / 256=n / 65536 by omega] at s6
  rw[show n / 1 / 256=n / 256 by omega,show n / 1=n by omega] at s7
  show Gu (Gu (Gu (Gu 0 (Dx n 4)) (Dx n 5)) (Dx n 6)) (Dx n 7)=n;rw[s4,s5,s6,s7]
theorem AB {b:List Int}{at_:Nat}{mj n low:Int}{k:Nat}{rest:List Int}(m0:0<=mj)(m5:mj<=5)(l0:24<=low)(l1:low<=27)(hk:szE low=k)(h:b.drop (at_+1)=tb n k++rest) (hd:QG (tb n k)=n) (hs:¬(Sh n<(k:Int))):
  Xk b at_ (32*mj+low)=⟨1+mj,n,0,at_+1+k⟩:=by
 have e1:(32*mj+low) / 32=mj:=by omega
 have e2:(32*mj+low) % 32=low:=by omega
 have e3:(b.drop (at_+1)).take k=tb n k:=by rw[h,List.take_left' (EP n k)]
 have e4:k<=b.length-(at_+1):=by
  have:=congrArg List.length h;rw[List.length_drop,Io,EP] at this;omega
 unfold Xk;rw[e1,e2,hk,e3,hd,Bn (by omega),Bn (by omega),Bn (by omega),Bn (by omega),Bn (by omega),Bn (by omega),Bn (by omega),Bn hs]
theorem EB {b:List Int}{at_:Nat}{mj n:Int}{rest:List Int}(h:b.drop at_=D4 mj n++rest)(m0:0<=mj)(m5:mj<=5)(n0:0<=n)(n1:n<=18446744073709551615):
  Hu b at_=⟨1+mj,n,0,at_+(D4 mj n).length⟩:=by
 obtain⟨d1,d2,d4,d8⟩:=Awc n0;unfold Hu;unfold D4 at h ⊢;by_cases c1:n<24
 ·rw[C5 c1] at h ⊢;obtain⟨_,g,_⟩:=D1 h;rw[g];show Xk b at_ (32*mj+n)=_;unfold Xk;have e1:(32*mj+n) / 32=mj:=by omega
  have e2:(32*mj+n) % 32=n:=by omega
  rw[e1,e2,Bn (by omega),Bn (by omega),Bn (by omega),Bn (by omega),Bn (by omega),C5 c1]
  rfl
 rw[Bn c1] at h ⊢;by_cases c2:n<256
 ·rw[C5 c2] at h ⊢;obtain⟨_,g,g2⟩:=D1 h;rw[g];have:=AB (at_:=at_) m0 m5 (low:=24) (by omega) (by omega) (k:=1) (by decide) g2 (d1 c2) (by unfold Sh;rw[Bn c1,C5 c2];omega)
  show Xk b at_ (32*mj+24)=_;rw[this,Ik,EP]
 rw[Bn c2] at h ⊢;by_cases c3:n<65536
 ·rw[C5 c3] at h ⊢;obtain⟨_,g,g2⟩:=D1 h;rw[g];have:=AB (at_:=at_) m0 m5 (low:=25) (by omega) (by omega) (k:=2) (by decide) g2 (d2 c3) (by unfold Sh;rw[Bn c1,Bn c2,C5 c3];omega)
  show Xk b at_ (32*mj+25)=_;rw[this,Ik,EP]
 rw[Bn c3] at h ⊢;by_cases c4:n<4294967296
 ·rw[C5 c4] at h ⊢;obtain⟨_,g,g2⟩:=D1 h;rw[g];have:=AB (at_:=at_) m0 m5 (low:=26) (by omega) (by omega) (k:=4) (by decide) g2 (d4 c4) (by unfold Sh;rw[Bn c1,Bn c2,Bn c3,C5 c4];omega)
  show Xk b at_ (32*mj+26)=_;rw[this,Ik,EP]
 ·rw[Bn c4] at h ⊢;obtain⟨_,g,g2⟩:=D1 h;rw[g];have:=AB (at_:=at_) m0 m5 (low:=27) (by omega) (by omega) (k:=8) (by decide) g2 (d8 n1) (by unfold Sh;rw[Bn c1,Bn c2,Bn c3,Bn c4];omega)
  show Xk b at_ (32*mj+27)=_;rw[this,Ik,EP]
theorem Aah {s:ByteArray}(h:Ack s=true):s=⟨#[]⟩:=by
 unfold Ack at h;have:=eq_of_beq h;apply ByteArray.ext;exact Array.toList_inj.1 this
def nOf (x:It):Int:=if x.k=3∨x.k=4 then (x.s.size:Int) else x.n
theorem Aig {x:It}{b:List Int}{at_:Nat}{rest:List Int}(hsh:Lr x=true)(k1:1<=x.k)(k8:x.k<=8)(n0:0<=x.n)(n1:x.n<=18446744073709551615)(hs:x.s.size<=1024)(h:b.drop at_=Ds x++rest):
  Hu b at_=⟨x.k,nOf x,0,at_+((Ds x).length-x.s.size)⟩∧(x.k=3∨x.k=4->x.n=0∧b.drop (at_+((Ds x).length-x.s.size))=Nt x.s++rest)∧(¬(x.k=3∨x.k=4)->x.s=⟨#[]⟩)∧x.s.size<=(Ds x).length:=by
 obtain⟨k,n,s⟩:=x;have z:(ByteArray.mk #[]).size=0:=rfl;simp only at k1 k8 n0 n1 hs ⊢;unfold Lr at hsh;simp only at hsh;have L:=Rl s;have E7:k=7->Ds ⟨k,n,s⟩=[wrap .u8 (244+wrap .u8 n)]:=fun e=>by unfold Ds;rw[C5 e]
 have E8:k=8->Ds ⟨k,n,s⟩=[246]:=fun e=>by subst e;rfl
 have E3:k=3->Ds ⟨k,n,s⟩=D4 2 s.size++Nt s:=fun e=>by subst e;rfl
 have E4:k=4->Ds ⟨k,n,s⟩=D4 3 s.size++Nt s:=fun e=>by subst e;rfl
 have E0:k≠7->k≠8->k≠3->k≠4->Ds ⟨k,n,s⟩=D4 (k-1) n:=fun a b c d=>by unfold Ds;rw[Bn a,Bn b,Bn c,Bn d]
 have N34:k=3∨k=4->nOf ⟨k,n,s⟩=s.size:=fun e=>by unfold nOf;rw[C5 e]
 have N0:¬(k=3∨k=4)->nOf ⟨k,n,s⟩=n:=fun e=>by unfold nOf;rw[Bn e]
 by_cases c7:k=7
 ·subst c7;simp at hsh;obtain⟨hn,hs⟩:=hsh;obtain rfl:=Aah hs;rw[E7 rfl] at h ⊢;rw[N0 (by omega)]
  obtain⟨_,g,_⟩:=D1 h;refine⟨?_,fun h=>by omega,fun _=>rfl,Nat.zero_le _⟩
  have:n=0∨n=1:=by omega
  unfold Hu;rw[g];rcases this with rfl|rfl
  ·rfl
  ·rfl
 by_cases c8:k=8
 ·subst c8;simp at hsh;obtain⟨rfl,hs⟩:=hsh;obtain rfl:=Aah hs;rw[E8 rfl] at h ⊢;rw[N0 (by omega)]
  obtain⟨_,g,_⟩:=D1 h;refine⟨?_,fun h=>by omega,fun _=>rfl,Nat.zero_le _⟩
  unfold Hu;rw[g];rfl
 by_cases c3:k=3
 ·subst c3;simp at hsh;subst hsh;rw[E3 rfl] at h ⊢;rw[N34 (by omega)]
  rw[Zzv] at h;have q:=EB h (by omega) (by omega) (by omega) (by omega)
  have e:(D4 2 (s.size:Int)++Nt s).length-s.size=(D4 2 (s.size:Int)).length:=by rw[Io,L];omega
  rw[e];refine⟨q,fun _=>⟨rfl,?_⟩,fun h=>by omega,by rw[Io,L];omega⟩
  rw[←List.drop_drop,h,List.drop_left' rfl]
 by_cases c4:k=4
 ·subst c4;simp at hsh;subst hsh;rw[E4 rfl] at h ⊢;rw[N34 (by omega)]
  rw[Zzv] at h;have q:=EB h (by omega) (by omega) (by omega) (by omega)
  have e:(D4 3 (s.size:Int)++Nt s).length-s.size=(D4 3 (s.size:Int)).length:=by rw[Io,L];omega
  rw[e];refine⟨q,fun _=>⟨rfl,?_⟩,fun h=>by omega,by rw[Io,L];omega⟩
  rw[←List.drop_drop,h,List.drop_left' rfl]
 rw[Bn c3,Bn c4,Bn c8,Bn c7] at hsh;obtain rfl:=Aah hsh;rw[E0 c7 c8 c3 c4] at h ⊢;rw[N0 (by omega)]
 have q:=EB h (by omega) (by omega) n0 n1
 refine⟨?_,fun h=>by omega,fun _=>rfl,by rw[z];omega⟩
 rw[q,z,Nat.sub_zero]
 congr 1
 omega
theorem Agz {l:List Hj}{cnt:Int}{x:It}{b:List Int}{at_:Nat}{rest:List Int}(g:Aw5 l cnt x)(n0:0<=x.n)(n1:x.n<=18446744073709551615)(h:b.drop at_=Ds x++rest):
  Gm l cnt b at_=⟨x,0,G2 l x,cnt+1,at_+(Ds x).length⟩:=by
 have k18:1<=x.k∧x.k<=8:=by
  have hm:=g.hm;unfold M6 at hm
  repeat' split at hm
  all_goals first
   |(cases hm;done)
   |omega
 obtain⟨q1,q2,q3,q4⟩:=Aig g.hsh k18.1 k18.2 n0 n1 g.hs h
 have ac:∀a:Nat,Xo l cnt x a=⟨x,0,G2 l x,cnt+1,a⟩:=by
  intro a
  have:Et l x=(0,G2 l x):=by
   unfold Et;rw[Bn,Bn (by simp[g.ha])]
   intro hh;have:=g.hv hh.1;exact absurd hh.2 (by simp[okS,this])
  unfold Xo;rw[this];rfl
 have ln:b.length-(at_+((Ds x).length-x.s.size))>=x.s.size:=by
  have:=congrArg List.length h;rw[List.length_drop,Io] at this;omega
 unfold Gm;rw[q1];unfold ZX;simp only;rw[Bn (by simp),g.hm,Bn (by simp)]
 have hs:=g.hs;have hn:=g.hn;obtain⟨k,n,s⟩:=x;simp only at *
 by_cases c34:k=3∨k=4
 ·obtain⟨rfl,q2⟩:=q2 c34;have N:nOf ⟨k,0,s⟩=s.size:=by unfold nOf;rw[C5 c34]
  rw[N,Bn (by omega),C5 c34,Bn (by omega),Kz,Bn (by omega),q2,List.take_left' (Rl s),ZQ,ac]
  congr 1
  omega
 ·obtain rfl:=q3 c34;have z:(ByteArray.mk #[]).size=0:=rfl;have N:nOf ⟨k,n,⟨#[]⟩⟩=n:=by unfold nOf;rw[Bn c34]
  rw[N,Bn c34,z,Nat.sub_zero];by_cases c56:k=5∨k=6
  ·rw[C5 c56,Bn (by omega),ac]
  ·rw[Bn c56,ac]
theorem XY {b:List Int}{rest:List Int}:∀(its:List It)(l:List Hj)(cnt:Int)(at_ m:Nat)(acc:List It),Qk l cnt its->(∀x∈its,0<=x.n∧x.n<=18446744073709551615)->b.drop at_=Ci its++rest->its.length<m ->
  Jq m l cnt b at_ acc=(acc++its,at_+(Ci its).length,0)
 |[],l,cnt,at_,m,acc,hg,hn,h,hm=>by
  obtain⟨rfl,hc⟩:=hg;obtain⟨m,rfl⟩:∃k,m=k+1:=⟨m-1,by omega⟩
  unfold Jq;rw[C5 (by simp[RO,hc])]
  simp[Ci]
 |x::its,l,cnt,at_,m,acc,hg,hn,h,hm=>by
  obtain⟨g,hg⟩:=hg;obtain⟨m,rfl⟩:∃k,m=k+1:=⟨m-1,by simp at hm;omega⟩
  have e:Ci (x::its)=Ds x++Ci its:=by simp[Ci]
  rw[e,Zzv] at h;have r:=Agz g (hn x (by simp)).1 (hn x (by simp)).2 h
  have h':b.drop (at_+(Ds x).length)=Ci its++rest:=by rw[←List.drop_drop,h,List.drop_left' rfl]
  have ih:=XY its (G2 l x) (cnt+1) (at_+(Ds x).length) m (acc++[x]) hg (fun y hy=>hn y (List.mem_cons_of_mem _ hy)) h' (by simp at hm;omega)
  unfold Jq;have hd:RO l cnt=false:=g.hd;rw[Bn (by simp[hd]),r]
  simp only;rw[Bn (by simp),ih,e]
  simp;omega
end
section
open Go.IntKind (wrap)
abbrev Uo (x:Int):Prop:=0<=x∧x<=18446744073709551615
abbrev isW (l:List Int):Prop:=∀x∈l,Uo x
theorem Add (l:List Int)(i:Nat):Uo (Uh l i):=Y6 _ 0 (by omega) (by omega)
theorem Ab0 (l:List Int):isW (G9 l):=by
 intro x hx;obtain⟨k,_,rfl⟩:=List.mem_map.1 hx;exact Add l k
theorem Wd:∀{ws:List Int}{i:Nat}{w:Int},isW ws->ws[i]?=some w->Uh (A8 ws) i=w
 |[],i,w,_,h=>by simp at h
 |a::ws,0,w,hw,h=>by
  simp at h;subst h;have e:A8 (a::ws)=Ic a++A8 ws:=rfl;unfold Uh;rw[Nat.mul_zero,C8,e,List.take_left' (Jc a)];have:=hw a (by simp)
  exact YH this.1 this.2
 |a::ws,i+1,w,hw,h=>by
  simp at h;have ih:=Wd (ws:=ws) (fun x hx=>hw x (List.mem_cons_of_mem _ hx)) h
  have e:A8 (a::ws)=Ic a++A8 ws:=rfl;unfold Uh at ih ⊢;rw[show 8*(i+1)=(Ic a).length+8*i by rw[Jc];omega,e,←List.drop_drop,List.drop_left' rfl]
  exact ih
theorem FO {ws:List Int}(hw:isW ws):G9 (A8 ws)=ws:=by
 have hl:(A8 ws).length / 8=ws.length:=by rw[D3];omega
 apply List.ext_getElem?;intro i;unfold G9;rw[hl];by_cases h:i<ws.length
 ·rw[List.getElem?_map,List.getElem?_range h,List.getElem?_eq_getElem h];simp only[Option.map_some];rw[Wd hw (List.getElem?_eq_getElem h)]
 ·rw[List.getElem?_eq_none (by simp;omega),List.getElem?_eq_none (by omega)]
theorem Anb {k:Ky}(hh:Ex k.h=false)(hr:Uo k.root):RD (Pp k)=some k:=by
 obtain⟨h,r⟩:=k;have hb:=Kr hh;simp only at hb hr hh;have w:wrap .u8 h=h:=Lu (by omega) (by omega)
 have w1:A8 [r]=Ic r:=by simp[A8]
 have:=Wd (ws:=[r]) (i:=0) (w:=r) (by intro x hx;simp at hx;subst hx;exact hr) rfl
 rw[w1] at this;unfold RD Pp;simp only[w,List.getD_cons_zero,List.drop_succ_cons,C8,this,Ik,Jc,hh,and_self,if_true]
theorem Ay0 {k:Ky}:Li (Pp k):=by
 intro x hx;rcases List.mem_cons.1 hx with rfl|hx
 ·have:∀v:Int,0<=wrap .u8 v∧wrap .u8 v<=255:=by
   intro v;simp only[wrap,IntKind.signed,IntKind.bits];simp;omega
  exact this _
 ·exact Aiw _ x hx
theorem At7 {l:List Int}{k:Ky}(h:RD l=some k):Ex k.h=false∧Uo k.root:=by
 unfold RD at h;split at h
 ·rename_i hh;cases h;exact⟨hh.2,Add _ _⟩
 ·cases h
structure Sg.ok (s:Sg):Prop where
 ch:isW s.chains
 pa:isW s.path
theorem Ayi (s:Sg):Li (CE s):=by
 have w8:∀v:Int,0<=wrap .u8 v∧wrap .u8 v<=255:=by
  intro v;simp only[wrap,IntKind.signed,IntKind.bits];simp;omega
 intro x hx;unfold CE at hx;rcases List.mem_cons.1 hx with rfl|hx
 ·exact w8 _
 rcases List.mem_cons.1 hx with rfl|hx
 ·exact w8 _
 rcases List.mem_append.1 hx with hx|hx
 ·exact Uz _ x hx
 ·exact Uz _ x hx
theorem Aur {s:Sg}(hs:s.ok)(h1:Ex s.path.length=false)(h2:Qq s.leaf s.path.length=false)(h3:s.chains.length=18):sgD (CE s)=some s:=by
 obtain⟨leaf,ch,pa⟩:=s;obtain⟨hc,hp⟩:=hs;simp only at h1 h2 h3 hc hp;have hb:=Kr h1;have ho:=Arw hb.1 hb.2 h2;have h16:=A34 hb.1 hb.2;have w1:wrap .u8 leaf=leaf:=Lu (by omega) (by omega)
 have w2:wrap .u8 (pa.length:Int)=pa.length:=Lu (by omega) (by omega)
 have lc:(A8 ch).length=144:=by rw[D3];omega
 have lp:(A8 pa).length=8*pa.length:=D3 pa
 have len:(CE ⟨leaf,ch,pa⟩).length=2+144+8*pa.length:=by
  unfold CE;simp only[Ik,Io,lc,lp];omega
 have g0:(CE ⟨leaf,ch,pa⟩).getD 0 0=leaf:=w1;have g1:(CE ⟨leaf,ch,pa⟩).getD 1 0=pa.length:=w2;have d2:(CE ⟨leaf,ch,pa⟩).drop 2=A8 ch++A8 pa:=rfl
 have d146:(CE ⟨leaf,ch,pa⟩).drop 146=A8 pa:=by
  rw[show 146=2+144 from rfl,←List.drop_drop,d2,List.drop_left' lc]
 unfold sgD;rw[C5 ⟨by omega,by rw[g1];exact h1,by rw[g0,g1];exact h2,by rw[g1,len];omega⟩,g0,d2,d146,List.take_left' lc,FO hc,FO hp]
theorem Ap2 {l:List Int}{s:Sg}(h:sgD l=some s):s.ok∧s.path.length<=4∧s.chains.length=18:=by
 unfold sgD at h;split at h
 ·rename_i hh;cases h;have hb:=Kr hh.2.1;refine⟨⟨Ab0 _,Ab0 _⟩,?_,?_⟩
  ·simp only[Rt,List.length_drop];omega
  ·simp only[Rt,List.length_take,List.length_drop];omega
 ·cases h
end
section
open Go.Proofs.Tryz (prog)
open Go.IntKind (wrap)
set_option maxRecDepth 100000
abbrev CA:FuncId:=50
theorem US (fu d Be:Nat)(a0:List PV)(Lx:Nat)(a1:List PV):Ad C0 prog fu (d+1) CA [.lst false 1 Be a0,.lst false 1 Lx a1]=(fun (call:Af)=>Ar (decide (a0.length=Be))<|F7 (bytesOf a0) fun x1=>Ar (decide (a1.length=Lx))<|F7 (bytesOf a1) fun x2=>some (A5.mk [.sc (.bool (Array.toList (ByteArray.data (ByteArray.mk (List.toArray x1)))==Array.toList (ByteArray.data (ByteArray.mk (List.toArray x2)))))] [])) (Ad C0 prog fu d):=by kernel_rfl
end
section
open Go.Proofs.Tryz (prog)
open Go.IntKind (wrap)
section
variable {fu d:Nat}
theorem Aom (s:ByteArray):Ad C0 prog fu (d+1) KS [.sc (.string s)]=some ⟨[.own 3 1 (Bi [⟨4,0,s⟩])],[]⟩:=by rw[Ad8];rfl
theorem Us (n:Int):Ad C0 prog fu (d+1) LN [.sc (.int .u64 n)]=some ⟨[.own 3 1 (Bi [⟨1,n,Vt⟩])],[]⟩:=by rw[Aee];rfl
theorem Al3 (l:List Int):Ad C0 prog fu (d+1) EY [.lst false 1 l.length (Ah .u8 l)]=some ⟨[.own 3 1 (Bi [⟨3,0,Dv l⟩])],[]⟩:=by
 rw[Aab];have L:=Ay .u8 l;have bo:=J4 l;simp (disch:=omega) only[Cu,L,bo];rfl
end
end
section
open Go.Proofs.Tryz (prog)
open Go.IntKind (wrap)
section
variable {fu d:Nat}
theorem Agy {a b:List Int}(ha:Li a)(hb:Li b)(h:(a.map fun n=>n.toNat.toUInt8)=(b.map fun n=>n.toNat.toUInt8)):a=b:=by
 have e:Dv a=Dv b:=by unfold Dv;rw[h]
 rw[←Wu ha,←Wu hb,e]
theorem A8q {a b:List Int}(ha:Li a)(hb:Li b):(Array.toList (ByteArray.data (ByteArray.mk (List.toArray (a.map fun n=>n.toNat.toUInt8))))==Array.toList (ByteArray.data (ByteArray.mk (List.toArray (b.map fun n=>n.toNat.toUInt8)))))=decide (a=b):=by
 by_cases h:a=b
 ·subst h;simp
 ·have:(List.map (fun n=>n.toNat.toUInt8) a)≠(List.map (fun n=>n.toNat.toUInt8) b):=fun e=>h (Agy ha hb e)
  simp only[h,decide_false]
  simpa using this
theorem VI {a b:List Int}(ha:Li a)(hb:Li b):Ad C0 prog fu (d+1) CA [.lst false 1 a.length (Ah .u8 a),.lst false 1 b.length (Ah .u8 b)]=some ⟨[.sc (.bool (decide (a=b)))],[]⟩:=by
 rw[US];have La:=Ay .u8 a;have Lb:=Ay .u8 b;have ba:=J4 a;have bb:=J4 b;have q:=A8q ha hb;simp (disch:=omega) only[Cu,La,Lb,ba,bb,q]
end
structure Ce.ok (c:Ce):Prop where
 ser:Uo c.serial
 mod:Uo c.model
 root:Uo c.key.root
 sg:c.sig.ok
theorem Ce.ok.wf {c:Ce}(h:c.ok):c.wf:=⟨h.ser.1,h.mod.1⟩
end
section
open Go.Proofs.Tryz (prog)
open Go.IntKind (wrap)
set_option maxRecDepth 100000
abbrev S3:FuncId:=10
theorem FL (fu d Be:Nat)(a0:List PV):Ad C0 prog fu (d+1) S3 [.lst false 1 Be a0]=(fun (call:Af)=>some (A5.mk [.pbox [.lst false 1 Be a0,.sc (.int .i64 0)]] [])) (Ad C0 prog fu d):=by kernel_rfl
abbrev S8:FuncId:=14
theorem HJ (fu d:Nat)(a0 a1:Int):Ad C0 prog fu (d+1) S8 [.sc (.int .i64 a0),.sc (.int .i64 a1)]=(fun (call:Af)=>Aa (wrap .u64 a0) fun x1=>Aa (wrap .u64 a1) fun x2=>Ar (decide (x2≠0))<|Aa (Int.tmod x1 x2) fun x3=>Aa (wrap .i64 x3) fun x4=>some (A5.mk [.sc (.int .i64 x4)] [])) (Ad C0 prog fu d):=by kernel_rfl
abbrev Mk:FuncId:=15
theorem Ml (fu d Ai:Nat)(Ak:List PV)(Al a1:Int):Ad C0 prog fu (d+1) Mk [.pbox [.lst false 1 Ai Ak,.sc (.int .i64 Al)],.sc (.int .i64 a1)]=(fun (call:Af)=>Bk (decide (Al>=(↑Ai:Int))) (some (A5.mk [.sc (.int .i64 0)] [[.lst false 1 Ai Ak,.sc (.int .i64 Al)]])) (Aa (wrap .i64 (Al+1)) fun x1=>Aa (wrap .i64 (x1-1)) fun x2=>Ar (decide (0<=x2)&&decide (x2<(↑Ai:Int)))<|Ae .i64 (List.getD Ak (Int.toNat x2*1) .top) fun x3=>Aj (call 14 [.sc (.int .i64 x3),.sc (.int .i64 a1)]) fun x4 x5=>Ac x5<|Ab x4 fun x6 x7=>Ae .i64 x6 fun x8=>Ac x7<|some (A5.mk [.sc (.int .i64 x8)] [[.lst false 1 Ai Ak,.sc (.int .i64 x1)]]))) (Ad C0 prog fu d):=by kernel_rfl
end
section
open Go.Proofs.Tryz (prog)
open Go.IntKind (wrap)
abbrev dkc (l:List Int)(a:Nat):List PV:=[.lst false 1 l.length (Ah .i64 l),.sc (.int .i64 (a:Int))]
theorem Azr {fu d:Nat}{l:List Int}:Ad C0 prog fu (d+1) S3 [.lst false 1 l.length (Ah .i64 l)]=some ⟨[.pbox (dkc l 0)],[]⟩:=by
 rw[FL];rfl
theorem Azv (v n:Int)(hn:0<n)(hm:n<=9223372036854775807):∃r,0<=r∧r<n∧∀{fu d:Nat},Ad C0 prog fu (d+1) S8 [.sc (.int .i64 v),.sc (.int .i64 n)]=some ⟨[.sc (.int .i64 r)],[]⟩:=by
 have h1:=Kh v;have h2:wrap .u64 n=n:=D7 (by omega) (by omega)
 have h3:0<=Int.tmod (wrap .u64 v) n:=Int.tmod_nonneg _ h1.1;have h4:Int.tmod (wrap .u64 v) n<n:=Int.tmod_lt_of_pos _ hn;refine⟨_,h3,h4,fun {fu d}=>?_⟩
 rw[HJ];simp only[I6,h2];rw[YW _ _ (by omega),Ap (by omega) (by omega)]
theorem Ir {l:List Int}(hl:l.length<=maxLen)(a:Nat)(n:Int)(hn:0<n)(hm:n<=9223372036854775807):∃(v:Int)(a':Nat),0<=v∧v<n ∧
  ∀{fu d:Nat},Ad C0 prog fu (d+2) Mk [.pbox (dkc l a),.sc (.int .i64 n)]=some ⟨[.sc (.int .i64 v)],[dkc l a']⟩:=by
 simp only[maxLen] at hl;by_cases h:a<l.length
 ·obtain⟨r,h1,h2,h3⟩:=Azv l[a] n hn hm;refine⟨r,a+1,h1,h2,fun {fu d}=>?_⟩
  rw[Ml]
  have hg:(Ah .i64 l).getD (Int.toNat ((a:Int)+1-1)*1) .top=.sc (.int .i64 l[a]):=by
   have:=EU (k:=.i64) (List.getElem?_eq_getElem h);rw[show Int.toNat ((a:Int)+1-1)*1=a by omega]
   exact this
  simp (disch:=omega) only[Cu,Ap,hg,h3];rfl
 ·refine⟨0,a,by omega,hn,fun {fu d}=>?_⟩
  rw[Ml];simp (disch:=omega) only[Cu]
end
section
open Go.Proofs.Tryz (prog)
open Go.IntKind (wrap)
set_option maxRecDepth 100000
abbrev Ty:FuncId:=17
theorem HO (fu d:Nat)(a0 a1:Int):Ad C0 prog fu (d+1) Ty [.sc (.int .u64 a0),.sc (.int .i64 a1)]=(fun (call:Af)=>Aj (call 30 [.sc (.int .u64 a0),.sc (.int .i64 a1)]) fun x1 x2=>Ac x2<|Ab x1 fun x3 x4=>Ft x3 fun x5=>Ab x5 fun x6 x7=>Ae .i64 x6 fun x8=>Ab x7 fun x9 C7=>Ae .u64 x9 fun Dm=>Ac C7<|Ab x4 fun Eh E6=>Ae .i64 Eh fun D8=>Ac E6<|some (A5.mk [.agg [.sc (.int .i64 x8),.sc (.int .u64 Dm)]] [])) (Ad C0 prog fu d):=by kernel_rfl
end
section
open Go.IntKind (wrap)
structure An where
 name:ByteArray
 key:Ky
def An.cells (a:An):List PV:=[.sc (.string a.name),.sc (.int .i64 a.key.h),.sc (.int .u64 a.key.root)]
def Dg (l:List An):List PV:=l.flatMap An.cells
theorem An.cells_len (a:An):a.cells.length=3:=rfl
theorem ana {l:List An}{i:Nat}{a:An}(h:l[i]?=some a):(Dg l).getD (i*3) .top=.sc (.string a.name)∧(Dg l).getD (i*3+1) .top=.sc (.int .i64 a.key.h)∧(Dg l).getD (i*3+2) .top=.sc (.int .u64 a.key.root):=
 ⟨Iq An.cells_len h (j:=0) (by omega),Iq An.cells_len h (j:=1) (by omega),Iq An.cells_len h (j:=2) (by omega)⟩
end
section
open Go.IntKind (wrap)
def Adz (l:List Hj):Prop:=∀f∈l,f.p=false
theorem Adz.key {l:List Hj}(h:Adz l):R6 l=false:=by
 rcases Ke l with rfl|⟨l',f,rfl⟩
 ·rfl
 ·unfold R6;simp[h f (by simp)]
theorem Adz.dec {l:List Hj}(h:Adz l):Adz (Wt l):=by
 rcases Ke l with rfl|⟨l',f,rfl⟩
 ·exact h
 ·rw[Te];intro g hg;rcases List.mem_append.1 hg with hg|hg
  ·exact h g (by simp[hg])
  ·rw[List.mem_singleton.1 hg];exact h f (by simp)
def Val (k:Nat)(v:List It):Prop:=∀(l:List Hj)(cnt:Int)(rest:List It),l.length+k<=6->0<=cnt->cnt+v.length<=505->(cnt=0∨l≠[])->Adz l ->
 Qk (GT (Wt l)) (cnt+v.length) rest->Qk l cnt (v++rest)
theorem PR {l:List Hj}{cnt k:Int}(ha:Adz l)(hl:l.length<=6)(hc:cnt<=505)(k1:1<=k)(k8:k<=8):M6 l cnt k=0:=by
 unfold M6;rw[Bn (by omega),Bn (by omega),Bn (by omega),Bn (by intro q;rw[ha.key] at q;exact absurd q.1 (by simp)),Bn (by omega)]
theorem Gh {x:It}(h:VE x)(k:Nat):Val k [x]:=by
 intro l cnt rest hl h0 h1 hd ha hg;simp only[List.length_singleton] at h1 hg;have hk:=h.kd;refine⟨⟨by omega,h0,by omega,ha.key,h.hs,h.hv,?_,PR ha (by omega) (by omega) (by omega) (by omega),h.hsh,.inr (by omega)⟩,?_⟩
 ·rcases hd with rfl|hd
  ·rfl
  ·have:l.length≠0:=fun e=>hd (List.eq_nil_of_length_eq_zero e)
   have h2:((l.length:Int)==0)=false:=by simp;exact hd
   rw[h2,Bool.and_false]
 ·unfold G2;rw[h.push];exact hg
theorem Afm {k:Nat}{l:List Hj}(hl:l.length+1+k<=6)(ha:Adz l){rest:List It}:∀(vs:List (List It)) (cnt:Int),vs≠[]->vs.length<=100000->(∀v∈vs,Val k v)->0<=cnt->cnt+vs.flatten.length<=505->Qk (GT l) (cnt+vs.flatten.length) rest ->
  Qk (l++[⟨false,vs.length,[]⟩]) cnt (vs.flatten++rest)
 |[],_,h,_,_,_,_,_=>absurd rfl h
 |v::vs,cnt,_,hn,hv,h0,h1,hg=>by
  rw[List.flatten_cons,Io] at h1 hg;rw[List.flatten_cons,Zzv];simp only[Ik] at hn;refine hv v (by simp) _ cnt _ (by rw[Io,List.length_singleton];omega) h0 (by omega) (.inr (by simp)) ?_ ?_
  ·intro g hg';rcases List.mem_append.1 hg' with hg'|hg'
   ·exact ha g hg'
   ·rw[List.mem_singleton.1 hg']
  rw[Te]
  have w:wrap .i64 (((v::vs).length:Int)-1)=(vs.length:Int):=by
   rw[Ap (by simp only[Ik];omega) (by simp only[Ik];omega)]
   simp only[Ik];omega
  simp only[w];by_cases Ui:vs=[]
  ·subst Ui;rw[WP rfl]
   simpa using hg
  ·rw[OZ (by simp only;have:=List.length_pos_iff.2 Ui;omega)]
   exact Afm hl ha vs (cnt+v.length) Ui (by omega) (fun x hx=>hv x (by simp[hx])) (by omega) (by omega) (by rw[Int.add_assoc,←Int.natCast_add];exact hg)
theorem Tz {k:Nat}{vs:List (List It)} (hv:∀v∈vs,Val k v)(hn:vs.length<=500):Val (k+1) (⟨5,vs.length,⟨#[]⟩⟩::vs.flatten):=by
 intro l cnt rest hl h0 h1 hd ha hg;simp only[Ik] at h1 hg;refine⟨⟨by omega,h0,by omega,ha.key,Nat.zero_le _,(by intro h;cases h),?_,PR ha (by omega) (by omega) (by simp) (by simp),(by rfl),.inl (by simp only;omega)⟩,?_⟩
 ·rcases hd with rfl|hd
  ·rfl
  ·have h2:((l.length:Int)==0)=false:=by simp;exact hd
   rw[h2,Bool.and_false]
 ·by_cases Ui:vs=[]
  ·subst Ui
   have e:G2 l ⟨5,(([]:List (List It)).length:Nat),⟨#[]⟩⟩=GT (Wt l):=by
    unfold G2 QI;rw[Bn (by simp),Bn (by simp)]
   rw[e]
   simpa using hg
  ·have hp:=List.length_pos_iff.2 Ui;have w:wrap .i64 (vs.length:Int)=(vs.length:Int):=Ap (by omega) (by omega)
   have e:G2 l ⟨5,(vs.length:Nat),⟨#[]⟩⟩=Wt l++[⟨false,(vs.length:Nat),[]⟩]:=by
    unfold G2 QI;rw[C5 ⟨rfl,by simp only;omega⟩]
    simp only[w];exact OZ (by simp only;omega)
   rw[e]
   exact Afm (by rw[DY];omega) ha.dec vs (cnt+1) Ui (by omega) hv (by omega) (by omega) (by
    have e1:cnt+1+(vs.flatten.length:Int)=cnt+((vs.flatten.length+1:Nat):Int):=by omega
    rw[e1];exact hg)
theorem Val.goods {k:Nat}(hk:k<=6){v:List It}(h:Val k v)(hn:v≠[]) (hl:v.length<=505):Qk [] 0 v:=by
 have:=h [] 0 [] (by simp;exact hk) (by omega) (by omega) (.inl rfl) (by intro f hf;cases hf) ⟨rfl,by have:=List.length_pos_iff.2 hn;omega⟩
 rw[List.append_nil] at this;exact this
end
section
open Go.IntKind (wrap)
structure Sa where
 kd:Int
 at_:Int
structure Me where
 model:Int
 ans:List An
 sts:List Sa
structure Md where
 ver:Int
 iss:Int
 nxt:Int
 ents:List Me
 sig:Sg
def Sa.cells (s:Sa):List PV:=[.sc (.int .i64 s.kd),.sc (.int .i64 s.at_)]
def D0 (l:List Sa):List PV:=l.flatMap Sa.cells
theorem Sa.cells_len (s:Sa):s.cells.length=2:=rfl
def Me.cells (x:Me):List PV:=[.sc (.int .u64 x.model),.lst false 3 x.ans.length (Dg x.ans),.lst false 2 x.sts.length (D0 x.sts)]
def Cm (l:List Me):List PV:=l.flatMap Me.cells
theorem Me.cells_len (x:Me):x.cells.length=3:=rfl
def Md.cells (m:Md):List PV:=[.sc (.int .i64 m.ver),.sc (.int .i64 m.iss),.sc (.int .i64 m.nxt),.lst false 3 m.ents.length (Cm m.ents),.sc (.int .i64 m.sig.leaf),.lst false 1 m.sig.chains.length (Ah .u64 m.sig.chains),.lst false 1 m.sig.path.length (Ah .u64 m.sig.path)]
theorem Q7 (l:List An):(Dg l).length=l.length*3:=Ug An.cells_len l
theorem Z3 (l:List Sa):(D0 l).length=l.length*2:=Ug Sa.cells_len l
theorem Og (l:List Me):(Cm l).length=l.length*3:=Ug Me.cells_len l
theorem saa {l:List Sa}{i:Nat}{s:Sa}(h:l[i]?=some s):(D0 l).getD (i*2) .top=.sc (.int .i64 s.kd)∧(D0 l).getD (i*2+1) .top=.sc (.int .i64 s.at_):=
 ⟨Iq Sa.cells_len h (j:=0) (by omega),Iq Sa.cells_len h (j:=1) (by omega)⟩
theorem mea {l:List Me}{i:Nat}{x:Me}(h:l[i]?=some x):(Cm l).getD (i*3) .top=.sc (.int .u64 x.model)∧(Cm l).getD (i*3+1) .top=.lst false 3 x.ans.length (Dg x.ans)∧(Cm l).getD (i*3+2) .top=.lst false 2 x.sts.length (D0 x.sts):=
 ⟨Iq Me.cells_len h (j:=0) (by omega),Iq Me.cells_len h (j:=1) (by omega),Iq Me.cells_len h (j:=2) (by omega)⟩
def Hy (a:An):Int:=if a.name.size<1∨32<a.name.size then 9 else if okS a.name=false then 6 else if Ex a.key.h=true then 9 else 0
def Fa:List An->Int
 |[]=>0
 |a::r=>if Hy a≠0 then Hy a else Fa r
def Kv (p:Option Int)(s:Sa):Int:=if s.kd<1∨4<s.kd∨s.at_<0∨1099511627776<s.at_ then 9 else match p with|some q=>if s.at_<=q then 7 else 0|none=>0
def Gl:Option Int->List Sa->Int
 |_,[]=>0
 |p,s::r=>if Kv p s≠0 then Kv p s else Gl (some s.at_) r
def El (x:Me):Int:=if 4<x.ans.length∨4<x.sts.length then 8 else if Fa x.ans≠0 then Fa x.ans else Gl none x.sts
def Sq (p:Option Int)(x:Me):Int:=match p with|some q=>if x.model<=q then 7 else 0|none=>0
def Gp:Option Int->List Me->Int
 |_,[]=>0
 |p,x::r=>if Sq p x≠0 then Sq p x else if El x≠0 then El x else Gp (some x.model) r
def Cb (m:Md):Int:=if m.ver<1∨16<m.ver then 9 else if m.iss<0∨m.nxt<m.iss∨1099511627776<m.nxt then 9 else if 16<m.ents.length then 8 else Gp none m.ents
def Lg (n:Int):It:=⟨5,n,Vt⟩
def Ij (n:Int):It:=⟨1,n,Vt⟩
def ZT (a:An):List (List It):=[[⟨4,0,a.name⟩],[⟨3,0,Dv (Pp a.key)⟩]]
def C9 (a:An):List It:=Lg 2::(ZT a).flatten
def Acn (s:Sa):List (List It):=[[Ij s.kd],[Ij s.at_]]
def Di (s:Sa):List It:=Lg 2::(Acn s).flatten
def Do (vs:List (List It)):List It:=Lg vs.length::vs.flatten
def Xh (x:Me):List (List It):=[[Ij x.model],Do (x.ans.map C9),Do (x.sts.map Di)]
def Ba (x:Me):List It:=Lg 3::(Xh x).flatten
def P3 (m:Md):List (List It):=[[Ij m.ver],[Ij m.iss],[Ij m.nxt],Do (m.ents.map Ba)]
def Bf (m:Md):List It:=Lg 4::(P3 m).flatten
theorem Agu (k:Ky):(Dv (Pp k)).size=9:=by rw[Q2];rfl
theorem Y2:Vt.size=0:=rfl
def Ew (l:List It):Prop:=∀x∈l,x.ok∧x.dat∧x.s.size<=32
theorem Ew.app {a b:List It}(ha:Ew a)(hb:Ew b):Ew (a++b):=fun x hx=>(List.mem_append.1 hx).elim (ha x) (hb x)
theorem Ew.cons {x:It}{l:List It}(h:x.ok∧x.dat∧x.s.size<=32)(hl:Ew l):Ew (x::l):=fun y hy=>by
 rcases List.mem_cons.1 hy with rfl|hy
 ·exact h
 ·exact hl y hy
theorem Ew.flat {α:Type}{f:α->List It}{l:List α}(h:∀x∈l,Ew (f x)):Ew (l.map f).flatten:=fun y hy=>by
 obtain⟨v,hv,hy⟩:=List.mem_flatten.1 hy;obtain⟨x,hx,rfl⟩:=List.mem_map.1 hv;exact h x hx y hy
theorem Vv {n:Int}(h:0<=n):(Ij n).ok∧(Ij n).dat∧(Ij n).s.size<=32:=⟨⟨by show (1:Int)<=1;omega,by show (1:Int)<=8;omega,h,by show Vt.size<=_;rw[Y2];omega⟩,.inr (.inr rfl),by show Vt.size<=32;rw[Y2];omega⟩
theorem Ri {n:Int}(h:0<=n):(Lg n).ok∧(Lg n).dat∧(Lg n).s.size<=32:=⟨⟨by show (1:Int)<=5;omega,by show (5:Int)<=8;omega,h,by show Vt.size<=_;rw[Y2];omega⟩,.inr (.inr rfl),by show Vt.size<=32;rw[Y2];omega⟩
theorem I4 {n:Int}(h:0<=n):VE (Ij n):=⟨.inl rfl,by show Vt.size<=_;rw[Y2];omega,(fun e=>by cases e),(by unfold Lr Ij;rfl),h⟩
theorem Aj2 {a:An}(h:Hy a=0):1<=a.name.size∧a.name.size<=32∧okS a.name=true∧Ex a.key.h=false:=by
 unfold Hy at h;split at h
 ·cases h
 ·split at h
  ·cases h
  ·split at h
   ·cases h
   ·rename_i h1 h2 h3;exact⟨by omega,by omega,by simpa using h2,by simpa using h3⟩
theorem Ahv {a:An}(h:Hy a=0):Val 1 (C9 a)∧Ew (C9 a):=by
 obtain⟨h1,h2,h3,_⟩:=Aj2 h;have f1:VE ⟨4,0,a.name⟩:=⟨.inr (.inr (.inr (.inl rfl))),by simp only;omega,fun _=>h3,by unfold Lr;rfl,by simp⟩
 have f2:VE ⟨3,0,Dv (Pp a.key)⟩:=⟨.inr (.inr (.inl rfl)),by simp only[Agu];omega,(fun e=>by cases e),by unfold Lr;rfl,by simp⟩
 refine⟨Tz (k:=0) (vs:=ZT a) (fun v hv=>?_) (by simp[ZT]),fun x hx=>?_⟩
 ·simp only[ZT,List.mem_cons,List.not_mem_nil,or_false] at hv;rcases hv with rfl|rfl
  ·exact Gh f1 0
  ·exact Gh f2 0
 ·simp only[C9,ZT,List.flatten_cons,List.flatten_nil,List.append_nil,List.mem_cons,List.singleton_append,List.not_mem_nil,or_false] at hx;rcases hx with rfl|rfl|rfl
  ·exact Ri (by omega)
  ·exact⟨f1.ok,.inr (.inl rfl),h2⟩
  ·exact⟨f2.ok,.inl rfl,by simp only[Agu];omega⟩
theorem Zb:∀{l:List An},Fa l=0->∀a∈l,Hy a=0
 |[],_,a,ha=>by cases ha
 |b::r,h,a,ha=>by
  unfold Fa at h;by_cases h0:Hy b=0
  ·rw[Bn (by simp[h0])] at h
   rcases List.mem_cons.1 ha with rfl|ha
   ·exact h0
   ·exact Zb h a ha
  ·rw[C5 h0] at h;exact absurd h h0
theorem Avk {p:Option Int}{s:Sa}(h:Kv p s=0):1<=s.kd∧s.kd<=4∧0<=s.at_∧s.at_<=1099511627776:=by
 unfold Kv at h;split at h
 ·cases h
 ·omega
theorem HF:∀{p:Option Int}{l:List Sa},Gl p l=0->∀s∈l,1<=s.kd∧s.kd<=4∧0<=s.at_∧s.at_<=1099511627776
 |_,[],_,a,ha=>by cases ha
 |p,b::r,h,a,ha=>by
  unfold Gl at h;by_cases h0:Kv p b=0
  ·rw[Bn (by simp[h0])] at h
   rcases List.mem_cons.1 ha with rfl|ha
   ·exact Avk h0
   ·exact HF h a ha
  ·rw[C5 h0] at h;exact absurd h h0
theorem Af2 {s:Sa}(h0:0<=s.kd)(h1:0<=s.at_):Val 1 (Di s)∧Ew (Di s):=by
 refine⟨Tz (k:=0) (vs:=Acn s) (fun v hv=>?_) (by simp[Acn]),?_⟩
 ·simp only[Acn,List.mem_cons,List.not_mem_nil,or_false] at hv;rcases hv with rfl|rfl
  ·exact Gh (I4 h0) 0
  ·exact Gh (I4 h1) 0
 ·exact Ew.cons (Ri (by omega)) (Ew.cons (Vv h0) (Ew.cons (Vv h1) (fun x hx=>by cases hx)))
theorem Mm (a:An):(C9 a).length=3:=rfl
theorem Rb (s:Sa):(Di s).length=3:=rfl
theorem Ht {α:Type}{f:α->List It}{k:Nat}(hf:∀x,(f x).length=k):∀l:List α,(l.map f).flatten.length=l.length*k
 |[]=>by simp
 |x::l=>by rw[VN,List.flatten_cons,Io,hf x,Ht hf l,Ik,Nat.succ_mul];omega
theorem Rq {x:Me}(h:El x=0):x.ans.length<=4∧x.sts.length<=4∧Fa x.ans=0∧Gl none x.sts=0:=by
 unfold El at h;by_cases h0:4<x.ans.length∨4<x.sts.length
 ·rw[C5 h0] at h;cases h
 rw[Bn h0] at h;by_cases h1:Fa x.ans=0
 ·rw[Bn (by simp[h1])] at h
  exact⟨by omega,by omega,h1,h⟩
 ·rw[C5 h1] at h;exact absurd h h1
theorem Aat {l:List An}(hl:l.length<=4)(h:∀a∈l,Hy a=0):Val 2 (Do (l.map C9))∧Ew (Do (l.map C9)):=by
 refine⟨Tz (k:=1) (fun v hv=>?_) (by rw[List.length_map];omega),Ew.cons (Ri (by omega)) (Ew.flat fun a ha=>(Ahv (h a ha)).2)⟩
 obtain⟨a,ha,rfl⟩:=List.mem_map.1 hv;exact (Ahv (h a ha)).1
theorem Ajy {l:List Sa}(hl:l.length<=4)(h:∀s∈l,0<=s.kd∧0<=s.at_):Val 2 (Do (l.map Di))∧Ew (Do (l.map Di)):=by
 refine⟨Tz (k:=1) (fun v hv=>?_) (by rw[List.length_map];omega),Ew.cons (Ri (by omega)) (Ew.flat fun s hs=>(Af2 (h s hs).1 (h s hs).2).2)⟩
 obtain⟨s,hs,rfl⟩:=List.mem_map.1 hv;exact (Af2 (h s hs).1 (h s hs).2).1
theorem FP {x:Me}(hm:0<=x.model)(h:El x=0):Val 3 (Ba x)∧Ew (Ba x)∧(Ba x).length<=28:=by
 obtain⟨h1,h2,h3,h4⟩:=Rq h;have va:=Aat h1 (Zb h3);have vs:=Ajy h2 (fun s hs=>by have:=HF h4 s hs;exact⟨by omega,by omega⟩)
 refine⟨Tz (k:=2) (vs:=Xh x) (fun v hv=>?_) (by simp[Xh]),?_,?_⟩
 ·simp only[Xh,List.mem_cons,List.not_mem_nil,or_false] at hv;rcases hv with rfl|rfl|rfl
  ·exact Gh (I4 hm) 2
  ·exact va.1
  ·exact vs.1
 ·refine Ew.cons (Ri (by omega)) ?_
  simp only[Xh,List.flatten_cons,List.flatten_nil,List.append_nil];exact Ew.app (Ew.cons (Vv hm) (fun x hx=>by cases hx)) (Ew.app va.2 vs.2)
 ·simp only[Ba,Xh,Do,List.flatten_cons,List.flatten_nil,List.append_nil,Ik,Io,List.length_singleton,Zx,Ht Mm,Ht Rb];omega
theorem Oz:∀{p:Option Int}{l:List Me},Gp p l=0->∀x∈l,El x=0
 |_,[],_,a,ha=>by cases ha
 |p,b::r,h,a,ha=>by
  unfold Gp at h;by_cases h0:Sq p b=0
  rotate_left
  ·rw[C5 h0] at h;exact absurd h h0
  rw[Bn (by simp[h0])] at h
  by_cases h1:El b=0
  ·rw[Bn (by simp[h1])] at h
   rcases List.mem_cons.1 ha with rfl|ha
   ·exact h1
   ·exact Oz h a ha
  ·rw[C5 h1] at h;exact absurd h h1
theorem Ms {m:Md}(h:Cb m=0):1<=m.ver∧m.ver<=16∧0<=m.iss∧m.iss<=m.nxt∧m.nxt<=1099511627776∧m.ents.length<=16∧Gp none m.ents=0:=by
 unfold Cb at h;split at h
 ·cases h
 ·split at h
  ·cases h
  ·split at h
   ·cases h
   ·exact⟨by omega,by omega,by omega,by omega,by omega,by omega,h⟩
theorem DJ {α:Type}{f:α->List It}{k:Nat}:∀{l:List α},(∀x∈l,(f x).length<=k)->(l.map f).flatten.length<=l.length*k
 |[],_=>by simp
 |x::l,h=>by
  have h1:=h x (by simp)
  have h2:=DJ (l:=l) (fun y hy=>h y (by simp[hy]))
  rw[VN,List.flatten_cons,Io,Ik,Nat.succ_mul];omega
theorem Acu {l:List Me}(hl:l.length<=16)(h:∀x∈l,0<=x.model∧El x=0):Val 4 (Do (l.map Ba))∧Ew (Do (l.map Ba))∧(Do (l.map Ba)).length<=449:=by
 refine⟨Tz (k:=3) (fun v hv=>?_) (by rw[List.length_map];omega),Ew.cons (Ri (by omega)) (Ew.flat fun x hx=>(FP (h x hx).1 (h x hx).2).2.1),?_⟩
 ·obtain⟨x,hx,rfl⟩:=List.mem_map.1 hv;exact (FP (h x hx).1 (h x hx).2).1
 ·have:=DJ (f:=Ba) (k:=28) (l:=l) (fun x hx=>(FP (h x hx).1 (h x hx).2).2.2)
  unfold Do;rw[Ik];omega
structure Md.wf (m:Md):Prop where
 mod:∀x∈m.ents,0<=x.model
theorem Yn {m:Md}(hw:m.wf)(h:Cb m=0):Val 5 (Bf m)∧Ew (Bf m)∧(Bf m).length<=453:=by
 obtain⟨h1,h2,h3,h4,h5,h6,h7⟩:=Ms h;obtain⟨v1,v2,v3⟩:=Acu h6 (fun x hx=>⟨hw.mod x hx,Oz h7 x hx⟩)
 refine⟨Tz (k:=4) (vs:=P3 m) (fun v hv=>?_) (by simp[P3]),?_,?_⟩
 ·simp only[P3,List.mem_cons,List.not_mem_nil,or_false] at hv;rcases hv with rfl|rfl|rfl|rfl
  ·exact Gh (I4 (by omega)) 4
  ·exact Gh (I4 (by omega)) 4
  ·exact Gh (I4 (by omega)) 4
  ·exact v1
 ·refine Ew.cons (Ri (by omega)) ?_
  simp only[P3,List.flatten_cons,List.flatten_nil,List.append_nil];exact Ew.app (Ew.cons (Vv (by omega)) (fun x hx=>by cases hx)) (Ew.app (Ew.cons (Vv (by omega)) (fun x hx=>by cases hx)) (Ew.app (Ew.cons (Vv (by omega)) (fun x hx=>by cases hx)) v2))
 ·simp only[Bf,P3,List.flatten_cons,List.flatten_nil,List.append_nil,Ik,Io,List.length_singleton,Zx];omega
end
section
open Go.IntKind (wrap)
abbrev RS:=List It × Bool
def Bj (k:Int)(s:RS):It × RS:=if s.2=true then (it0,(s.1,true)) else match s.1 with|[]=>(it0,([],true))|x::r=>if x.k=k then (x,(r,false)) else (it0,(x::r,true))
def Apm (l:List Int):Ky:=(RD l).getD ⟨0,0⟩
def OG (s:RS):An × RS:=
 (⟨(Bj 4 (Bj 5 s).2).1.s,Apm (Nt (Bj 3 (Bj 4 (Bj 5 s).2).2).1.s)⟩,((Bj 3 (Bj 4 (Bj 5 s).2).2).2.1,(Bj 3 (Bj 4 (Bj 5 s).2).2).2.2||(RD (Nt (Bj 3 (Bj 4 (Bj 5 s).2).2).1.s)).isNone))
def Mv:Nat->Int->RS->List An × RS
 |0,_,s=>([],s)
 |f+1,n,s=>if n>0∧s.2=false then ((OG s).1::(Mv f (n-1) (OG s).2).1,(Mv f (n-1) (OG s).2).2) else ([],s)
def TO (s:RS):Sa × RS:=(⟨wrap .i64 (Bj 1 (Bj 5 s).2).1.n,wrap .i64 (Bj 1 (Bj 1 (Bj 5 s).2).2).1.n⟩,(Bj 1 (Bj 1 (Bj 5 s).2).2).2)
def P0:Nat->Int->RS->List Sa × RS
 |0,_,s=>([],s)
 |f+1,n,s=>if n>0∧s.2=false then ((TO s).1::(P0 f (n-1) (TO s).2).1,(P0 f (n-1) (TO s).2).2) else ([],s)
def CP (s:RS):It × RS:=Bj 5 (Bj 1 (Bj 5 s).2).2
def AP (s:RS):List An × RS:=Mv (s.1.length+2) (CP s).1.n (CP s).2
def AO (s:RS):It × RS:=Bj 5 (AP s).2
def Ac3 (s:RS):List Sa × RS:=P0 (s.1.length+2) (AO s).1.n (AO s).2
def Ns (s:RS):Me × RS:=(⟨(Bj 1 (Bj 5 s).2).1.n,(AP s).1,(Ac3 s).1⟩,(Ac3 s).2)
def H1:Nat->Int->RS->List Me × RS
 |0,_,s=>([],s)
 |f+1,n,s=>if n>0∧s.2=false then ((Ns s).1::(H1 f (n-1) (Ns s).2).1,(H1 f (n-1) (Ns s).2).2) else ([],s)
def DQ (l:List It):It × RS:=Bj 1 (Bj 5 (l,false)).2
def EE (l:List It):It × RS:=Bj 1 (DQ l).2
def DS (l:List It):It × RS:=Bj 1 (EE l).2
def Xz (l:List It):It × RS:=Bj 5 (DS l).2
def Aga (l:List It):List Me × RS:=H1 (l.length+2) (Xz l).1.n (Xz l).2
def sg0:Sg:=⟨0,[],[]⟩
def HK (l:List It):Md × Bool:=(⟨wrap .i64 (DQ l).1.n,wrap .i64 (EE l).1.n,wrap .i64 (DS l).1.n,(Aga l).1,sg0⟩,!(Aga l).2.2&&(((Aga l).2.1.length:Int)==0))
theorem Fv {k:Int}{x:It}{r:List It}(h:x.k=k):Bj k (x::r,false)=(x,(r,false)):=by
 unfold Bj;rw[Bn (by simp)]
 simp only[h,if_true]
theorem Aut {a:An}(h:Hy a=0)(hr:Uo a.key.root):RD (Nt (Dv (Pp a.key)))=some a.key:=by
 rw[Wu Ay0];exact Anb (Aj2 h).2.2.2 hr
theorem Av2 {a:An}{r:List It}(h:Hy a=0)(hr:Uo a.key.root):OG (C9 a++r,false)=(a,(r,false)):=by
 have e1:Bj 5 (C9 a++r,false)=(Lg 2,((⟨4,0,a.name⟩:It)::⟨3,0,Dv (Pp a.key)⟩::r,false)):=Fv rfl;have e2:Bj 4 ((⟨4,0,a.name⟩:It)::⟨3,0,Dv (Pp a.key)⟩::r,false)=(⟨4,0,a.name⟩,(⟨3,0,Dv (Pp a.key)⟩::r,false)):=Fv rfl;have e3:Bj 3 ((⟨3,0,Dv (Pp a.key)⟩:It)::r,false)=(⟨3,0,Dv (Pp a.key)⟩,(r,false)):=Fv rfl;unfold OG Apm;rw[e1];simp only[e2,e3,Aut h hr];rfl
theorem Afh {rest:List It}:∀(l:List An)(f:Nat),l.length<f->(∀a∈l,Hy a=0∧Uo a.key.root)->Mv f l.length ((l.map C9).flatten++rest,false)=(l,(rest,false))
 |_,0,h,_=>by omega
 |[],f+1,_,_=>by
  unfold Mv;rw[Bn (by simp)]
  rfl
 |a::l,f+1,h,hk=>by
  simp only[Ik] at h;have ih:=Afh (rest:=rest) l f (by omega) (fun x hx=>hk x (by simp[hx]))
  have e:=Av2 (a:=a) (r:=(l.map C9).flatten++rest) (hk a (by simp)).1 (hk a (by simp)).2
  rw[VN,List.flatten_cons,Zzv];unfold Mv;rw[C5 ⟨by simp only[Ik];omega,rfl⟩,e]
  have el:(((a::l).length:Nat):Int)-1=(l.length:Int):=by simp only[Ik];omega
  rw[el];simp only[ih]
theorem Auk {s:Sa}{r:List It}(h:1<=s.kd∧s.kd<=4∧0<=s.at_∧s.at_<=1099511627776):TO (Di s++r,false)=(s,(r,false)):=by
 have e1:Bj 5 (Di s++r,false)=(Lg 2,(Ij s.kd::Ij s.at_::r,false)):=Fv rfl;have e2:Bj 1 (Ij s.kd::Ij s.at_::r,false)=(Ij s.kd,(Ij s.at_::r,false)):=Fv rfl;have e3:Bj 1 (Ij s.at_::r,false)=(Ij s.at_,(r,false)):=Fv rfl;have n1:(Ij s.kd).n=s.kd:=rfl;have n2:(Ij s.at_).n=s.at_:=rfl;unfold TO;rw[e1];simp only[e2,e3,n1,n2];rw[Ap (by omega) (by omega),Ap (by omega) (by omega)]
theorem Aew {rest:List It}:∀(l:List Sa)(f:Nat),l.length<f->(∀s∈l,1<=s.kd∧s.kd<=4∧0<=s.at_∧s.at_<=1099511627776)->P0 f l.length ((l.map Di).flatten++rest,false)=(l,(rest,false))
 |_,0,h,_=>by omega
 |[],f+1,_,_=>by
  unfold P0;rw[Bn (by simp)]
  rfl
 |a::l,f+1,h,hk=>by
  simp only[Ik] at h;have ih:=Aew (rest:=rest) l f (by omega) (fun x hx=>hk x (by simp[hx]))
  have e:=Auk (s:=a) (r:=(l.map Di).flatten++rest) (hk a (by simp))
  rw[VN,List.flatten_cons,Zzv];unfold P0;rw[C5 ⟨by simp only[Ik];omega,rfl⟩,e]
  have el:(((a::l).length:Nat):Int)-1=(l.length:Int):=by simp only[Ik];omega
  rw[el];simp only[ih]
def Me.rts (x:Me):Prop:=∀a∈x.ans,Uo a.key.root
theorem JI (x:Me)(r:List It):Ba x++r=Lg 3::Ij x.model::Lg x.ans.length::((x.ans.map C9).flatten++(Lg x.sts.length::((x.sts.map Di).flatten++r))):=by
 unfold Ba Xh Do;simp only[List.flatten_cons,List.flatten_nil,List.append_nil,Zzp,Zzq,Zzv,List.length_map]
theorem Aok {x:Me}{r:List It}(h:El x=0)(hr:x.rts):Ns (Ba x++r,false)=(x,(r,false)):=by
 obtain⟨h1,h2,h3,h4⟩:=Rq h;have e1:Bj 5 (Ba x++r,false)=(Lg 3,(Ij x.model::Lg x.ans.length::((x.ans.map C9).flatten++(Lg x.sts.length::((x.sts.map Di).flatten++r))),false)):=by rw[JI];exact Fv rfl
 have e2:Bj 1 (Ij x.model::Lg x.ans.length::((x.ans.map C9).flatten++(Lg x.sts.length::((x.sts.map Di).flatten++r))),false)=(Ij x.model,(Lg x.ans.length::((x.ans.map C9).flatten++(Lg x.sts.length::((x.sts.map Di).flatten++r))),false)):=Fv rfl
 have eA:CP (Ba x++r,false)=(Lg x.ans.length,((x.ans.map C9).flatten++(Lg x.sts.length::((x.sts.map Di).flatten++r)),false)):=by
  unfold CP;rw[e1];simp only[e2];exact Fv rfl
 have len:x.ans.length<(Ba x++r).length+2∧x.sts.length<(Ba x++r).length+2:=by
  rw[JI];simp only[Ik,Io,Ht Mm,Ht Rb];omega
 have eB:AP (Ba x++r,false)=(x.ans,(Lg x.sts.length::((x.sts.map Di).flatten++r),false)):=by
  unfold AP;rw[eA];exact Afh x.ans _ len.1 (fun a ha=>⟨Zb h3 a ha,hr a ha⟩)
 have eC:AO (Ba x++r,false)=(Lg x.sts.length,((x.sts.map Di).flatten++r,false)):=by
  unfold AO;rw[eB];exact Fv rfl
 have eD:Ac3 (Ba x++r,false)=(x.sts,(r,false)):=by
  unfold Ac3;rw[eC];exact Aew x.sts _ len.2 (HF h4)
 unfold Ns;rw[eB,eD,e1];simp only[e2];rfl
theorem XH {rest:List It}:∀(l:List Me)(f:Nat),l.length<f->(∀x∈l,El x=0∧x.rts)->H1 f l.length ((l.map Ba).flatten++rest,false)=(l,(rest,false))
 |_,0,h,_=>by omega
 |[],f+1,_,_=>by
  unfold H1;rw[Bn (by simp)]
  rfl
 |a::l,f+1,h,hk=>by
  simp only[Ik] at h;have ih:=XH (rest:=rest) l f (by omega) (fun x hx=>hk x (by simp[hx]))
  have e:=Aok (x:=a) (r:=(l.map Ba).flatten++rest) (hk a (by simp)).1 (hk a (by simp)).2
  rw[VN,List.flatten_cons,Zzv];unfold H1;rw[C5 ⟨by simp only[Ik];omega,rfl⟩,e]
  have el:(((a::l).length:Nat):Int)-1=(l.length:Int):=by simp only[Ik];omega
  rw[el];simp only[ih]
theorem DC (m:Md):Bf m=Lg 4::Ij m.ver::Ij m.iss::Ij m.nxt::Lg m.ents.length::(m.ents.map Ba).flatten:=by
 unfold Bf P3 Do;simp only[List.flatten_cons,List.flatten_nil,List.append_nil,Zzp,Zzq,List.length_map]
theorem An4 {l:List Me}:l.length<=(l.map Ba).flatten.length:=by
 induction l with
 |nil=>simp
 |cons x l ih=>
  rw[VN,List.flatten_cons,Io,Ik];have:1<=(Ba x).length:=by unfold Ba;simp
  omega
theorem Anw {m:Md}(h:Cb m=0)(hr:∀x∈m.ents,x.rts):HK (Bf m)=({ m with sig:=sg0 },true):=by
 obtain⟨h1,h2,h3,h4,h5,h6,h7⟩:=Ms h;have e1:Bj 5 (Bf m,false)=(Lg 4,(Ij m.ver::Ij m.iss::Ij m.nxt::Lg m.ents.length::(m.ents.map Ba).flatten,false)):=by rw[DC];exact Fv rfl
 have eA:DQ (Bf m)=(Ij m.ver,(Ij m.iss::Ij m.nxt::Lg m.ents.length::(m.ents.map Ba).flatten,false)):=by unfold DQ;rw[e1];exact Fv rfl
 have eB:EE (Bf m)=(Ij m.iss,(Ij m.nxt::Lg m.ents.length::(m.ents.map Ba).flatten,false)):=by unfold EE;rw[eA];exact Fv rfl
 have eC:DS (Bf m)=(Ij m.nxt,(Lg m.ents.length::(m.ents.map Ba).flatten,false)):=by unfold DS;rw[eB];exact Fv rfl
 have eD:Xz (Bf m)=(Lg m.ents.length,((m.ents.map Ba).flatten,false)):=by unfold Xz;rw[eC];exact Fv rfl
 have eE:Aga (Bf m)=(m.ents,([],false)):=by
  unfold Aga;rw[eD];have:=XH (rest:=[]) m.ents ((Bf m).length+2) (by rw[DC];simp only[Ik];have:=An4 (l:=m.ents);omega) (fun x hx=>⟨Oz h7 x hx,hr x hx⟩)
  rw[List.append_nil] at this;exact this
 have n1:(Ij m.ver).n=m.ver:=rfl;have n2:(Ij m.iss).n=m.iss:=rfl;have n3:(Ij m.nxt).n=m.nxt:=rfl;unfold HK;rw[eA,eB,eC,eE];simp only[n1,n2,n3];rw[Ap (by omega) (by omega),Ap (by omega) (by omega),Ap (by omega) (by omega)]
 rfl
end
section
open Go.IntKind (wrap)
def okA (a:An):Prop:=Uo a.key.root∧a.name.size<=1024
def okM (x:Me):Prop:=Uo x.model∧(∀a∈x.ans,okA a)∧x.ans.length<=1010∧x.sts.length<=1010
def FB (l:List It):Prop:=∀x∈l,OkX x
theorem Ar0:Uo it0.n:=⟨by decide,by decide⟩
theorem Ari:it0.s.size<=1024:=by decide
theorem Db {k:Int}{s:RS}(h:FB s.1):Uo (Bj k s).1.n∧(Bj k s).1.s.size<=1024∧FB (Bj k s).2.1∧(Bj k s).2.1.length<=s.1.length∧((Bj k s).2.2=false->s.2=false∧(Bj k s).2.1.length<s.1.length):=by
 obtain⟨l,b⟩:=s;unfold Bj;cases b
 ·rw[Bn (by simp)]
  cases l with
  |nil=>exact⟨Ar0,Ari,h,Nat.le_refl _,fun e=>(by cases e)⟩
  |cons x r=>
   simp only;by_cases hk:x.k=k
   ·simp only[hk,if_true];have hx:=h x (by simp)
    exact⟨⟨hx.n0,hx.n1⟩,hx.s1,fun y hy=>h y (by simp[hy]),by simp,fun _=>⟨by trivial,by simp⟩⟩
   ·simp only[hk,if_false];exact⟨Ar0,Ari,h,Nat.le_refl _,fun e=>(by cases e)⟩
 ·rw[C5 rfl];exact⟨Ar0,Ari,h,Nat.le_refl _,fun e=>(by cases e)⟩
theorem Av7 (l:List Int):Uo (Apm l).root:=by
 unfold Apm;cases h:RD l with
 |none=>exact⟨by simp,by simp⟩
 |some k=>exact (At7 h).2
theorem Aqn {s:RS}(h:FB s.1):okA (OG s).1∧FB (OG s).2.1∧(OG s).2.1.length<=s.1.length∧((OG s).2.2=false->(OG s).2.1.length<s.1.length):=by
 obtain⟨_,_,a3,a4,a5⟩:=Db (k:=5) h;obtain⟨_,b2,b3,b4,b5⟩:=Db (k:=4) a3;obtain⟨_,_,c3,c4,c5⟩:=Db (k:=3) b3;unfold OG;refine⟨⟨Av7 _,b2⟩,c3,by simp only;omega,fun e=>?_⟩
 simp only[Bool.or_eq_false_iff] at e;have:=c5 e.1;simp only;omega
theorem Aap:∀{f:Nat}{n:Int}{s:RS},FB s.1->(∀a∈(Mv f n s).1,okA a)∧(Mv f n s).1.length<=f∧FB (Mv f n s).2.1∧(Mv f n s).2.1.length<=s.1.length
 |0,n,s,h=>⟨fun a ha=>(by cases ha),Nat.le_refl _,h,Nat.le_refl _⟩
 |f+1,n,s,h=>by
  obtain⟨a1,a2,a3,_⟩:=Aqn h;obtain⟨b1,b2,b3,b4⟩:=Aap (f:=f) (n:=n-1) a2;unfold Mv;split
  ·refine⟨fun a ha=>?_,by simp only[Ik];omega,b3,by simp only;omega⟩
   rcases List.mem_cons.1 ha with rfl|ha
   ·exact a1
   ·exact b1 a ha
  ·exact⟨fun a ha=>(by cases ha),Nat.zero_le _,h,Nat.le_refl _⟩
theorem An7 {s:RS}(h:FB s.1):FB (TO s).2.1∧(TO s).2.1.length<=s.1.length∧((TO s).2.2=false->(TO s).2.1.length<s.1.length):=by
 obtain⟨_,_,a3,a4,a5⟩:=Db (k:=5) h;obtain⟨_,_,b3,b4,b5⟩:=Db (k:=1) a3;obtain⟨_,_,c3,c4,c5⟩:=Db (k:=1) b3;unfold TO;refine⟨c3,by simp only;omega,fun e=>?_⟩
 have:=c5 e;simp only;omega
theorem Aji:∀{f:Nat}{n:Int}{s:RS},FB s.1->(P0 f n s).1.length<=f∧FB (P0 f n s).2.1∧(P0 f n s).2.1.length<=s.1.length
 |0,n,s,h=>⟨Nat.le_refl _,h,Nat.le_refl _⟩
 |f+1,n,s,h=>by
  obtain⟨a2,a3,_⟩:=An7 h;obtain⟨b2,b3,b4⟩:=Aji (f:=f) (n:=n-1) a2;unfold P0;split
  ·exact⟨by simp only[Ik];omega,b3,by simp only;omega⟩
  ·exact⟨Nat.zero_le _,h,Nat.le_refl _⟩
theorem ZE {s:RS}(h:FB s.1)(hl:s.1.length<=1000):okM (Ns s).1∧FB (Ns s).2.1∧(Ns s).2.1.length<=s.1.length∧((Bj 5 s).2.2=false->(Ns s).2.1.length<s.1.length):=by
 obtain⟨_,_,a3,a4,a5⟩:=Db (k:=5) h;obtain⟨b1,_,b3,b4,b5⟩:=Db (k:=1) a3;have hA:=Db (k:=5) b3;have hB:=Aap (f:=s.1.length+2) (n:=(CP s).1.n) (s:=(CP s).2) hA.2.2.1;have hC:=Db (k:=5) (s:=(AP s).2) hB.2.2.1;have hD:=Aji (f:=s.1.length+2) (n:=(AO s).1.n) (s:=(AO s).2) hC.2.2.1;have l1:(CP s).2.1.length<=(Bj 5 s).2.1.length:=Nat.le_trans hA.2.2.2.1 b4;have l2:(AP s).2.1.length<=(CP s).2.1.length:=hB.2.2.2;have l3:(AO s).2.1.length<=(AP s).2.1.length:=hC.2.2.2.1;have l4:(Ac3 s).2.1.length<=(AO s).2.1.length:=hD.2.2;have m1:(AP s).1.length<=s.1.length+2:=hB.2.1;have m2:(Ac3 s).1.length<=s.1.length+2:=hD.1;unfold Ns;refine⟨⟨b1,hB.1,by simp only;omega,by simp only;omega⟩,hD.2.1,by simp only;omega,fun e=>?_⟩
 have:=(a5 e).2;simp only;omega
theorem Asg {s:RS}(h:FB s.1)(hl:s.1.length<=1000):(Ns s).2.2=false->(Ns s).2.1.length<s.1.length:=by
 intro e;by_cases hf:(Bj 5 s).2.2=false
 ·exact (ZE h hl).2.2.2 hf
 ·exfalso;have hf:(Bj 5 s).2.2=true:=by simpa using hf
  have st:∀{k:Int} {q:RS},q.2=true->(Bj k q).2.2=true:=fun {k q} hq=>by unfold Bj;rw[C5 hq]
  have h1:(CP s).2.2=true:=st (st hf)
  have h2:(AP s).2.2=true:=by
   unfold AP Mv;rw[Bn (by simp[h1])]
   exact h1
  have h3:(AO s).2.2=true:=st h2
  have h4:(Ac3 s).2.2=true:=by
   unfold Ac3 P0;rw[Bn (by simp[h3])]
   exact h3
  have:(Ns s).2.2=true:=h4;rw[this] at e;cases e
theorem Ae7:∀{f:Nat}{n:Int}{s:RS},FB s.1->s.1.length<=1000->(∀x∈(H1 f n s).1,okM x)∧(H1 f n s).1.length<=f∧FB (H1 f n s).2.1∧(H1 f n s).2.1.length<=s.1.length
 |0,n,s,h,_=>⟨fun a ha=>(by cases ha),Nat.le_refl _,h,Nat.le_refl _⟩
 |f+1,n,s,h,hl=>by
  obtain⟨a1,a2,a3,_⟩:=ZE h hl;obtain⟨b1,b2,b3,b4⟩:=Ae7 (f:=f) (n:=n-1) a2 (by omega)
  unfold H1;split
  ·refine⟨fun a ha=>?_,by simp only[Ik];omega,b3,by simp only;omega⟩
   rcases List.mem_cons.1 ha with rfl|ha
   ·exact a1
   ·exact b1 a ha
  ·exact⟨fun a ha=>(by cases ha),Nat.zero_le _,h,Nat.le_refl _⟩
theorem Aa2 {l:List It}(h:FB l)(hl:l.length<=1000):(∀x∈(HK l).1.ents,okM x)∧(HK l).1.ents.length<=1010∧FB (DQ l).2.1∧(DQ l).2.1.length<=1000∧FB (EE l).2.1∧(EE l).2.1.length<=1000∧FB (DS l).2.1∧(DS l).2.1.length<=1000∧FB (Xz l).2.1∧(Xz l).2.1.length<=l.length:=by
 have h0:=Db (k:=5) (s:=(l,false)) h;have hA:=Db (k:=1) h0.2.2.1;have hB:=Db (k:=1) (s:=(DQ l).2) hA.2.2.1;have hC:=Db (k:=1) (s:=(EE l).2) hB.2.2.1;have hD:=Db (k:=5) (s:=(DS l).2) hC.2.2.1;have l0:(Bj 5 ((l,false):RS)).2.1.length<=l.length:=h0.2.2.2.1;have l1:(DQ l).2.1.length<=(Bj 5 ((l,false):RS)).2.1.length:=hA.2.2.2.1;have l2:(EE l).2.1.length<=(DQ l).2.1.length:=hB.2.2.2.1;have l3:(DS l).2.1.length<=(EE l).2.1.length:=hC.2.2.2.1;have l4:(Xz l).2.1.length<=(DS l).2.1.length:=hD.2.2.2.1;have hE:=Ae7 (f:=l.length+2) (n:=(Xz l).1.n) (s:=(Xz l).2) hD.2.2.1 (by omega)
 exact⟨hE.1,by have:(Aga l).1.length<=l.length+2:=hE.2.1;show (Aga l).1.length<=_;omega,hA.2.2.1,by omega,hB.2.2.1,by omega,hC.2.2.1,by omega,hD.2.2.1,by omega⟩
end
section
open Go.Proofs.Tryz (prog)
open Go.IntKind (wrap)
set_option maxRecDepth 100000
abbrev M2:FuncId:=104
theorem Ww (fu d:Nat)(Ak:ByteArray)(Al Bd:Int):Ad C0 prog fu (d+1) M2 [.agg [.sc (.string Ak),.sc (.int .i64 Al),.sc (.int .u64 Bd)]]=(fun (call:Af)=>Bk (decide ((↑(ByteArray.size Ak):Int)<1)) (some (A5.mk [.own 3 0 [],.sc (.int .i64 9)] [])) (Bk (decide ((↑(ByteArray.size Ak):Int)>32)) (some (A5.mk [.own 3 0 [],.sc (.int .i64 9)] [])) (Aj (call 126 [.sc (.string Ak)]) fun x1 x2=>Ac x2<|Ab x1 fun x3 x4=>Bv x3 fun x5=>Ac x4<|Bk (!x5) (some (A5.mk [.own 3 0 [],.sc (.int .i64 6)] [])) (Aj (call 129 [.agg [.sc (.int .i64 Al),.sc (.int .u64 Bd)]]) fun x6 x7=>Ac x7<|Ab x6 fun x8 x9=>Gw 1 x8 fun C7 Dm=>Ab x9 fun Eh E6=>Ae .i64 Eh fun D8=>Ac E6<|Bk (D8 != 0) (some (A5.mk [.own 3 0 [],.sc (.int .i64 D8)] [])) (Aj (call 130 [.sc (.string Ak)]) fun Ez Fu=>Ac Fu<|Ab Ez fun Gt G7=>Gw 3 Gt fun Gj Gx=>Ac G7<|Ar (decide (0+C7*1<=Dm.length))<|Aj (call 131 [.lst false 1 C7 (List.take (C7*1) (List.drop 0 Dm))]) fun Ju H3=>Ac H3<|Ab Ju fun Jd Fn=>Gw 3 Jd fun Ev Hz=>Ac Fn<|Ar (decide (0+Gj*3<=Gx.length))<|Ar (decide (0+Ev*3<=Hz.length))<|Aj (call 63 [.lst false 1 2 [.lst false 3 Gj (List.take (Gj*3) (List.drop 0 Gx)),.lst false 3 Ev (List.take (Ev*3) (List.drop 0 Hz))]]) fun J3 Gy=>Ac Gy<|Ab J3 fun O4 Nu=>Gw 3 O4 fun K7 M4=>Ab Nu fun Oh P1=>Ae .i64 Oh fun Py=>Ac P1<|Ar (decide (K7*3<=M4.length))<|some (A5.mk [.own 3 K7 (List.take (K7*3) M4),.sc (.int .i64 Py)] [])))))) (Ad C0 prog fu d):=by kernel_rfl
abbrev N4:FuncId:=62
noncomputable def Gq (fu:Nat)(call:Af)(Ak:Int)(Cd:Nat)(Al:List PV)(Bp:Nat)(Bd:List PV)(nn y0 y1:Nat)(y2:List PV)(y3 y4 y5:Int)(y6:Nat)(y7:List PV)(y8:Nat)(y9 y10:List PV):Option A5:=Dh CB prog fu call 62 Tryz.f62 (B7 Tryz.f62) [.agg [.sc (.int .u64 Ak),.lst false 3 Cd Al,.lst false 2 Bp Bd]] [.r,.r,.r,.l,.r,.l] nn ⟨lk [(1,(.ptr 1 0)),(4,(.view 4 1 0 y0)),(27,(.lst false 3 y1 y2)),(28,(.sc (.int .i64 y3))),(29,(.sc (.int .i64 y4)))],Bu [(1,(.st [(.sc (.int .u64 y5)),(.lst false 3 y6 y7),(.lst false 2 y8 y9)])),(4,(.ar false y10))]⟩
noncomputable def Fc (fu:Nat)(call:Af)(Ak:Int)(Cd:Nat)(Al:List PV)(Bp:Nat)(Bd:List PV)(nn y0:Nat)(y1 y2:Nat)(y3:List PV)(y4 y5 y6:Int)(y7:Nat)(y8:List PV)(y9:Nat)(y10 Fq Gc:List PV):Option A5:=Dh CB prog fu call 62 Tryz.f62 (B7 Tryz.f62) [.agg [.sc (.int .u64 Ak),.lst false 3 Cd Al,.lst false 2 Bp Bd]] [.r,.r,.r,.r,.r,.r,.r,.l,.r,.l] nn ⟨lk [(1,(.ptr 1 0)),(4,(.view 4 1 0 y0)),(9,(.view 9 3 0 y1)),(55,(.lst false 2 y2 y3)),(56,(.sc (.int .i64 y4))),(57,(.sc (.int .i64 y5)))],Bu [(1,(.st [(.sc (.int .u64 y6)),(.lst false 3 y7 y8),(.lst false 2 y9 y10)])),(4,(.ar false Fq)),(9,(.ar false Gc))]⟩
noncomputable def Nc (fu:Nat)(call:Af)(Ak:Int)(Cd:Nat)(Al:List PV)(Bp:Nat)(Bd:List PV)(m0 nn:Nat)(y0 y1:Nat)(y2:Int)(y3:Nat)(y4:List PV)(y5 y6 y7:Int)(y8:Nat)(y9:List PV)(y10:Nat)(Fq Gc H4:List PV)(Kn J1:Int):Option A5:=Dh CB prog fu call 62 Tryz.f62 (B7 Tryz.f62) [.agg [.sc (.int .u64 Ak),.lst false 3 Cd Al,.lst false 2 Bp Bd]] [.r,.r,.r,.r,.r,.r,.r,.l,.r,.l,.i m0,.r,.r,.l,.l,.r] nn ⟨lk [(1,(.ptr 1 0)),(4,(.view 4 1 0 y0)),(9,(.view 9 3 0 y1)),(11,(.sc (.int .i64 y2))),(12,(.ptr 12 0)),(55,(.lst false 2 y3 y4)),(56,(.sc (.int .i64 y5))),(57,(.sc (.int .i64 y6)))],Bu [(1,(.st [(.sc (.int .u64 y7)),(.lst false 3 y8 y9),(.lst false 2 y10 Fq)])),(4,(.ar false Gc)),(9,(.ar false H4)),(12,(.st [(.sc (.int .i64 Kn)),(.sc (.int .i64 J1))]))]⟩
theorem Hv (fu:Nat)(call:Af)(Ak:Int)(Cd:Nat)(Al:List PV)(Bp:Nat)(Bd:List PV)(nn y0 y1:Nat)(y2:List PV)(y3 y4 y5:Int)(y6:Nat)(y7:List PV)(y8:Nat)(y9 y10:List PV):Gq fu call Ak Cd Al Bp Bd (nn+1) y0 y1 y2 y3 y4 y5 y6 y7 y8 y9 y10=(Bk (decide (y4<y3)) (Ar (decide (0<=y4)&&decide (y4<(↑y1:Int)))<|Iv (List.getD y2 (Int.toNat y4*3) .top) fun x1=>Ae .i64 (List.getD y2 (Int.toNat y4*3+1) .top) fun x2=>Ae .u64 (List.getD y2 (Int.toNat y4*3+1+1) .top) fun x3=>Aj (call 104 [.agg [.sc (.string x1),.sc (.int .i64 x2),.sc (.int .u64 x3)]]) fun x4 x5=>Ac x5<|Ab x4 fun x6 x7=>Gw 3 x6 fun x8 x9=>Ab x7 fun C7 Dm=>Ae .i64 C7 fun Eh=>Ac Dm<|Bk (Eh != 0) (some (A5.mk [.own 3 0 [],.sc (.int .i64 Eh)] [])) (Ar (decide (0+x8*3<=x9.length))<|Ar (decide (y0*1<=y10.length)&&true&&decide ((y0+1)*24<=1099511627776)&&decide (y0+1<=1099511627776))<|Aa (y0+1) fun E6=>Aa (List.take (y0*1) y10++[.lst false 3 x8 (List.take (x8*3) (List.drop 0 x9))]) fun D8=>Aa (wrap .i64 (y4+1)) fun Ez=>Gq fu call Ak Cd Al Bp Bd (nn) E6 (y1) (y2) (y3) Ez (y5) (y6) (y7) (y8) (y9) D8)) (Ar (decide (0+y0*1<=y10.length))<|Aj (call 63 [.lst false 1 y0 (List.take (y0*1) (List.drop 0 y10))]) fun Fu Gt=>Ac Gt<|Ab Fu fun G7 Gj=>Gw 3 G7 fun Gx Ju=>Ab Gj fun H3 Jd=>Ae .i64 H3 fun Fn=>Ac Jd<|Bk (Fn != 0) (some (A5.mk [.own 3 0 [],.sc (.int .i64 Fn)] [])) (Fc fu call Ak Cd Al Bp Bd (fu) 0 Gx (y8) (y9) ((↑y8:Int)) 0 (y5) (y6) (y7) (y8) (y9) ([]) Ju))):=by kernel_rfl
theorem Dw (fu:Nat)(call:Af)(Ak:Int)(Cd:Nat)(Al:List PV)(Bp:Nat)(Bd:List PV)(nn y0:Nat)(y1 y2:Nat)(y3:List PV)(y4 y5 y6:Int)(y7:Nat)(y8:List PV)(y9:Nat)(y10 Fq Gc:List PV):Fc fu call Ak Cd Al Bp Bd (nn+1) y0 y1 y2 y3 y4 y5 y6 y7 y8 y9 y10 Fq Gc=(Bk (decide (y5<y4)) (Ar (decide (0<=y5)&&decide (y5<(↑y2:Int)))<|Ae .i64 (List.getD y3 (Int.toNat y5*2) .top) fun Ev=>Ae .i64 (List.getD y3 (Int.toNat y5*2+1) .top) fun Hz=>Bk (decide (Ev<1)) (some (A5.mk [.own 3 0 [],.sc (.int .i64 9)] [])) (Bk (decide (Ev>4)) (some (A5.mk [.own 3 0 [],.sc (.int .i64 9)] [])) (Bk (decide (Hz<0)) (some (A5.mk [.own 3 0 [],.sc (.int .i64 9)] [])) (Bk (decide (Hz>1099511627776)) (some (A5.mk [.own 3 0 [],.sc (.int .i64 9)] [])) (Nc fu call Ak Cd Al Bp Bd nn (fu) (y0) (y1) (y5) (y2) (y3) (y4) (y5) (y6) (y7) (y8) (y9) (y10) (Fq) (Gc) Ev Hz))))) (Ar (decide (0+y0*1<=Fq.length))<|Aj (call 63 [.lst false 1 y0 (List.take (y0*1) (List.drop 0 Fq))]) fun J3 Gy=>Ac Gy<|Ab J3 fun O4 Nu=>Gw 3 O4 fun K7 M4=>Ab Nu fun Oh P1=>Ae .i64 Oh fun Py=>Ac P1<|Bk (Py != 0) (some (A5.mk [.own 3 0 [],.sc (.int .i64 Py)] [])) (Aj (call 64 [.sc (.int .u64 y6)]) fun Q9 Um=>Ac Um<|Ab Q9 fun Ii Lq=>Gw 3 Ii fun Sr Xv=>Ac Lq<|Ar (decide (0+Sr*3<=Xv.length))<|Ar (decide (0+y1*3<=Gc.length))<|Ar (decide (0+K7*3<=M4.length))<|Aj (call 63 [.lst false 1 3 [.lst false 3 Sr (List.take (Sr*3) (List.drop 0 Xv)),.lst false 3 y1 (List.take (y1*3) (List.drop 0 Gc)),.lst false 3 K7 (List.take (K7*3) (List.drop 0 M4))]]) fun Ss Zu=>Ac Zu<|Ab Ss fun Y5 Xw=>Gw 3 Y5 fun Xe Xx=>Ab Xw fun X9 X8=>Ae .i64 X9 fun AW=>Ac X8<|Ar (decide (Xe*3<=Xx.length))<|some (A5.mk [.own 3 Xe (List.take (Xe*3) Xx),.sc (.int .i64 AW)] [])))):=by kernel_rfl
theorem Hx (fu:Nat)(call:Af)(Ak:Int)(Cd:Nat)(Al:List PV)(Bp:Nat)(Bd:List PV)(m0 nn:Nat)(Ko:0<nn)(y0 y1:Nat)(y2:Int)(y3:Nat)(y4:List PV)(y5 y6 y7:Int)(y8:Nat)(y9:List PV)(y10:Nat)(Fq Gc H4:List PV)(Kn J1:Int):Nc fu call Ak Cd Al Bp Bd m0 nn y0 y1 y2 y3 y4 y5 y6 y7 y8 y9 y10 Fq Gc H4 Kn J1=(Bk (decide (y2>0)) (Aa (wrap .i64 (y2-1)) fun Yu=>Ar (decide (0<=Yu)&&decide (Yu<(↑y10:Int)))<|Ae .i64 (List.getD Fq (Int.toNat Yu*2+1) .top) fun X7=>Bk (decide (J1<=X7)) (some (A5.mk [.own 3 0 [],.sc (.int .i64 7)] [])) (Aa (wrap .u64 Kn) fun BF=>Aj (call 64 [.sc (.int .u64 BF)]) fun DR EL=>Ac EL<|Ab DR fun BO DV=>Gw 3 BO fun Yy EW=>Ac DV<|Aa (wrap .u64 J1) fun AM=>Aj (call 64 [.sc (.int .u64 AM)]) fun BB DI=>Ac DI<|Ab BB fun BJ Zw=>Gw 3 BJ fun Ya Xg=>Ac Zw<|Ar (decide (0+Yy*3<=EW.length))<|Ar (decide (0+Ya*3<=Xg.length))<|Aj (call 63 [.lst false 1 2 [.lst false 3 Yy (List.take (Yy*3) (List.drop 0 EW)),.lst false 3 Ya (List.take (Ya*3) (List.drop 0 Xg))]]) fun BS ET=>Ac ET<|Ab BS fun CH CN=>Gw 3 CH fun CF CO=>Ab CN fun FJ Z9=>Ae .i64 FJ fun HN=>Ac Z9<|Bk (HN != 0) (some (A5.mk [.own 3 0 [],.sc (.int .i64 HN)] [])) (Ar (decide (0+CF*3<=CO.length))<|Ar (decide (y0*1<=Gc.length)&&true&&decide ((y0+1)*24<=1099511627776)&&decide (y0+1<=1099511627776))<|Aa (y0+1) fun LC=>Aa (List.take (y0*1) Gc++[.lst false 3 CF (List.take (CF*3) (List.drop 0 CO))]) fun EG=>Aa (wrap .i64 (y6+1)) fun JX=>Fc fu call Ak Cd Al Bp Bd (m0) LC (y1) (y3) (y4) (y5) JX (y7) (y8) (y9) (y10) (Fq) EG (H4)))) (Aa (wrap .u64 Kn) fun OB=>Aj (call 64 [.sc (.int .u64 OB)]) fun NB NK=>Ac NK<|Ab NB fun QN ZP=>Gw 3 QN fun UB x85=>Ac ZP<|Aa (wrap .u64 J1) fun VR=>Aj (call 64 [.sc (.int .u64 VR)]) fun VO UM=>Ac UM<|Ab VO fun MA YS=>Gw 3 MA fun UP x92=>Ac YS<|Ar (decide (0+UB*3<=x85.length))<|Ar (decide (0+UP*3<=x92.length))<|Aj (call 63 [.lst false 1 2 [.lst false 3 UB (List.take (UB*3) (List.drop 0 x85)),.lst false 3 UP (List.take (UP*3) (List.drop 0 x92))]]) fun x93 x94=>Ac x94<|Ab x93 fun x95 x96=>Gw 3 x95 fun UA OQ=>Ab x96 fun x99 V2=>Ae .i64 x99 fun Xs=>Ac V2<|Bk (Xs != 0) (some (A5.mk [.own 3 0 [],.sc (.int .i64 Xs)] [])) (Ar (decide (0+UA*3<=OQ.length))<|Ar (decide (y0*1<=Gc.length)&&true&&decide ((y0+1)*24<=1099511627776)&&decide (y0+1<=1099511627776))<|Aa (y0+1) fun Jh=>Aa (List.take (y0*1) Gc++[.lst false 3 UA (List.take (UA*3) (List.drop 0 OQ))]) fun Mx=>Aa (wrap .i64 (y6+1)) fun X1=>Fc fu call Ak Cd Al Bp Bd (m0) Jh (y1) (y3) (y4) (y5) X1 (y7) (y8) (y9) (y10) (Fq) Mx (H4)))):=by cases nn with|zero=>exact absurd Ko (Nat.lt_irrefl 0)|succ nn=>kernel_rfl
theorem Xt (fu d:Nat)(Ak:Int)(Cd:Nat)(Al:List PV)(Bp:Nat)(Bd:List PV):Ad C0 prog fu (d+1) N4 [.agg [.sc (.int .u64 Ak),.lst false 3 Cd Al,.lst false 2 Bp Bd]]=(fun (call:Af)=>Bk (decide ((↑Cd:Int)>4)) (some (A5.mk [.own 3 0 [],.sc (.int .i64 8)] [])) (Bk (decide ((↑Bp:Int)>4)) (some (A5.mk [.own 3 0 [],.sc (.int .i64 8)] [])) (Gq fu call Ak Cd Al Bp Bd (fu) 0 (Cd) (Al) ((↑Cd:Int)) 0 (Ak) (Cd) (Al) (Bp) (Bd) ([])))) (Ad C0 prog fu d):=by kernel_rfl
abbrev Xn:FuncId:=34
noncomputable def Ie (fu:Nat)(call:Af)(Ak Al Bd:Int)(Cp:Nat)(Cy:List PV)(Ff:Int)(C3:Nat)(Fh:List PV)(C4:Nat)(Fi:List PV)(nn y0 y1:Nat)(y2:List PV)(y3 y4:Int)(y5 y6 y7:Int)(y8:Nat)(y9:List PV)(y10:Int)(Fq:Nat)(Gc:List PV)(H4:Nat)(Kn J1:List PV):Option A5:=Dh CB prog fu call 34 Tryz.f34 (B7 Tryz.f34) [.agg [.sc (.int .i64 Ak),.sc (.int .i64 Al),.sc (.int .i64 Bd),.lst false 3 Cp Cy,.sc (.int .i64 Ff),.lst false 1 C3 Fh,.lst false 1 C4 Fi]] [.r,.r,.r,.r,.r,.l,.r,.l] nn ⟨lk [(1,(.ptr 1 0)),(4,(.view 4 1 0 y0)),(40,(.lst false 3 y1 y2)),(41,(.sc (.int .i64 y3))),(42,(.sc (.int .i64 y4)))],Bu [(1,(.st [(.sc (.int .i64 y5)),(.sc (.int .i64 y6)),(.sc (.int .i64 y7)),(.lst false 3 y8 y9),(.sc (.int .i64 y10)),(.lst false 1 Fq Gc),(.lst false 1 H4 Kn)])),(4,(.ar false J1))]⟩
theorem Sl (fu:Nat)(call:Af)(Ak Al Bd:Int)(Cp:Nat)(Cy:List PV)(Ff:Int)(C3:Nat)(Fh:List PV)(C4:Nat)(Fi:List PV)(nn y0 y1:Nat)(y2:List PV)(y3 y4:Int)(y5 y6 y7:Int)(y8:Nat)(y9:List PV)(y10:Int)(Fq:Nat)(Gc:List PV)(H4:Nat)(Kn J1:List PV):Ie fu call Ak Al Bd Cp Cy Ff C3 Fh C4 Fi (nn+1) y0 y1 y2 y3 y4 y5 y6 y7 y8 y9 y10 Fq Gc H4 Kn J1=(Bk (decide (y4<y3)) (Ar (decide (0<=y4)&&decide (y4<(↑y1:Int)))<|Ae .u64 (List.getD y2 (Int.toNat y4*3) .top) fun x1=>Em 3 (List.getD y2 (Int.toNat y4*3+1) .top) fun x2 x3 x4=>Em 2 (List.getD y2 (Int.toNat y4*3+1+1) .top) fun x5 x6 x7=>Bk (decide (y4>0)) (Aa (wrap .i64 (y4-1)) fun x8=>Ar (decide (0<=x8)&&decide (x8<(↑y8:Int)))<|Ae .u64 (List.getD y9 (Int.toNat x8*3+0) .top) fun x9=>Bk (decide (x1<=x9)) (some (A5.mk [.own 1 0 [],.sc (.int .i64 7)] [])) (Aj (call 62 [.agg [.sc (.int .u64 x1),.lst false 3 x3 x4,.lst false 2 x6 x7]]) fun C7 Dm=>Ac Dm<|Ab C7 fun Eh E6=>Gw 3 Eh fun D8 Ez=>Ab E6 fun Fu Gt=>Ae .i64 Fu fun G7=>Ac Gt<|Bk (G7 != 0) (some (A5.mk [.own 1 0 [],.sc (.int .i64 G7)] [])) (Ar (decide (0+D8*3<=Ez.length))<|Ar (decide (y0*1<=J1.length)&&true&&decide ((y0+1)*24<=1099511627776)&&decide (y0+1<=1099511627776))<|Aa (y0+1) fun Gj=>Aa (List.take (y0*1) J1++[.lst false 3 D8 (List.take (D8*3) (List.drop 0 Ez))]) fun Gx=>Aa (wrap .i64 (y4+1)) fun Ju=>Ie fu call Ak Al Bd Cp Cy Ff C3 Fh C4 Fi (nn) Gj (y1) (y2) (y3) Ju (y5) (y6) (y7) (y8) (y9) (y10) (Fq) (Gc) (H4) (Kn) Gx))) (Aj (call 62 [.agg [.sc (.int .u64 x1),.lst false 3 x3 x4,.lst false 2 x6 x7]]) fun H3 Jd=>Ac Jd<|Ab H3 fun Fn Ev=>Gw 3 Fn fun Hz J3=>Ab Ev fun Gy O4=>Ae .i64 Gy fun Nu=>Ac O4<|Bk (Nu != 0) (some (A5.mk [.own 1 0 [],.sc (.int .i64 Nu)] [])) (Ar (decide (0+Hz*3<=J3.length))<|Ar (decide (y0*1<=J1.length)&&true&&decide ((y0+1)*24<=1099511627776)&&decide (y0+1<=1099511627776))<|Aa (y0+1) fun K7=>Aa (List.take (y0*1) J1++[.lst false 3 Hz (List.take (Hz*3) (List.drop 0 J3))]) fun M4=>Aa (wrap .i64 (y4+1)) fun Oh=>Ie fu call Ak Al Bd Cp Cy Ff C3 Fh C4 Fi (nn) K7 (y1) (y2) (y3) Oh (y5) (y6) (y7) (y8) (y9) (y10) (Fq) (Gc) (H4) (Kn) M4))) (Ar (decide (0+y0*1<=J1.length))<|Aj (call 63 [.lst false 1 y0 (List.take (y0*1) (List.drop 0 J1))]) fun P1 Py=>Ac Py<|Ab P1 fun Q9 Um=>Gw 3 Q9 fun Ii Lq=>Ab Um fun Sr Xv=>Ae .i64 Sr fun Ss=>Ac Xv<|Bk (Ss != 0) (some (A5.mk [.own 1 0 [],.sc (.int .i64 Ss)] [])) (Aa (wrap .u64 y5) fun Zu=>Aj (call 64 [.sc (.int .u64 Zu)]) fun Y5 Xw=>Ac Xw<|Ab Y5 fun Xe Xx=>Gw 3 Xe fun X9 X8=>Ac Xx<|Aa (wrap .u64 y6) fun AW=>Aj (call 64 [.sc (.int .u64 AW)]) fun Yu X7=>Ac X7<|Ab Yu fun BF DR=>Gw 3 BF fun EL BO=>Ac DR<|Aa (wrap .u64 y7) fun DV=>Aj (call 64 [.sc (.int .u64 DV)]) fun Yy EW=>Ac EW<|Ab Yy fun AM BB=>Gw 3 AM fun DI BJ=>Ac BB<|Ar (decide (0+X9*3<=X8.length))<|Ar (decide (0+EL*3<=BO.length))<|Ar (decide (0+DI*3<=BJ.length))<|Ar (decide (0+Ii*3<=Lq.length))<|Aj (call 63 [.lst false 1 4 [.lst false 3 X9 (List.take (X9*3) (List.drop 0 X8)),.lst false 3 EL (List.take (EL*3) (List.drop 0 BO)),.lst false 3 DI (List.take (DI*3) (List.drop 0 BJ)),.lst false 3 Ii (List.take (Ii*3) (List.drop 0 Lq))]]) fun Zw Ya=>Ac Ya<|Ab Zw fun Xg BS=>Gw 3 Xg fun ET CH=>Ab BS fun CN CF=>Ae .i64 CN fun CO=>Ac CF<|Bk (CO != 0) (some (A5.mk [.own 1 0 [],.sc (.int .i64 CO)] [])) (Ar (decide (0+ET*3<=CH.length))<|Aj (call 65 [.lst false 3 ET (List.take (ET*3) (List.drop 0 CH))]) fun FJ Z9=>Ac Z9<|Ab FJ fun HN LC=>Gw 1 HN fun EG JX=>Ab LC fun OB NB=>Ae .i64 OB fun NK=>Ac NB<|Ar (decide (EG*1<=JX.length))<|some (A5.mk [.own 1 EG (List.take (EG*1) JX),.sc (.int .i64 NK)] []))))):=by kernel_rfl
theorem MW (fu d:Nat)(Ak Al Bd:Int)(Cp:Nat)(Cy:List PV)(Ff:Int)(C3:Nat)(Fh:List PV)(C4:Nat)(Fi:List PV):Ad C0 prog fu (d+1) Xn [.agg [.sc (.int .i64 Ak),.sc (.int .i64 Al),.sc (.int .i64 Bd),.lst false 3 Cp Cy,.sc (.int .i64 Ff),.lst false 1 C3 Fh,.lst false 1 C4 Fi]]=(fun (call:Af)=>Bk (decide (Ak<1)) (some (A5.mk [.own 1 0 [],.sc (.int .i64 9)] [])) (Bk (decide (Ak>16)) (some (A5.mk [.own 1 0 [],.sc (.int .i64 9)] [])) (Bk (decide (Al<0)) (some (A5.mk [.own 1 0 [],.sc (.int .i64 9)] [])) (Bk (decide (Al>Bd)) (some (A5.mk [.own 1 0 [],.sc (.int .i64 9)] [])) (Bk (decide (Bd>1099511627776)) (some (A5.mk [.own 1 0 [],.sc (.int .i64 9)] [])) (Bk (decide ((↑Cp:Int)>16)) (some (A5.mk [.own 1 0 [],.sc (.int .i64 8)] [])) (Ie fu call Ak Al Bd Cp Cy Ff C3 Fh C4 Fi (fu) 0 (Cp) (Cy) ((↑Cp:Int)) 0 (Ak) (Al) (Bd) (Cp) (Cy) (Ff) (C3) (Fh) (C4) (Fi) ([])))))))) (Ad C0 prog fu d):=by kernel_rfl
abbrev Xf:FuncId:=35
theorem NL (fu d:Nat)(Ak Al Bd:Int)(Cp:Nat)(Cy:List PV)(Ff:Int)(C3:Nat)(Fh:List PV)(C4:Nat)(Fi:List PV):Ad C0 prog fu (d+1) Xf [.agg [.sc (.int .i64 Ak),.sc (.int .i64 Al),.sc (.int .i64 Bd),.lst false 3 Cp Cy,.sc (.int .i64 Ff),.lst false 1 C3 Fh,.lst false 1 C4 Fi]]=(fun (call:Af)=>Aj (call 34 [.agg [.sc (.int .i64 Ak),.sc (.int .i64 Al),.sc (.int .i64 Bd),.lst false 3 Cp Cy,.sc (.int .i64 Ff),.lst false 1 C3 Fh,.lst false 1 C4 Fi]]) fun x1 x2=>Ac x2<|Ab x1 fun x3 x4=>Gw 1 x3 fun x5 x6=>Ab x4 fun x7 x8=>Ae .i64 x7 fun x9=>Ac x8<|Bk (x9 != 0) (some (A5.mk [.sc (.int .u64 0),.sc (.int .i64 x9)] [])) (Ar (decide (0+x5*1<=x6.length))<|Aj (call 66 [.sc (.int .i64 15),.lst false 1 x5 (List.take (x5*1) (List.drop 0 x6))]) fun C7 Dm=>Ac Dm<|Ab C7 fun Eh E6=>Ae .u64 Eh fun D8=>Ac E6<|some (A5.mk [.sc (.int .u64 D8),.sc (.int .i64 0)] []))) (Ad C0 prog fu d):=by kernel_rfl
abbrev Tg:FuncId:=19
theorem HY (fu d:Nat)(Ak Al Bd:Int)(Cp:Nat)(Cy:List PV)(Ff:Int)(C3:Nat)(Fh:List PV)(C4:Nat)(Fi:List PV)(Cg Cf:Int):Ad C0 prog fu (d+1) Tg [.agg [.sc (.int .i64 Ak),.sc (.int .i64 Al),.sc (.int .i64 Bd),.lst false 3 Cp Cy,.sc (.int .i64 Ff),.lst false 1 C3 Fh,.lst false 1 C4 Fi],.agg [.sc (.int .i64 Cg),.sc (.int .u64 Cf)]]=(fun (call:Af)=>Aj (call 35 [.agg [.sc (.int .i64 Ak),.sc (.int .i64 Al),.sc (.int .i64 Bd),.lst false 3 Cp Cy,.sc (.int .i64 Ff),.lst false 1 C3 Fh,.lst false 1 C4 Fi]]) fun x1 x2=>Ac x2<|Ab x1 fun x3 x4=>Ae .u64 x3 fun x5=>Ab x4 fun x6 x7=>Ae .i64 x6 fun x8=>Ac x7<|Bk (x8 != 0) (some (A5.mk [.sc (.int .i64 x8)] [])) (Aa (wrap .i64 (Ak-1)) fun x9=>Bk (Ff != x9) (some (A5.mk [.sc (.int .i64 33)] [])) (Aj (call 40 [.agg [.sc (.int .i64 Cg),.sc (.int .u64 Cf)],.sc (.int .u64 x5),.agg [.sc (.int .i64 Ff),.lst false 1 C3 Fh,.lst false 1 C4 Fi]]) fun C7 Dm=>Ac Dm<|Ab C7 fun Eh E6=>Ae .i64 Eh fun D8=>Ac E6<|some (A5.mk [.sc (.int .i64 D8)] [])))) (Ad C0 prog fu d):=by kernel_rfl
abbrev Ta:FuncId:=25
theorem FX (fu d:Nat)(Ak Al Bd:Int)(Cp:Nat)(Cy:List PV)(Ff:Int)(C3:Nat)(Fh:List PV)(C4:Nat)(Fi:List PV):Ad C0 prog fu (d+1) Ta [.agg [.sc (.int .i64 Ak),.sc (.int .i64 Al),.sc (.int .i64 Bd),.lst false 3 Cp Cy,.sc (.int .i64 Ff),.lst false 1 C3 Fh,.lst false 1 C4 Fi]]=(fun (call:Af)=>Aj (call 34 [.agg [.sc (.int .i64 Ak),.sc (.int .i64 Al),.sc (.int .i64 Bd),.lst false 3 Cp Cy,.sc (.int .i64 Ff),.lst false 1 C3 Fh,.lst false 1 C4 Fi]]) fun x1 x2=>Ac x2<|Ab x1 fun x3 x4=>Gw 1 x3 fun x5 x6=>Ab x4 fun x7 x8=>Ae .i64 x7 fun x9=>Ac x8<|Bk (x9 != 0) (some (A5.mk [.own 1 0 [],.sc (.int .i64 x9)] [])) (Aj (call 46 [.agg [.sc (.int .i64 Ff),.lst false 1 C3 Fh,.lst false 1 C4 Fi]]) fun C7 Dm=>Ac Dm<|Ab C7 fun Eh E6=>Gw 1 Eh fun D8 Ez=>Ab E6 fun Fu Gt=>Ae .i64 Fu fun G7=>Ac Gt<|Bk (G7 != 0) (some (A5.mk [.own 1 0 [],.sc (.int .i64 G7)] [])) (Ar (decide (0+D8*1<=Ez.length))<|Ar (decide (x5*1<=x6.length)&&decide (List.length (List.take (D8*1) (List.drop 0 Ez))=D8*1)&&decide ((x5+D8)*1<=1099511627776)&&decide (x5+D8<=1099511627776))<|Aa (x5+D8) fun Gj=>Aa (List.take (x5*1) x6++List.take (D8*1) (List.drop 0 Ez)) fun Gx=>Ar (decide (Gj*1<=Gx.length))<|some (A5.mk [.own 1 Gj (List.take (Gj*1) Gx),.sc (.int .i64 0)] [])))) (Ad C0 prog fu d):=by kernel_rfl
abbrev P7:FuncId:=16
noncomputable def Kp (fu:Nat)(call:Af)(Ak Al Bd:Int)(Cp:Nat)(Cy:List PV)(Ff:Int)(C3:Nat)(Fh:List PV)(C4:Nat)(Fi:List PV)(a1 a2:Int)(nn y0 y1:Nat)(y2:List PV)(y3 y4:Int)(y5 y6 y7:Int)(y8:Nat)(y9:List PV)(y10:Int)(Fq:Nat)(Gc:List PV)(H4:Nat)(Kn:List PV)(J1 Mo Ku:Int)(Mq:Nat)(K6:Int)(Jk I9:Nat)(Nx Ys y24:List PV)(y25:Int)(QQ:Nat)(OU:List PV)(y28:Nat)(ZO y30:List PV):Option A5:=Dh CB prog fu call 16 Tryz.f16 (B7 Tryz.f16) [.agg [.sc (.int .i64 Ak),.sc (.int .i64 Al),.sc (.int .i64 Bd),.lst false 3 Cp Cy,.sc (.int .i64 Ff),.lst false 1 C3 Fh,.lst false 1 C4 Fi],.sc (.int .u64 a1),.sc (.int .i64 a2)] [.r,.r,.r,.r,.r,.r,.l,.r,.l] nn ⟨lk [(3,(.ptr 3 0)),(6,(.ptr 6 0)),(10,(.ptr 10 0)),(11,(.view 11 3 0 y0)),(42,(.lst false 3 y1 y2)),(43,(.sc (.int .i64 y3))),(44,(.sc (.int .i64 y4)))],Bu [(3,(.st [(.sc (.int .i64 y5)),(.sc (.int .i64 y6)),(.sc (.int .i64 y7)),(.lst false 3 y8 y9),(.sc (.int .i64 y10)),(.lst false 1 Fq Gc),(.lst false 1 H4 Kn)])),(6,(.st [(.sc (.int .i64 J1)),(.sc (.int .i64 Mo)),(.sc (.int .i64 Ku)),(.view 242 3 0 Mq),(.sc (.int .i64 K6)),(.view 360 1 0 Jk),(.view 419 1 0 I9)])),(242,(.ar false Nx)),(360,(.ar false Ys)),(419,(.ar false y24)),(10,(.st [(.sc (.int .i64 y25)),(.lst false 1 QQ OU),(.lst false 1 y28 ZO)])),(11,(.ar false y30))]⟩
theorem Rp (fu:Nat)(call:Af)(Ak Al Bd:Int)(Cp:Nat)(Cy:List PV)(Ff:Int)(C3:Nat)(Fh:List PV)(C4:Nat)(Fi:List PV)(a1 a2:Int)(nn y0 y1:Nat)(y2:List PV)(y3 y4:Int)(y5 y6 y7:Int)(y8:Nat)(y9:List PV)(y10:Int)(Fq:Nat)(Gc:List PV)(H4:Nat)(Kn:List PV)(J1 Mo Ku:Int)(Mq:Nat)(K6:Int)(Jk I9:Nat)(Nx Ys y24:List PV)(y25:Int)(QQ:Nat)(OU:List PV)(y28:Nat)(ZO y30:List PV):Kp fu call Ak Al Bd Cp Cy Ff C3 Fh C4 Fi a1 a2 (nn+1) y0 y1 y2 y3 y4 y5 y6 y7 y8 y9 y10 Fq Gc H4 Kn J1 Mo Ku Mq K6 Jk I9 Nx Ys y24 y25 QQ OU y28 ZO y30=(Bk (decide (y4<y3)) (Ar (decide (0<=y4)&&decide (y4<(↑y1:Int)))<|Ae .u64 (List.getD y2 (Int.toNat y4*3) .top) fun K7=>Em 3 (List.getD y2 (Int.toNat y4*3+1) .top) fun M4 Oh P1=>Em 2 (List.getD y2 (Int.toNat y4*3+1+1) .top) fun Py Q9 Um=>Aj (call 37 [.agg [.sc (.int .u64 K7),.lst false 3 Oh P1,.lst false 2 Q9 Um]]) fun Ii Lq=>Ac Lq<|Ab Ii fun Sr Xv=>Ft Sr fun Ss=>Ab Ss fun Zu Y5=>Ae .u64 Zu fun Xw=>Ab Y5 fun Xe Xx=>Em 3 Xe fun X9 X8 AW=>Ab Xx fun Yu X7=>Em 2 Yu fun BF DR EL=>Ac X7<|Ac Xv<|Ar (decide (y0*3<=y30.length)&&true&&decide ((y0+1)*56<=1099511627776)&&decide (y0+1<=1099511627776))<|Aa (y0+1) fun BO=>Aa (List.take (y0*3) y30++[.sc (.int .u64 Xw),.lst false 3 X8 AW,.lst false 2 DR EL]) fun DV=>Aa (wrap .i64 (y4+1)) fun Yy=>Kp fu call Ak Al Bd Cp Cy Ff C3 Fh C4 Fi a1 a2 (nn) BO (y1) (y2) (y3) Yy (y5) (y6) (y7) (y8) (y9) (y10) (Fq) (Gc) (H4) (Kn) (J1) (Mo) (Ku) (Mq) (K6) (Jk) (I9) (Nx) (Ys) (y24) (y25) (QQ) (OU) (y28) (ZO) DV) (Ar (decide (0+y0*3<=y30.length))<|some (A5.mk [.agg [.sc (.int .i64 y5),.sc (.int .i64 y6),.sc (.int .i64 y7),.lst false 3 y0 (List.take (y0*3) (List.drop 0 y30)),.sc (.int .i64 y25),.lst false 1 QQ OU,.lst false 1 y28 ZO],.sc (.int .i64 0)] []))):=by kernel_rfl
theorem NS (fu d:Nat)(Ak Al Bd:Int)(Cp:Nat)(Cy:List PV)(Ff:Int)(C3:Nat)(Fh:List PV)(C4:Nat)(Fi:List PV)(a1 a2:Int):Ad C0 prog fu (d+1) P7 [.agg [.sc (.int .i64 Ak),.sc (.int .i64 Al),.sc (.int .i64 Bd),.lst false 3 Cp Cy,.sc (.int .i64 Ff),.lst false 1 C3 Fh,.lst false 1 C4 Fi],.sc (.int .u64 a1),.sc (.int .i64 a2)]=(fun (call:Af)=>Aj (call 35 [.agg [.sc (.int .i64 Ak),.sc (.int .i64 Al),.sc (.int .i64 Bd),.lst false 3 Cp Cy,.sc (.int .i64 Ff),.lst false 1 C3 Fh,.lst false 1 C4 Fi]]) fun x1 x2=>Ac x2<|Ab x1 fun x3 x4=>Ae .u64 x3 fun x5=>Ab x4 fun x6 x7=>Ae .i64 x6 fun x8=>Ac x7<|Bk (x8 != 0) (some (A5.mk [.agg [.sc (.int .i64 0),.sc (.int .i64 0),.sc (.int .i64 0),.lst false 3 0 [],.sc (.int .i64 0),.lst false 1 0 [],.lst false 1 0 []],.sc (.int .i64 x8)] [])) (Aa (wrap .i64 (Ak-1)) fun x9=>Aj (call 36 [.sc (.int .u64 a1),.sc (.int .i64 a2),.sc (.int .i64 x9),.sc (.int .u64 x5)]) fun C7 Dm=>Ac Dm<|Ab C7 fun Eh E6=>Ft Eh fun D8=>Ab D8 fun Ez Fu=>Ae .i64 Ez fun Gt=>Ab Fu fun G7 Gj=>Em 1 G7 fun Gx Ju H3=>Ab Gj fun Jd Fn=>Em 1 Jd fun Ev Hz J3=>Ac Fn<|Ab E6 fun Gy O4=>Ae .i64 Gy fun Nu=>Ac O4<|Bk (Nu != 0) (some (A5.mk [.agg [.sc (.int .i64 0),.sc (.int .i64 0),.sc (.int .i64 0),.lst false 3 0 [],.sc (.int .i64 0),.lst false 1 0 [],.lst false 1 0 []],.sc (.int .i64 Nu)] [])) (Ar (decide ((↑Cp:Int)*56<=1099511627776)&&decide ((↑Cp:Int)<=1099511627776))<|Kp fu call Ak Al Bd Cp Cy Ff C3 Fh C4 Fi a1 a2 (fu) 0 (Cp) (Cy) ((↑Cp:Int)) 0 (Ak) (Al) (Bd) (Cp) (Cy) (Ff) (C3) (Fh) (C4) (Fi) 0 0 0 0 0 0 0 ([]) ([]) ([]) Gt Ju H3 Hz J3 ([])))) (Ad C0 prog fu d):=by kernel_rfl
abbrev Ni:FuncId:=124
theorem Wr (fu d Ai:Nat)(Ak:List PV)(Al:Bool)(a1:Int):Ad C0 prog fu (d+1) Ni [.pbox [.lst false 3 Ai Ak,.sc (.bool Al)],.sc (.int .i64 a1)]=(fun (call:Af)=>Bk (Al) (some (A5.mk [.agg [.sc (.int .i64 0),.sc (.int .u64 0),.sc (.string (ByteArray.mk #[]))]] [[.lst false 3 Ai Ak,.sc (.bool true)]])) (Bk ((↑Ai:Int)==0) (some (A5.mk [.agg [.sc (.int .i64 0),.sc (.int .u64 0),.sc (.string (ByteArray.mk #[]))]] [[.lst false 3 Ai Ak,.sc (.bool true)]])) (Ar (decide (0<(↑Ai:Int)))<|Ae .i64 (List.getD Ak 0 .top) fun x1=>Bk (x1 != a1) (some (A5.mk [.agg [.sc (.int .i64 0),.sc (.int .u64 0),.sc (.string (ByteArray.mk #[]))]] [[.lst false 3 Ai Ak,.sc (.bool true)]])) (Ar (decide (0<(↑Ai:Int)))<|Ae .i64 (List.getD Ak 0 .top) fun x2=>Ae .u64 (List.getD Ak 1 .top) fun x3=>Iv (List.getD Ak 2 .top) fun x4=>Ar (decide (1<=Ai)&&decide (Ai<=Ai))<|Aa (Ai-1) fun x5=>Aa (List.take (x5*3) (List.drop 3 Ak)) fun x6=>some (A5.mk [.agg [.sc (.int .i64 x2),.sc (.int .u64 x3),.sc (.string x4)]] [[.lst false 3 x5 x6,.sc (.bool Al)]]))))) (Ad C0 prog fu d):=by kernel_rfl
abbrev Lj:FuncId:=90
theorem Ub (fu d Ai:Nat)(Ak:List PV)(Al:Bool):Ad C0 prog fu (d+1) Lj [.pbox [.lst false 3 Ai Ak,.sc (.bool Al)]]=(fun (call:Af)=>Aj (call 124 [.pbox [.lst false 3 Ai Ak,.sc (.bool Al)],.sc (.int .i64 1)]) fun x1 x2=>Ab x1 fun x3 x4=>Ft x3 fun x5=>Ab x5 fun x6 x7=>Ae .i64 x6 fun x8=>Ab x7 fun x9 C7=>Ae .u64 x9 fun Dm=>Ab C7 fun Eh E6=>Iv Eh fun D8=>Ac E6<|Ac x4<|Ab x2 fun Ez Fu=>Ab Ez fun Gt G7=>Em 3 Gt fun Gj Gx Ju=>Ab G7 fun H3 Jd=>Bv H3 fun Fn=>Ac Jd<|Ac Fu<|some (A5.mk [.sc (.int .u64 Dm)] [[.lst false 3 Gx Ju,.sc (.bool Fn)]])) (Ad C0 prog fu d):=by kernel_rfl
abbrev Mz:FuncId:=89
theorem Wp (fu d Ai:Nat)(Ak:List PV)(Al:Bool):Ad C0 prog fu (d+1) Mz [.pbox [.lst false 3 Ai Ak,.sc (.bool Al)]]=(fun (call:Af)=>Aj (call 124 [.pbox [.lst false 3 Ai Ak,.sc (.bool Al)],.sc (.int .i64 5)]) fun x1 x2=>Ab x1 fun x3 x4=>Ft x3 fun x5=>Ab x5 fun x6 x7=>Ae .i64 x6 fun x8=>Ab x7 fun x9 C7=>Ae .u64 x9 fun Dm=>Ab C7 fun Eh E6=>Iv Eh fun D8=>Ac E6<|Ac x4<|Ab x2 fun Ez Fu=>Ab Ez fun Gt G7=>Em 3 Gt fun Gj Gx Ju=>Ab G7 fun H3 Jd=>Bv H3 fun Fn=>Ac Jd<|Ac Fu<|some (A5.mk [.sc (.int .u64 Dm)] [[.lst false 3 Gx Ju,.sc (.bool Fn)]])) (Ad C0 prog fu d):=by kernel_rfl
abbrev Jp:FuncId:=91
noncomputable def Dr (fu:Nat)(call:Af)(Ai:Nat)(Ak:List PV)(Al:Bool)(nn:Nat)(y0:Int)(y1:Nat)(y2:List PV)(y3:Bool)(y4:Int)(y5 y6:Nat)(y7 y8:List PV)(y9:Int)(y10 Fq:Nat)(Gc H4:List PV):Option A5:=Dh CB prog fu call 91 Tryz.f91 (B7 Tryz.f91) [.pbox [.lst false 3 Ai Ak,.sc (.bool Al)]] [.r,.r,.r,.l,.r,.l] nn ⟨lk [(0,(.ptr 162000 0)),(2,(.ptr 2 0)),(3,(.ptr 3 0)),(4,(.sc (.int .u64 y0)))],Bu [(162000,(.st [(.lst false 3 y1 y2),(.sc (.bool y3))])),(2,(.st [(.sc (.int .u64 y4)),(.view 164 3 0 y5),(.view 245 2 0 y6)])),(164,(.ar false y7)),(245,(.ar false y8)),(3,(.st [(.sc (.int .u64 y9)),(.view 165 3 0 y10),(.view 246 2 0 Fq)])),(165,(.ar false Gc)),(246,(.ar false H4))]⟩
noncomputable def C1 (fu:Nat)(call:Af)(Ai:Nat)(Ak:List PV)(Al:Bool)(nn:Nat)(y0:Int)(y1:Nat)(y2:List PV)(y3:Bool)(y4:Int)(y5 y6:Nat)(y7 y8:List PV)(y9:Int)(y10 Fq:Nat)(Gc H4:List PV):Option A5:=Dh CB prog fu call 91 Tryz.f91 (B7 Tryz.f91) [.pbox [.lst false 3 Ai Ak,.sc (.bool Al)]] [.r,.r,.r,.r,.l,.r,.l] nn ⟨lk [(0,(.ptr 162000 0)),(2,(.ptr 2 0)),(3,(.ptr 3 0)),(8,(.sc (.int .u64 y0)))],Bu [(162000,(.st [(.lst false 3 y1 y2),(.sc (.bool y3))])),(2,(.st [(.sc (.int .u64 y4)),(.view 164 3 0 y5),(.view 245 2 0 y6)])),(164,(.ar false y7)),(245,(.ar false y8)),(3,(.st [(.sc (.int .u64 y9)),(.view 165 3 0 y10),(.view 246 2 0 Fq)])),(165,(.ar false Gc)),(246,(.ar false H4))]⟩
theorem On (fu:Nat)(call:Af)(Ai:Nat)(Ak:List PV)(Al:Bool)(nn:Nat)(y0:Int)(y1:Nat)(y2:List PV)(y3:Bool)(y4:Int)(y5 y6:Nat)(y7 y8:List PV)(y9:Int)(y10 Fq:Nat)(Gc H4:List PV):Dr fu call Ai Ak Al (nn+1) y0 y1 y2 y3 y4 y5 y6 y7 y8 y9 y10 Fq Gc H4=(Bk (decide (y0>0)) (Bk (!y3) (Aj (call 89 [.pbox [.lst false 3 y1 y2,.sc (.bool y3)]]) fun Xe Xx=>Ab Xe fun X9 X8=>Ae .u64 X9 fun AW=>Ac X8<|Ab Xx fun Yu X7=>Ab Yu fun BF DR=>Em 3 BF fun EL BO DV=>Ab DR fun Yy EW=>Bv Yy fun AM=>Ac EW<|Ac X7<|Aj (call 124 [.pbox [.lst false 3 BO DV,.sc (.bool AM)],.sc (.int .i64 4)]) fun BB DI=>Ab BB fun BJ Zw=>Ft BJ fun Ya=>Ab Ya fun Xg BS=>Ae .i64 Xg fun ET=>Ab BS fun CH CN=>Ae .u64 CH fun CF=>Ab CN fun CO FJ=>Iv CO fun Z9=>Ac FJ<|Ac Zw<|Ab DI fun HN LC=>Ab HN fun EG JX=>Em 3 EG fun OB NB NK=>Ab JX fun QN ZP=>Bv QN fun UB=>Ac ZP<|Ac LC<|Aj (call 124 [.pbox [.lst false 3 NB NK,.sc (.bool UB)],.sc (.int .i64 3)]) fun x85 VR=>Ab x85 fun VO UM=>Ft VO fun MA=>Ab MA fun YS UP=>Ae .i64 YS fun x92=>Ab UP fun x93 x94=>Ae .u64 x93 fun x95=>Ab x94 fun x96 UA=>Iv x96 fun OQ=>Ac UA<|Ac UM<|Ab VR fun x99 V2=>Ab x99 fun Xs Jh=>Em 3 Xs fun Mx X1 Uy=>Ab Jh fun Vq Pa=>Bv Vq fun DK=>Ac Pa<|Ac V2<|Ar (decide (ByteArray.size OQ<=1099511627776))<|Ar (decide (0+ByteArray.size OQ*1<=List.length (Fs OQ)))<|Aj (call 125 [.lst false 1 (ByteArray.size OQ) (List.take (ByteArray.size OQ*1) (List.drop 0 (Fs OQ)))]) fun HC JS=>Ac JS<|Ab HC fun ID Lf=>Ft ID fun P5=>Ab P5 fun NW IX=>Ae .i64 NW fun GQ=>Ab IX fun MY KJ=>Ae .u64 MY fun JN=>Ac KJ<|Ab Lf fun MT JO=>Ae .i64 MT fun GJ=>Ac JO<|Bk (GJ != 0) (Ar (decide (y10*3<=Gc.length)&&true&&decide ((y10+1)*32<=1099511627776)&&decide (y10+1<=1099511627776))<|Aa (y10+1) fun KH=>Aa (List.take (y10*3) Gc++[.sc (.string Z9),.sc (.int .i64 GQ),.sc (.int .u64 JN)]) fun JG=>Aa (wrap .u64 (y0-1)) fun IQ=>Dr fu call Ai Ak Al (nn) IQ X1 Uy (true) (y4) (y5) (y6) (y7) (y8) (y9) KH (Fq) JG (H4)) (Ar (decide (y10*3<=Gc.length)&&true&&decide ((y10+1)*32<=1099511627776)&&decide (y10+1<=1099511627776))<|Aa (y10+1) fun Xu=>Aa (List.take (y10*3) Gc++[.sc (.string Z9),.sc (.int .i64 GQ),.sc (.int .u64 JN)]) fun EC=>Aa (wrap .u64 (y0-1)) fun OD=>Dr fu call Ai Ak Al (nn) OD X1 Uy DK (y4) (y5) (y6) (y7) (y8) (y9) Xu (Fq) EC (H4))) (Aj (call 89 [.pbox [.lst false 3 y1 y2,.sc (.bool y3)]]) fun NF Zi=>Ab NF fun QE NC=>Ae .u64 QE fun QY=>Ac NC<|Ab Zi fun VD QX=>Ab VD fun NG UQ=>Em 3 NG fun UG SB SD=>Ab UQ fun RI RN=>Bv RI fun QR=>Ac RN<|Ac QX<|C1 fu call Ai Ak Al (fu) QY SB SD QR (y4) (y5) (y6) (y7) (y8) (y9) (y10) (Fq) (Gc) (H4))) (Aj (call 89 [.pbox [.lst false 3 y1 y2,.sc (.bool y3)]]) fun JT ND=>Ab JT fun RA PD=>Ae .u64 RA fun RQ=>Ac PD<|Ab ND fun Abf Aba=>Ab Abf fun Aa1 Abe=>Em 3 Aa1 fun Aho Aly Aha=>Ab Abe fun Ag6 Ac8=>Bv Ag6 fun Aht=>Ac Ac8<|Ac Aba<|C1 fu call Ai Ak Al (fu) RQ Aly Aha Aht (y4) (y5) (y6) (y7) (y8) (y9) (y10) (Fq) (Gc) (H4))):=by kernel_rfl
theorem Ol (fu:Nat)(call:Af)(Ai:Nat)(Ak:List PV)(Al:Bool)(nn:Nat)(y0:Int)(y1:Nat)(y2:List PV)(y3:Bool)(y4:Int)(y5 y6:Nat)(y7 y8:List PV)(y9:Int)(y10 Fq:Nat)(Gc H4:List PV):C1 fu call Ai Ak Al (nn+1) y0 y1 y2 y3 y4 y5 y6 y7 y8 y9 y10 Fq Gc H4=(Bk (decide (y0>0)) (Bk (!y3) (Aj (call 89 [.pbox [.lst false 3 y1 y2,.sc (.bool y3)]]) fun Aie Ahl=>Ab Aie fun Ag5 Ahm=>Ae .u64 Ag5 fun Aml=>Ac Ahm<|Ab Ahl fun TH Adi=>Ab TH fun Af3 Agd=>Em 3 Af3 fun Ako Am2 UY=>Ab Agd fun UE Agx=>Bv UE fun Ahk=>Ac Agx<|Ac Adi<|Aj (call 90 [.pbox [.lst false 3 Am2 UY,.sc (.bool Ahk)]]) fun UZ ZJ=>Ab UZ fun Abz Ald=>Ae .u64 Abz fun Af6=>Ac Ald<|Ab ZJ fun ZG Aq6=>Ab ZG fun Ap4 Aq3=>Em 3 Ap4 fun Auo Av4 Av0=>Ab Aq3 fun Are Apy=>Bv Are fun Asj=>Ac Apy<|Ac Aq6<|Aa (wrap .i64 Af6) fun Apf=>Aj (call 90 [.pbox [.lst false 3 Av4 Av0,.sc (.bool Asj)]]) fun Avj Ao2=>Ab Avj fun Aoq Aor=>Ae .u64 Aoq fun Asx=>Ac Aor<|Ab Ao2 fun Apx As1=>Ab Apx fun Apl Asr=>Em 3 Apl fun Aue Art Att=>Ab Asr fun Asf Ary=>Bv Asf fun Apw=>Ac Ary<|Ac As1<|Aa (wrap .i64 Asx) fun Afj=>Ar (decide (Fq*2<=H4.length)&&true&&decide ((Fq+1)*16<=1099511627776)&&decide (Fq+1<=1099511627776))<|Aa (Fq+1) fun Ag3=>Aa (List.take (Fq*2) H4++[.sc (.int .i64 Apf),.sc (.int .i64 Afj)]) fun Ar5=>Aa (wrap .u64 (y0-1)) fun Api=>C1 fu call Ai Ak Al (nn) Api Art Att Apw (y4) (y5) (y6) (y7) (y8) (y9) (y10) Ag3 (Gc) Ar5) (Ar (decide (0+y10*3<=Gc.length))<|Ar (decide (0+Fq*2<=H4.length))<|some (A5.mk [.agg [.sc (.int .u64 y9),.lst false 3 y10 (List.take (y10*3) (List.drop 0 Gc)),.lst false 2 Fq (List.take (Fq*2) (List.drop 0 H4))]] [[.lst false 3 y1 y2,.sc (.bool y3)]]))) (Ar (decide (0+y10*3<=Gc.length))<|Ar (decide (0+Fq*2<=H4.length))<|some (A5.mk [.agg [.sc (.int .u64 y9),.lst false 3 y10 (List.take (y10*3) (List.drop 0 Gc)),.lst false 2 Fq (List.take (Fq*2) (List.drop 0 H4))]] [[.lst false 3 y1 y2,.sc (.bool y3)]]))):=by kernel_rfl
theorem Q3 (fu d Ai:Nat)(Ak:List PV)(Al:Bool):Ad C0 prog fu (d+1) Jp [.pbox [.lst false 3 Ai Ak,.sc (.bool Al)]]=(fun (call:Af)=>Aj (call 89 [.pbox [.lst false 3 Ai Ak,.sc (.bool Al)]]) fun x1 x2=>Ab x1 fun x3 x4=>Ae .u64 x3 fun x5=>Ac x4<|Ab x2 fun x6 x7=>Ab x6 fun x8 x9=>Em 3 x8 fun C7 Dm Eh=>Ab x9 fun E6 D8=>Bv E6 fun Ez=>Ac D8<|Ac x7<|Aj (call 90 [.pbox [.lst false 3 Dm Eh,.sc (.bool Ez)]]) fun Fu Gt=>Ab Fu fun G7 Gj=>Ae .u64 G7 fun Gx=>Ac Gj<|Ab Gt fun Ju H3=>Ab Ju fun Jd Fn=>Em 3 Jd fun Ev Hz J3=>Ab Fn fun Gy O4=>Bv Gy fun Nu=>Ac O4<|Ac H3<|Aj (call 89 [.pbox [.lst false 3 Hz J3,.sc (.bool Nu)]]) fun K7 M4=>Ab K7 fun Oh P1=>Ae .u64 Oh fun Py=>Ac P1<|Ab M4 fun Q9 Um=>Ab Q9 fun Ii Lq=>Em 3 Ii fun Sr Xv Ss=>Ab Lq fun Zu Y5=>Bv Zu fun Xw=>Ac Y5<|Ac Um<|Dr fu call Ai Ak Al (fu) Py Xv Ss Xw 0 0 0 ([]) ([]) Gx 0 0 ([]) ([])) (Ad C0 prog fu d):=by kernel_rfl
abbrev Qe:FuncId:=48
noncomputable def Hm (fu:Nat)(call:Af)(Be:Nat)(a0:List PV)(nn:Nat)(y0 y1:Int)(y2 y3:Int)(y4:Nat)(y5:Int)(y6 y7:Nat)(y8 y9 y10:List PV)(Fq:Nat)(Gc:List PV)(H4:Bool)(Kn J1 Mo:Int)(Ku:Nat)(Mq:Int)(K6 Jk:Nat)(I9 Nx Ys:List PV):Option A5:=Dh CB prog fu call 48 Tryz.f48 (B7 Tryz.f48) [.lst false 3 Be a0] [.r,.r,.r,.r,.l,.r,.l] nn ⟨lk [(2,(.ptr 2 0)),(4,(.ptr 4 0)),(5,(.ptr 5 0)),(6,(.sc (.int .u64 y0)))],Bu [(2,(.st [(.sc (.int .i64 y1)),(.sc (.int .i64 y2)),(.sc (.int .i64 y3)),(.view 226 3 0 y4),(.sc (.int .i64 y5)),(.view 338 1 0 y6),(.view 394 1 0 y7)])),(226,(.ar false y8)),(338,(.ar false y9)),(394,(.ar false y10)),(4,(.st [(.lst false 3 Fq Gc),(.sc (.bool H4))])),(5,(.st [(.sc (.int .i64 Kn)),(.sc (.int .i64 J1)),(.sc (.int .i64 Mo)),(.view 229 3 0 Ku),(.sc (.int .i64 Mq)),(.view 341 1 0 K6),(.view 397 1 0 Jk)])),(229,(.ar false I9)),(341,(.ar false Nx)),(397,(.ar false Ys))]⟩
theorem Wn (fu:Nat)(call:Af)(Be:Nat)(a0:List PV)(nn:Nat)(y0 y1:Int)(y2 y3:Int)(y4:Nat)(y5:Int)(y6 y7:Nat)(y8 y9 y10:List PV)(Fq:Nat)(Gc:List PV)(H4:Bool)(Kn J1 Mo:Int)(Ku:Nat)(Mq:Int)(K6 Jk:Nat)(I9 Nx Ys:List PV):Hm fu call Be a0 (nn+1) y0 y1 y2 y3 y4 y5 y6 y7 y8 y9 y10 Fq Gc H4 Kn J1 Mo Ku Mq K6 Jk I9 Nx Ys=(Bk (decide (y0>0)) (Bk (!H4) (Aj (call 91 [.pbox [.lst false 3 Fq Gc,.sc (.bool H4)]]) fun OB NB=>Ab OB fun NK QN=>Ft NK fun ZP=>Ab ZP fun UB x85=>Ae .u64 UB fun VR=>Ab x85 fun VO UM=>Em 3 VO fun MA YS UP=>Ab UM fun x92 x93=>Em 2 x92 fun x94 x95 x96=>Ac x93<|Ac QN<|Ab NB fun UA OQ=>Ab UA fun x99 V2=>Em 3 x99 fun Xs Jh Mx=>Ab V2 fun X1 Uy=>Bv X1 fun Vq=>Ac Uy<|Ac OQ<|Ar (decide (Ku*3<=I9.length)&&true&&decide ((Ku+1)*56<=1099511627776)&&decide (Ku+1<=1099511627776))<|Aa (Ku+1) fun Pa=>Aa (List.take (Ku*3) I9++[.sc (.int .u64 VR),.lst false 3 YS UP,.lst false 2 x95 x96]) fun DK=>Aa (wrap .u64 (y0-1)) fun HC=>Hm fu call Be a0 (nn) HC (y1) (y2) (y3) (y4) (y5) (y6) (y7) (y8) (y9) (y10) Jh Mx Vq (Kn) (J1) (Mo) Pa (Mq) (K6) (Jk) DK (Nx) (Ys)) (Bk (!H4) (Ar (decide (0+Ku*3<=I9.length))<|Ar (decide (0+K6*1<=Nx.length))<|Ar (decide (0+Jk*1<=Ys.length))<|some (A5.mk [.agg [.sc (.int .i64 Kn),.sc (.int .i64 J1),.sc (.int .i64 Mo),.lst false 3 Ku (List.take (Ku*3) (List.drop 0 I9)),.sc (.int .i64 Mq),.lst false 1 K6 (List.take (K6*1) (List.drop 0 Nx)),.lst false 1 Jk (List.take (Jk*1) (List.drop 0 Ys))],.sc (.bool ((↑Fq:Int)==0))] [])) (Ar (decide (0+Ku*3<=I9.length))<|Ar (decide (0+K6*1<=Nx.length))<|Ar (decide (0+Jk*1<=Ys.length))<|some (A5.mk [.agg [.sc (.int .i64 Kn),.sc (.int .i64 J1),.sc (.int .i64 Mo),.lst false 3 Ku (List.take (Ku*3) (List.drop 0 I9)),.sc (.int .i64 Mq),.lst false 1 K6 (List.take (K6*1) (List.drop 0 Nx)),.lst false 1 Jk (List.take (Jk*1) (List.drop 0 Ys))],.sc (.bool false)] [])))) (Bk (!H4) (Ar (decide (0+Ku*3<=I9.length))<|Ar (decide (0+K6*1<=Nx.length))<|Ar (decide (0+Jk*1<=Ys.length))<|some (A5.mk [.agg [.sc (.int .i64 Kn),.sc (.int .i64 J1),.sc (.int .i64 Mo),.lst false 3 Ku (List.take (Ku*3) (List.drop 0 I9)),.sc (.int .i64 Mq),.lst false 1 K6 (List.take (K6*1) (List.drop 0 Nx)),.lst false 1 Jk (List.take (Jk*1) (List.drop 0 Ys))],.sc (.bool ((↑Fq:Int)==0))] [])) (Ar (decide (0+Ku*3<=I9.length))<|Ar (decide (0+K6*1<=Nx.length))<|Ar (decide (0+Jk*1<=Ys.length))<|some (A5.mk [.agg [.sc (.int .i64 Kn),.sc (.int .i64 J1),.sc (.int .i64 Mo),.lst false 3 Ku (List.take (Ku*3) (List.drop 0 I9)),.sc (.int .i64 Mq),.lst false 1 K6 (List.take (K6*1) (List.drop 0 Nx)),.lst false 1 Jk (List.take (Jk*1) (List.drop 0 Ys))],.sc (.bool false)] [])))):=by kernel_rfl
theorem AU (fu d Be:Nat)(a0:List PV):Ad C0 prog fu (d+1) Qe [.lst false 3 Be a0]=(fun (call:Af)=>Aj (call 89 [.pbox [.lst false 3 Be a0,.sc (.bool false)]]) fun x1 x2=>Ab x1 fun x3 x4=>Ae .u64 x3 fun x5=>Ac x4<|Ab x2 fun x6 x7=>Ab x6 fun x8 x9=>Em 3 x8 fun C7 Dm Eh=>Ab x9 fun E6 D8=>Bv E6 fun Ez=>Ac D8<|Ac x7<|Aj (call 90 [.pbox [.lst false 3 Dm Eh,.sc (.bool Ez)]]) fun Fu Gt=>Ab Fu fun G7 Gj=>Ae .u64 G7 fun Gx=>Ac Gj<|Ab Gt fun Ju H3=>Ab Ju fun Jd Fn=>Em 3 Jd fun Ev Hz J3=>Ab Fn fun Gy O4=>Bv Gy fun Nu=>Ac O4<|Ac H3<|Aa (wrap .i64 Gx) fun K7=>Aj (call 90 [.pbox [.lst false 3 Hz J3,.sc (.bool Nu)]]) fun M4 Oh=>Ab M4 fun P1 Py=>Ae .u64 P1 fun Q9=>Ac Py<|Ab Oh fun Um Ii=>Ab Um fun Lq Sr=>Em 3 Lq fun Xv Ss Zu=>Ab Sr fun Y5 Xw=>Bv Y5 fun Xe=>Ac Xw<|Ac Ii<|Aa (wrap .i64 Q9) fun Xx=>Aj (call 90 [.pbox [.lst false 3 Ss Zu,.sc (.bool Xe)]]) fun X9 X8=>Ab X9 fun AW Yu=>Ae .u64 AW fun X7=>Ac Yu<|Ab X8 fun BF DR=>Ab BF fun EL BO=>Em 3 EL fun DV Yy EW=>Ab BO fun AM BB=>Bv AM fun DI=>Ac BB<|Ac DR<|Aa (wrap .i64 X7) fun BJ=>Aj (call 89 [.pbox [.lst false 3 Yy EW,.sc (.bool DI)]]) fun Zw Ya=>Ab Zw fun Xg BS=>Ae .u64 Xg fun ET=>Ac BS<|Ab Ya fun CH CN=>Ab CH fun CF CO=>Em 3 CF fun FJ Z9 HN=>Ab CO fun LC EG=>Bv LC fun JX=>Ac EG<|Ac CN<|Hm fu call Be a0 (fu) ET 0 0 0 0 0 0 0 ([]) ([]) ([]) Z9 HN JX K7 Xx BJ 0 0 0 0 ([]) ([]) ([])) (Ad C0 prog fu d):=by kernel_rfl
abbrev Nk:FuncId:=26
theorem HE (fu d Be:Nat)(a0:List PV):Ad C0 prog fu (d+1) Nk [.lst false 1 Be a0]=(fun (call:Af)=>Bk (decide ((↑Be:Int)>4096)) (some (A5.mk [.agg [.sc (.int .i64 0),.sc (.int .i64 0),.sc (.int .i64 0),.lst false 3 0 [],.sc (.int .i64 0),.lst false 1 0 [],.lst false 1 0 []],.sc (.int .i64 8)] [])) (Aj (call 47 [.lst false 1 Be a0]) fun x1 x2=>Ac x2<|Ab x1 fun x3 x4=>Gw 3 x3 fun x5 x6=>Ab x4 fun x7 x8=>Ae .i64 x7 fun x9=>Ab x8 fun C7 Dm=>Ae .i64 C7 fun Eh=>Ac Dm<|Bk (Eh != 0) (some (A5.mk [.agg [.sc (.int .i64 0),.sc (.int .i64 0),.sc (.int .i64 0),.lst false 3 0 [],.sc (.int .i64 0),.lst false 1 0 [],.lst false 1 0 []],.sc (.int .i64 2)] [])) (Ar (decide (0+x5*3<=x6.length))<|Aj (call 48 [.lst false 3 x5 (List.take (x5*3) (List.drop 0 x6))]) fun E6 D8=>Ac D8<|Ab E6 fun Ez Fu=>Ft Ez fun Gt=>Ab Gt fun G7 Gj=>Ae .i64 G7 fun Gx=>Ab Gj fun Ju H3=>Ae .i64 Ju fun Jd=>Ab H3 fun Fn Ev=>Ae .i64 Fn fun Hz=>Ab Ev fun J3 Gy=>Em 3 J3 fun O4 Nu K7=>Ab Gy fun M4 Oh=>Ae .i64 M4 fun P1=>Ab Oh fun Py Q9=>Em 1 Py fun Um Ii Lq=>Ab Q9 fun Sr Xv=>Em 1 Sr fun Ss Zu Y5=>Ac Xv<|Ab Fu fun Xw Xe=>Bv Xw fun Xx=>Ac Xe<|Bk (!Xx) (some (A5.mk [.agg [.sc (.int .i64 0),.sc (.int .i64 0),.sc (.int .i64 0),.lst false 3 0 [],.sc (.int .i64 0),.lst false 1 0 [],.lst false 1 0 []],.sc (.int .i64 2)] [])) (Ar (decide (0<=x9))<|Ar (decide (Int.toNat x9<=Be)&&decide (Be<=Be))<|Aa (Be-Int.toNat x9) fun X9=>Aa (List.take (X9*1) (List.drop (Int.toNat x9*1) a0)) fun X8=>Aj (call 49 [.lst false 1 X9 X8]) fun AW Yu=>Ac Yu<|Ab AW fun X7 BF=>Ft X7 fun DR=>Ab DR fun EL BO=>Ae .i64 EL fun DV=>Ab BO fun Yy EW=>Gw 1 Yy fun AM BB=>Ab EW fun DI BJ=>Gw 1 DI fun Zw Ya=>Ac BJ<|Ab BF fun Xg BS=>Ae .i64 Xg fun ET=>Ac BS<|Bk (ET != 0) (some (A5.mk [.agg [.sc (.int .i64 0),.sc (.int .i64 0),.sc (.int .i64 0),.lst false 3 0 [],.sc (.int .i64 0),.lst false 1 0 [],.lst false 1 0 []],.sc (.int .i64 2)] [])) (Ar (decide (0+AM*1<=BB.length))<|Ar (decide (0+Zw*1<=Ya.length))<|Aj (call 25 [.agg [.sc (.int .i64 Gx),.sc (.int .i64 Jd),.sc (.int .i64 Hz),.lst false 3 Nu K7,.sc (.int .i64 DV),.lst false 1 AM (List.take (AM*1) (List.drop 0 BB)),.lst false 1 Zw (List.take (Zw*1) (List.drop 0 Ya))]]) fun CH CN=>Ac CN<|Ab CH fun CF CO=>Gw 1 CF fun FJ Z9=>Ab CO fun HN LC=>Ae .i64 HN fun EG=>Ac LC<|Bk (EG != 0) (some (A5.mk [.agg [.sc (.int .i64 0),.sc (.int .i64 0),.sc (.int .i64 0),.lst false 3 0 [],.sc (.int .i64 0),.lst false 1 0 [],.lst false 1 0 []],.sc (.int .i64 2)] [])) (Ar (decide (0+FJ*1<=Z9.length))<|Aj (call 50 [.lst false 1 FJ (List.take (FJ*1) (List.drop 0 Z9)),.lst false 1 Be a0]) fun JX OB=>Ac OB<|Ab JX fun NB NK=>Bv NB fun QN=>Ac NK<|Bk (!QN) (some (A5.mk [.agg [.sc (.int .i64 0),.sc (.int .i64 0),.sc (.int .i64 0),.lst false 3 0 [],.sc (.int .i64 0),.lst false 1 0 [],.lst false 1 0 []],.sc (.int .i64 2)] [])) (Ar (decide (0+AM*1<=BB.length))<|Ar (decide (0+Zw*1<=Ya.length))<|some (A5.mk [.agg [.sc (.int .i64 Gx),.sc (.int .i64 Jd),.sc (.int .i64 Hz),.lst false 3 Nu K7,.sc (.int .i64 DV),.lst false 1 AM (List.take (AM*1) (List.drop 0 BB)),.lst false 1 Zw (List.take (Zw*1) (List.drop 0 Ya))],.sc (.int .i64 0)] [])))))))) (Ad C0 prog fu d):=by kernel_rfl
abbrev Jv:FuncId:=27
theorem GE (fu d:Nat)(Ak Al Bd:Int)(Cp:Nat)(Cy:List PV)(Ff:Int)(C3:Nat)(Fh:List PV)(C4:Nat)(Fi:List PV)(Lx:Nat)(a1:List PV)(GI IV a3:Int):Ad C0 prog fu (d+1) Jv [.agg [.sc (.int .i64 Ak),.sc (.int .i64 Al),.sc (.int .i64 Bd),.lst false 3 Cp Cy,.sc (.int .i64 Ff),.lst false 1 C3 Fh,.lst false 1 C4 Fi],.lst false 1 Lx a1,.agg [.sc (.int .i64 GI),.sc (.int .u64 IV)],.sc (.int .i64 a3)]=(fun (call:Af)=>Bk (decide (a3<0)) (some (A5.mk [.agg [.sc (.int .i64 0),.sc (.int .i64 0),.sc (.int .i64 0),.lst false 3 0 [],.sc (.int .i64 0),.lst false 1 0 [],.lst false 1 0 []],.sc (.int .i64 9)] [])) (Bk (decide (a3>1099511627776)) (some (A5.mk [.agg [.sc (.int .i64 0),.sc (.int .i64 0),.sc (.int .i64 0),.lst false 3 0 [],.sc (.int .i64 0),.lst false 1 0 [],.lst false 1 0 []],.sc (.int .i64 9)] [])) (Aj (call 26 [.lst false 1 Lx a1]) fun x1 x2=>Ac x2<|Ab x1 fun x3 x4=>Ft x3 fun x5=>Ab x5 fun x6 x7=>Ae .i64 x6 fun x8=>Ab x7 fun x9 C7=>Ae .i64 x9 fun Dm=>Ab C7 fun Eh E6=>Ae .i64 Eh fun D8=>Ab E6 fun Ez Fu=>Em 3 Ez fun Gt G7 Gj=>Ab Fu fun Gx Ju=>Ae .i64 Gx fun H3=>Ab Ju fun Jd Fn=>Em 1 Jd fun Ev Hz J3=>Ab Fn fun Gy O4=>Em 1 Gy fun Nu K7 M4=>Ac O4<|Ab x4 fun Oh P1=>Ae .i64 Oh fun Py=>Ac P1<|Bk (Py != 0) (some (A5.mk [.agg [.sc (.int .i64 0),.sc (.int .i64 0),.sc (.int .i64 0),.lst false 3 0 [],.sc (.int .i64 0),.lst false 1 0 [],.lst false 1 0 []],.sc (.int .i64 Py)] [])) (Bk (decide (x8<=Ak)) (some (A5.mk [.agg [.sc (.int .i64 0),.sc (.int .i64 0),.sc (.int .i64 0),.lst false 3 0 [],.sc (.int .i64 0),.lst false 1 0 [],.lst false 1 0 []],.sc (.int .i64 7)] [])) (Aj (call 19 [.agg [.sc (.int .i64 x8),.sc (.int .i64 Dm),.sc (.int .i64 D8),.lst false 3 G7 Gj,.sc (.int .i64 H3),.lst false 1 Hz J3,.lst false 1 K7 M4],.agg [.sc (.int .i64 GI),.sc (.int .u64 IV)]]) fun Q9 Um=>Ac Um<|Ab Q9 fun Ii Lq=>Ae .i64 Ii fun Sr=>Ac Lq<|Bk (Sr != 0) (some (A5.mk [.agg [.sc (.int .i64 0),.sc (.int .i64 0),.sc (.int .i64 0),.lst false 3 0 [],.sc (.int .i64 0),.lst false 1 0 [],.lst false 1 0 []],.sc (.int .i64 Sr)] [])) (Bk (decide (a3<Dm)) (some (A5.mk [.agg [.sc (.int .i64 0),.sc (.int .i64 0),.sc (.int .i64 0),.lst false 3 0 [],.sc (.int .i64 0),.lst false 1 0 [],.lst false 1 0 []],.sc (.int .i64 19)] [])) (Bk (decide (a3>D8)) (some (A5.mk [.agg [.sc (.int .i64 0),.sc (.int .i64 0),.sc (.int .i64 0),.lst false 3 0 [],.sc (.int .i64 0),.lst false 1 0 [],.lst false 1 0 []],.sc (.int .i64 19)] [])) (some (A5.mk [.agg [.sc (.int .i64 x8),.sc (.int .i64 Dm),.sc (.int .i64 D8),.lst false 3 G7 Gj,.sc (.int .i64 H3),.lst false 1 Hz J3,.lst false 1 K7 M4],.sc (.int .i64 0)] []))))))))) (Ad C0 prog fu d):=by kernel_rfl
end
section
open Go.Proofs.Tryz (prog)
open Go.IntKind (wrap)
set_option maxRecDepth 1000000
section
variable {fu d:Nat}
theorem DX (Ca:1000<=fu){k:Nat}(hk:k<=5){vs:List (List It)} (hv:∀v∈vs,Val k v∧v≠[]∧v.length<=499) (hn:vs.length<=400)(hb:vs.flatten.length<=499):
  Ad C0 prog fu (d+6) Iw [.lst false 1 vs.length (F2 vs)]=some ⟨[.own 3 (Do vs).length (Bi (Do vs)),.sc (.int .i64 0)],[]⟩:=
 Ag7 Ca (fun v h=>⟨(hv v h).1.goods (by omega) (hv v h).2.1 (by have:=(hv v h).2.2;omega),by have:=(hv v h).2.2;omega⟩) hn ((Tz (fun v h=>(hv v h).1) (by omega)).goods (by omega) (by simp) (by simp only[Ik];omega)) hb
def WZ (a:An):List PV:=if Hy a=0 then [.own 3 (C9 a).length (Bi (C9 a)),.sc (.int .i64 0)] else [.own 3 0 [],.sc (.int .i64 (Hy a))]
theorem Ap1 (Ca:1000<=fu)(a:An):Ad C0 prog fu (d+7) M2 [.agg a.cells]=some ⟨WZ a,[]⟩:=by
 refine (Ww fu (d+6) a.name a.key.h a.key.root).trans ?_;have bad:∀{e:Int},Hy a=e->e≠0->some (A5.mk [.own 3 0 [],.sc (.int .i64 e)] [])=some (A5.mk (WZ a) []):=fun h he=>by unfold WZ;rw[h,Bn he]
 by_cases e1:a.name.size<1
 ·have hb:Hy a=9:=by unfold Hy;rw[C5 (.inl e1)]
  rw[←bad hb (by omega)]
  try unfold Aa
  repeat first
   |((with_reducible first|apply Av|apply Ao|apply At|apply A7|apply B4|apply Bo|apply Am|apply Au|apply Aw);· first|with_reducible rfl|(simp (disch:=omega) only[gT,Dz]<;>first|with_reducible rfl|omega)|omega)
   |(with_reducible apply As;· first|with_reducible rfl|(simp (disch:=omega) only[gF,Dz]<;>omega))
  try simp (disch:=omega) only[Dz]
 by_cases e2:32<a.name.size
 ·have hb:Hy a=9:=by unfold Hy;rw[C5 (.inr e2)]
  rw[←bad hb (by omega)]
  try unfold Aa
  repeat first
   |((with_reducible first|apply Av|apply Ao|apply At|apply A7|apply B4|apply Bo|apply Am|apply Au|apply Aw);· first|with_reducible rfl|(simp (disch:=omega) only[gT,Dz]<;>first|with_reducible rfl|omega)|omega)
   |(with_reducible apply As;· first|with_reducible rfl|(simp (disch:=omega) only[gF,Dz]<;>omega))
  try simp (disch:=omega) only[Dz]
 have v1:=FI (fu:=fu) (d:=d+5) a.name (by omega)
 have e12:¬(a.name.size<1∨32<a.name.size):=by omega
 cases e3:okS a.name
 ·have hb:Hy a=6:=by unfold Hy;rw[Bn e12,C5 e3]
  rw[e3] at v1;rw[←bad hb (by omega)]
  try unfold Aa
  repeat first
   |((with_reducible first|apply Av|apply Ao|apply At|apply A7|apply B4|apply Bo|apply Am|apply Au|apply Aw);· first|with_reducible rfl|(simp (disch:=omega) only[gT,v1,Dz,My]<;>first|with_reducible rfl|omega)|omega)
   |(with_reducible apply As;· first|with_reducible rfl|(simp (disch:=omega) only[gF,v1,Dz,My]<;>omega))
  try simp (disch:=omega) only[v1,Dz,My]
 rw[e3] at v1;have ek:=Aky (xs:=Pq) (fu:=fu) (d:=d+4) Ca a.key;simp only[Ky.cells] at ek;have e90:((9:Int) != 0)=true:=rfl;have e00:((0:Int) != 0)=false:=rfl;cases e5:Ex a.key.h
 rotate_left
 ·have hb:Hy a=9:=by unfold Hy;rw[Bn e12,Bn (by simp[e3]),C5 e5]
  rw[e5,C5 rfl] at ek;rw[←bad hb (by omega)]
  try unfold Aa
  repeat first
   |((with_reducible first|apply Av|apply Ao|apply At|apply A7|apply B4|apply Bo|apply Am|apply Au|apply Aw);· first|with_reducible rfl|(simp (disch:=omega) only[gT,v1,ek,e90,Dz,My]<;>first|with_reducible rfl|omega)|omega)
   |(with_reducible apply As;· first|with_reducible rfl|(simp (disch:=omega) only[gF,v1,ek,e90,Dz,My]<;>omega))
  try simp (disch:=omega) only[v1,ek,e90,Dz,My]
 rw[e5,Bn (by simp)] at ek
 have hz:Hy a=0:=by unfold Hy;rw[Bn e12,Bn (by simp[e3]),Bn (by simp[e5])]
 have f1:VE ⟨4,0,a.name⟩:=⟨.inr (.inr (.inr (.inl rfl))),by simp only;omega,fun _=>e3,by unfold Lr;rfl,by simp⟩
 have f2:VE ⟨3,0,Dv (Pp a.key)⟩:=⟨.inr (.inr (.inl rfl)),by simp only[Agu];omega,(fun e=>by cases e),by unfold Lr;rfl,by simp⟩
 have ar:Ad C0 prog fu (d+6) Iw [.lst false 1 2 [.lst false 3 1 (Bi [⟨4,0,a.name⟩]),.lst false 3 1 (Bi [⟨3,0,Dv (Pp a.key)⟩])]]=some ⟨[.own 3 3 (Bi (C9 a)),.sc (.int .i64 0)],[]⟩:=DX (fu:=fu) (d:=d) Ca (k:=0) (by omega) (vs:=ZT a) (fun v hv=>by
  simp only[ZT,List.mem_cons,List.not_mem_nil,or_false] at hv;rcases hv with rfl|rfl
  ·exact⟨Gh f1 0,by simp,by simp⟩
  ·exact⟨Gh f2 0,by simp,by simp⟩) (by simp[ZT]) (by simp[ZT])
 have t1:=Aom (fu:=fu) (d:=d+5) a.name;have by_:=Al3 (fu:=fu) (d:=d+5) (Pp a.key);have k9:(Pp a.key).length=9:=rfl;rw[k9] at by_;have L9:=Ay .u8 (Pp a.key);rw[k9] at L9;have tk9:List.take 9 (Ah .u8 (Pp a.key))=Ah .u8 (Pp a.key):=L6 (by omega)
 have R:WZ a=[.own 3 3 (Bi (C9 a)),.sc (.int .i64 0)]:=by unfold WZ;rw[C5 hz,Mm]
 rw[R];have LI:(Bi (C9 a)).length=9:=rfl;have tI:List.take 9 (Bi (C9 a))=Bi (C9 a):=rfl;generalize Bi (C9 a)=I at ar LI tI ⊢;have K1:List.take 3 (Bi [⟨4,0,a.name⟩])=Bi [⟨4,0,a.name⟩]:=rfl;have K2:List.take 3 (Bi [⟨3,0,Dv (Pp a.key)⟩])=Bi [⟨3,0,Dv (Pp a.key)⟩]:=rfl;have N1:(Bi [⟨4,0,a.name⟩]).length=3:=rfl;have N2:(Bi [⟨3,0,Dv (Pp a.key)⟩]).length=3:=rfl;generalize Bi [⟨4,0,a.name⟩]=T1 at *
 generalize Bi [⟨3,0,Dv (Pp a.key)⟩]=T2 at *
 generalize Ah .u8 (Pp a.key)=KB at *
 try unfold Aa
 repeat first
  |((with_reducible first|apply Av|apply Ao|apply At|apply A7|apply B4|apply Bo|apply Am|apply Au|apply Aw);· first|with_reducible rfl|(simp (disch:=omega) only[gT,v1,ek,e00,t1,by_,L9,tk9,K1,K2,N1,N2,Ch,Nat.one_mul,Dc,Nat.reduceMul,C8,ar,LI,tI,Dz,My]<;>first|with_reducible rfl|omega)|omega)
  |(with_reducible apply As;· first|with_reducible rfl|(simp (disch:=omega) only[gF,v1,ek,e00,t1,by_,L9,tk9,K1,K2,N1,N2,Ch,Nat.one_mul,Dc,Nat.reduceMul,C8,ar,LI,tI,Dz,My]<;>omega))
 try simp (disch:=omega) only[v1,ek,e00,t1,by_,L9,tk9,K1,K2,N1,N2,Ch,Nat.one_mul,Dc,Nat.reduceMul,C8,ar,LI,tI,Dz,My]
def An5 (x:Me):List PV:=if El x=0 then [.own 3 (Ba x).length (Bi (Ba x)),.sc (.int .i64 0)] else [.own 3 0 [],.sc (.int .i64 (El x))]
theorem PC (a:List (List It)) (v:List It):F2 a++[.lst false 3 v.length (Bi v)]=F2 (a++[v]):=by
 unfold F2;rw[List.flatMap_append,List.flatMap_cons,List.flatMap_nil,List.append_nil];rfl
theorem U6 (a:List (List It)):(F2 a).length=a.length:=by
 unfold F2;rw[Ug WX];omega
theorem Ayk (Ca:1000<=fu){Ak:Int}{Cd Bp:Nat}{Al Bd:List PV}{x:Me}(hm:0<=x.model)(h1:x.ans.length<=4)(h2:x.sts.length<=4)(h3:Fa x.ans=0):∀(r:List Sa)(i nn:Nat)(p:Option Int),x.sts.drop i=r->r.length<nn->i<=x.sts.length ->
  ((i=0∧p=none)∨∃s',0<i∧x.sts[i-1]?=some s'∧p=some s'.at_)->(∀s∈x.sts.take i,1<=s.kd∧s.kd<=4∧0<=s.at_∧s.at_<=1099511627776) ->
  Fc fu (Ad C0 prog fu (d+7)) Ak Cd Al Bp Bd nn i (Do (x.ans.map C9)).length x.sts.length (D0 x.sts) (x.sts.length:Int) (i:Int) x.model x.ans.length (Dg x.ans) x.sts.length (D0 x.sts) (F2 ((x.sts.take i).map Di)) (Bi (Do (x.ans.map C9))) =
   some ⟨(if Gl p r=0 then [.own 3 (Ba x).length (Bi (Ba x)),.sc (.int .i64 0)] else [.own 3 0 [],.sc (.int .i64 (Gl p r))]),[]⟩
 |_,_,0,_,_,h,_,_,_=>by omega
 |[],i,nn+1,p,hd,hn,hi,hp,hk=>by
  have hl:=drop_nil hd;have ei:i=x.sts.length:=by omega
  have eall:x.sts.take i=x.sts:=L6 (by omega)
  rw[eall] at hk ⊢;have vs:=Ajy h2 (fun s hs=>by have:=hk s hs;exact⟨by omega,by omega⟩)
  have va:=Aat h1 (Zb h3);have Gv:Gl p []=0:=by unfold Gl;rfl
  rw[C5 Gv]
  have ar:=DX (fu:=fu) (d:=d+1) Ca (k:=1) (by omega) (vs:=x.sts.map Di) (fun v hv=>by
   obtain⟨s,hs,rfl⟩:=List.mem_map.1 hv;have:=hk s hs;exact⟨(Af2 (by omega) (by omega)).1,by simp[Di],by rw[Rb];omega⟩) (by rw[List.length_map];omega) (by rw[Ht Rb];omega)
  rw[List.length_map] at ar;have u:=Us (fu:=fu) (d:=d+6) x.model;have la:(Do (x.ans.map C9)).length<=20:=by unfold Do;rw[Ik,Ht Mm];omega
  have ls:(Do (x.sts.map Di)).length<=20:=by unfold Do;rw[Ik,Ht Rb];omega
  have ar3:Ad C0 prog fu (d+7) Iw [.lst false 1 3 [.lst false 3 1 (Bi [⟨1,x.model,Vt⟩]),.lst false 3 (Do (x.ans.map C9)).length (Bi (Do (x.ans.map C9))),.lst false 3 (Do (x.sts.map Di)).length (Bi (Do (x.sts.map Di)))]]=some ⟨[.own 3 (Ba x).length (Bi (Ba x)),.sc (.int .i64 0)],[]⟩:=DX (fu:=fu) (d:=d+1) Ca (k:=2) (by omega) (vs:=Xh x) (fun v hv=>by
   simp only[Xh,List.mem_cons,List.not_mem_nil,or_false] at hv;rcases hv with rfl|rfl|rfl
   ·exact⟨Gh (I4 hm) 2,by simp,by simp⟩
   ·exact⟨va.1,by simp[Do],by omega⟩
   ·exact⟨vs.1,by simp[Do],by omega⟩) (by simp[Xh]) (by simp only[Xh,List.flatten_cons,List.flatten_nil,List.append_nil,Io,List.length_singleton];omega)
  have e00:((0:Int) != 0)=false:=rfl;have LV:(F2 (x.sts.map Di)).length=x.sts.length:=by rw[U6,List.length_map]
  have tV:List.take x.sts.length (F2 (x.sts.map Di))=F2 (x.sts.map Di):=L6 (by omega)
  have LA:=H7 (Do (x.ans.map C9));have LS:=H7 (Do (x.sts.map Di));have LE:=H7 (Ba x);have tA:List.take ((Do (x.ans.map C9)).length*3) (Bi (Do (x.ans.map C9)))=Bi (Do (x.ans.map C9)):=L6 (by omega)
  have tS:List.take ((Do (x.sts.map Di)).length*3) (Bi (Do (x.sts.map Di)))=Bi (Do (x.sts.map Di)):=L6 (by omega)
  have tE:List.take ((Ba x).length*3) (Bi (Ba x))=Bi (Ba x):=L6 (by omega)
  have K1:List.take 3 (Bi [⟨1,x.model,Vt⟩])=Bi [⟨1,x.model,Vt⟩]:=rfl;have N1:(Bi [⟨1,x.model,Vt⟩]).length=3:=rfl;subst ei;rw[Dw];generalize Bi [⟨1,x.model,Vt⟩]=T1 at *
  generalize Bi (Ba x)=TE at *
  generalize (Ba x).length=nE at *
  generalize Bi (Do (x.sts.map Di))=TS at *
  generalize Bi (Do (x.ans.map C9))=TA at *
  generalize (Do (x.sts.map Di)).length=nS at *
  generalize (Do (x.ans.map C9)).length=nA at *
  generalize F2 (x.sts.map Di)=TV at *
  try unfold Aa
  repeat first
   |((with_reducible first|apply Av|apply Ao|apply At|apply A7|apply B4|apply Bo|apply Am|apply Au|apply Aw);· first|with_reducible rfl|(simp (disch:=omega) only[gT,LV,tV,ar,e00,u,K1,N1,LA,LS,tA,tS,ar3,LE,tE,Ch,Nat.one_mul,Dc,C8,Dz,My]<;>first|with_reducible rfl|omega)|omega)
   |(with_reducible apply As;· first|with_reducible rfl|(simp (disch:=omega) only[gF,LV,tV,ar,e00,u,K1,N1,LA,LS,tA,tS,ar3,LE,tE,Ch,Nat.one_mul,Dc,C8,Dz,My]<;>omega))
  try simp (disch:=omega) only[LV,tV,ar,e00,u,K1,N1,LA,LS,tA,tS,ar3,LE,tE,Ch,Nat.one_mul,Dc,C8,Dz,My]
  all_goals rfl
 |s::rs,i,nn+1,p,hd,hn,hi,hp,hk=>by
  obtain⟨q1,q2,q3⟩:=D1 hd;simp only[Ik] at hn;obtain⟨c0,c1⟩:=saa q2;have nt:Int.toNat (i:Int)=i:=Kz _
  have bad:∀{e:Int},Kv p s=e->e≠0->some (A5.mk [.own 3 0 [],.sc (.int .i64 e)] [])=some (A5.mk (if Gl p (s::rs)=0 then [.own 3 (Ba x).length (Bi (Ba x)),.sc (.int .i64 0)] else [.own 3 0 [],.sc (.int .i64 (Gl p (s::rs)))]) []):=fun {e} h he=>by
   have:Gl p (s::rs)=e:=by rw[Gl,C5 (by rw[h];exact he),h]
   rw[this,Bn he]
  by_cases g1:s.kd<1
  ·have hb:Kv p s=9:=by unfold Kv;rw[C5 (.inl g1)]
   rw[←bad hb (by omega),Dw]
   try unfold Aa
   repeat first
    |((with_reducible first|apply Av|apply Ao|apply At|apply A7|apply B4|apply Bo|apply Am|apply Au|apply Aw);· first|with_reducible rfl|(simp (disch:=omega) only[gT,nt,c0,c1]<;>first|with_reducible rfl|omega)|omega)
    |(with_reducible apply As;· first|with_reducible rfl|(simp (disch:=omega) only[gF,nt,c0,c1]<;>omega))
   try simp (disch:=omega) only[nt,c0,c1]
   all_goals rfl
  by_cases g2:4<s.kd
  ·have hb:Kv p s=9:=by unfold Kv;rw[C5 (.inr (.inl g2))]
   rw[←bad hb (by omega),Dw]
   try unfold Aa
   repeat first
    |((with_reducible first|apply Av|apply Ao|apply At|apply A7|apply B4|apply Bo|apply Am|apply Au|apply Aw);· first|with_reducible rfl|(simp (disch:=omega) only[gT,nt,c0,c1]<;>first|with_reducible rfl|omega)|omega)
    |(with_reducible apply As;· first|with_reducible rfl|(simp (disch:=omega) only[gF,nt,c0,c1]<;>omega))
   try simp (disch:=omega) only[nt,c0,c1]
   all_goals rfl
  by_cases g3:s.at_<0
  ·have hb:Kv p s=9:=by unfold Kv;rw[C5 (.inr (.inr (.inl g3)))]
   rw[←bad hb (by omega),Dw]
   try unfold Aa
   repeat first
    |((with_reducible first|apply Av|apply Ao|apply At|apply A7|apply B4|apply Bo|apply Am|apply Au|apply Aw);· first|with_reducible rfl|(simp (disch:=omega) only[gT,nt,c0,c1]<;>first|with_reducible rfl|omega)|omega)
    |(with_reducible apply As;· first|with_reducible rfl|(simp (disch:=omega) only[gF,nt,c0,c1]<;>omega))
   try simp (disch:=omega) only[nt,c0,c1]
   all_goals rfl
  by_cases g4:1099511627776<s.at_
  ·have hb:Kv p s=9:=by unfold Kv;rw[C5 (.inr (.inr (.inr g4)))]
   rw[←bad hb (by omega),Dw]
   try unfold Aa
   repeat first
    |((with_reducible first|apply Av|apply Ao|apply At|apply A7|apply B4|apply Bo|apply Am|apply Au|apply Aw);· first|with_reducible rfl|(simp (disch:=omega) only[gT,nt,c0,c1]<;>first|with_reducible rfl|omega)|omega)
    |(with_reducible apply As;· first|with_reducible rfl|(simp (disch:=omega) only[gF,nt,c0,c1]<;>omega))
   try simp (disch:=omega) only[nt,c0,c1]
   all_goals rfl
  have S1:Kv none s=0:=by unfold Kv;rw[Bn (by omega)]
  have S0:∀q:Int,Kv (some q) s=if s.at_<=q then 7 else 0:=fun q=>by unfold Kv;rw[Bn (by omega)]
  have wk:wrap .u64 s.kd=s.kd:=D7 (by omega) (by omega)
  have wa:wrap .u64 s.at_=s.at_:=D7 (by omega) (by omega)
  have u1:=Us (fu:=fu) (d:=d+6) s.kd;have u2:=Us (fu:=fu) (d:=d+6) s.at_
  have ar:Ad C0 prog fu (d+7) Iw [.lst false 1 2 [.lst false 3 1 (Bi [⟨1,s.kd,Vt⟩]),.lst false 3 1 (Bi [⟨1,s.at_,Vt⟩])]]=some ⟨[.own 3 3 (Bi (Di s)),.sc (.int .i64 0)],[]⟩:=DX (fu:=fu) (d:=d+1) Ca (k:=0) (by omega) (vs:=Acn s) (fun v hv=>by
   simp only[Acn,List.mem_cons,List.not_mem_nil,or_false] at hv;rcases hv with rfl|rfl
   ·exact⟨Gh (I4 (by omega)) 0,by simp,by simp⟩
   ·exact⟨Gh (I4 (by omega)) 0,by simp,by simp⟩) (by simp[Acn]) (by simp[Acn])
  have e00:((0:Int) != 0)=false:=rfl;have LI:(Bi (Di s)).length=9:=rfl;have tI:List.take 9 (Bi (Di s))=Bi (Di s):=rfl;have K1:List.take 3 (Bi [⟨1,s.kd,Vt⟩])=Bi [⟨1,s.kd,Vt⟩]:=rfl;have K2:List.take 3 (Bi [⟨1,s.at_,Vt⟩])=Bi [⟨1,s.at_,Vt⟩]:=rfl;have N1:(Bi [⟨1,s.kd,Vt⟩]).length=3:=rfl;have N2:(Bi [⟨1,s.at_,Vt⟩]).length=3:=rfl;have LV:(F2 ((x.sts.take i).map Di)).length=i:=by rw[U6,List.length_map,List.length_take];omega
  have tV:List.take i (F2 ((x.sts.take i).map Di))=F2 ((x.sts.take i).map Di):=L6 (by omega)
  have w:wrap .i64 ((i:Int)+1)=((i+1:Nat):Int):=by rw[Ap (by omega) (by omega)];omega
  have et:x.sts.take (i+1)=x.sts.take i++[s]:=by rw[List.take_add_one,q2];rfl
  have ea:F2 ((x.sts.take i).map Di)++[.lst false 3 3 (Bi (Di s))]=F2 ((x.sts.take (i+1)).map Di):=by
   rw[et,List.map_append,List.map_singleton];exact PC _ (Di s)
  have hz:∀{v:Int},Kv p s=0->Gl p (s::rs)=Gl (some s.at_) rs:=fun {v} h=>by rw[Gl,Bn (by simp[h])]
  have ih:=Ayk Ca (Ak:=Ak) (Cd:=Cd) (Bp:=Bp) (Al:=Al) (Bd:=Bd) hm h1 h2 h3 rs (i+1) nn (some s.at_) q3 (by omega) (by omega) (.inr ⟨s,by omega,by rw[Nat.add_sub_cancel];exact q2,rfl⟩) (fun y hy=>by
   rw[et] at hy;rcases List.mem_append.1 hy with hy|hy
   ·exact hk y hy
   ·rw[List.mem_singleton.1 hy];omega)
  rw[Dw];rcases hp with⟨rfl,rfl⟩|⟨s',h0,h5,rfl⟩
  ·have hs:Kv none s=0:=S1;rw[hz (v:=0) hs,←ih];generalize Bi (Di s)=TI at *
   generalize Bi [⟨1,s.kd,Vt⟩]=T1 at *
   generalize Bi [⟨1,s.at_,Vt⟩]=T2 at *
   generalize F2 ((x.sts.take 0).map Di)=TV at *
   generalize F2 ((x.sts.take (0+1)).map Di)=TV' at *
   try unfold Aa
   repeat first
    |((with_reducible first|apply Av|apply Ao|apply At|apply A7|apply B4|apply Bo|apply Am|apply Au|apply Aw);· first|with_reducible rfl|(simp (disch:=omega) only[gT,nt,c0,c1]<;>first|with_reducible rfl|omega)|omega)
    |(with_reducible apply As;· first|with_reducible rfl|(simp (disch:=omega) only[gF,nt,c0,c1]<;>omega))
   try simp (disch:=omega) only[nt,c0,c1]
   rw[Hx (Ko:=by omega)]
   try unfold Aa
   repeat first
    |((with_reducible first|apply Av|apply Ao|apply At|apply A7|apply B4|apply Bo|apply Am|apply Au|apply Aw);· first|with_reducible rfl|(simp (disch:=omega) only[gT,wk,wa,u1,u2,K1,K2,N1,N2,ar,e00,LI,tI,LV,tV,ea,w,Ch,Nat.one_mul,Dc,Nat.reduceMul,C8,Dz]<;>first|with_reducible rfl|omega)|omega)
    |(with_reducible apply As;· first|with_reducible rfl|(simp (disch:=omega) only[gF,wk,wa,u1,u2,K1,K2,N1,N2,ar,e00,LI,tI,LV,tV,ea,w,Ch,Nat.one_mul,Dc,Nat.reduceMul,C8,Dz]<;>omega))
   try simp (disch:=omega) only[wk,wa,u1,u2,K1,K2,N1,N2,ar,e00,LI,tI,LV,tV,ea,w,Ch,Nat.one_mul,Dc,Nat.reduceMul,C8,Dz]
   all_goals rfl
  ·obtain⟨b0,b1⟩:=saa h5;have wi:wrap .i64 ((i:Int)-1)=((i-1:Nat):Int):=by rw[Ap (by omega) (by omega)];omega
   have nt1:Int.toNat ((i-1:Nat):Int)=i-1:=Kz _;by_cases g5:s.at_<=s'.at_
   ·have hb:Kv (some s'.at_) s=7:=by rw[S0,C5 g5]
    rw[←bad hb (by omega)]
    try unfold Aa
    repeat first
     |((with_reducible first|apply Av|apply Ao|apply At|apply A7|apply B4|apply Bo|apply Am|apply Au|apply Aw);· first|with_reducible rfl|(simp (disch:=omega) only[gT,nt,c0,c1]<;>first|with_reducible rfl|omega)|omega)
     |(with_reducible apply As;· first|with_reducible rfl|(simp (disch:=omega) only[gF,nt,c0,c1]<;>omega))
    try simp (disch:=omega) only[nt,c0,c1]
    rw[Hx (Ko:=by omega)]
    try unfold Aa
    repeat first
     |((with_reducible first|apply Av|apply Ao|apply At|apply A7|apply B4|apply Bo|apply Am|apply Au|apply Aw);· first|with_reducible rfl|(simp (disch:=omega) only[gT,wi,nt1,b1]<;>first|with_reducible rfl|omega)|omega)
     |(with_reducible apply As;· first|with_reducible rfl|(simp (disch:=omega) only[gF,wi,nt1,b1]<;>omega))
    try simp (disch:=omega) only[wi,nt1,b1]
    all_goals rfl
   ·have hs:Kv (some s'.at_) s=0:=by rw[S0,Bn g5]
    rw[hz (v:=0) hs,←ih];generalize Bi (Di s)=TI at *
    generalize Bi [⟨1,s.kd,Vt⟩]=T1 at *
    generalize Bi [⟨1,s.at_,Vt⟩]=T2 at *
    generalize F2 ((x.sts.take i).map Di)=TV at *
    generalize F2 ((x.sts.take (i+1)).map Di)=TV' at *
    try unfold Aa
    repeat first
     |((with_reducible first|apply Av|apply Ao|apply At|apply A7|apply B4|apply Bo|apply Am|apply Au|apply Aw);· first|with_reducible rfl|(simp (disch:=omega) only[gT,nt,c0,c1]<;>first|with_reducible rfl|omega)|omega)
     |(with_reducible apply As;· first|with_reducible rfl|(simp (disch:=omega) only[gF,nt,c0,c1]<;>omega))
    try simp (disch:=omega) only[nt,c0,c1]
    rw[Hx (Ko:=by omega)]
    try unfold Aa
    repeat first
     |((with_reducible first|apply Av|apply Ao|apply At|apply A7|apply B4|apply Bo|apply Am|apply Au|apply Aw);· first|with_reducible rfl|(simp (disch:=omega) only[gT,wi,nt1,b1,wk,wa,u1,u2,K1,K2,N1,N2,ar,e00,LI,tI,LV,tV,ea,w,Ch,Nat.one_mul,Dc,Nat.reduceMul,C8,Dz]<;>first|with_reducible rfl|omega)|omega)
     |(with_reducible apply As;· first|with_reducible rfl|(simp (disch:=omega) only[gF,wi,nt1,b1,wk,wa,u1,u2,K1,K2,N1,N2,ar,e00,LI,tI,LV,tV,ea,w,Ch,Nat.one_mul,Dc,Nat.reduceMul,C8,Dz]<;>omega))
    try simp (disch:=omega) only[wi,nt1,b1,wk,wa,u1,u2,K1,K2,N1,N2,ar,e00,LI,tI,LV,tV,ea,w,Ch,Nat.one_mul,Dc,Nat.reduceMul,C8,Dz]
    all_goals rfl
theorem Ayp (Ca:1000<=fu){Ak:Int}{Cd Bp:Nat}{Al Bd:List PV}{x:Me}(hm:0<=x.model)(h1:x.ans.length<=4)(h2:x.sts.length<=4):∀(r:List An)(i nn:Nat),x.ans.drop i=r->r.length<nn->i<=x.ans.length->(Fa r=0->Fa x.ans=0)->(∀a∈x.ans.take i,Hy a=0) ->
  Gq fu (Ad C0 prog fu (d+7)) Ak Cd Al Bp Bd nn i x.ans.length (Dg x.ans) (x.ans.length:Int) (i:Int) x.model x.ans.length (Dg x.ans) x.sts.length (D0 x.sts) (F2 ((x.ans.take i).map C9)) =
   some ⟨(if Fa r=0 then (if Gl none x.sts=0 then [.own 3 (Ba x).length (Bi (Ba x)),.sc (.int .i64 0)] else [.own 3 0 [],.sc (.int .i64 (Gl none x.sts))]) else [.own 3 0 [],.sc (.int .i64 (Fa r))]),[]⟩
 |_,_,0,_,h,_,_,_=>by omega
 |[],i,nn+1,hd,hn,hi,hz,hk=>by
  have hl:=drop_nil hd;have ei:i=x.ans.length:=by omega
  have eall:x.ans.take i=x.ans:=L6 (by omega)
  rw[eall] at hk ⊢;have h3:=hz rfl;have va:=Aat h1 (Zb h3);have Gv:Fa []=0:=by unfold Fa;rfl
  rw[C5 Gv]
  have ar:=DX (fu:=fu) (d:=d+1) Ca (k:=1) (by omega) (vs:=x.ans.map C9) (fun v hv=>by
   obtain⟨a,ha,rfl⟩:=List.mem_map.1 hv;exact⟨(Ahv (hk a ha)).1,by simp[C9],by rw[Mm];omega⟩) (by rw[List.length_map];omega) (by rw[Ht Mm];omega)
  rw[List.length_map] at ar;have e00:((0:Int) != 0)=false:=rfl;have LV:(F2 (x.ans.map C9)).length=x.ans.length:=by rw[U6,List.length_map]
  have tV:List.take x.ans.length (F2 (x.ans.map C9))=F2 (x.ans.map C9):=L6 (by omega)
  have l1:=Ayk (fu:=fu) (d:=d) Ca (Ak:=Ak) (Cd:=Cd) (Bp:=Bp) (Al:=Al) (Bd:=Bd) hm h1 h2 h3 x.sts 0 fu none rfl (by omega) (by omega) (.inl ⟨rfl,rfl⟩) (fun s hs=>by cases hs)
  have ev:F2 ((x.sts.take 0).map Di)=[]:=rfl;have z0:((0:Nat):Int)=0:=rfl;rw[ev,z0] at l1;subst ei;rw[Hv,←l1]
  try unfold Aa
  repeat first
   |((with_reducible first|apply Av|apply Ao|apply At|apply A7|apply B4|apply Bo|apply Am|apply Au|apply Aw);· first|with_reducible rfl|(simp (disch:=omega) only[gT,LV,tV,ar,e00,Ch,Nat.one_mul,Dc,C8,Dz,My]<;>first|with_reducible rfl|omega)|omega)
   |(with_reducible apply As;· first|with_reducible rfl|(simp (disch:=omega) only[gF,LV,tV,ar,e00,Ch,Nat.one_mul,Dc,C8,Dz,My]<;>omega))
  try simp (disch:=omega) only[LV,tV,ar,e00,Ch,Nat.one_mul,Dc,C8,Dz,My]
  all_goals rfl
 |a::rs,i,nn+1,hd,hn,hi,hz,hk=>by
  obtain⟨q1,q2,q3⟩:=D1 hd;simp only[Ik] at hn;obtain⟨c0,c1,c2⟩:=ana q2;have c2':(Dg x.ans).getD (i*3+1+1) .top=.sc (.int .u64 a.key.root):=c2;have nt:Int.toNat (i:Int)=i:=Kz _;have an:=Ap1 (fu:=fu) (d:=d) Ca a;unfold WZ at an;simp only[An.cells] at an;by_cases h0:Hy a=0
  ·rw[C5 h0,Mm] at an;have e00:((0:Int) != 0)=false:=rfl;have LI:(Bi (C9 a)).length=9:=rfl;have tI:List.take 9 (Bi (C9 a))=Bi (C9 a):=rfl;have LV:(F2 ((x.ans.take i).map C9)).length=i:=by rw[U6,List.length_map,List.length_take];omega
   have tV:List.take i (F2 ((x.ans.take i).map C9))=F2 ((x.ans.take i).map C9):=L6 (by omega)
   have w:wrap .i64 ((i:Int)+1)=((i+1:Nat):Int):=by rw[Ap (by omega) (by omega)];omega
   have et:x.ans.take (i+1)=x.ans.take i++[a]:=by rw[List.take_add_one,q2];rfl
   have ea:F2 ((x.ans.take i).map C9)++[.lst false 3 3 (Bi (C9 a))]=F2 ((x.ans.take (i+1)).map C9):=by
    rw[et,List.map_append,List.map_singleton];exact PC _ (C9 a)
   have he:Fa (a::rs)=Fa rs:=by rw[Fa,Bn (by simp[h0])]
   have ih:=Ayp Ca (Ak:=Ak) (Cd:=Cd) (Bp:=Bp) (Al:=Al) (Bd:=Bd) hm h1 h2 rs (i+1) nn q3 (by omega) (by omega) (fun h=>hz (by rw[he];exact h)) (fun y hy=>by
    rw[et] at hy;rcases List.mem_append.1 hy with hy|hy
    ·exact hk y hy
    ·rw[List.mem_singleton.1 hy];exact h0)
   rw[he,←ih,Hv];generalize Bi (C9 a)=TI at *
   generalize F2 ((x.ans.take i).map C9)=TV at *
   generalize F2 ((x.ans.take (i+1)).map C9)=TV' at *
   try unfold Aa
   repeat first
    |((with_reducible first|apply Av|apply Ao|apply At|apply A7|apply B4|apply Bo|apply Am|apply Au|apply Aw);· first|with_reducible rfl|(simp (disch:=omega) only[gT,nt,c0,c1,c2',an,e00,LI,tI,LV,tV,ea,w,Ch,Nat.one_mul,Dc,Nat.reduceMul,C8,Dz]<;>first|with_reducible rfl|omega)|omega)
    |(with_reducible apply As;· first|with_reducible rfl|(simp (disch:=omega) only[gF,nt,c0,c1,c2',an,e00,LI,tI,LV,tV,ea,w,Ch,Nat.one_mul,Dc,Nat.reduceMul,C8,Dz]<;>omega))
   try simp (disch:=omega) only[nt,c0,c1,c2',an,e00,LI,tI,LV,tV,ea,w,Ch,Nat.one_mul,Dc,Nat.reduceMul,C8,Dz]
   all_goals rfl
  ·rw[Bn h0] at an;have he:Fa (a::rs)=Hy a:=by rw[Fa,C5 h0]
   have Gg:(Hy a != 0)=true:=by simp[h0]
   rw[he,Bn h0,Hv]
   try unfold Aa
   repeat first
    |((with_reducible first|apply Av|apply Ao|apply At|apply A7|apply B4|apply Bo|apply Am|apply Au|apply Aw);· first|with_reducible rfl|(simp (disch:=omega) only[gT,nt,c0,c1,c2',an,Gg]<;>first|with_reducible rfl|omega)|omega)
    |(with_reducible apply As;· first|with_reducible rfl|(simp (disch:=omega) only[gF,nt,c0,c1,c2',an,Gg]<;>omega))
   try simp (disch:=omega) only[nt,c0,c1,c2',an,Gg]
   all_goals rfl
theorem Ao0 (Ca:1000<=fu){x:Me}(hm:0<=x.model):Ad C0 prog fu (d+8) N4 [.agg x.cells]=some ⟨An5 x,[]⟩:=by
 refine (Xt fu (d+7) x.model x.ans.length (Dg x.ans) x.sts.length (D0 x.sts)).trans ?_;unfold An5;by_cases e1:4<x.ans.length
 ·have hb:El x=8:=by unfold El;rw[C5 (.inl e1)]
  rw[hb,Bn (by omega)]
  try unfold Aa
  repeat first
   |((with_reducible first|apply Av|apply Ao|apply At|apply A7|apply B4|apply Bo|apply Am|apply Au|apply Aw);· first|with_reducible rfl|(simp (disch:=omega) only[gT,Dz]<;>first|with_reducible rfl|omega)|omega)
   |(with_reducible apply As;· first|with_reducible rfl|(simp (disch:=omega) only[gF,Dz]<;>omega))
  try simp (disch:=omega) only[Dz]
  all_goals rfl
 by_cases e2:4<x.sts.length
 ·have hb:El x=8:=by unfold El;rw[C5 (.inr e2)]
  rw[hb,Bn (by omega)]
  try unfold Aa
  repeat first
   |((with_reducible first|apply Av|apply Ao|apply At|apply A7|apply B4|apply Bo|apply Am|apply Au|apply Aw);· first|with_reducible rfl|(simp (disch:=omega) only[gT,Dz]<;>first|with_reducible rfl|omega)|omega)
   |(with_reducible apply As;· first|with_reducible rfl|(simp (disch:=omega) only[gF,Dz]<;>omega))
  try simp (disch:=omega) only[Dz]
  all_goals rfl
 have l0:=Ayp (fu:=fu) (d:=d) Ca (Ak:=x.model) (Cd:=x.ans.length) (Al:=Dg x.ans) (Bp:=x.sts.length) (Bd:=D0 x.sts) hm (by omega) (by omega) x.ans 0 fu rfl (by omega) (by omega) (fun h=>h) (fun a ha=>by cases ha)
 have ev:F2 ((x.ans.take 0).map C9)=[]:=rfl;have z0:((0:Nat):Int)=0:=rfl;have hb:El x=if Fa x.ans≠0 then Fa x.ans else Gl none x.sts:=by unfold El;rw[Bn (by omega)]
 have R:(if El x=0 then [PV.own 3 (Ba x).length (Bi (Ba x)),.sc (.int .i64 0)] else [.own 3 0 [],.sc (.int .i64 (El x))])=(if Fa x.ans=0 then (if Gl none x.sts=0 then [PV.own 3 (Ba x).length (Bi (Ba x)),.sc (.int .i64 0)] else [.own 3 0 [],.sc (.int .i64 (Gl none x.sts))]) else [.own 3 0 [],.sc (.int .i64 (Fa x.ans))]):=by
  rw[hb];by_cases h:Fa x.ans=0
  ·have e:(if Fa x.ans≠0 then Fa x.ans else Gl none x.sts)=Gl none x.sts:=Bn (by simp[h])
   rw[e,C5 h]
  ·have e:(if Fa x.ans≠0 then Fa x.ans else Gl none x.sts)=Fa x.ans:=C5 h
   rw[e,Bn h,Bn h]
 rw[R,←l0,ev,z0]
 try unfold Aa
 repeat first
  |((with_reducible first|apply Av|apply Ao|apply At|apply A7|apply B4|apply Bo|apply Am|apply Au|apply Aw);· first|with_reducible rfl|(simp (disch:=omega) only[gT,Dz]<;>first|with_reducible rfl|omega)|omega)
  |(with_reducible apply As;· first|with_reducible rfl|(simp (disch:=omega) only[gF,Dz]<;>omega))
 try simp (disch:=omega) only[Dz]
 all_goals rfl
end
end
section
open Go.Proofs.Tryz (prog)
open Go.IntKind (wrap)
set_option maxRecDepth 1000000
theorem Ew.len:∀{l:List It},Ew l->(Ci l).length<=41*l.length
 |[],_=>by simp[Ci]
 |x::l,h=>by
  have h1:=Alm x;have h2:=(h x (by simp)).2.2
  have ih:=Ew.len (l:=l) (fun y hy=>h y (by simp[hy]))
  have e:Ci (x::l)=Ds x++Ci l:=rfl;rw[e,Io,Ik];omega
def Zs (m:Md):List PV:=if Cb m=0 then [.own 1 (Ci (Bf m)).length (Ah .u8 (Ci (Bf m))),.sc (.int .i64 0)] else [.own 1 0 [],.sc (.int .i64 (Cb m))]
section
variable {fu d:Nat}
theorem Axw (Ca:1000<=fu){Ak Al Bd Ff:Int}{Cp C3 C4:Nat}{Cy Fh Fi:List PV}{m:Md}(hw:m.wf)(h1:¬(m.ver<1∨16<m.ver)) (h2:¬(m.iss<0∨m.nxt<m.iss∨1099511627776<m.nxt)) (h3:m.ents.length<=16):∀(r:List Me)(i nn:Nat)(p:Option Int),m.ents.drop i=r->r.length<nn->i<=m.ents.length ->
  ((i=0∧p=none)∨∃x',0<i∧m.ents[i-1]?=some x'∧p=some x'.model)->(Gp p r=0->Gp none m.ents=0)->(∀x∈m.ents.take i,El x=0) ->
  Ie fu (Ad C0 prog fu (d+8)) Ak Al Bd Cp Cy Ff C3 Fh C4 Fi nn i m.ents.length (Cm m.ents) (m.ents.length:Int) (i:Int) m.ver m.iss m.nxt m.ents.length (Cm m.ents) m.sig.leaf m.sig.chains.length (Ah .u64 m.sig.chains) m.sig.path.length (Ah .u64 m.sig.path) (F2 ((m.ents.take i).map Ba)) =
   some ⟨(if Gp p r=0 then [.own 1 (Ci (Bf m)).length (Ah .u8 (Ci (Bf m))),.sc (.int .i64 0)] else [.own 1 0 [],.sc (.int .i64 (Gp p r))]),[]⟩
 |_,_,0,_,_,h,_,_,_,_=>by omega
 |[],i,nn+1,p,hd,hn,hi,hp,hz,hk=>by
  have hl:=drop_nil hd;have ei:i=m.ents.length:=by omega
  have eall:m.ents.take i=m.ents:=L6 (by omega)
  rw[eall] at hk ⊢;have Gv:Gp p []=0:=by unfold Gp;rfl
  have h0:=hz Gv;have hm0:Cb m=0:=by unfold Cb;rw[Bn h1,Bn h2,Bn (by omega),h0]
  rw[C5 Gv];obtain⟨ve,fe,le⟩:=Acu h3 (fun x hx=>⟨hw.mod x hx,hk x hx⟩)
  obtain⟨vm,fm,lm⟩:=Yn hw hm0;have fl:=DJ (f:=Ba) (k:=28) (l:=m.ents) (fun x hx=>(FP (hw.mod x hx) (hk x hx)).2.2)
  have ar:=DX (fu:=fu) (d:=d+2) Ca (k:=3) (by omega) (vs:=m.ents.map Ba) (fun v hv=>by
   obtain⟨x,hx,rfl⟩:=List.mem_map.1 hv;have:=FP (hw.mod x hx) (hk x hx);exact⟨this.1,by simp[Ba],by have:=this.2.2;omega⟩) (by rw[List.length_map];omega) (by omega)
  rw[List.length_map] at ar
  have ar4:Ad C0 prog fu (d+8) Iw [.lst false 1 4 [.lst false 3 1 (Bi [⟨1,m.ver,Vt⟩]),.lst false 3 1 (Bi [⟨1,m.iss,Vt⟩]),.lst false 3 1 (Bi [⟨1,m.nxt,Vt⟩]),.lst false 3 (Do (m.ents.map Ba)).length (Bi (Do (m.ents.map Ba)))]]=some ⟨[.own 3 (Bf m).length (Bi (Bf m)),.sc (.int .i64 0)],[]⟩:=DX (fu:=fu) (d:=d+2) Ca (k:=4) (by omega) (vs:=P3 m) (fun v hv=>by
   simp only[P3,List.mem_cons,List.not_mem_nil,or_false] at hv;rcases hv with rfl|rfl|rfl|rfl
   ·exact⟨Gh (I4 (by omega)) 4,by simp,by simp⟩
   ·exact⟨Gh (I4 (by omega)) 4,by simp,by simp⟩
   ·exact⟨Gh (I4 (by omega)) 4,by simp,by simp⟩
   ·exact⟨ve,by simp[Do],by omega⟩) (by simp[P3]) (by simp only[P3,List.flatten_cons,List.flatten_nil,List.append_nil,Io,List.length_singleton];omega)
  have en:=Ada (fu:=fu) (d:=d+3) Ca (l:=Bf m) (by omega) (by omega) (vm.goods (by omega) (by simp[Bf]) (by omega)) (fun x hx=>(fm x hx).1) (by have:=fm.len;omega)
  have u1:=Us (fu:=fu) (d:=d+7) m.ver;have u2:=Us (fu:=fu) (d:=d+7) m.iss;have u3:=Us (fu:=fu) (d:=d+7) m.nxt;have w1:wrap .u64 m.ver=m.ver:=D7 (by omega) (by omega)
  have w2:wrap .u64 m.iss=m.iss:=D7 (by omega) (by omega)
  have w3:wrap .u64 m.nxt=m.nxt:=D7 (by omega) (by omega)
  have e00:((0:Int) != 0)=false:=rfl;have LV:(F2 (m.ents.map Ba)).length=m.ents.length:=by rw[U6,List.length_map]
  have tV:List.take m.ents.length (F2 (m.ents.map Ba))=F2 (m.ents.map Ba):=L6 (by omega)
  have LA:=H7 (Do (m.ents.map Ba));have LM:=H7 (Bf m);have tA:List.take ((Do (m.ents.map Ba)).length*3) (Bi (Do (m.ents.map Ba)))=Bi (Do (m.ents.map Ba)):=L6 (by omega)
  have tM:List.take ((Bf m).length*3) (Bi (Bf m))=Bi (Bf m):=L6 (by omega)
  have LB:=Ay .u8 (Ci (Bf m));have tB:=Mt .u8 (Ci (Bf m));have K1:List.take 3 (Bi [⟨1,m.ver,Vt⟩])=Bi [⟨1,m.ver,Vt⟩]:=rfl;have K2:List.take 3 (Bi [⟨1,m.iss,Vt⟩])=Bi [⟨1,m.iss,Vt⟩]:=rfl;have K3:List.take 3 (Bi [⟨1,m.nxt,Vt⟩])=Bi [⟨1,m.nxt,Vt⟩]:=rfl;have N1:(Bi [⟨1,m.ver,Vt⟩]).length=3:=rfl;have N2:(Bi [⟨1,m.iss,Vt⟩]).length=3:=rfl;have N3:(Bi [⟨1,m.nxt,Vt⟩]).length=3:=rfl;subst ei;rw[Sl];generalize Bi [⟨1,m.ver,Vt⟩]=T1 at *
  generalize Bi [⟨1,m.iss,Vt⟩]=T2 at *
  generalize Bi [⟨1,m.nxt,Vt⟩]=T3 at *
  generalize Ci (Bf m)=B at *
  generalize Bi (Bf m)=TM at *
  generalize (Bf m).length=nM at *
  generalize Bi (Do (m.ents.map Ba))=TA at *
  generalize (Do (m.ents.map Ba)).length=nA at *
  generalize F2 (m.ents.map Ba)=TV at *
  try unfold Aa
  repeat first
   |((with_reducible first|apply Av|apply Ao|apply At|apply Bo|apply Bg|apply Am|apply Au|apply Aw);· first|with_reducible rfl|(simp (disch:=omega) only[gT,LV,tV,ar,e00,u1,u2,u3,w1,w2,w3,K1,K2,K3,N1,N2,N3,LA,tA,ar4,LM,tM,en,LB,tB,Ch,Nat.one_mul,Dc,C8,Dz,My]<;>first|with_reducible rfl|omega)|omega)
   |(with_reducible apply As;· first|with_reducible rfl|(simp (disch:=omega) only[gF,LV,tV,ar,e00,u1,u2,u3,w1,w2,w3,K1,K2,K3,N1,N2,N3,LA,tA,ar4,LM,tM,en,LB,tB,Ch,Nat.one_mul,Dc,C8,Dz,My]<;>omega))
  try simp (disch:=omega) only[LV,tV,ar,e00,u1,u2,u3,w1,w2,w3,K1,K2,K3,N1,N2,N3,LA,tA,ar4,LM,tM,en,LB,tB,Ch,Nat.one_mul,Dc,C8,Dz,My]
  all_goals rfl
 |x::rs,i,nn+1,p,hd,hn,hi,hp,hz,hk=>by
  obtain⟨q1,q2,q3⟩:=D1 hd;simp only[Ik] at hn;obtain⟨c0,c1,c2⟩:=mea q2;have c2':(Cm m.ents).getD (i*3+1+1) .top=.lst false 2 x.sts.length (D0 x.sts):=c2;have nt:Int.toNat (i:Int)=i:=Kz _;have hxm:=hw.mod x (List.mem_of_getElem? q2);have en:=Ao0 (fu:=fu) (d:=d) Ca hxm;unfold An5 at en;simp only[Me.cells] at en;have w:wrap .i64 ((i:Int)+1)=((i+1:Nat):Int):=by rw[Ap (by omega) (by omega)];omega
  have et:m.ents.take (i+1)=m.ents.take i++[x]:=by rw[List.take_add_one,q2];rfl
  have O1:Sq none x=0:=rfl;have O0:∀q:Int,Sq (some q) x=if x.model<=q then 7 else 0:=fun q=>rfl
  have LV:(F2 ((m.ents.take i).map Ba)).length=i:=by rw[U6,List.length_map,List.length_take];omega
  have tV:List.take i (F2 ((m.ents.take i).map Ba))=F2 ((m.ents.take i).map Ba):=L6 (by omega)
  have ea:F2 ((m.ents.take i).map Ba)++[.lst false 3 (Ba x).length (Bi (Ba x))]=F2 ((m.ents.take (i+1)).map Ba):=by
   rw[et,List.map_append,List.map_singleton];exact PC _ (Ba x)
  have LE:=H7 (Ba x);have tE:List.take ((Ba x).length*3) (Bi (Ba x))=Bi (Ba x):=L6 (by omega)
  have e00:((0:Int) != 0)=false:=rfl;have hgo:Sq p x=0->El x=0->Gp p (x::rs)=Gp (some x.model) rs:=fun h h'=>by rw[Gp,Bn (by simp[h]),Bn (by simp[h'])]
  have Aqe:Sq p x=0->El x≠0->Gp p (x::rs)=El x:=fun h h'=>by rw[Gp,Bn (by simp[h]),C5 h']
  have A82:Sq p x=7->Gp p (x::rs)=7:=fun h=>by rw[Gp,C5 (by rw[h];omega),h]
  have ih:=fun (h:Sq p x=0) (h':El x=0)=>Axw Ca (Ak:=Ak) (Al:=Al) (Bd:=Bd) (Ff:=Ff) (Cp:=Cp) (C3:=C3) (C4:=C4) (Cy:=Cy) (Fh:=Fh) (Fi:=Fi) hw h1 h2 h3 rs (i+1) nn (some x.model) q3 (by omega) (by omega) (.inr ⟨x,by omega,by rw[Nat.add_sub_cancel];exact q2,rfl⟩) (fun e=>hz (by rw[hgo h h'];exact e)) (fun y hy=>by
   rw[et] at hy;rcases List.mem_append.1 hy with hy|hy
   ·exact hk y hy
   ·rw[List.mem_singleton.1 hy];exact h')
  rw[Sl];rcases hp with⟨rfl,rfl⟩|⟨x',h0,h5,rfl⟩
  ·by_cases he:El x=0
   ·rw[C5 he] at en;have ih:=ih O1 he;rw[hgo O1 he,←ih];generalize Bi (Ba x)=TE at *
    generalize (Ba x).length=nE at *
    generalize F2 ((m.ents.take 0).map Ba)=TV at *
    generalize F2 ((m.ents.take (0+1)).map Ba)=TV' at *
    try unfold Aa
    repeat first
     |((with_reducible first|apply Av|apply Ao|apply At|apply Bo|apply Bg|apply Am|apply Au|apply Aw);· first|with_reducible rfl|(simp (disch:=omega) only[gT,nt,c0,c1,c2',en,e00,LE,tE,LV,tV,ea,w,Ch,Dc,C8]<;>first|with_reducible rfl|omega)|omega)
     |(with_reducible apply As;· first|with_reducible rfl|(simp (disch:=omega) only[gF,nt,c0,c1,c2',en,e00,LE,tE,LV,tV,ea,w,Ch,Dc,C8]<;>omega))
    try simp (disch:=omega) only[nt,c0,c1,c2',en,e00,LE,tE,LV,tV,ea,w,Ch,Dc,C8]
    all_goals rfl
   ·rw[Bn he] at en;have Gg:(El x != 0)=true:=by simp[he]
    rw[Aqe O1 he,Bn he]
    try unfold Aa
    repeat first
     |((with_reducible first|apply Av|apply Ao|apply At|apply Bo|apply Bg|apply Am|apply Au|apply Aw);· first|with_reducible rfl|(simp (disch:=omega) only[gT,nt,c0,c1,c2',en,Gg]<;>first|with_reducible rfl|omega)|omega)
     |(with_reducible apply As;· first|with_reducible rfl|(simp (disch:=omega) only[gF,nt,c0,c1,c2',en,Gg]<;>omega))
    try simp (disch:=omega) only[nt,c0,c1,c2',en,Gg]
    all_goals rfl
  ·obtain⟨b0,b1,b2⟩:=mea h5;have b0':(Cm m.ents).getD ((i-1)*3+0) .top=.sc (.int .u64 x'.model):=b0;have wi:wrap .i64 ((i:Int)-1)=((i-1:Nat):Int):=by rw[Ap (by omega) (by omega)];omega
   have nt1:Int.toNat ((i-1:Nat):Int)=i-1:=Kz _;by_cases ho:x.model<=x'.model
   ·have h7:Sq (some x'.model) x=7:=by rw[O0,C5 ho]
    rw[A82 h7,Bn (by omega)]
    try unfold Aa
    repeat first
     |((with_reducible first|apply Av|apply Ao|apply At|apply Bo|apply Bg|apply Am|apply Au|apply Aw);· first|with_reducible rfl|(simp (disch:=omega) only[gT,nt,c0,c1,c2',wi,nt1,b0']<;>first|with_reducible rfl|omega)|omega)
     |(with_reducible apply As;· first|with_reducible rfl|(simp (disch:=omega) only[gF,nt,c0,c1,c2',wi,nt1,b0']<;>omega))
    try simp (disch:=omega) only[nt,c0,c1,c2',wi,nt1,b0']
    all_goals rfl
   ·have h7:Sq (some x'.model) x=0:=by rw[O0,Bn ho]
    by_cases he:El x=0
    ·rw[C5 he] at en;have ih:=ih h7 he;rw[hgo h7 he,←ih];generalize Bi (Ba x)=TE at *
     generalize (Ba x).length=nE at *
     generalize F2 ((m.ents.take i).map Ba)=TV at *
     generalize F2 ((m.ents.take (i+1)).map Ba)=TV' at *
     try unfold Aa
     repeat first
      |((with_reducible first|apply Av|apply Ao|apply At|apply Bo|apply Bg|apply Am|apply Au|apply Aw);· first|with_reducible rfl|(simp (disch:=omega) only[gT,nt,c0,c1,c2',wi,nt1,b0',en,e00,LE,tE,LV,tV,ea,w,Ch,Dc,C8]<;>first|with_reducible rfl|omega)|omega)
      |(with_reducible apply As;· first|with_reducible rfl|(simp (disch:=omega) only[gF,nt,c0,c1,c2',wi,nt1,b0',en,e00,LE,tE,LV,tV,ea,w,Ch,Dc,C8]<;>omega))
     try simp (disch:=omega) only[nt,c0,c1,c2',wi,nt1,b0',en,e00,LE,tE,LV,tV,ea,w,Ch,Dc,C8]
     all_goals rfl
    ·rw[Bn he] at en;have Gg:(El x != 0)=true:=by simp[he]
     rw[Aqe h7 he,Bn he]
     try unfold Aa
     repeat first
      |((with_reducible first|apply Av|apply Ao|apply At|apply Bo|apply Bg|apply Am|apply Au|apply Aw);· first|with_reducible rfl|(simp (disch:=omega) only[gT,nt,c0,c1,c2',wi,nt1,b0',en,Gg]<;>first|with_reducible rfl|omega)|omega)
      |(with_reducible apply As;· first|with_reducible rfl|(simp (disch:=omega) only[gF,nt,c0,c1,c2',wi,nt1,b0',en,Gg]<;>omega))
     try simp (disch:=omega) only[nt,c0,c1,c2',wi,nt1,b0',en,Gg]
     all_goals rfl
theorem Aca (Ca:1000<=fu){m:Md}(hw:m.wf):Ad C0 prog fu (d+9) Xn [.agg m.cells]=some ⟨Zs m,[]⟩:=by
 refine (MW fu (d+8) m.ver m.iss m.nxt m.ents.length (Cm m.ents) m.sig.leaf m.sig.chains.length (Ah .u64 m.sig.chains) m.sig.path.length (Ah .u64 m.sig.path)).trans ?_;have bad:∀{e:Int},Cb m=e->e≠0->some (A5.mk [.own 1 0 [],.sc (.int .i64 e)] [])=some (A5.mk (Zs m) []):=fun {e} h he=>by unfold Zs;rw[h,Bn he]
 by_cases h1:m.ver<1∨16<m.ver
 ·have hb:Cb m=9:=by unfold Cb;rw[C5 h1]
  rw[←bad hb (by omega)]
  by_cases XK:m.ver<1
  ·skip
   try unfold Aa
   repeat first
    |((with_reducible first|apply Av|apply Ao|apply At|apply Bo|apply Bg|apply Am|apply Au|apply Aw);· first|with_reducible rfl|(simp (disch:=omega) only[gT,Dz]<;>first|with_reducible rfl|omega)|omega)
    |(with_reducible apply As;· first|with_reducible rfl|(simp (disch:=omega) only[gF,Dz]<;>omega))
   try simp (disch:=omega) only[Dz]
   all_goals rfl
  ·skip
   try unfold Aa
   repeat first
    |((with_reducible first|apply Av|apply Ao|apply At|apply Bo|apply Bg|apply Am|apply Au|apply Aw);· first|with_reducible rfl|(simp (disch:=omega) only[gT,Dz]<;>first|with_reducible rfl|omega)|omega)
    |(with_reducible apply As;· first|with_reducible rfl|(simp (disch:=omega) only[gF,Dz]<;>omega))
   try simp (disch:=omega) only[Dz]
   all_goals rfl
 by_cases h2:m.iss<0∨m.nxt<m.iss∨1099511627776<m.nxt
 ·have hb:Cb m=9:=by unfold Cb;rw[Bn h1,C5 h2]
  rw[←bad hb (by omega)]
  by_cases h2':m.iss<0
  ·skip
   try unfold Aa
   repeat first
    |((with_reducible first|apply Av|apply Ao|apply At|apply Bo|apply Bg|apply Am|apply Au|apply Aw);· first|with_reducible rfl|(simp (disch:=omega) only[gT,Dz]<;>first|with_reducible rfl|omega)|omega)
    |(with_reducible apply As;· first|with_reducible rfl|(simp (disch:=omega) only[gF,Dz]<;>omega))
   try simp (disch:=omega) only[Dz]
   all_goals rfl
  by_cases Bc9:m.nxt<m.iss
  ·skip
   try unfold Aa
   repeat first
    |((with_reducible first|apply Av|apply Ao|apply At|apply Bo|apply Bg|apply Am|apply Au|apply Aw);· first|with_reducible rfl|(simp (disch:=omega) only[gT,Dz]<;>first|with_reducible rfl|omega)|omega)
    |(with_reducible apply As;· first|with_reducible rfl|(simp (disch:=omega) only[gF,Dz]<;>omega))
   try simp (disch:=omega) only[Dz]
   all_goals rfl
  ·skip
   try unfold Aa
   repeat first
    |((with_reducible first|apply Av|apply Ao|apply At|apply Bo|apply Bg|apply Am|apply Au|apply Aw);· first|with_reducible rfl|(simp (disch:=omega) only[gT,Dz]<;>first|with_reducible rfl|omega)|omega)
    |(with_reducible apply As;· first|with_reducible rfl|(simp (disch:=omega) only[gF,Dz]<;>omega))
   try simp (disch:=omega) only[Dz]
   all_goals rfl
 by_cases h3:16<m.ents.length
 ·have hb:Cb m=8:=by unfold Cb;rw[Bn h1,Bn h2,C5 h3]
  rw[←bad hb (by omega)]
  try unfold Aa
  repeat first
   |((with_reducible first|apply Av|apply Ao|apply At|apply Bo|apply Bg|apply Am|apply Au|apply Aw);· first|with_reducible rfl|(simp (disch:=omega) only[gT,Dz]<;>first|with_reducible rfl|omega)|omega)
   |(with_reducible apply As;· first|with_reducible rfl|(simp (disch:=omega) only[gF,Dz]<;>omega))
  try simp (disch:=omega) only[Dz]
  all_goals rfl
 have hb:Cb m=Gp none m.ents:=by unfold Cb;rw[Bn h1,Bn h2,Bn h3]
 have l0:=Axw (fu:=fu) (d:=d) Ca (Ak:=m.ver) (Al:=m.iss) (Bd:=m.nxt) (Cp:=m.ents.length) (Cy:=Cm m.ents) (Ff:=m.sig.leaf) (C3:=m.sig.chains.length) (Fh:=Ah .u64 m.sig.chains) (C4:=m.sig.path.length) (Fi:=Ah .u64 m.sig.path) hw h1 h2 (by omega) m.ents 0 fu none rfl (by omega) (by omega) (.inl ⟨rfl,rfl⟩) (fun h=>h) (fun x hx=>by cases hx)
 have ev:F2 ((m.ents.take 0).map Ba)=[]:=rfl;have z0:((0:Nat):Int)=0:=rfl;rw[ev,z0] at l0;unfold Zs;rw[hb,←l0]
 try unfold Aa
 repeat first
  |((with_reducible first|apply Av|apply Ao|apply At|apply Bo|apply Bg|apply Am|apply Au|apply Aw);· first|with_reducible rfl|(simp (disch:=omega) only[gT,Dz]<;>first|with_reducible rfl|omega)|omega)
  |(with_reducible apply As;· first|with_reducible rfl|(simp (disch:=omega) only[gF,Dz]<;>omega))
 try simp (disch:=omega) only[Dz]
 all_goals rfl
end
end
section
open Go.Proofs.Tryz (prog)
open Go.IntKind (wrap)
set_option maxRecDepth 1000000
def CG (m:Md):Int:=R3 15 (Ci (Bf m))
def Aeu (m:Md)(k:Ky):Int:=if Cb m=0 then (if m.sig.leaf≠m.ver-1 then 33 else Ame k (CG m) m.sig) else Cb m
def Ea (m:Md):Int:=if Cb m=0 then QP m.sig else Cb m
def Gn (m:Md):List Int:=Ci (Bf m)++CE m.sig
def Ws (m:Md):List PV:=if Ea m=0 then [.own 1 (Gn m).length (Ah .u8 (Gn m)),.sc (.int .i64 0)] else [.own 1 0 [],.sc (.int .i64 (Ea m))]
def FV (m:Md):List PV:=if Cb m=0 then [.sc (.int .u64 (CG m)),.sc (.int .i64 0)] else [.sc (.int .u64 0),.sc (.int .i64 (Cb m))]
def TW:Md:=⟨0,0,0,[],⟨0,[],[]⟩⟩
def V1 (m:Md)(seed h:Int):Md × Int:=
 if Cb m=0 then (match Ak3 seed h (m.ver-1) (CG m) with|some s=>({ m with sig:=s },0)|none=>(TW,9)) else (TW,Cb m)
theorem KI {m:Md}(hw:m.wf)(h:Cb m=0):(Ci (Bf m)).length<=18573:=by
 obtain⟨_,f,l⟩:=Yn hw h;have:=f.len;omega
theorem ZR {m:Md}(hw:m.wf)(h:Cb m=0):Li (Ci (Bf m)):=by
 obtain⟨_,f,_⟩:=Yn hw h;intro y hy;obtain⟨x,hx,hy⟩:=List.mem_flatMap.1 hy;have:=(f x hx).1;exact Avn this.k1 this.k8 this.n0 y hy
section
variable {fu d:Nat} {m:Md}
theorem Ab5 (Ca:20000<=fu)(hw:m.wf):Ad C0 prog fu (d+10) Xf [.agg m.cells]=some ⟨FV m,[]⟩:=by
 refine (NL fu (d+9) m.ver m.iss m.nxt m.ents.length (Cm m.ents) m.sig.leaf m.sig.chains.length (Ah .u64 m.sig.chains) m.sig.path.length (Ah .u64 m.sig.path)).trans ?_;have bq:=Aca (fu:=fu) (d:=d) (by omega) hw
 simp only[Md.cells] at bq;unfold Zs at bq;unfold FV;by_cases h0:Cb m=0
 ·have lb:=KI hw h0;rw[C5 h0] at bq;rw[C5 h0];have e00:((0:Int) != 0)=false:=rfl;have hh:=Ai8 (xs:=Pq) (fu:=fu) (d:=d+4) (ZR hw h0) (by omega) (by omega) (by omega) 15
  have eW:R3 15 (Ci (Bf m))=CG m:=rfl;rw[eW] at hh;have L1:=Ay .u8 (Ci (Bf m));have t1:=Mt .u8 (Ci (Bf m));generalize (Ci (Bf m)).length=n1 at *
  generalize Ah .u8 (Ci (Bf m))=c1 at *
  try unfold Aa
  repeat first
   |((with_reducible first|apply Av|apply Ao|apply At|apply Bo|apply Bg|apply Bc|apply Am|apply Au|apply Aw);· first|with_reducible rfl|(simp (disch:=omega) only[gT,bq,e00,Dc,Ch,C8,L1,t1,hh]<;>first|with_reducible rfl|omega)|omega)
   |(with_reducible apply As;· first|with_reducible rfl|(simp (disch:=omega) only[gF,bq,e00,Dc,Ch,C8,L1,t1,hh]<;>omega))
  try simp (disch:=omega) only[bq,e00,Dc,Ch,C8,L1,t1,hh]
  all_goals rfl
 ·have Gg:(Cb m != 0)=true:=by simp[h0]
  rw[Bn h0] at bq;rw[Bn h0]
  try unfold Aa
  repeat first
   |((with_reducible first|apply Av|apply Ao|apply At|apply Bo|apply Bg|apply Bc|apply Am|apply Au|apply Aw);· first|with_reducible rfl|(simp (disch:=omega) only[gT,bq,Gg]<;>first|with_reducible rfl|omega)|omega)
   |(with_reducible apply As;· first|with_reducible rfl|(simp (disch:=omega) only[gF,bq,Gg]<;>omega))
  try simp (disch:=omega) only[bq,Gg]
  all_goals rfl
theorem Aio (Ca:20000<=fu)(hw:m.wf)(k:Ky):Ad C0 prog fu (d+11) Tg [.agg m.cells,.agg k.cells]=some ⟨[.sc (.int .i64 (Aeu m k))],[]⟩:=by
 refine (HY fu (d+10) m.ver m.iss m.nxt m.ents.length (Cm m.ents) m.sig.leaf m.sig.chains.length (Ah .u64 m.sig.chains) m.sig.path.length (Ah .u64 m.sig.path) k.h k.root).trans ?_;have bq:=Ab5 (fu:=fu) (d:=d) Ca hw;simp only[Md.cells] at bq;unfold FV at bq;unfold Aeu;by_cases h0:Cb m=0
 ·rw[C5 h0] at bq;rw[C5 h0];have hv:=Ms h0;have e00:((0:Int) != 0)=false:=rfl;have w:wrap .i64 (m.ver-1)=m.ver-1:=Ap (by omega) (by omega)
  by_cases h1:m.sig.leaf≠m.ver-1
  ·have hn:(m.sig.leaf != m.ver-1)=true:=by simp[h1]
   rw[C5 h1]
   try unfold Aa
   repeat first
    |((with_reducible first|apply Av|apply Ao|apply At|apply Bo|apply Bg|apply Bc|apply Am|apply Au|apply Aw);· first|with_reducible rfl|(simp (disch:=omega) only[gT,bq,e00,w,hn]<;>first|with_reducible rfl|omega)|omega)
    |(with_reducible apply As;· first|with_reducible rfl|(simp (disch:=omega) only[gF,bq,e00,w,hn]<;>omega))
   try simp (disch:=omega) only[bq,e00,w,hn]
   all_goals rfl
  ·have hn:(m.sig.leaf != m.ver-1)=false:=by simp only[ne_eq,Decidable.not_not] at h1;simp[h1]
   rw[Bn h1];have vr:=Amn (xs:=Pq) (fu:=fu) (d:=d+2) (by omega) k (CG m) m.sig
   simp only[Ky.cells,Sg.cells] at vr
   try unfold Aa
   repeat first
    |((with_reducible first|apply Av|apply Ao|apply At|apply Bo|apply Bg|apply Bc|apply Am|apply Au|apply Aw);· first|with_reducible rfl|(simp (disch:=omega) only[gT,bq,e00,w,hn,vr]<;>first|with_reducible rfl|omega)|omega)
    |(with_reducible apply As;· first|with_reducible rfl|(simp (disch:=omega) only[gF,bq,e00,w,hn,vr]<;>omega))
   try simp (disch:=omega) only[bq,e00,w,hn,vr]
   all_goals rfl
 ·have Gg:(Cb m != 0)=true:=by simp[h0]
  rw[Bn h0] at bq;rw[Bn h0]
  try unfold Aa
  repeat first
   |((with_reducible first|apply Av|apply Ao|apply At|apply Bo|apply Bg|apply Bc|apply Am|apply Au|apply Aw);· first|with_reducible rfl|(simp (disch:=omega) only[gT,bq,Gg]<;>first|with_reducible rfl|omega)|omega)
   |(with_reducible apply As;· first|with_reducible rfl|(simp (disch:=omega) only[gF,bq,Gg]<;>omega))
  try simp (disch:=omega) only[bq,Gg]
  all_goals rfl
theorem HI (Ca:20000<=fu)(hw:m.wf)(hp:m.sig.path.length<=1000000000)(hf:m.sig.path.length<fu):Ad C0 prog fu (d+10) Ta [.agg m.cells]=some ⟨Ws m,[]⟩:=by
 refine (FX fu (d+9) m.ver m.iss m.nxt m.ents.length (Cm m.ents) m.sig.leaf m.sig.chains.length (Ah .u64 m.sig.chains) m.sig.path.length (Ah .u64 m.sig.path)).trans ?_;have bq:=Aca (fu:=fu) (d:=d) (by omega) hw
 simp only[Md.cells] at bq;have es:=Amc (xs:=Pq) (fu:=fu) (d:=d+7) (by omega) m.sig hp hf
 simp only[Sg.cells] at es;unfold Zs at bq;unfold Ws Ea;by_cases h0:Cb m=0
 ·have lb:=KI hw h0;rw[C5 h0] at bq;rw[C5 h0];have L1:=Ay .u8 (Ci (Bf m));have t1:=Mt .u8 (Ci (Bf m));have e00:((0:Int) != 0)=false:=rfl;have e90:((9:Int) != 0)=true:=rfl;have e40:((4:Int) != 0)=true:=rfl;unfold QP;by_cases g1:Ex m.sig.path.length=true
  ·rw[C5 g1] at es;rw[C5 g1,Bn (by omega)]
   try unfold Aa
   repeat first
    |((with_reducible first|apply Av|apply Ao|apply At|apply Bo|apply Bg|apply Bc|apply Am|apply Au|apply Aw);· first|with_reducible rfl|(simp (disch:=omega) only[gT,bq,es,e00,e90]<;>first|with_reducible rfl|omega)|omega)
    |(with_reducible apply As;· first|with_reducible rfl|(simp (disch:=omega) only[gF,bq,es,e00,e90]<;>omega))
   try simp (disch:=omega) only[bq,es,e00,e90]
   all_goals rfl
  rw[Bn g1] at es;rw[Bn g1];by_cases g2:Qq m.sig.leaf m.sig.path.length=true
  ·rw[C5 g2] at es;rw[C5 g2,Bn (by omega)]
   try unfold Aa
   repeat first
    |((with_reducible first|apply Av|apply Ao|apply At|apply Bo|apply Bg|apply Bc|apply Am|apply Au|apply Aw);· first|with_reducible rfl|(simp (disch:=omega) only[gT,bq,es,e00,e90]<;>first|with_reducible rfl|omega)|omega)
    |(with_reducible apply As;· first|with_reducible rfl|(simp (disch:=omega) only[gF,bq,es,e00,e90]<;>omega))
   try simp (disch:=omega) only[bq,es,e00,e90]
   all_goals rfl
  rw[Bn g2] at es;rw[Bn g2];by_cases g3:m.sig.chains.length≠18
  ·rw[C5 g3] at es;rw[C5 g3,Bn (by omega)]
   try unfold Aa
   repeat first
    |((with_reducible first|apply Av|apply Ao|apply At|apply Bo|apply Bg|apply Bc|apply Am|apply Au|apply Aw);· first|with_reducible rfl|(simp (disch:=omega) only[gT,bq,es,e00,e40]<;>first|with_reducible rfl|omega)|omega)
    |(with_reducible apply As;· first|with_reducible rfl|(simp (disch:=omega) only[gF,bq,es,e00,e40]<;>omega))
   try simp (disch:=omega) only[bq,es,e00,e40]
   all_goals rfl
  rw[Bn g3] at es;rw[Bn g3,C5 rfl];have hb4:=Kr (h:=m.sig.path.length) (by simpa using g1)
  have ls:(CE m.sig).length=2+8*m.sig.chains.length+8*m.sig.path.length:=by
   unfold CE;simp only[Ik,Io,D3];omega
  have L2:=Ay .u8 (CE m.sig);have t2:=Mt .u8 (CE m.sig)
  have ea:Ah .u8 (Ci (Bf m))++Ah .u8 (CE m.sig)=Ah .u8 (Gn m):=by
   unfold Gn;rw[Ah,Ah,Ah,List.flatMap_append]
  have le:(Gn m).length=(Ci (Bf m)).length+(CE m.sig).length:=by unfold Gn;rw[Io]
  have L3:=Ay .u8 (Gn m);have t3:List.take ((Ci (Bf m)).length+(CE m.sig).length) (Ah .u8 (Gn m))=Ah .u8 (Gn m):=L6 (by omega)
  rw[le] at L3 ⊢;generalize (Ci (Bf m)).length=n1 at *
  generalize (CE m.sig).length=n2 at *
  generalize Ah .u8 (Ci (Bf m))=c1 at *
  generalize Ah .u8 (CE m.sig)=c2 at *
  try unfold Aa
  repeat first
   |((with_reducible first|apply Av|apply Ao|apply At|apply Bo|apply Bg|apply Bc|apply Am|apply Au|apply Aw);· first|with_reducible rfl|(simp (disch:=omega) only[gT,bq,es,e00,Dc,Ch,C8,L1,t1,L2,t2,ea,L3,t3]<;>first|with_reducible rfl|omega)|omega)
   |(with_reducible apply As;· first|with_reducible rfl|(simp (disch:=omega) only[gF,bq,es,e00,Dc,Ch,C8,L1,t1,L2,t2,ea,L3,t3]<;>omega))
  try simp (disch:=omega) only[bq,es,e00,Dc,Ch,C8,L1,t1,L2,t2,ea,L3,t3]
  all_goals rfl
 ·have Gg:(Cb m != 0)=true:=by simp[h0]
  rw[Bn h0] at bq;rw[Bn h0,Bn h0]
  try unfold Aa
  repeat first
   |((with_reducible first|apply Av|apply Ao|apply At|apply Bo|apply Bg|apply Bc|apply Am|apply Au|apply Aw);· first|with_reducible rfl|(simp (disch:=omega) only[gT,bq,Gg]<;>first|with_reducible rfl|omega)|omega)
   |(with_reducible apply As;· first|with_reducible rfl|(simp (disch:=omega) only[gF,bq,Gg]<;>omega))
  try simp (disch:=omega) only[bq,Gg]
  all_goals rfl
theorem Amd {l:List An}(hl:l.length<=1000000):Ad C0 prog fu (d+1) Jg [.lst false 3 l.length (Dg l)]=some ⟨[.lst false 3 l.length (Dg l)],[]⟩:=by
 refine (N6 fu d l.length (Dg l)).trans ?_;have L:=Q7 l;have t:List.take (l.length*3) (Dg l)=Dg l:=L6 (by omega)
 by_cases h:0<l.length
 ·skip
  try unfold Aa
  repeat first
   |((with_reducible first|apply Av|apply Ao|apply At|apply Bo|apply Bg|apply Bc|apply Am|apply Au|apply Aw);· first|with_reducible rfl|(simp (disch:=omega) only[gT,L,t,Zzq,Ch,C8]<;>first|with_reducible rfl|omega)|omega)
   |(with_reducible apply As;· first|with_reducible rfl|(simp (disch:=omega) only[gF,L,t,Zzq,Ch,C8]<;>omega))
  try simp (disch:=omega) only[L,t,Zzq,Ch,C8]
  all_goals rfl
 ·have h0:l=[]:=List.eq_nil_of_length_eq_zero (by omega)
  subst h0;rw[Ej _ _ _ (by simp)]
  exact OJ _
theorem Alu {l:List Sa}(hl:l.length<=1000000):Ad C0 prog fu (d+1) Jl [.lst false 2 l.length (D0 l)]=some ⟨[.lst false 2 l.length (D0 l)],[]⟩:=by
 refine (N8 fu d l.length (D0 l)).trans ?_;have L:=Z3 l;have t:List.take (l.length*2) (D0 l)=D0 l:=L6 (by omega)
 by_cases h:0<l.length
 ·skip
  try unfold Aa
  repeat first
   |((with_reducible first|apply Av|apply Ao|apply At|apply Bo|apply Bg|apply Bc|apply Am|apply Au|apply Aw);· first|with_reducible rfl|(simp (disch:=omega) only[gT,L,t,Zzq,Ch,C8]<;>first|with_reducible rfl|omega)|omega)
   |(with_reducible apply As;· first|with_reducible rfl|(simp (disch:=omega) only[gF,L,t,Zzq,Ch,C8]<;>omega))
  try simp (disch:=omega) only[L,t,Zzq,Ch,C8]
  all_goals rfl
 ·have h0:l=[]:=List.eq_nil_of_length_eq_zero (by omega)
  subst h0;rw[Ej _ _ _ (by simp)]
  exact OJ _
theorem Apv {x:Me}(h1:x.ans.length<=1000000)(h2:x.sts.length<=1000000):Ad C0 prog fu (d+2) J6 [.agg x.cells]=some ⟨[.agg x.cells],[]⟩:=by
 refine (Pr fu (d+1) x.model x.ans.length (Dg x.ans) x.sts.length (D0 x.sts)).trans ?_;have c1:=Amd (fu:=fu) (d:=d) h1;have c2:=Alu (fu:=fu) (d:=d) h2
 try unfold Aa
 repeat first
  |((with_reducible first|apply Av|apply Ao|apply At|apply Bo|apply Bg|apply Bc|apply Am|apply Au|apply Aw);· first|with_reducible rfl|(simp (disch:=omega) only[gT,c1,c2]<;>first|with_reducible rfl|omega)|omega)
  |(with_reducible apply As;· first|with_reducible rfl|(simp (disch:=omega) only[gF,c1,c2]<;>omega))
 try simp (disch:=omega) only[c1,c2]
 all_goals rfl
theorem AF (a:List Me)(x:Me):Cm a++[.sc (.int .u64 x.model),.lst false 3 x.ans.length (Dg x.ans),.lst false 2 x.sts.length (D0 x.sts)]=Cm (a++[x]):=by
 unfold Cm;rw[List.flatMap_append,List.flatMap_cons,List.flatMap_nil,List.append_nil];rfl
theorem Aju {Ak Al Bd Ff a1 a2:Int}{Cp C3 C4:Nat}{Cy Fh Fi:List PV}{s:Sg}(h3:m.ents.length<=16)(h4:∀x∈m.ents,x.ans.length<=4∧x.sts.length<=4):∀(r:List Me)(i nn:Nat),m.ents.drop i=r->r.length<nn->i<=m.ents.length ->
  Kp fu (Ad C0 prog fu (d+2)) Ak Al Bd Cp Cy Ff C3 Fh C4 Fi a1 a2 nn i m.ents.length (Cm m.ents) (m.ents.length:Int) (i:Int) m.ver m.iss m.nxt m.ents.length (Cm m.ents) m.sig.leaf m.sig.chains.length (Ah .u64 m.sig.chains) m.sig.path.length (Ah .u64 m.sig.path) 0 0 0 0 0 0 0 [] [] [] s.leaf s.chains.length (Ah .u64 s.chains) s.path.length (Ah .u64 s.path) (Cm (m.ents.take i)) =
   some ⟨[.agg ({ m with sig:=s }:Md).cells,.sc (.int .i64 0)],[]⟩
 |_,_,0,_,h,_=>by omega
 |[],i,nn+1,hd,hn,hi=>by
  have hl:=drop_nil hd;have ei:i=m.ents.length:=by omega
  have eall:m.ents.take i=m.ents:=L6 (by omega)
  rw[eall];subst ei;have L:=Og m.ents;have t:List.take (m.ents.length*3) (Cm m.ents)=Cm m.ents:=L6 (by omega)
  rw[Rp]
  try unfold Aa
  repeat first
   |((with_reducible first|apply Av|apply Ao|apply At|apply Bo|apply Bg|apply Bc|apply Am|apply Au|apply Aw);· first|with_reducible rfl|(simp (disch:=omega) only[gT,L,t,Ch,C8]<;>first|with_reducible rfl|omega)|omega)
   |(with_reducible apply As;· first|with_reducible rfl|(simp (disch:=omega) only[gF,L,t,Ch,C8]<;>omega))
  try simp (disch:=omega) only[L,t,Ch,C8]
  all_goals rfl
 |x::rs,i,nn+1,hd,hn,hi=>by
  obtain⟨q1,q2,q3⟩:=D1 hd;simp only[Ik] at hn;obtain⟨c0,c1,c2⟩:=mea q2;have c2':(Cm m.ents).getD (i*3+1+1) .top=.lst false 2 x.sts.length (D0 x.sts):=c2;have hx:=h4 x (List.mem_of_getElem? q2);have nt:Int.toNat (i:Int)=i:=Kz _;have w:wrap .i64 ((i:Int)+1)=((i+1:Nat):Int):=by rw[Ap (by omega) (by omega)];omega
  have et:m.ents.take (i+1)=m.ents.take i++[x]:=by rw[List.take_add_one,q2];rfl
  have cp:=Apv (fu:=fu) (d:=d) (x:=x) (by omega) (by omega)
  simp only[Me.cells] at cp;have lt:(m.ents.take i).length=i:=by rw[List.length_take];omega
  have L:(Cm (m.ents.take i)).length=i*3:=by rw[Og,lt]
  have t:List.take (i*3) (Cm (m.ents.take i))=Cm (m.ents.take i):=L6 (by omega)
  have ea:=AF (m.ents.take i) x;rw[←et] at ea;have ih:=Aju (Ak:=Ak) (Al:=Al) (Bd:=Bd) (Ff:=Ff) (a1:=a1) (a2:=a2) (Cp:=Cp) (C3:=C3) (C4:=C4) (Cy:=Cy) (Fh:=Fh) (Fi:=Fi) (s:=s) h3 h4 rs (i+1) nn q3 (by omega) (by omega)
  rw[←ih,Rp];generalize Cm (m.ents.take i)=E1 at *
  generalize Cm (m.ents.take (i+1))=E2 at *
  try unfold Aa
  repeat first
   |((with_reducible first|apply Av|apply Ao|apply At|apply Bo|apply Bg|apply Bc|apply Am|apply Au|apply Aw);· first|with_reducible rfl|(simp (disch:=omega) only[gT,nt,c0,c1,c2',cp,L,t,ea,w]<;>first|with_reducible rfl|omega)|omega)
   |(with_reducible apply As;· first|with_reducible rfl|(simp (disch:=omega) only[gF,nt,c0,c1,c2',cp,L,t,ea,w]<;>omega))
  try simp (disch:=omega) only[nt,c0,c1,c2',cp,L,t,ea,w]
  all_goals rfl
theorem Auc (seed h leaf w:Int):Ad C0 prog fu (d+1) 36 [.sc (.int .u64 seed),.sc (.int .i64 h),.sc (.int .i64 leaf),.sc (.int .u64 w)] =
  some ⟨[.agg [.sc (.int .i64 (tkL h leaf)),.lst false 1 (tkC seed h leaf w).length (Ah .u64 (tkC seed h leaf w)),.lst false 1 (tkP seed h leaf).length (Ah .u64 (tkP seed h leaf))],.sc (.int .i64 (tkE h leaf))],[]⟩:=by kernel_rfl
theorem Awm (seed h leaf w:Int):(Ak3 seed h leaf w=none∧tkE h leaf=9)∨(Ak3 seed h leaf w=some ⟨tkL h leaf,tkC seed h leaf w,tkP seed h leaf⟩∧tkE h leaf=0):=by
 unfold Ak3 tkE tkL tkC tkP SV;cases Ex h
 ·cases Qq leaf h
  ·exact .inr ⟨rfl,rfl⟩
  ·exact .inl ⟨rfl,rfl⟩
 ·exact .inl ⟨rfl,rfl⟩
theorem Adf {p:Option Int}:∀{l:List Me},(∀x∈l,El x=0)->∀x∈l,x.ans.length<=4∧x.sts.length<=4:=fun h x hx=>⟨(Rq (h x hx)).1,(Rq (h x hx)).2.1⟩
theorem Aef (Ca:20000<=fu)(hw:m.wf)(seed h:Int):Ad C0 prog fu (d+11) P7 [.agg m.cells,.sc (.int .u64 seed),.sc (.int .i64 h)]=some ⟨[.agg (V1 m seed h).1.cells,.sc (.int .i64 (V1 m seed h).2)],[]⟩:=by
 refine (NS fu (d+10) m.ver m.iss m.nxt m.ents.length (Cm m.ents) m.sig.leaf m.sig.chains.length (Ah .u64 m.sig.chains) m.sig.path.length (Ah .u64 m.sig.path) seed h).trans ?_;have bq:=Ab5 (fu:=fu) (d:=d) Ca hw;simp only[Md.cells] at bq;unfold FV at bq;unfold V1;by_cases h0:Cb m=0
 ·rw[C5 h0] at bq;rw[C5 h0];have hv:=Ms h0;have e00:((0:Int) != 0)=false:=rfl;have e90:((9:Int) != 0)=true:=rfl;have w:wrap .i64 (m.ver-1)=m.ver-1:=Ap (by omega) (by omega)
  have tk:=Auc (fu:=fu) (d:=d+9) seed h (m.ver-1) (CG m);have La:=Ay .u64 (tkC seed h (m.ver-1) (CG m));have Lb:=Ay .u64 (tkP seed h (m.ver-1));rcases Awm seed h (m.ver-1) (CG m) with⟨hs,he⟩|⟨hs,he⟩
  ·rw[hs];rw[he] at tk
   try unfold Aa
   repeat first
    |((with_reducible first|apply Av|apply Ao|apply At|apply Bo|apply Bg|apply Bc|apply Am|apply Au|apply Aw);· first|with_reducible rfl|(simp (disch:=omega) only[gT,bq,e00,e90,w,tk]<;>first|with_reducible rfl|omega)|omega)
    |(with_reducible apply As;· first|with_reducible rfl|(simp (disch:=omega) only[gF,bq,e00,e90,w,tk]<;>omega))
   try simp (disch:=omega) only[bq,e00,e90,w,tk]
   all_goals rfl
  ·rw[hs];rw[he] at tk;have sl:=Aju (fu:=fu) (d:=d+8) (m:=m) (Ak:=m.ver) (Al:=m.iss) (Bd:=m.nxt) (Ff:=m.sig.leaf) (a1:=seed) (a2:=h) (Cp:=m.ents.length) (C3:=m.sig.chains.length) (C4:=m.sig.path.length) (Cy:=Cm m.ents) (Fh:=Ah .u64 m.sig.chains) (Fi:=Ah .u64 m.sig.path) (s:=⟨tkL h (m.ver-1),tkC seed h (m.ver-1) (CG m),tkP seed h (m.ver-1)⟩) (by omega) (Adf (p:=none) (Oz hv.2.2.2.2.2.2)) m.ents 0 fu rfl (by omega) (by omega)
   have ev:Cm (m.ents.take 0)=[]:=rfl;have z0:((0:Nat):Int)=0:=rfl;rw[ev,z0] at sl;simp only;rw[←sl]
   try unfold Aa
   repeat first
    |((with_reducible first|apply Av|apply Ao|apply At|apply Bo|apply Bg|apply Bc|apply Am|apply Au|apply Aw);· first|with_reducible rfl|(simp (disch:=omega) only[gT,bq,e00,e90,w,tk]<;>first|with_reducible rfl|omega)|omega)
    |(with_reducible apply As;· first|with_reducible rfl|(simp (disch:=omega) only[gF,bq,e00,e90,w,tk]<;>omega))
   try simp (disch:=omega) only[bq,e00,e90,w,tk]
   all_goals rfl
 ·have Gg:(Cb m != 0)=true:=by simp[h0]
  rw[Bn h0] at bq;rw[Bn h0]
  try unfold Aa
  repeat first
   |((with_reducible first|apply Av|apply Ao|apply At|apply Bo|apply Bg|apply Bc|apply Am|apply Au|apply Aw);· first|with_reducible rfl|(simp (disch:=omega) only[gT,bq,Gg]<;>first|with_reducible rfl|omega)|omega)
   |(with_reducible apply As;· first|with_reducible rfl|(simp (disch:=omega) only[gF,bq,Gg]<;>omega))
  try simp (disch:=omega) only[bq,Gg]
  all_goals rfl
end
end
section
open Go.Proofs.Tryz (prog)
open Go.IntKind (wrap)
set_option maxRecDepth 100000
abbrev Lh:FuncId:=73
noncomputable def Fp (fu:Nat)(call:Af)(Ak:Int)(Cd:Nat)(Al:List PV)(Bp:Nat)(Bd:List PV)(Cg:Int)(Hs:Nat)(Cf:List PV)(Hr:Nat)(Cn:List PV)(nn:Nat)(y0 y1:Int)(y2:Nat)(y3:List PV)(y4:Nat)(y5:List PV)(y6:Int)(y7:Nat)(y8:List PV)(y9:Nat)(y10:List PV):Option A5:=Dh CB prog fu call 73 Tryz.f73 (B7 Tryz.f73) [.agg [.sc (.int .u64 Ak),.lst false 3 Cd Al,.lst false 2 Bp Bd],.agg [.sc (.int .u64 Cg),.lst false 3 Hs Cf,.lst false 2 Hr Cn]] [.r,.r,.l,.r,.l] nn ⟨lk [(2,(.ptr 2 0)),(3,(.ptr 3 0)),(5,(.sc (.int .i64 y0)))],Bu [(2,(.st [(.sc (.int .u64 y1)),(.lst false 3 y2 y3),(.lst false 2 y4 y5)])),(3,(.st [(.sc (.int .u64 y6)),(.lst false 3 y7 y8),(.lst false 2 y9 y10)]))]⟩
noncomputable def Fo (fu:Nat)(call:Af)(Ak:Int)(Cd:Nat)(Al:List PV)(Bp:Nat)(Bd:List PV)(Cg:Int)(Hs:Nat)(Cf:List PV)(Hr:Nat)(Cn:List PV)(nn:Nat)(y0 y1:Int)(y2:Nat)(y3:List PV)(y4:Nat)(y5:List PV)(y6:Int)(y7:Nat)(y8:List PV)(y9:Nat)(y10:List PV):Option A5:=Dh CB prog fu call 73 Tryz.f73 (B7 Tryz.f73) [.agg [.sc (.int .u64 Ak),.lst false 3 Cd Al,.lst false 2 Bp Bd],.agg [.sc (.int .u64 Cg),.lst false 3 Hs Cf,.lst false 2 Hr Cn]] [.r,.r,.r,.l,.r,.l] nn ⟨lk [(2,(.ptr 2 0)),(3,(.ptr 3 0)),(6,(.sc (.int .i64 y0)))],Bu [(2,(.st [(.sc (.int .u64 y1)),(.lst false 3 y2 y3),(.lst false 2 y4 y5)])),(3,(.st [(.sc (.int .u64 y6)),(.lst false 3 y7 y8),(.lst false 2 y9 y10)]))]⟩
theorem Jo (fu:Nat)(call:Af)(Ak:Int)(Cd:Nat)(Al:List PV)(Bp:Nat)(Bd:List PV)(Cg:Int)(Hs:Nat)(Cf:List PV)(Hr:Nat)(Cn:List PV)(nn:Nat)(y0 y1:Int)(y2:Nat)(y3:List PV)(y4:Nat)(y5:List PV)(y6:Int)(y7:Nat)(y8:List PV)(y9:Nat)(y10:List PV):Fp fu call Ak Cd Al Bp Bd Cg Hs Cf Hr Cn (nn+1) y0 y1 y2 y3 y4 y5 y6 y7 y8 y9 y10=(Bk (decide (y0<(↑y2:Int))) (Ar (decide (0<=y0)&&decide (y0<(↑y2:Int)))<|Iv (List.getD y3 (Int.toNat y0*3) .top) fun x1=>Ae .i64 (List.getD y3 (Int.toNat y0*3+1) .top) fun x2=>Ae .u64 (List.getD y3 (Int.toNat y0*3+1+1) .top) fun x3=>Ar (decide (0<=y0)&&decide (y0<(↑y7:Int)))<|Iv (List.getD y8 (Int.toNat y0*3) .top) fun x4=>Ae .i64 (List.getD y8 (Int.toNat y0*3+1) .top) fun x5=>Ae .u64 (List.getD y8 (Int.toNat y0*3+1+1) .top) fun x6=>Bk (!(x1==x4&&(x2==x5&&(x3==x6&&true)))) (some (A5.mk [.sc (.bool false)] [])) (Aa (wrap .i64 (y0+1)) fun x7=>Fp fu call Ak Cd Al Bp Bd Cg Hs Cf Hr Cn (nn) x7 (y1) (y2) (y3) (y4) (y5) (y6) (y7) (y8) (y9) (y10))) (Fo fu call Ak Cd Al Bp Bd Cg Hs Cf Hr Cn (fu) 0 (y1) (y2) (y3) (y4) (y5) (y6) (y7) (y8) (y9) (y10))):=by kernel_rfl
theorem Jn (fu:Nat)(call:Af)(Ak:Int)(Cd:Nat)(Al:List PV)(Bp:Nat)(Bd:List PV)(Cg:Int)(Hs:Nat)(Cf:List PV)(Hr:Nat)(Cn:List PV)(nn:Nat)(y0 y1:Int)(y2:Nat)(y3:List PV)(y4:Nat)(y5:List PV)(y6:Int)(y7:Nat)(y8:List PV)(y9:Nat)(y10:List PV):Fo fu call Ak Cd Al Bp Bd Cg Hs Cf Hr Cn (nn+1) y0 y1 y2 y3 y4 y5 y6 y7 y8 y9 y10=(Bk (decide (y0<(↑y4:Int))) (Ar (decide (0<=y0)&&decide (y0<(↑y4:Int)))<|Ae .i64 (List.getD y5 (Int.toNat y0*2) .top) fun x8=>Ae .i64 (List.getD y5 (Int.toNat y0*2+1) .top) fun x9=>Ar (decide (0<=y0)&&decide (y0<(↑y9:Int)))<|Ae .i64 (List.getD y10 (Int.toNat y0*2) .top) fun C7=>Ae .i64 (List.getD y10 (Int.toNat y0*2+1) .top) fun Dm=>Bk (!(x8==C7&&(x9==Dm&&true))) (some (A5.mk [.sc (.bool false)] [])) (Aa (wrap .i64 (y0+1)) fun Eh=>Fo fu call Ak Cd Al Bp Bd Cg Hs Cf Hr Cn (nn) Eh (y1) (y2) (y3) (y4) (y5) (y6) (y7) (y8) (y9) (y10))) (some (A5.mk [.sc (.bool true)] []))):=by kernel_rfl
theorem Ua (fu d:Nat)(Ak:Int)(Cd:Nat)(Al:List PV)(Bp:Nat)(Bd:List PV)(Cg:Int)(Hs:Nat)(Cf:List PV)(Hr:Nat)(Cn:List PV):Ad C0 prog fu (d+1) Lh [.agg [.sc (.int .u64 Ak),.lst false 3 Cd Al,.lst false 2 Bp Bd],.agg [.sc (.int .u64 Cg),.lst false 3 Hs Cf,.lst false 2 Hr Cn]]=(fun (call:Af)=>Bk (Ak != Cg) (some (A5.mk [.sc (.bool false)] [])) (Bk ((↑Cd:Int) != (↑Hs:Int)) (some (A5.mk [.sc (.bool false)] [])) (Bk ((↑Bp:Int) != (↑Hr:Int)) (some (A5.mk [.sc (.bool false)] [])) (Fp fu call Ak Cd Al Bp Bd Cg Hs Cf Hr Cn (fu) 0 (Ak) (Cd) (Al) (Bp) (Bd) (Cg) (Hs) (Cf) (Hr) (Cn))))) (Ad C0 prog fu d):=by kernel_rfl
abbrev Kc:FuncId:=38
noncomputable def Es (fu:Nat)(call:Af)(Be:Nat)(a0:List PV)(Lx:Nat)(a1:List PV)(nn y0:Nat)(y1:List PV)(y2:Nat)(y3:List PV)(y4:Int):Option A5:=Dh CB prog fu call 38 Tryz.f38 (B7 Tryz.f38) [.lst false 3 Be a0,.lst false 3 Lx a1] [.r,.r,.l,.r,.l] nn ⟨lk [(0,(.lst false 3 y0 y1)),(1,(.lst false 3 y2 y3)),(5,(.sc (.int .i64 y4)))],Bu []⟩
theorem Ip (fu:Nat)(call:Af)(Be:Nat)(a0:List PV)(Lx:Nat)(a1:List PV)(nn y0:Nat)(y1:List PV)(y2:Nat)(y3:List PV)(y4:Int):Es fu call Be a0 Lx a1 (nn+1) y0 y1 y2 y3 y4=(Bk (decide (y4<(↑y0:Int))) (Ar (decide (0<=y4)&&decide (y4<(↑y0:Int)))<|Ae .u64 (List.getD y1 (Int.toNat y4*3) .top) fun x1=>Em 3 (List.getD y1 (Int.toNat y4*3+1) .top) fun x2 x3 x4=>Em 2 (List.getD y1 (Int.toNat y4*3+1+1) .top) fun x5 x6 x7=>Ar (decide (0<=y4)&&decide (y4<(↑y2:Int)))<|Ae .u64 (List.getD y3 (Int.toNat y4*3) .top) fun x8=>Em 3 (List.getD y3 (Int.toNat y4*3+1) .top) fun x9 C7 Dm=>Em 2 (List.getD y3 (Int.toNat y4*3+1+1) .top) fun Eh E6 D8=>Aj (call 73 [.agg [.sc (.int .u64 x1),.lst false 3 x3 x4,.lst false 2 x6 x7],.agg [.sc (.int .u64 x8),.lst false 3 C7 Dm,.lst false 2 E6 D8]]) fun Ez Fu=>Ac Fu<|Ab Ez fun Gt G7=>Bv Gt fun Gj=>Ac G7<|Bk (!Gj) (some (A5.mk [.sc (.bool false)] [])) (Aa (wrap .i64 (y4+1)) fun Gx=>Es fu call Be a0 Lx a1 (nn) (y0) (y1) (y2) (y3) Gx)) (some (A5.mk [.sc (.bool true)] []))):=by kernel_rfl
theorem Sm (fu d Be:Nat)(a0:List PV)(Lx:Nat)(a1:List PV):Ad C0 prog fu (d+1) Kc [.lst false 3 Be a0,.lst false 3 Lx a1]=(fun (call:Af)=>Bk ((↑Be:Int) != (↑Lx:Int)) (some (A5.mk [.sc (.bool false)] [])) (Es fu call Be a0 Lx a1 (fu) (Be) (a0) (Lx) (a1) 0)) (Ad C0 prog fu d):=by kernel_rfl
abbrev Mh:FuncId:=18
theorem Va (fu d:Nat)(Ak Al Bd:Int)(Cp:Nat)(Cy:List PV)(Ff:Int)(C3:Nat)(Fh:List PV)(C4:Nat)(Fi:List PV)(Cg Cf Cn:Int)(Aw3:Nat)(Aqm:List PV)(Asm:Int)(Ays:Nat)(As0:List PV)(Aw2:Nat)(Ar4:List PV):Ad C0 prog fu (d+1) Mh [.agg [.sc (.int .i64 Ak),.sc (.int .i64 Al),.sc (.int .i64 Bd),.lst false 3 Cp Cy,.sc (.int .i64 Ff),.lst false 1 C3 Fh,.lst false 1 C4 Fi],.agg [.sc (.int .i64 Cg),.sc (.int .i64 Cf),.sc (.int .i64 Cn),.lst false 3 Aw3 Aqm,.sc (.int .i64 Asm),.lst false 1 Ays As0,.lst false 1 Aw2 Ar4]]=(fun (call:Af)=>Bk (Ak==Cg) (Bk (Al==Cf) (Bk (Bd==Cn) (Aj (call 38 [.lst false 3 Cp Cy,.lst false 3 Aw3 Aqm]) fun x1 x2=>Ac x2<|Ab x1 fun x3 x4=>Bv x3 fun x5=>Ac x4<|Bk x5 (Aj (call 39 [.agg [.sc (.int .i64 Ff),.lst false 1 C3 Fh,.lst false 1 C4 Fi],.agg [.sc (.int .i64 Asm),.lst false 1 Ays As0,.lst false 1 Aw2 Ar4]]) fun x6 x7=>Ac x7<|Ab x6 fun x8 x9=>Bv x8 fun C7=>Ac x9<|some (A5.mk [.sc (.bool C7)] [])) (some (A5.mk [.sc (.bool false)] []))) (some (A5.mk [.sc (.bool false)] []))) (some (A5.mk [.sc (.bool false)] []))) (some (A5.mk [.sc (.bool false)] []))) (Ad C0 prog fu d):=by kernel_rfl
end
section
open Go.Proofs.Tryz (prog)
open Go.IntKind (wrap)
set_option maxRecDepth 1000000
def TZ (s:RS):List PV:=[.lst false 3 s.1.length (Bi s.1),.sc (.bool s.2)]
theorem Anf (x:It)(r:List It):Bi (x::r)=.sc (.int .i64 x.k) :: .sc (.int .u64 x.n) :: .sc (.string x.s)::Bi r:=rfl
section
variable {fu d:Nat}
theorem HU (k:Int)(s:RS):Ad C0 prog fu (d+1) Ni [.pbox (TZ s),.sc (.int .i64 k)]=some ⟨[.agg (Bj k s).1.cells],[TZ (Bj k s).2]⟩:=by
 refine (Wr fu d s.1.length (Bi s.1) s.2 k).trans ?_;obtain⟨l,b⟩:=s;cases b
 ·cases l with
  |nil=>rfl
  |cons x r=>
   unfold Bj;rw[Bn (by simp)]
   simp only[Anf,Ik];have g0:List.getD (PV.sc (.int .i64 x.k) :: .sc (.int .u64 x.n) :: .sc (.string x.s)::Bi r) 0 .top=.sc (.int .i64 x.k):=rfl;have g1:List.getD (PV.sc (.int .i64 x.k) :: .sc (.int .u64 x.n) :: .sc (.string x.s)::Bi r) 1 .top=.sc (.int .u64 x.n):=rfl;have g2:List.getD (PV.sc (.int .i64 x.k) :: .sc (.int .u64 x.n) :: .sc (.string x.s)::Bi r) 2 .top=.sc (.string x.s):=rfl;have g3:List.drop 3 (PV.sc (.int .i64 x.k) :: .sc (.int .u64 x.n) :: .sc (.string x.s)::Bi r)=Bi r:=rfl;have L:=H7 r;have t:List.take (r.length*3) (Bi r)=Bi r:=L6 (by omega)
   have z:(((r.length+1:Nat):Int)==0)=false:=by simp;omega
   have e1:r.length+1-1=r.length:=rfl;by_cases hk:x.k=k
   ·have hn:(x.k != k)=false:=by simp[hk]
    rw[C5 hk]
    try unfold Aa
    repeat first
     |((with_reducible first|apply Av|apply Ao|apply At|apply A7|apply B4|apply Bg|apply Bc|apply Am|apply Au|apply Aw);· first|with_reducible rfl|(simp (disch:=omega) only[gT,z,g0,g1,g2,g3,hn,e1,t]<;>first|with_reducible rfl|omega)|omega)
     |(with_reducible apply As;· first|with_reducible rfl|(simp (disch:=omega) only[gF,z,g0,g1,g2,g3,hn,e1,t]<;>omega))
    try simp (disch:=omega) only[z,g0,g1,g2,g3,hn,e1,t]
    all_goals rfl
   ·have hn:(x.k != k)=true:=by simp[hk]
    rw[Bn hk]
    try unfold Aa
    repeat first
     |((with_reducible first|apply Av|apply Ao|apply At|apply A7|apply B4|apply Bg|apply Bc|apply Am|apply Au|apply Aw);· first|with_reducible rfl|(simp (disch:=omega) only[gT,z,g0,g1,g2,g3,hn]<;>first|with_reducible rfl|omega)|omega)
     |(with_reducible apply As;· first|with_reducible rfl|(simp (disch:=omega) only[gF,z,g0,g1,g2,g3,hn]<;>omega))
    try simp (disch:=omega) only[z,g0,g1,g2,g3,hn]
    all_goals rfl
 ·rfl
theorem AE (s:RS):Ad C0 prog fu (d+2) Lj [.pbox (TZ s)]=some ⟨[.sc (.int .u64 (Bj 1 s).1.n)],[TZ (Bj 1 s).2]⟩:=by
 refine (Ub fu (d+1) s.1.length (Bi s.1) s.2).trans ?_;have t:=HU (fu:=fu) (d:=d) 1 s;simp only[TZ,It.cells] at t ⊢
 try unfold Aa
 repeat first
  |((with_reducible first|apply Av|apply Ao|apply At|apply A7|apply B4|apply Bg|apply Bc|apply Am|apply Au|apply Aw);· first|with_reducible rfl|(simp (disch:=omega) only[gT,t]<;>first|with_reducible rfl|omega)|omega)
  |(with_reducible apply As;· first|with_reducible rfl|(simp (disch:=omega) only[gF,t]<;>omega))
 try simp (disch:=omega) only[t]
theorem O9 (s:RS):Ad C0 prog fu (d+2) Mz [.pbox (TZ s)]=some ⟨[.sc (.int .u64 (Bj 5 s).1.n)],[TZ (Bj 5 s).2]⟩:=by
 refine (Wp fu (d+1) s.1.length (Bi s.1) s.2).trans ?_;have t:=HU (fu:=fu) (d:=d) 5 s;simp only[TZ,It.cells] at t ⊢
 try unfold Aa
 repeat first
  |((with_reducible first|apply Av|apply Ao|apply At|apply A7|apply B4|apply Bg|apply Bc|apply Am|apply Au|apply Aw);· first|with_reducible rfl|(simp (disch:=omega) only[gT,t]<;>first|with_reducible rfl|omega)|omega)
  |(with_reducible apply As;· first|with_reducible rfl|(simp (disch:=omega) only[gF,t]<;>omega))
 try simp (disch:=omega) only[t]
def NY (f:Nat)(s:RS):Prop:=s.1.length+2<=f∨(s.2=true∧1<=f)
theorem QM {n:Int}(h:Uo n)(h1:n>0):wrap .u64 (n-1)=n-1∧Uo (n-1):=by
 unfold Uo at *
 exact⟨D7 (by omega) (by omega),by omega⟩
theorem Ak1 (a:List An)(x:An):Dg a++[.sc (.string x.name),.sc (.int .i64 x.key.h),.sc (.int .u64 x.key.root)]=Dg (a++[x]):=by
 unfold Dg;rw[List.flatMap_append,List.flatMap_cons,List.flatMap_nil,List.append_nil];rfl
theorem Amt (a:List Sa)(x:Sa):D0 a++[.sc (.int .i64 x.kd),.sc (.int .i64 x.at_)]=D0 (a++[x]):=by
 unfold D0;rw[List.flatMap_append,List.flatMap_cons,List.flatMap_nil,List.append_nil];rfl
theorem Ayb {Ai:Nat}{Ak:List PV}{Al:Bool}{mo:Int}{A:List An}(hA:A.length<=3000):∀(f nn:Nat)(n:Int)(s:RS)(B:List Sa),NY f s->f<nn->Uo n->FB s.1->B.length+f<=3000 ->
  C1 fu (Ad C0 prog fu (d+2)) Ai Ak Al nn n s.1.length (Bi s.1) s.2 0 0 0 [] [] mo A.length B.length (Dg A) (D0 B) =
   some ⟨[.agg (Me.mk mo A (B++(P0 f n s).1)).cells],[TZ (P0 f n s).2]⟩
 |0,_,n,s,_,h,_,_,_,_=>by unfold NY at h;omega
 |f+1,0,_,_,_,_,h,_,_,_=>by omega
 |f+1,nn+1,n,s,B,hr,hn,hu,ho,hB=>by
  have LA:=Q7 A;have LB:=Z3 B;have tA:List.take (A.length*3) (Dg A)=Dg A:=L6 (by omega)
  have tB:List.take (B.length*2) (D0 B)=D0 B:=L6 (by omega)
  have ex:¬(n>0∧s.2=false)->(Me.mk mo A (B++(P0 (f+1) n s).1))=Me.mk mo A B∧(P0 (f+1) n s).2=s:=fun h=>by
   unfold P0;rw[Bn h];exact⟨by simp,rfl⟩
  obtain⟨l,b⟩:=s;rw[Ol];by_cases h0:n>0
  rotate_left
  ·obtain⟨e1,e2⟩:=ex (fun h=>h0 h.1)
   rw[e1,e2];simp only[TZ,Me.cells]
   try unfold Aa
   repeat first
    |((with_reducible first|apply Av|apply Ao|apply At|apply A7|apply B4|apply Bg|apply Bc|apply Am|apply Au|apply Aw);· first|with_reducible rfl|(simp (disch:=omega) only[gT,LA,LB,tA,tB,Ch,C8]<;>first|with_reducible rfl|omega)|omega)
    |(with_reducible apply As;· first|with_reducible rfl|(simp (disch:=omega) only[gF,LA,LB,tA,tB,Ch,C8]<;>omega))
   try simp (disch:=omega) only[LA,LB,tA,tB,Ch,C8]
   all_goals rfl
  cases b
  rotate_left
  ·obtain⟨e1,e2⟩:=ex (fun h=>by cases h.2)
   rw[e1,e2];simp only[TZ,Me.cells]
   try unfold Aa
   repeat first
    |((with_reducible first|apply Av|apply Ao|apply At|apply A7|apply B4|apply Bg|apply Bc|apply Am|apply Au|apply Aw);· first|with_reducible rfl|(simp (disch:=omega) only[gT,LA,LB,tA,tB,Ch,C8,Dz,My]<;>first|with_reducible rfl|omega)|omega)
    |(with_reducible apply As;· first|with_reducible rfl|(simp (disch:=omega) only[gF,LA,LB,tA,tB,Ch,C8,Dz,My]<;>omega))
   try simp (disch:=omega) only[LA,LB,tA,tB,Ch,C8,Dz,My]
   all_goals rfl
  clear ex;obtain⟨wd,ud⟩:=QM hu h0;obtain⟨k2,k3,k4⟩:=An7 (s:=(l,false)) ho
  have ih:=Ayb (Ai:=Ai) (Ak:=Ak) (Al:=Al) (mo:=mo) hA f nn (n-1) (TO (l,false)).2 (B++[(TO (l,false)).1]) (by
   unfold NY at hr ⊢;simp only at hr k4;cases q:(TO (l,false)).2.2
   ·have:=k4 q;simp at hr;omega
   ·simp at hr;right;exact⟨rfl,by omega⟩) (by omega) ud k2 (by rw[Io,List.length_singleton];omega)
  have es:P0 (f+1) n (l,false)=((TO (l,false)).1::(P0 f (n-1) (TO (l,false)).2).1,(P0 f (n-1) (TO (l,false)).2).2):=by
   rw[P0,C5 ⟨h0,rfl⟩]
  have eB:B++(P0 (f+1) n (l,false)).1=(B++[(TO (l,false)).1])++(P0 f (n-1) (TO (l,false)).2).1:=by rw[es];simp
  have e2:(P0 (f+1) n (l,false)).2=(P0 f (n-1) (TO (l,false)).2).2:=by rw[es]
  have lB:(B++[(TO (l,false)).1]).length=B.length+1:=by rw[Io];rfl
  rw[eB,e2];rw[lB] at ih;rw[←ih];clear ih es eB e2;have o1:=O9 (fu:=fu) (d:=d) (l,false);have o2:=AE (fu:=fu) (d:=d) (Bj 5 (l,false)).2;have o3:=AE (fu:=fu) (d:=d) (Bj 1 (Bj 5 (l,false)).2).2;have ea:=Amt B (TO (l,false)).1;simp only[TO] at ea ⊢;simp only[TZ] at o1 o2 o3;generalize D0 (B++[_])=B' at *
  generalize Bj 1 (Bj 1 (Bj 5 (l,false)).2).2=u3 at *
  generalize Bj 1 (Bj 5 (l,false)).2=u2 at *
  generalize Bj 5 (l,false)=u1 at *
  try unfold Aa
  repeat first
   |((with_reducible first|apply Av|apply Ao|apply At|apply A7|apply B4|apply Bg|apply Bc|apply Am|apply Au|apply Aw);· first|with_reducible rfl|(simp (disch:=omega) only[gT,o1,o2,o3,wd,LB,tB,ea,Dz,My]<;>first|with_reducible rfl|omega)|omega)
   |(with_reducible apply As;· first|with_reducible rfl|(simp (disch:=omega) only[gF,o1,o2,o3,wd,LB,tB,ea,Dz,My]<;>omega))
  try simp (disch:=omega) only[o1,o2,o3,wd,LB,tB,ea,Dz,My]
  all_goals rfl
theorem Aw1 (Ca:2000<=fu){Ai:Nat}{Ak:List PV}{Al:Bool}{mo:Int}:∀(f nn:Nat)(n:Int)(s:RS)(A:List An),NY f s->f<nn->Uo n->FB s.1->A.length+f<=3000 ->
  Dr fu (Ad C0 prog fu (d+2)) Ai Ak Al nn n s.1.length (Bi s.1) s.2 0 0 0 [] [] mo A.length 0 (Dg A) [] =
   C1 fu (Ad C0 prog fu (d+2)) Ai Ak Al fu (Bj 5 (Mv f n s).2).1.n (Bj 5 (Mv f n s).2).2.1.length (Bi (Bj 5 (Mv f n s).2).2.1) (Bj 5 (Mv f n s).2).2.2 0 0 0 [] [] mo (A++(Mv f n s).1).length 0 (Dg (A++(Mv f n s).1)) []
 |0,_,n,s,_,h,_,_,_,_=>by unfold NY at h;omega
 |f+1,0,_,_,_,_,h,_,_,_=>by omega
 |f+1,nn+1,n,s,A,hr,hn,hu,ho,hB=>by
  have LA:=Q7 A;have tA:List.take (A.length*3) (Dg A)=Dg A:=L6 (by omega)
  have ex:¬(n>0∧s.2=false)->A++(Mv (f+1) n s).1=A∧(Mv (f+1) n s).2=s:=fun h=>by
   unfold Mv;rw[Bn h];exact⟨by simp,rfl⟩
  obtain⟨l,b⟩:=s;rw[On];by_cases h0:n>0
  rotate_left
  ·obtain⟨e1,e2⟩:=ex (fun h=>h0 h.1)
   rw[e1,e2];have o1:=O9 (fu:=fu) (d:=d) (l,b);simp only[TZ] at o1
   try unfold Aa
   repeat first
    |((with_reducible first|apply Av|apply Ao|apply At|apply A7|apply B4|apply Bg|apply Bc|apply Am|apply Au|apply Aw);· first|with_reducible rfl|(simp (disch:=omega) only[gT,o1]<;>first|with_reducible rfl|omega)|omega)
    |(with_reducible apply As;· first|with_reducible rfl|(simp (disch:=omega) only[gF,o1]<;>omega))
   try simp (disch:=omega) only[o1]
   all_goals rfl
  cases b
  rotate_left
  ·obtain⟨e1,e2⟩:=ex (fun h=>by cases h.2)
   rw[e1,e2];have o1:=O9 (fu:=fu) (d:=d) (l,true);simp only[TZ] at o1
   try unfold Aa
   repeat first
    |((with_reducible first|apply Av|apply Ao|apply At|apply A7|apply B4|apply Bg|apply Bc|apply Am|apply Au|apply Aw);· first|with_reducible rfl|(simp (disch:=omega) only[gT,o1,Dz,My]<;>first|with_reducible rfl|omega)|omega)
    |(with_reducible apply As;· first|with_reducible rfl|(simp (disch:=omega) only[gF,o1,Dz,My]<;>omega))
   try simp (disch:=omega) only[o1,Dz,My]
   all_goals rfl
  clear ex;obtain⟨wd,ud⟩:=QM hu h0;obtain⟨k1,k2,k3,k4⟩:=Aqn (s:=(l,false)) ho
  have ih:=Aw1 Ca (Ai:=Ai) (Ak:=Ak) (Al:=Al) (mo:=mo) f nn (n-1) (OG (l,false)).2 (A++[(OG (l,false)).1]) (by
   unfold NY at hr ⊢;simp only at hr k4;cases q:(OG (l,false)).2.2
   ·have:=k4 q;simp at hr;omega
   ·simp at hr;right;exact⟨rfl,by omega⟩) (by omega) ud k2 (by rw[Io,List.length_singleton];omega)
  have es:Mv (f+1) n (l,false)=((OG (l,false)).1::(Mv f (n-1) (OG (l,false)).2).1,(Mv f (n-1) (OG (l,false)).2).2):=by
   rw[Mv,C5 ⟨h0,rfl⟩]
  have eA:A++(Mv (f+1) n (l,false)).1=(A++[(OG (l,false)).1])++(Mv f (n-1) (OG (l,false)).2).1:=by rw[es];simp
  have e2:(Mv (f+1) n (l,false)).2=(Mv f (n-1) (OG (l,false)).2).2:=by rw[es]
  have lA:(A++[(OG (l,false)).1]).length=A.length+1:=by rw[Io];rfl
  rw[eA,e2];generalize Mv f (n-1) (OG (l,false)).2=qq at *
  rw[←ih,lA];clear ih es eA e2;obtain⟨_,_,a3,a4,a5⟩:=Db (k:=5) (s:=(l,false)) ho;obtain⟨_,b2,b3,b4,b5⟩:=Db (k:=4) a3;obtain⟨_,hs4,c3,c4,c5⟩:=Db (k:=3) b3;have o1:=O9 (fu:=fu) (d:=d) (l,false);have o2:=HU (fu:=fu) (d:=d+1) 4 (Bj 5 (l,false)).2;have o3:=HU (fu:=fu) (d:=d+1) 3 (Bj 4 (Bj 5 (l,false)).2).2;have ea:=Ak1 A (OG (l,false)).1;simp only[OG] at ea ⊢;simp only[TZ,It.cells] at o1 o2 o3;generalize Bj 3 (Bj 4 (Bj 5 (l,false)).2).2=u3 at *
  generalize Bj 4 (Bj 5 (l,false)).2=u2 at *
  generalize Bj 5 (l,false)=u1 at *
  have L4:(Fs u3.1.s).length=u3.1.s.size:=by rw[Tt,Ay,Rl]
  have t4:List.take u3.1.s.size (Fs u3.1.s)=Ah .u8 (Nt u3.1.s):=by rw[Tt,L6 (by rw[Ay,Rl];omega)]
  have dk:=Alt (xs:=Pq) (fu:=fu) (d:=d) (by omega) (Afy u3.1.s)
  rw[Rl] at dk;have e00:((0:Int) != 0)=false:=rfl;have e20:((2:Int) != 0)=true:=rfl;unfold Apm at ea ⊢;cases hk:RD (Nt u3.1.s) with
  |none=>
   rw[hk] at dk;simp only[Ah0,Ky.cells] at dk;simp only[hk,Option.getD_none,Option.isNone_none,Bool.or_true] at ea ⊢;generalize Dg (A++[_])=A' at *
   try unfold Aa
   repeat first
    |((with_reducible first|apply Av|apply Ao|apply At|apply A7|apply B4|apply Bg|apply Bc|apply Am|apply Au|apply Aw);· first|with_reducible rfl|(simp (disch:=omega) only[gT,o1,o2,o3,L4,t4,dk,e20,wd,LA,tA,ea,Dc,Ch,C8,Dz,My]<;>first|with_reducible rfl|omega)|omega)
    |(with_reducible apply As;· first|with_reducible rfl|(simp (disch:=omega) only[gF,o1,o2,o3,L4,t4,dk,e20,wd,LA,tA,ea,Dc,Ch,C8,Dz,My]<;>omega))
   try simp (disch:=omega) only[o1,o2,o3,L4,t4,dk,e20,wd,LA,tA,ea,Dc,Ch,C8,Dz,My]
   all_goals rfl
  |some k=>
   rw[hk] at dk;simp only[Ah0,Ky.cells] at dk;simp only[hk,Option.getD_some,Option.isNone_some,Bool.or_false] at ea ⊢;generalize Dg (A++[_])=A' at *
   try unfold Aa
   repeat first
    |((with_reducible first|apply Av|apply Ao|apply At|apply A7|apply B4|apply Bg|apply Bc|apply Am|apply Au|apply Aw);· first|with_reducible rfl|(simp (disch:=omega) only[gT,o1,o2,o3,L4,t4,dk,e00,wd,LA,tA,ea,Dc,Ch,C8,Dz,My]<;>first|with_reducible rfl|omega)|omega)
    |(with_reducible apply As;· first|with_reducible rfl|(simp (disch:=omega) only[gF,o1,o2,o3,L4,t4,dk,e00,wd,LA,tA,ea,Dc,Ch,C8,Dz,My]<;>omega))
   try simp (disch:=omega) only[o1,o2,o3,L4,t4,dk,e00,wd,LA,tA,ea,Dc,Ch,C8,Dz,My]
   all_goals rfl
theorem Avw (Ca:2000<=fu){s:RS}(ho:FB s.1)(hl:s.1.length<=1000):Ad C0 prog fu (d+3) Jp [.pbox (TZ s)]=some ⟨[.agg (Ns s).1.cells],[TZ (Ns s).2]⟩:=by
 refine (Q3 fu (d+2) s.1.length (Bi s.1) s.2).trans ?_;obtain⟨_,_,a3,a4,a5⟩:=Db (k:=5) ho;obtain⟨_,_,b3,b4,b5⟩:=Db (k:=1) a3;have hA:=Db (k:=5) b3;have hB:=Aap (f:=s.1.length+2) (n:=(CP s).1.n) (s:=(CP s).2) hA.2.2.1;have hC:=Db (k:=5) (s:=(AP s).2) hB.2.2.1;have l1:(CP s).2.1.length<=(Bj 5 s).2.1.length:=Nat.le_trans hA.2.2.2.1 b4;have l2:(AP s).2.1.length<=(CP s).2.1.length:=hB.2.2.2;have l3:(AO s).2.1.length<=(AP s).2.1.length:=hC.2.2.2.1;have m1:(AP s).1.length<=s.1.length+2:=hB.2.1;have r0:=Aw1 (fu:=fu) (d:=d) Ca (Ai:=s.1.length) (Ak:=Bi s.1) (Al:=s.2) (mo:=(Bj 1 (Bj 5 s).2).1.n) (s.1.length+2) fu (CP s).1.n (CP s).2 [] (by unfold NY;left;omega) (by omega) hA.1 hA.2.2.1 (by simp only[Zx];omega)
 have r1:=Ayb (fu:=fu) (d:=d) (Ai:=s.1.length) (Ak:=Bi s.1) (Al:=s.2) (mo:=(Bj 1 (Bj 5 s).2).1.n) (A:=(AP s).1) (by omega) (s.1.length+2) fu (AO s).1.n (AO s).2 [] (by unfold NY;left;omega) (by omega) hC.1 hC.2.2.1 (by simp only[Zx];omega)
 have r2:=r0.trans r1;have o1:=O9 (fu:=fu) (d:=d) s;have o2:=AE (fu:=fu) (d:=d) (Bj 5 s).2;have o3:=O9 (fu:=fu) (d:=d) (Bj 1 (Bj 5 s).2).2;simp only[TZ] at o1 o2 o3;have eR:(some ⟨[.agg (Ns s).1.cells],[TZ (Ns s).2]⟩:Option A5)=some ⟨[.agg (Me.mk (Bj 1 (Bj 5 s).2).1.n (AP s).1 ([]++(P0 (s.1.length+2) (AO s).1.n (AO s).2).1)).cells],[TZ (P0 (s.1.length+2) (AO s).1.n (AO s).2).2]⟩:=rfl;rw[eR,←r2];clear r0 r1 r2 eR
 try unfold Aa
 repeat first
  |((with_reducible first|apply Av|apply Ao|apply At|apply A7|apply B4|apply Bg|apply Bc|apply Am|apply Au|apply Aw);· first|with_reducible rfl|(simp (disch:=omega) only[gT,o1,o2,o3]<;>first|with_reducible rfl|omega)|omega)
  |(with_reducible apply As;· first|with_reducible rfl|(simp (disch:=omega) only[gF,o1,o2,o3]<;>omega))
 try simp (disch:=omega) only[o1,o2,o3]
 all_goals rfl
theorem Awy (Ca:2000<=fu){Be:Nat}{a0:List PV}{v i x:Int}:∀(f nn:Nat)(n:Int)(s:RS)(A:List Me),NY f s->f<nn->Uo n->FB s.1->s.1.length<=1000->A.length+f<=3000 ->
  Hm fu (Ad C0 prog fu (d+3)) Be a0 nn n 0 0 0 0 0 0 0 [] [] [] s.1.length (Bi s.1) s.2 v i x A.length 0 0 0 (Cm A) [] [] =
   some ⟨[.agg (Md.mk v i x (A++(H1 f n s).1) sg0).cells,.sc (.bool (!(H1 f n s).2.2&&(((H1 f n s).2.1.length:Int)==0)))],[]⟩
 |0,_,n,s,_,h,_,_,_,_,_=>by unfold NY at h;omega
 |f+1,0,_,_,_,_,h,_,_,_,_=>by omega
 |f+1,nn+1,n,s,A,hr,hn,hu,ho,hl,hB=>by
  have LA:=Og A;have tA:List.take (A.length*3) (Cm A)=Cm A:=L6 (by omega)
  have ex:¬(n>0∧s.2=false)->A++(H1 (f+1) n s).1=A∧(H1 (f+1) n s).2=s:=fun h=>by
   unfold H1;rw[Bn h];exact⟨by simp,rfl⟩
  obtain⟨l,b⟩:=s;rw[Wn];by_cases h0:n>0
  rotate_left
  ·obtain⟨e1,e2⟩:=ex (fun h=>h0 h.1)
   rw[e1,e2];simp only[Md.cells];cases b
   ·skip
    try unfold Aa
    repeat first
     |((with_reducible first|apply Av|apply Ao|apply At|apply A7|apply B4|apply Bg|apply Bc|apply Am|apply Au|apply Aw);· first|with_reducible rfl|(simp (disch:=omega) only[gT,LA,tA,Ch,C8,Dz,My]<;>first|with_reducible rfl|omega)|omega)
     |(with_reducible apply As;· first|with_reducible rfl|(simp (disch:=omega) only[gF,LA,tA,Ch,C8,Dz,My]<;>omega))
    try simp (disch:=omega) only[LA,tA,Ch,C8,Dz,My]
    all_goals rfl
   ·skip
    try unfold Aa
    repeat first
     |((with_reducible first|apply Av|apply Ao|apply At|apply A7|apply B4|apply Bg|apply Bc|apply Am|apply Au|apply Aw);· first|with_reducible rfl|(simp (disch:=omega) only[gT,LA,tA,Ch,C8,Dz,My]<;>first|with_reducible rfl|omega)|omega)
     |(with_reducible apply As;· first|with_reducible rfl|(simp (disch:=omega) only[gF,LA,tA,Ch,C8,Dz,My]<;>omega))
    try simp (disch:=omega) only[LA,tA,Ch,C8,Dz,My]
    all_goals rfl
  cases b
  rotate_left
  ·obtain⟨e1,e2⟩:=ex (fun h=>by cases h.2)
   rw[e1,e2];simp only[Md.cells]
   try unfold Aa
   repeat first
    |((with_reducible first|apply Av|apply Ao|apply At|apply A7|apply B4|apply Bg|apply Bc|apply Am|apply Au|apply Aw);· first|with_reducible rfl|(simp (disch:=omega) only[gT,LA,tA,Ch,C8,Dz,My]<;>first|with_reducible rfl|omega)|omega)
    |(with_reducible apply As;· first|with_reducible rfl|(simp (disch:=omega) only[gF,LA,tA,Ch,C8,Dz,My]<;>omega))
   try simp (disch:=omega) only[LA,tA,Ch,C8,Dz,My]
   all_goals rfl
  clear ex;obtain⟨wd,ud⟩:=QM hu h0;obtain⟨k1,k2,k3,_⟩:=ZE (s:=(l,false)) ho hl;have k4:=Asg (s:=(l,false)) ho hl
  have ih:=Awy Ca (Be:=Be) (a0:=a0) (v:=v) (i:=i) (x:=x) f nn (n-1) (Ns (l,false)).2 (A++[(Ns (l,false)).1]) (by
   unfold NY at hr ⊢;simp only at hr k4;cases q:(Ns (l,false)).2.2
   ·have:=k4 q;simp at hr;omega
   ·simp at hr;right;exact⟨rfl,by omega⟩) (by omega) ud k2 (by simp only at k3 hl;omega) (by rw[Io,List.length_singleton];omega)
  have es:H1 (f+1) n (l,false)=((Ns (l,false)).1::(H1 f (n-1) (Ns (l,false)).2).1,(H1 f (n-1) (Ns (l,false)).2).2):=by
   rw[H1,C5 ⟨h0,rfl⟩]
  have eA:A++(H1 (f+1) n (l,false)).1=(A++[(Ns (l,false)).1])++(H1 f (n-1) (Ns (l,false)).2).1:=by rw[es];simp
  have e2:(H1 (f+1) n (l,false)).2=(H1 f (n-1) (Ns (l,false)).2).2:=by rw[es]
  have lA:(A++[(Ns (l,false)).1]).length=A.length+1:=by rw[Io];rfl
  rw[eA,e2];rw[←ih,lA];clear ih es eA e2;have o1:=Avw (fu:=fu) (d:=d) Ca (s:=(l,false)) ho hl;have ea:=AF A (Ns (l,false)).1;simp only[TZ,Me.cells] at o1;generalize Ns (l,false)=u at *
  generalize Cm (A++[_])=A' at *
  try unfold Aa
  repeat first
   |((with_reducible first|apply Av|apply Ao|apply At|apply A7|apply B4|apply Bg|apply Bc|apply Am|apply Au|apply Aw);· first|with_reducible rfl|(simp (disch:=omega) only[gT,o1,wd,LA,tA,ea,Dz,My]<;>first|with_reducible rfl|omega)|omega)
   |(with_reducible apply As;· first|with_reducible rfl|(simp (disch:=omega) only[gF,o1,wd,LA,tA,ea,Dz,My]<;>omega))
  try simp (disch:=omega) only[o1,wd,LA,tA,ea,Dz,My]
  all_goals rfl
theorem Aux (Ca:2000<=fu){l:List It}(ho:FB l)(hl:l.length<=1000):Ad C0 prog fu (d+4) Qe [.lst false 3 l.length (Bi l)]=some ⟨[.agg (HK l).1.cells,.sc (.bool (HK l).2)],[]⟩:=by
 refine (AU fu (d+3) l.length (Bi l)).trans ?_;obtain⟨_,_,_,_,_,_,_,_,q1,q2⟩:=Aa2 ho hl;have h0:=Db (k:=5) (s:=(l,false)) ho;have hA:=Db (k:=1) h0.2.2.1;have hB:=Db (k:=1) (s:=(DQ l).2) hA.2.2.1;have hC:=Db (k:=1) (s:=(EE l).2) hB.2.2.1;have hD:=Db (k:=5) (s:=(DS l).2) hC.2.2.1;have r0:=Awy (fu:=fu) (d:=d) Ca (Be:=l.length) (a0:=Bi l) (v:=wrap .i64 (DQ l).1.n) (i:=wrap .i64 (EE l).1.n) (x:=wrap .i64 (DS l).1.n) (l.length+2) fu (Xz l).1.n (Xz l).2 [] (by unfold NY;left;omega) (by omega) hD.1 q1 (by omega) (by simp only[Zx];omega)
 have o1:=O9 (fu:=fu) (d:=d+1) (l,false);have o2:=AE (fu:=fu) (d:=d+1) (Bj 5 (l,false)).2;have o3:=AE (fu:=fu) (d:=d+1) (DQ l).2;have o4:=AE (fu:=fu) (d:=d+1) (EE l).2;have o5:=O9 (fu:=fu) (d:=d+1) (DS l).2;have eA:Bj 1 (Bj 5 (l,false)).2=DQ l:=rfl;have eB:Bj 1 (DQ l).2=EE l:=rfl;have eC:Bj 1 (EE l).2=DS l:=rfl;have eD:Bj 5 (DS l).2=Xz l:=rfl;rw[eA] at o2;rw[eB] at o3;rw[eC] at o4;rw[eD] at o5;simp only[TZ] at o1 o2 o3 o4 o5;have eR:(some ⟨[.agg (HK l).1.cells,.sc (.bool (HK l).2)],[]⟩:Option A5)=some ⟨[.agg (Md.mk (wrap .i64 (DQ l).1.n) (wrap .i64 (EE l).1.n) (wrap .i64 (DS l).1.n) ([]++(H1 (l.length+2) (Xz l).1.n (Xz l).2).1) sg0).cells,.sc (.bool (!(H1 (l.length+2) (Xz l).1.n (Xz l).2).2.2&&(((H1 (l.length+2) (Xz l).1.n (Xz l).2).2.1.length:Int)==0)))],[]⟩:=rfl
 rw[eR,←r0];clear r0 eR
 try unfold Aa
 repeat first
  |((with_reducible first|apply Av|apply Ao|apply At|apply A7|apply B4|apply Bg|apply Bc|apply Am|apply Au|apply Aw);· first|with_reducible rfl|(simp (disch:=omega) only[gT,o1,o2,o3,o4,o5]<;>first|with_reducible rfl|omega)|omega)
  |(with_reducible apply As;· first|with_reducible rfl|(simp (disch:=omega) only[gF,o1,o2,o3,o4,o5]<;>omega))
 try simp (disch:=omega) only[o1,o2,o3,o4,o5]
 all_goals rfl
end
end
section
open Go.IntKind (wrap)
structure Md.ok (m:Md):Prop where
 ent:∀x∈m.ents,Uo x.model∧x.rts
 sg:m.sig.ok
theorem Md.ok.wf {m:Md}(h:m.ok):m.wf:=⟨fun x hx=>(h.ent x hx).1.1⟩
def Ak6 (b:List Int)(used:Nat)(r:Md × Bool):Md × Int:=if r.2=false then (TW,2) else match sgD (b.drop used) with
 |none=>(TW,2)
 |some s=>if Ea { r.1 with sig:=s }=0∧Gn { r.1 with sig:=s }=b then ({ r.1 with sig:=s },0) else (TW,2)
def P2 (P:List It->Md × Bool)(b:List Int)(r:List It × Nat × Int):Md × Int:=if b.length>4096 then (TW,8) else if r.2.2≠0 then (TW,2) else Ak6 b r.2.1 (P r.1)
def K9 (b:List Int):Md × Int:=P2 HK b (Jq 1000 [] 0 b 0 [])
def Iu (l:List It):Prop:=∀x∈l,Uo x.n
theorem Iu.app {a b:List It}(ha:Iu a)(hb:Iu b):Iu (a++b):=fun x hx=>(List.mem_append.1 hx).elim (ha x) (hb x)
theorem Iu.cons {x:It}{l:List It}(h:Uo x.n)(hl:Iu l):Iu (x::l):=fun y hy=>by
 rcases List.mem_cons.1 hy with rfl|hy
 ·exact h
 ·exact hl y hy
theorem Iu.nil:Iu []:=fun x hx=>by cases hx
theorem Iu.flat {α:Type}{f:α->List It}{l:List α}(h:∀x∈l,Iu (f x)):Iu (l.map f).flatten:=fun y hy=>by
 obtain⟨v,hv,hy⟩:=List.mem_flatten.1 hy;obtain⟨x,hx,rfl⟩:=List.mem_map.1 hv;exact h x hx y hy
theorem Aa8 {n:Nat}(h:n<=1000):Uo (n:Int):=⟨by omega,by omega⟩
theorem Rr {n:Int}(h:0<=n)(h1:n<=1099511627776):Uo n:=⟨h,by omega⟩
theorem Avq (a:An):Iu (C9 a):=by
 refine Iu.cons (Rr (by show (0:Int)<=2;omega) (by show (2:Int)<=_;omega)) (Iu.cons (Rr (by show (0:Int)<=0;omega) (by show (0:Int)<=_;omega)) (Iu.cons (Rr (by show (0:Int)<=0;omega) (by show (0:Int)<=_;omega)) Iu.nil))
theorem Aww {s:Sa}(h:1<=s.kd∧s.kd<=4∧0<=s.at_∧s.at_<=1099511627776):Iu (Di s):=by
 refine Iu.cons (Rr (by show (0:Int)<=2;omega) (by show (2:Int)<=_;omega)) (Iu.cons (Rr (by show (0:Int)<=s.kd;omega) (by show s.kd<=_;omega)) (Iu.cons (Rr (by show (0:Int)<=s.at_;omega) (by show s.at_<=_;omega)) Iu.nil))
theorem Aqw {x:Me}(hm:Uo x.model)(h:El x=0):Iu (Ba x):=by
 obtain⟨h1,h2,h3,h4⟩:=Rq h;have e:=JI x [];rw[List.append_nil] at e;rw[e];refine Iu.cons (Rr (by show (0:Int)<=3;omega) (by show (3:Int)<=_;omega)) (Iu.cons hm (Iu.cons (Aa8 (by omega)) (Iu.app (Iu.flat fun a ha=>Avq a) (Iu.cons (Aa8 (by omega)) (Iu.app (Iu.flat fun s hs=>Aww (HF h4 s hs)) Iu.nil)))))
theorem Ale {m:Md}(hm:∀x∈m.ents,Uo x.model)(h:Cb m=0):Iu (Bf m):=by
 obtain⟨h1,h2,h3,h4,h5,h6,h7⟩:=Ms h;rw[DC];exact Iu.cons (Rr (by show (0:Int)<=4;omega) (by show (4:Int)<=_;omega)) (Iu.cons (Rr (by show (0:Int)<=m.ver;omega) (by show m.ver<=_;omega)) (Iu.cons (Rr (by show (0:Int)<=m.iss;omega) (by show m.iss<=_;omega)) (Iu.cons (Rr (by show (0:Int)<=m.nxt;omega) (by show m.nxt<=_;omega)) (Iu.cons (Aa8 (by omega)) (Iu.flat fun x hx=>Aqw (hm x hx) (Oz h7 x hx))))))
theorem Ja {m:Md}(h:Ea m=0):Cb m=0∧Ex m.sig.path.length=false∧Qq m.sig.leaf m.sig.path.length=false∧m.sig.chains.length=18:=by
 unfold Ea at h;by_cases h0:Cb m=0
 ·rw[C5 h0] at h;unfold QP at h;split at h
  ·cases h
  ·split at h
   ·cases h
   ·split at h
    ·cases h
    ·exact⟨h0,by simp_all,by simp_all,by simp_all⟩
 ·rw[Bn h0] at h;exact absurd h h0
theorem Aff {m:Md}(hc:m.ok)(h:Ea m=0){k:Nat}(hk:500<k):Jq k [] 0 (Gn m) 0 []=(Bf m,(Ci (Bf m)).length,0):=by
 have h0:=(Ja h).1;obtain⟨vm,fm,lm⟩:=Yn hc.wf h0;have r:=XY (b:=Gn m) (rest:=CE m.sig) (Bf m) [] 0 0 k [] (vm.goods (by omega) (by simp[Bf]) (by omega)) (fun x hx=>Ale (fun x hx=>(hc.ent x hx).1) h0 x hx) rfl (by omega)
 simpa using r
theorem Aps {m:Md}(hc:m.ok)(h:Ea m=0):Ak6 (Gn m) (Ci (Bf m)).length ({ m with sig:=sg0 },true)=(m,0):=by
 obtain⟨h0,h1,h2,h3⟩:=Ja h;have e:(Gn m).drop (Ci (Bf m)).length=CE m.sig:=by unfold Gn;rw[List.drop_left]
 unfold Ak6;rw[Bn (by simp),e,Aur hc.sg h1 h2 h3]
 simp only;rw[C5 ⟨h,by trivial⟩]
theorem Alp {b:List Int}{used:Nat}{r:Md × Bool}(hr:∀x∈r.1.ents,Uo x.model∧x.rts)(hn:∀m:Md,m.ok->Ea m=0->Gn m≠b):Ak6 b used r=(TW,2):=by
 unfold Ak6;split
 ·rfl
 ·split
  ·rfl
  ·rename_i s hs;rw[Bn];intro ⟨h1,h2⟩;exact hn { r.1 with sig:=s } ⟨hr,(Ap2 hs).1⟩ h1 h2
theorem Asw {x:Me}(h:okM x):Uo x.model∧x.rts:=⟨h.1,fun a ha=>(h.2.1 a ha).1⟩
theorem YU {b:List Int}(hb:Li b):∀(k:Nat)(l:List Hj)(cnt:Int)(at_:Nat)(its:List It),at_<=b.length->(its.length:Int)=cnt->its.length<=512->(Jq k l cnt b at_ its).1.length<=512
 |0,l,cnt,at_,its,h,hi,h5=>by simp[Jq]
 |k+1,l,cnt,at_,its,h,hi,h5=>by
  unfold Jq;by_cases hd:RO l cnt=true
  ·rw[C5 hd];exact h5
  ·rw[Bn hd];by_cases he:(Gm l cnt b at_).e=0
   ·rw[Bn (by simp[he])]
    obtain⟨c1,c2,_,_,p,q⟩:=IL hb h he;exact YU hb k _ _ _ _ p (by rw[c2,Io,List.length_singleton];omega) (by rw[Io,List.length_singleton];omega)
   ·rw[C5 he];simp
structure Rdr (P:List It->Md × Bool):Prop where
 ok:∀l,FB l->l.length<=1000->∀x∈(P l).1.ents,Uo x.model∧x.rts
 hit:∀m:Md,m.ok->Cb m=0->P (Bf m)=({ m with sig:=sg0 },true)
theorem Ape:Rdr HK:=⟨fun l h hl x hx=>Asw ((Aa2 h hl).1 x hx),fun m hm h=>Anw h (fun x hx=>(hm.ent x hx).2)⟩
theorem SQ {P:List It->Md × Bool}(hP:Rdr P){m:Md}(hc:m.ok)(h:Ea m=0)(hl:(Gn m).length<=4096):P2 P (Gn m) (Bf m,(Ci (Bf m)).length,0)=(m,0):=by
 unfold P2;rw[Bn (by omega),Bn (by simp)]
 simp only;rw[hP.hit m hc (Ja h).1];exact Aps hc h
theorem KK {P:List It->Md × Bool}(hP:Rdr P){b:List Int}(hl:b.length<=4096){r:List It × Nat × Int}(hx:FB r.1)(h5:r.1.length<=1000)(hn:∀m:Md,m.ok->Ea m=0->Gn m≠b):P2 P b r=(TW,2):=by
 unfold P2;rw[Bn (by omega)]
 split
 ·rfl
 ·exact Alp (hP.ok _ hx h5) hn
theorem Zg {b:List Int}(hb:Li b)(k:Nat):FB (Jq k [] 0 b 0 []).1∧(Jq k [] 0 b 0 []).1.length<=1000∧(Jq k [] 0 b 0 []).2.1<=b.length:=by
 have h:=Afa hb k [] 0 0 [] (by omega) (by simp)
 exact⟨h.2,Nat.le_trans (YU hb k [] 0 0 [] (by omega) rfl (by simp)) (by omega),h.1⟩
theorem GX {m:Md}(hc:m.ok)(h:Ea m=0)(hl:(Gn m).length<=4096):K9 (Gn m)=(m,0):=by
 unfold K9;rw[Aff hc h (by omega)]
 exact SQ Ape hc h hl
theorem VZ {b:List Int}(hb:Li b)(hl:b.length<=4096)(hn:∀m:Md,m.ok->Ea m=0->Gn m≠b):K9 b=(TW,2):=KK Ape hl (Zg hb 1000).1 (Zg hb 1000).2.1 hn
theorem WJ {b:List Int}(hl:b.length>4096):K9 b=(TW,8):=by
 unfold K9 P2;rw[C5 hl]
theorem Alx {P:List It->Md × Bool}(hP:Rdr P){b:List Int}(hb:Li b){r:List It × Nat × Int}(hx:FB r.1)(h5:r.1.length<=1000)(hc:∀m:Md,m.ok->Ea m=0->Gn m=b->r=(Bf m,(Ci (Bf m)).length,0)):P2 P b r=K9 b:=by
 by_cases hl:b.length>4096
 ·rw[WJ hl];unfold P2;rw[C5 hl]
 by_cases hex:∃m:Md,m.ok∧Ea m=0∧Gn m=b
 ·obtain⟨m,m1,m2,m3⟩:=hex;have e:=hc m m1 m2 m3;subst m3;rw[GX m1 m2 (by omega),e]
  exact SQ hP m1 m2 (by omega)
 ·have hn:∀m:Md,m.ok->Ea m=0->Gn m≠b:=fun m h1 h2 h3=>hex ⟨m,h1,h2,h3⟩
  rw[VZ hb (by omega) hn]
  exact KK hP (by omega) hx h5 hn
theorem Arp {b:List Int}(hb:Li b){k:Nat}(hk:500<k):P2 HK b (Jq k [] 0 b 0 [])=K9 b:=
 Alx Ape hb (Zg hb k).1 (Zg hb k).2.1 (fun m m1 m2 m3=>by subst m3;exact Aff m1 m2 hk)
theorem Aad {b:List Int}(hb:Li b):((K9 b).2=0∧(K9 b).1.ok∧Ea (K9 b).1=0∧Gn (K9 b).1=b∧b.length<=4096)∨(K9 b=(TW,8))∨(K9 b=(TW,2)):=by
 by_cases hl:b.length>4096
 ·exact .inr (.inl (WJ hl))
 by_cases hex:∃m:Md,m.ok∧Ea m=0∧Gn m=b
 ·obtain⟨m,m1,m2,m3⟩:=hex;subst m3;rw[GX m1 m2 (by omega)]
  exact .inl ⟨rfl,m1,m2,rfl,by omega⟩
 ·exact .inr (.inr (VZ hb (by omega) fun m h1 h2 h3=>hex ⟨m,h1,h2,h3⟩))
end
section
open Go.Proofs.Tryz (prog)
open Go.IntKind (wrap)
set_option maxRecDepth 1000000
section
variable {fu d:Nat}
theorem Agw (Ca:20000<=fu){b:List Int}(hb:Li b)(hl:b.length<=1000000):
  Ad C0 prog fu (d+11) Nk [.lst false 1 b.length (Ah .u8 b)]=some ⟨[.agg (P2 HK b (Jq fu [] 0 b 0 [])).1.cells,.sc (.int .i64 (P2 HK b (Jq fu [] 0 b 0 [])).2)],[]⟩:=by
 refine (HE fu (d+10) b.length (Ah .u8 b)).trans ?_;have dec:=Ane (fu:=fu) (d:=d+5) (by omega) hb hl
 obtain⟨hox,hln,hat⟩:=Zg hb fu;generalize Jq fu [] 0 b 0 []=r at dec hat hox hln ⊢;obtain⟨its,used,e⟩:=r;simp only at hat hox hln;unfold Agc at dec;simp only at dec;unfold P2;simp only;by_cases h5:b.length>4096
 ·rw[C5 h5]
  try unfold Aa
  repeat first
   |((with_reducible first|apply Av|apply Ao|apply At|apply A7|apply Bo|apply Bg|apply Bc|apply Am|apply Au|apply Aw);· first|with_reducible rfl|(simp (disch:=omega) only[gT,Dc]<;>first|with_reducible rfl|omega)|omega)
   |(with_reducible apply As;· first|with_reducible rfl|(simp (disch:=omega) only[gF,Dc]<;>omega))
  try simp (disch:=omega) only[Dc]
  all_goals rfl
 rw[Bn h5];by_cases he:e=0
 rotate_left
 ·rw[C5 he];have Rc:(e != 0)=true:=by simp[he]
  try unfold Aa
  repeat first
   |((with_reducible first|apply Av|apply Ao|apply At|apply A7|apply Bo|apply Bg|apply Bc|apply Am|apply Au|apply Aw);· first|with_reducible rfl|(simp (disch:=omega) only[gT,dec,Rc]<;>first|with_reducible rfl|omega)|omega)
   |(with_reducible apply As;· first|with_reducible rfl|(simp (disch:=omega) only[gF,dec,Rc]<;>omega))
  try simp (disch:=omega) only[dec,Rc]
  all_goals rfl
 rw[Bn (by simp[he])]
 subst he;have e00:((0:Int) != 0)=false:=rfl;have e20:((2:Int) != 0)=true:=rfl;have LT:=H7 its;have tT:List.take (its.length*3) (Bi its)=Bi its:=L6 (by omega)
 have bo:=Aux (fu:=fu) (d:=d+6) (by omega) (l:=its) hox hln
 have bk:=(Aa2 hox hln).1;generalize HK its=p at bo bk ⊢;obtain⟨m,q⟩:=p;simp only at bo bk;simp only[Md.cells] at bo;unfold Ak6;simp only;generalize Bi its=T at *
 generalize its.length=nT at *
 cases q
 ·rw[C5 rfl]
  try unfold Aa
  repeat first
   |((with_reducible first|apply Av|apply Ao|apply At|apply A7|apply Bo|apply Bg|apply Bc|apply Am|apply Au|apply Aw);· first|with_reducible rfl|(simp (disch:=omega) only[gT,dec,e00,C8,Ch,LT,tT,bo,Dz,My]<;>first|with_reducible rfl|omega)|omega)
   |(with_reducible apply As;· first|with_reducible rfl|(simp (disch:=omega) only[gF,dec,e00,C8,Ch,LT,tT,bo,Dz,My]<;>omega))
  try simp (disch:=omega) only[dec,e00,C8,Ch,LT,tT,bo,Dz,My]
  all_goals rfl
 rw[Bn (by simp)]
 have ds:=Akr (xs:=Pq) (fu:=fu) (d:=d+8) (by omega) (l:=b.drop used) (fun x hx=>hb x (List.mem_of_mem_drop hx))
 rw[List.length_drop] at ds;have tb:List.take (b.length-used) (List.drop used (Ah .u8 b))=Ah .u8 (b.drop used):=by rw[Km,L6 (by rw[Ay,List.length_drop];omega)]
 have nu:Int.toNat (used:Int)=used:=Kz used;cases hs:sgD (b.drop used) with
 |none=>
  rw[hs] at ds;simp only[Aiv,Sg.owned] at ds
  try unfold Aa
  repeat first
   |((with_reducible first|apply Av|apply Ao|apply At|apply A7|apply Bo|apply Bg|apply Bc|apply Am|apply Au|apply Aw);· first|with_reducible rfl|(simp (disch:=omega) only[gT,dec,e00,e20,C8,Ch,Dc,LT,tT,bo,nu,tb,ds,Dz,My]<;>first|with_reducible rfl|omega)|omega)
   |(with_reducible apply As;· first|with_reducible rfl|(simp (disch:=omega) only[gF,dec,e00,e20,C8,Ch,Dc,LT,tT,bo,nu,tb,ds,Dz,My]<;>omega))
  try simp (disch:=omega) only[dec,e00,e20,C8,Ch,Dc,LT,tT,bo,nu,tb,ds,Dz,My]
  all_goals rfl
 |some s=>
  rw[hs] at ds;simp only[Aiv,Sg.owned] at ds;obtain⟨s1,s2,s3⟩:=Ap2 hs;simp only;have cok:({ m with sig:=s }:Md).ok:=⟨fun x hx=>Asw (bk x hx),s1⟩
  have en:=HI (fu:=fu) (d:=d) (m:={ m with sig:=s }) Ca cok.wf (Nat.le_trans s2 (by omega)) (Nat.lt_of_le_of_lt s2 (by omega))
  have ec:({ m with sig:=s }:Md).cells=[.sc (.int .i64 m.ver),.sc (.int .i64 m.iss),.sc (.int .i64 m.nxt),.lst false 3 m.ents.length (Cm m.ents),.sc (.int .i64 s.leaf),.lst false 1 s.chains.length (Ah .u64 s.chains),.lst false 1 s.path.length (Ah .u64 s.path)]:=rfl;have eB:∀h:Ea { m with sig:=s }=0,Li (Gn { m with sig:=s }):=fun h y hy=>(List.mem_append.1 hy).elim (ZR cok.wf (Ja h).1 y) (Ayi s y)
  have eL:∀h:Ea { m with sig:=s }=0,(Gn { m with sig:=s }).length<=100000:=fun h=>by
   have h1:=KI cok.wf (Ja h).1;have h2:=Kr (h:=s.path.length) (by simpa using (Ja h).2.1)
   have ls:(CE s).length=2+8*s.chains.length+8*s.path.length:=by
    unfold CE;simp only[Ik,Io,D3];omega
   show (Ci (Bf { m with sig:=s })++CE s).length<=_;rw[Io];omega
  have Lc:=Ay .u64 s.chains;have Lp:=Ay .u64 s.path;have tc:=Mt .u64 s.chains;have tp:=Mt .u64 s.path;generalize ({ m with sig:=s }:Md)=c at *
  rw[ec] at en;unfold Ws at en;by_cases hz:Ea c=0
  rotate_left
  ·have hz':(Ea c != 0)=true:=by simp[hz]
   rw[Bn hz] at en;rw[Bn (fun h=>hz h.1)]
   try unfold Aa
   repeat first
    |((with_reducible first|apply Av|apply Ao|apply At|apply A7|apply Bo|apply Bg|apply Bc|apply Am|apply Au|apply Aw);· first|with_reducible rfl|(simp (disch:=omega) only[gT,dec,e00,e20,C8,Ch,Dc,LT,tT,bo,nu,tb,ds,Lc,Lp,tc,tp,en,hz',Dz,My]<;>first|with_reducible rfl|omega)|omega)
    |(with_reducible apply As;· first|with_reducible rfl|(simp (disch:=omega) only[gF,dec,e00,e20,C8,Ch,Dc,LT,tT,bo,nu,tb,ds,Lc,Lp,tc,tp,en,hz',Dz,My]<;>omega))
   try simp (disch:=omega) only[dec,e00,e20,C8,Ch,Dc,LT,tT,bo,nu,tb,ds,Lc,Lp,tc,tp,en,hz',Dz,My]
   all_goals rfl
  rw[C5 hz] at en;have eL:=eL hz;have be:=VI (fu:=fu) (d:=d+9) (eB hz) hb;have LE:=Ay .u8 (Gn c);have tE:=Mt .u8 (Gn c);by_cases hq:Gn c=b
  ·rw[C5 ⟨hz,hq⟩];simp only[hq,decide_true] at be en LE tE;simp only[ec]
   try unfold Aa
   repeat first
    |((with_reducible first|apply Av|apply Ao|apply At|apply A7|apply Bo|apply Bg|apply Bc|apply Am|apply Au|apply Aw);· first|with_reducible rfl|(simp (disch:=omega) only[gT,dec,e00,e20,C8,Ch,Dc,LT,tT,bo,nu,tb,ds,Lc,Lp,tc,tp,en,LE,tE,be,Dz,My]<;>first|with_reducible rfl|omega)|omega)
    |(with_reducible apply As;· first|with_reducible rfl|(simp (disch:=omega) only[gF,dec,e00,e20,C8,Ch,Dc,LT,tT,bo,nu,tb,ds,Lc,Lp,tc,tp,en,LE,tE,be,Dz,My]<;>omega))
   try simp (disch:=omega) only[dec,e00,e20,C8,Ch,Dc,LT,tT,bo,nu,tb,ds,Lc,Lp,tc,tp,en,LE,tE,be,Dz,My]
   all_goals rfl
  ·rw[Bn (fun h=>hq h.2)]
   simp only[hq,decide_false] at be
   try unfold Aa
   repeat first
    |((with_reducible first|apply Av|apply Ao|apply At|apply A7|apply Bo|apply Bg|apply Bc|apply Am|apply Au|apply Aw);· first|with_reducible rfl|(simp (disch:=omega) only[gT,dec,e00,e20,C8,Ch,Dc,LT,tT,bo,nu,tb,ds,Lc,Lp,tc,tp,en,LE,tE,be,Dz,My]<;>first|with_reducible rfl|omega)|omega)
    |(with_reducible apply As;· first|with_reducible rfl|(simp (disch:=omega) only[gF,dec,e00,e20,C8,Ch,Dc,LT,tT,bo,nu,tb,ds,Lc,Lp,tc,tp,en,LE,tE,be,Dz,My]<;>omega))
   try simp (disch:=omega) only[dec,e00,e20,C8,Ch,Dc,LT,tT,bo,nu,tb,ds,Lc,Lp,tc,tp,en,LE,tE,be,Dz,My]
   all_goals rfl
theorem SO (Ca:20000<=fu){b:List Int}(hb:Li b)(hl:b.length<=1000000):
  Ad C0 prog fu (d+11) Nk [.lst false 1 b.length (Ah .u8 b)]=some ⟨[.agg (K9 b).1.cells,.sc (.int .i64 (K9 b).2)],[]⟩:=by
 rw[←Arp hb (k:=fu) (by omega)]
 exact Agw Ca hb hl
def Ah4 (cur:Md)(b:List Int)(k:Ky)(now:Int):Md × Int:=
 if now<0∨1099511627776<now then (TW,9) else if (K9 b).2≠0 then (TW,(K9 b).2) else if (K9 b).1.ver<=cur.ver then (TW,7) else if Aeu (K9 b).1 k≠0 then (TW,Aeu (K9 b).1 k) else if now<(K9 b).1.iss∨(K9 b).1.nxt<now then (TW,19) else ((K9 b).1,0)
theorem Adg (Ca:20000<=fu){b:List Int}(hb:Li b)(hl:b.length<=1000000)(cur:Md)(k:Ky)(now:Int):
  Ad C0 prog fu (d+12) Jv [.agg cur.cells,.lst false 1 b.length (Ah .u8 b),.agg k.cells,.sc (.int .i64 now)]=some ⟨[.agg (Ah4 cur b k now).1.cells,.sc (.int .i64 (Ah4 cur b k now).2)],[]⟩:=by
 refine (GE fu (d+11) cur.ver cur.iss cur.nxt cur.ents.length (Cm cur.ents) cur.sig.leaf cur.sig.chains.length (Ah .u64 cur.sig.chains) cur.sig.path.length (Ah .u64 cur.sig.path) b.length (Ah .u8 b) k.h k.root now).trans ?_;unfold Ah4;by_cases h1:now<0
 ·rw[C5 (.inl h1)]
  try unfold Aa
  repeat first
   |((with_reducible first|apply Av|apply Ao|apply At|apply A7|apply Bo|apply Bg|apply Bc|apply Am|apply Au|apply Aw);· first|with_reducible rfl|(simp (disch:=omega) only[gT,Dz]<;>first|with_reducible rfl|omega)|omega)
   |(with_reducible apply As;· first|with_reducible rfl|(simp (disch:=omega) only[gF,Dz]<;>omega))
  try simp (disch:=omega) only[Dz]
  all_goals rfl
 by_cases h2:1099511627776<now
 ·rw[C5 (.inr h2)]
  try unfold Aa
  repeat first
   |((with_reducible first|apply Av|apply Ao|apply At|apply A7|apply Bo|apply Bg|apply Bc|apply Am|apply Au|apply Aw);· first|with_reducible rfl|(simp (disch:=omega) only[gT,Dz]<;>first|with_reducible rfl|omega)|omega)
   |(with_reducible apply As;· first|with_reducible rfl|(simp (disch:=omega) only[gF,Dz]<;>omega))
  try simp (disch:=omega) only[Dz]
  all_goals rfl
 rw[Bn (by omega)]
 have dec:=SO (fu:=fu) (d:=d) Ca hb hl;have dok:=Aad hb;generalize K9 b=r at dec dok ⊢;obtain⟨m,e⟩:=r;simp only at dec dok ⊢;simp only[Md.cells] at dec;by_cases h3:e=0
 rotate_left
 ·have h3':(e != 0)=true:=by simp[h3]
  rw[C5 h3]
  try unfold Aa
  repeat first
   |((with_reducible first|apply Av|apply Ao|apply At|apply A7|apply Bo|apply Bg|apply Bc|apply Am|apply Au|apply Aw);· first|with_reducible rfl|(simp (disch:=omega) only[gT,dec,h3']<;>first|with_reducible rfl|omega)|omega)
   |(with_reducible apply As;· first|with_reducible rfl|(simp (disch:=omega) only[gF,dec,h3']<;>omega))
  try simp (disch:=omega) only[dec,h3']
  all_goals rfl
 subst h3;have e00:((0:Int) != 0)=false:=rfl
 have mk:m.ok:=by
  rcases dok with h|h|h
  ·exact h.2.1
  ·have:=congrArg Prod.snd h;simp at this
  ·have:=congrArg Prod.snd h;simp at this
 rw[Bn (by simp)]
 by_cases h4:m.ver<=cur.ver
 ·rw[C5 h4]
  try unfold Aa
  repeat first
   |((with_reducible first|apply Av|apply Ao|apply At|apply A7|apply Bo|apply Bg|apply Bc|apply Am|apply Au|apply Aw);· first|with_reducible rfl|(simp (disch:=omega) only[gT,dec,e00]<;>first|with_reducible rfl|omega)|omega)
   |(with_reducible apply As;· first|with_reducible rfl|(simp (disch:=omega) only[gF,dec,e00]<;>omega))
  try simp (disch:=omega) only[dec,e00]
  all_goals rfl
 rw[Bn h4];have vr:=Aio (fu:=fu) (d:=d) (m:=m) Ca mk.wf k;simp only[Md.cells,Ky.cells] at vr;by_cases h5:Aeu m k=0
 rotate_left
 ·have h5':(Aeu m k != 0)=true:=by simp[h5]
  rw[C5 h5]
  try unfold Aa
  repeat first
   |((with_reducible first|apply Av|apply Ao|apply At|apply A7|apply Bo|apply Bg|apply Bc|apply Am|apply Au|apply Aw);· first|with_reducible rfl|(simp (disch:=omega) only[gT,dec,e00,vr,h5']<;>first|with_reducible rfl|omega)|omega)
   |(with_reducible apply As;· first|with_reducible rfl|(simp (disch:=omega) only[gF,dec,e00,vr,h5']<;>omega))
  try simp (disch:=omega) only[dec,e00,vr,h5']
  all_goals rfl
 rw[Bn (by simp[h5])]
 rw[h5] at vr;by_cases h6:now<m.iss
 ·rw[C5 (.inl h6)]
  try unfold Aa
  repeat first
   |((with_reducible first|apply Av|apply Ao|apply At|apply A7|apply Bo|apply Bg|apply Bc|apply Am|apply Au|apply Aw);· first|with_reducible rfl|(simp (disch:=omega) only[gT,dec,e00,vr]<;>first|with_reducible rfl|omega)|omega)
   |(with_reducible apply As;· first|with_reducible rfl|(simp (disch:=omega) only[gF,dec,e00,vr]<;>omega))
  try simp (disch:=omega) only[dec,e00,vr]
  all_goals rfl
 by_cases h7:m.nxt<now
 ·rw[C5 (.inr h7)]
  try unfold Aa
  repeat first
   |((with_reducible first|apply Av|apply Ao|apply At|apply A7|apply Bo|apply Bg|apply Bc|apply Am|apply Au|apply Aw);· first|with_reducible rfl|(simp (disch:=omega) only[gT,dec,e00,vr]<;>first|with_reducible rfl|omega)|omega)
   |(with_reducible apply As;· first|with_reducible rfl|(simp (disch:=omega) only[gF,dec,e00,vr]<;>omega))
  try simp (disch:=omega) only[dec,e00,vr]
  all_goals rfl
 rw[Bn (by omega)]
 simp only[Md.cells]
 try unfold Aa
 repeat first
  |((with_reducible first|apply Av|apply Ao|apply At|apply A7|apply Bo|apply Bg|apply Bc|apply Am|apply Au|apply Aw);· first|with_reducible rfl|(simp (disch:=omega) only[gT,dec,e00,vr]<;>first|with_reducible rfl|omega)|omega)
  |(with_reducible apply As;· first|with_reducible rfl|(simp (disch:=omega) only[gF,dec,e00,vr]<;>omega))
 try simp (disch:=omega) only[dec,e00,vr]
 all_goals rfl
end
end
section
open Go.Proofs.Tryz (prog)
open Go.IntKind (wrap)
set_option maxRecDepth 1000000
section
variable {fu d:Nat}
theorem Ap7 (Ca:1000<=fu)(seed h:Int):Ad C0 prog fu (d+13) Ty [.sc (.int .u64 seed),.sc (.int .i64 h)]=some ⟨[.agg (Vh seed h).cells],[]⟩:=by
 rw[HO];have p:=PU (fu:=fu) (d:=d) Ca seed h;simp only[Ky.cells] at p ⊢;simp only[Cu,p]
end
theorem ZN (dom:Int)(l:List Int):Uo (R3 dom l):=Kh _
theorem A1o (key dom:Int)(l:List Int):Uo (Auj key dom l):=Kh _
theorem Apg (leaf chain:Int):∀(k:Nat)(p:Int){x:Int},Uo x->Uo (T9 leaf chain k p x)
 |0,_,_,h=>h
 |k+1,p,x,h=>Apg leaf chain k (p+1) (ZN _ _)
theorem Ay2 (seed leaf m:Int):isW (Px seed leaf m):=by
 intro x hx;obtain⟨k,_,rfl⟩:=List.mem_map.1 hx;exact Apg _ _ _ _ (A1o _ _ _)
theorem Aj7 (seed:Int):∀(l:Nat)(i:Int),Uo (Ct seed l i)
 |0,i=>ZN _ _
 |l+1,i=>ZN _ _
theorem Amg (seed h:Int):Uo (Vh seed h).root:=by
 unfold Vh;split
 ·exact⟨by simp,by simp⟩
 ·exact Aj7 _ _ _
theorem At3 {seed h leaf m:Int}(hh:Ex h=false)(ho:Qq leaf h=false):∃s,Ak3 seed h leaf m=some s∧s.ok∧s.leaf=leaf∧s.chains.length=18∧(s.path.length:Int)=h∧Ame (Vh seed h) m s=0:=by
 have hb:=Kr hh;refine⟨⟨leaf,Px seed leaf m,(List.range h.toNat).map fun k=>Ct seed k (J2 leaf k)⟩,?_,⟨Ay2 _ _ _,?_⟩,rfl,by simp[Px],?_,Anz hh ho⟩
 ·unfold Ak3;rw[Bn (by simp[hh]),Bn (by simp[ho])]
 ·intro x hx;obtain⟨k,_,rfl⟩:=List.mem_map.1 hx;exact Aj7 _ _ _
 ·simp only[List.length_map,List.length_range];omega
theorem Awl {s:Sg}:(CE s).length=2+8*s.chains.length+8*s.path.length:=by
 unfold CE;simp only[Ik,Io,D3];omega
end
end Go.Proofs.YtpogefhpiaaliaaGreatDoor.Pv
