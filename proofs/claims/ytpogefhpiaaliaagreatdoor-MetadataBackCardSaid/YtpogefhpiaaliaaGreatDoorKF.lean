/-
  The proof of MetadataBack, part 6.
-/
import Derived.Test.YtpogefhpiaaliaaGreatDoorKE
import Derived.Test.YtpogefhpiaaliaaGreatDoorRows
import Derived.Shelf.Abstract
import Derived.WalkKit
import Derived.OwnWalkIn
import Derived.TacticsInMore
set_option linter.unusedSimpArgs false
set_option linter.unusedVariables false
namespace Go.Proofs.YtpogefhpiaaliaaGreatDoor.Pv
section
open Go.Proofs.Tryz (prog)
open Go.IntKind (wrap)
set_option maxRecDepth 100000
abbrev Mi:FuncId:=11
noncomputable def F3 (fu:Nat)(call:Af)(Ai:Nat)(Ak:List PV)(Al:Int)(nn:Nat)(y0:Int)(y1:Nat)(y2:List PV)(y3 y4:Int)(y5 y6:Int)(y7:Nat)(y8:Int)(y9 y10:Nat)(Fq Gc H4:List PV)(Kn J1 Mo:Int)(Ku:Nat)(Mq:Int)(K6 Jk:Nat)(I9 Nx Ys:List PV):Option A5:=Dh CB prog fu call 11 Tryz.f11 (B7 Tryz.f11) [.pbox [.lst false 1 Ai Ak,.sc (.int .i64 Al)]] [.r,.r,.l,.r,.l] nn ⟨lk [(0,(.ptr 238000 0)),(2,(.ptr 2 0)),(3,(.ptr 3 0)),(4,(.sc (.int .i64 y0)))],Bu [(238000,(.st [(.lst false 1 y1 y2),(.sc (.int .i64 y3))])),(2,(.st [(.sc (.int .i64 y4)),(.sc (.int .i64 y5)),(.sc (.int .i64 y6)),(.view 478 3 0 y7),(.sc (.int .i64 y8)),(.view 716 1 0 y9),(.view 835 1 0 y10)])),(478,(.ar false Fq)),(716,(.ar false Gc)),(835,(.ar false H4)),(3,(.st [(.sc (.int .i64 Kn)),(.sc (.int .i64 J1)),(.sc (.int .i64 Mo)),(.view 479 3 0 Ku),(.sc (.int .i64 Mq)),(.view 717 1 0 K6),(.view 836 1 0 Jk)])),(479,(.ar false I9)),(717,(.ar false Nx)),(836,(.ar false Ys))]⟩
noncomputable def F0 (fu:Nat)(call:Af)(Ai:Nat)(Ak:List PV)(Al:Int)(m0 nn:Nat)(y0 y1:Int)(y2:Nat)(y3:List PV)(y4 y5:Int)(y6 y7:Int)(y8:Nat)(y9:Int)(y10 Fq:Nat)(Gc H4 Kn:List PV)(J1 Mo Ku:Int)(Mq:Nat)(K6:Int)(Jk I9:Nat)(Nx Ys y24:List PV)(y25:Int)(QQ OU:Nat)(y28 ZO:List PV):Option A5:=Dh CB prog fu call 11 Tryz.f11 (B7 Tryz.f11) [.pbox [.lst false 1 Ai Ak,.sc (.int .i64 Al)]] [.r,.r,.l,.r,.l,.i m0,.r,.l,.l,.r,.l,.r,.l] nn ⟨lk [(0,(.ptr 238000 0)),(2,(.ptr 2 0)),(3,(.ptr 3 0)),(4,(.sc (.int .i64 y0))),(5,(.ptr 5 0)),(6,(.sc (.int .i64 y1)))],Bu [(238000,(.st [(.lst false 1 y2 y3),(.sc (.int .i64 y4))])),(2,(.st [(.sc (.int .i64 y5)),(.sc (.int .i64 y6)),(.sc (.int .i64 y7)),(.view 478 3 0 y8),(.sc (.int .i64 y9)),(.view 716 1 0 y10),(.view 835 1 0 Fq)])),(478,(.ar false Gc)),(716,(.ar false H4)),(835,(.ar false Kn)),(3,(.st [(.sc (.int .i64 J1)),(.sc (.int .i64 Mo)),(.sc (.int .i64 Ku)),(.view 479 3 0 Mq),(.sc (.int .i64 K6)),(.view 717 1 0 Jk),(.view 836 1 0 I9)])),(479,(.ar false Nx)),(717,(.ar false Ys)),(836,(.ar false y24)),(5,(.st [(.sc (.int .u64 y25)),(.view 243 3 0 QQ),(.view 362 2 0 OU)])),(243,(.ar false y28)),(362,(.ar false ZO))]⟩
noncomputable def K8 (fu:Nat)(call:Af)(Ai:Nat)(Ak:List PV)(Al:Int)(nn y0:Nat)(y1:List PV)(y2 y3:Int)(y4 y5:Int)(y6:Nat)(y7:Int)(y8 y9:Nat)(y10 Fq Gc:List PV)(H4 Kn J1:Int)(Mo:Nat)(Ku:Int)(Mq K6:Nat)(Jk I9 Nx:List PV):Option A5:=Dh CB prog fu call 11 Tryz.f11 (B7 Tryz.f11) [.pbox [.lst false 1 Ai Ak,.sc (.int .i64 Al)]] [.r,.r] nn ⟨lk [(0,(.ptr 238000 0)),(2,(.ptr 2 0)),(3,(.ptr 3 0))],Bu [(238000,(.st [(.lst false 1 y0 y1),(.sc (.int .i64 y2))])),(2,(.st [(.sc (.int .i64 y3)),(.sc (.int .i64 y4)),(.sc (.int .i64 y5)),(.view 478 3 0 y6),(.sc (.int .i64 y7)),(.view 716 1 0 y8),(.view 835 1 0 y9)])),(478,(.ar false y10)),(716,(.ar false Fq)),(835,(.ar false Gc)),(3,(.st [(.sc (.int .i64 H4)),(.sc (.int .i64 Kn)),(.sc (.int .i64 J1)),(.view 479 3 0 Mo),(.sc (.int .i64 Ku)),(.view 717 1 0 Mq),(.view 836 1 0 K6)])),(479,(.ar false Jk)),(717,(.ar false I9)),(836,(.ar false Nx))]⟩
noncomputable def F4 (fu:Nat)(call:Af)(Ai:Nat)(Ak:List PV)(Al:Int)(m0 nn:Nat)(y0 y1:Int)(y2:Nat)(y3:List PV)(y4 y5:Int)(y6 y7:Int)(y8:Nat)(y9:Int)(y10 Fq:Nat)(Gc H4 Kn:List PV)(J1 Mo Ku:Int)(Mq:Nat)(K6:Int)(Jk I9:Nat)(Nx Ys y24:List PV)(y25:Int)(QQ OU:Nat)(y28 ZO:List PV):Option A5:=Dh CB prog fu call 11 Tryz.f11 (B7 Tryz.f11) [.pbox [.lst false 1 Ai Ak,.sc (.int .i64 Al)]] [.r,.r,.l,.r,.l,.i m0,.r,.l,.l,.r,.r,.l,.r,.l] nn ⟨lk [(0,(.ptr 238000 0)),(2,(.ptr 2 0)),(3,(.ptr 3 0)),(4,(.sc (.int .i64 y0))),(5,(.ptr 5 0)),(9,(.sc (.int .i64 y1)))],Bu [(238000,(.st [(.lst false 1 y2 y3),(.sc (.int .i64 y4))])),(2,(.st [(.sc (.int .i64 y5)),(.sc (.int .i64 y6)),(.sc (.int .i64 y7)),(.view 478 3 0 y8),(.sc (.int .i64 y9)),(.view 716 1 0 y10),(.view 835 1 0 Fq)])),(478,(.ar false Gc)),(716,(.ar false H4)),(835,(.ar false Kn)),(3,(.st [(.sc (.int .i64 J1)),(.sc (.int .i64 Mo)),(.sc (.int .i64 Ku)),(.view 479 3 0 Mq),(.sc (.int .i64 K6)),(.view 717 1 0 Jk),(.view 836 1 0 I9)])),(479,(.ar false Nx)),(717,(.ar false Ys)),(836,(.ar false y24)),(5,(.st [(.sc (.int .u64 y25)),(.view 243 3 0 QQ),(.view 362 2 0 OU)])),(243,(.ar false y28)),(362,(.ar false ZO))]⟩
noncomputable def Eg (fu:Nat)(call:Af)(Ai:Nat)(Ak:List PV)(Al:Int)(nn y0:Nat)(y1:List PV)(y2 y3:Int)(y4 y5:Int)(y6:Nat)(y7:Int)(y8 y9:Nat)(y10 Fq Gc:List PV)(H4 Kn J1:Int)(Mo:Nat)(Ku:Int)(Mq K6:Nat)(Jk I9 Nx:List PV):Option A5:=Dh CB prog fu call 11 Tryz.f11 (B7 Tryz.f11) [.pbox [.lst false 1 Ai Ak,.sc (.int .i64 Al)]] [.r,.r,.r] nn ⟨lk [(0,(.ptr 238000 0)),(2,(.ptr 2 0)),(3,(.ptr 3 0))],Bu [(238000,(.st [(.lst false 1 y0 y1),(.sc (.int .i64 y2))])),(2,(.st [(.sc (.int .i64 y3)),(.sc (.int .i64 y4)),(.sc (.int .i64 y5)),(.view 478 3 0 y6),(.sc (.int .i64 y7)),(.view 716 1 0 y8),(.view 835 1 0 y9)])),(478,(.ar false y10)),(716,(.ar false Fq)),(835,(.ar false Gc)),(3,(.st [(.sc (.int .i64 H4)),(.sc (.int .i64 Kn)),(.sc (.int .i64 J1)),(.view 479 3 0 Mo),(.sc (.int .i64 Ku)),(.view 717 1 0 Mq),(.view 836 1 0 K6)])),(479,(.ar false Jk)),(717,(.ar false I9)),(836,(.ar false Nx))]⟩
theorem D2 (fu:Nat)(call:Af)(Ai:Nat)(Ak:List PV)(Al:Int)(nn:Nat)(y0:Int)(y1:Nat)(y2:List PV)(y3 y4:Int)(y5 y6:Int)(y7:Nat)(y8:Int)(y9 y10:Nat)(Fq Gc H4:List PV)(Kn J1 Mo:Int)(Ku:Nat)(Mq:Int)(K6 Jk:Nat)(I9 Nx Ys:List PV):F3 fu call Ai Ak Al (nn+1) y0 y1 y2 y3 y4 y5 y6 y7 y8 y9 y10 Fq Gc H4 Kn J1 Mo Ku Mq K6 Jk I9 Nx Ys=(Bk (decide (y0>0)) (Aa (wrap .i64 ((↑Ku:Int)+1)) fun BJ=>Aj (call 15 [.pbox [.lst false 1 y1 y2,.sc (.int .i64 y3)],.sc (.int .i64 2)]) fun Zw Ya=>Ab Zw fun Xg BS=>Ae .i64 Xg fun ET=>Ac BS<|Ab Ya fun CH CN=>Ab CH fun CF CO=>Em 1 CF fun FJ Z9 HN=>Ab CO fun LC EG=>Ae .i64 LC fun JX=>Ac EG<|Ac CN<|Aa (wrap .i64 (BJ+ET)) fun OB=>Aa (wrap .u64 OB) fun NB=>Aj (call 15 [.pbox [.lst false 1 Z9 HN,.sc (.int .i64 JX)],.sc (.int .i64 3)]) fun NK QN=>Ab NK fun ZP UB=>Ae .i64 ZP fun x85=>Ac UB<|Ab QN fun VR VO=>Ab VR fun UM MA=>Em 1 UM fun YS UP x92=>Ab MA fun x93 x94=>Ae .i64 x93 fun x95=>Ac x94<|Ac VO<|F0 fu call Ai Ak Al nn (fu) (y0) x85 UP x92 x95 (y4) (y5) (y6) (y7) (y8) (y9) (y10) (Fq) (Gc) (H4) (Kn) (J1) (Mo) (Ku) (Mq) (K6) (Jk) (I9) (Nx) (Ys) NB 0 0 ([]) ([])) (K8 fu call Ai Ak Al (fu) (y1) (y2) (y3) (y4) (y5) (y6) (y7) (y8) (y9) (y10) (Fq) (Gc) (H4) (Kn) (J1) (Mo) (Ku) (Mq) (K6) (Jk) (I9) (Nx) (Ys))):=by kernel_rfl
theorem Ka (fu:Nat)(call:Af)(Ai:Nat)(Ak:List PV)(Al:Int)(m0 nn:Nat)(y0 y1:Int)(y2:Nat)(y3:List PV)(y4 y5:Int)(y6 y7:Int)(y8:Nat)(y9:Int)(y10 Fq:Nat)(Gc H4 Kn:List PV)(J1 Mo Ku:Int)(Mq:Nat)(K6:Int)(Jk I9:Nat)(Nx Ys y24:List PV)(y25:Int)(QQ OU:Nat)(y28 ZO:List PV):F0 fu call Ai Ak Al m0 (nn+1) y0 y1 y2 y3 y4 y5 y6 y7 y8 y9 y10 Fq Gc H4 Kn J1 Mo Ku Mq K6 Jk I9 Nx Ys y24 y25 QQ OU y28 ZO=(Bk (decide (y1>0)) (Aj (call 15 [.pbox [.lst false 1 y2 y3,.sc (.int .i64 y4)],.sc (.int .i64 4)]) fun x96 UA=>Ab x96 fun OQ x99=>Ae .i64 OQ fun V2=>Ac x99<|Ab UA fun Xs Jh=>Ab Xs fun Mx X1=>Em 1 Mx fun Uy Vq Pa=>Ab X1 fun DK HC=>Ae .i64 DK fun JS=>Ac HC<|Ac Jh<|Aa (wrap .u64 V2) fun ID=>Aj (call 30 [.sc (.int .u64 ID),.sc (.int .i64 1)]) fun Lf P5=>Ac P5<|Ab Lf fun NW IX=>Ft NW fun GQ=>Ab GQ fun MY KJ=>Ae .i64 MY fun JN=>Ab KJ fun MT JO=>Ae .u64 MT fun GJ=>Ac JO<|Ab IX fun KH JG=>Ae .i64 KH fun IQ=>Ac JG<|Aj (call 15 [.pbox [.lst false 1 Vq Pa,.sc (.int .i64 JS)],.sc (.int .i64 2)]) fun Xu EC=>Ab Xu fun OD NF=>Ae .i64 OD fun Zi=>Ac NF<|Ab EC fun QE NC=>Ab QE fun QY VD=>Em 1 QY fun QX NG UQ=>Ab VD fun UG SB=>Ae .i64 UG fun SD=>Ac SB<|Ac NC<|Ar (decide (0<=Zi)&&decide (Zi<2))<|Iv (List.getD [.sc (.string (ByteArray.mk #[114,111,111,116])),.sc (.string (ByteArray.mk #[111,116,104,101,114]))] (0+Int.toNat Zi*1) .top) fun RI=>Ar (decide (QQ*3<=y28.length)&&true&&decide ((QQ+1)*32<=1099511627776)&&decide (QQ+1<=1099511627776))<|Aa (QQ+1) fun RN=>Aa (List.take (QQ*3) y28++[.sc (.string RI),.sc (.int .i64 JN),.sc (.int .u64 GJ)]) fun QR=>Aa (wrap .i64 (y1-1)) fun JT=>F0 fu call Ai Ak Al m0 (nn) (y0) JT NG UQ SD (y5) (y6) (y7) (y8) (y9) (y10) (Fq) (Gc) (H4) (Kn) (J1) (Mo) (Ku) (Mq) (K6) (Jk) (I9) (Nx) (Ys) (y24) (y25) RN (OU) QR (ZO)) (Aj (call 15 [.pbox [.lst false 1 y2 y3,.sc (.int .i64 y4)],.sc (.int .i64 4)]) fun ND RA=>Ab ND fun PD RQ=>Ae .i64 PD fun Abf=>Ac RQ<|Ab RA fun Aba Aa1=>Ab Aba fun Abe Aho=>Em 1 Abe fun Aly Aha Ag6=>Ab Aho fun Ac8 Aht=>Ae .i64 Ac8 fun Aie=>Ac Aht<|Ac Aa1<|F4 fu call Ai Ak Al m0 (fu) (y0) Abf Aha Ag6 Aie (y5) (y6) (y7) (y8) (y9) (y10) (Fq) (Gc) (H4) (Kn) (J1) (Mo) (Ku) (Mq) (K6) (Jk) (I9) (Nx) (Ys) (y24) (y25) (QQ) (OU) (y28) (ZO))):=by kernel_rfl
theorem Fb (fu:Nat)(call:Af)(Ai:Nat)(Ak:List PV)(Al:Int)(nn:Nat)(Ko:0<nn)(y0:Nat)(y1:List PV)(y2 y3:Int)(y4 y5:Int)(y6:Nat)(y7:Int)(y8 y9:Nat)(y10 Fq Gc:List PV)(H4 Kn J1:Int)(Mo:Nat)(Ku:Int)(Mq K6:Nat)(Jk I9 Nx:List PV):K8 fu call Ai Ak Al nn y0 y1 y2 y3 y4 y5 y6 y7 y8 y9 y10 Fq Gc H4 Kn J1 Mo Ku Mq K6 Jk I9 Nx=(Aj (call 15 [.pbox [.lst false 1 y0 y1,.sc (.int .i64 y2)],.sc (.int .i64 12)]) fun Ahl Ag5=>Ab Ahl fun Ahm Aml=>Ae .i64 Ahm fun TH=>Ac Aml<|Ab Ag5 fun Adi Af3=>Ab Adi fun Agd Ako=>Em 1 Agd fun Am2 UY UE=>Ab Ako fun Agx Ahk=>Ae .i64 Agx fun UZ=>Ac Ahk<|Ac Af3<|Bk (TH==11) (Aj (call 15 [.pbox [.lst false 1 UY UE,.sc (.int .i64 UZ)],.sc (.int .i64 3)]) fun ZJ Abz=>Ab ZJ fun Ald Af6=>Ae .i64 Ald fun ZG=>Ac Af6<|Ab Abz fun Aq6 Ap4=>Ab Aq6 fun Aq3 Auo=>Em 1 Aq3 fun Av4 Av0 Are=>Ab Auo fun Apy Asj=>Ae .i64 Apy fun Apf=>Ac Asj<|Ac Ap4<|Ar (decide (0<=ZG)&&decide (ZG<3))<|Ae .i64 (List.getD [.sc (.int .i64 0),.sc (.int .i64 17),.sc (.int .i64 (-1))] (0+Int.toNat ZG*1) .top) fun Avj=>Eg fu call Ai Ak Al (fu) Av0 Are Apf (y3) (y4) (y5) (y6) (y7) (y8) (y9) (y10) (Fq) (Gc) Avj (Kn) (J1) (Mo) (Ku) (Mq) (K6) (Jk) (I9) (Nx)) (Bk (TH==10) (Aa (wrap .i64 (Kn-1)) fun Ao2=>Eg fu call Ai Ak Al (fu) UY UE UZ (y3) (y4) (y5) (y6) (y7) (y8) (y9) (y10) (Fq) (Gc) (H4) (Kn) Ao2 (Mo) (Ku) (Mq) (K6) (Jk) (I9) (Nx)) (Bk (TH==9) (Aj (call 15 [.pbox [.lst false 1 UY UE,.sc (.int .i64 UZ)],.sc (.int .i64 6)]) fun Aoq Aor=>Ab Aoq fun Asx Apx=>Ae .i64 Asx fun As1=>Ac Apx<|Ab Aor fun Apl Asr=>Ab Apl fun Aue Art=>Em 1 Aue fun Att Asf Ary=>Ab Art fun Apw Afj=>Ae .i64 Apw fun Ag3=>Ac Afj<|Ac Asr<|Aj (call 15 [.pbox [.lst false 1 Asf Ary,.sc (.int .i64 Ag3)],.sc (.int .i64 2)]) fun Ar5 Api=>Ab Ar5 fun A0h A1y=>Ae .i64 A0h fun Azs=>Ac A1y<|Ab Api fun Azh A0z=>Ab Azh fun A1j Azo=>Em 1 A1j fun A4z A9d A67=>Ab Azo fun Bad A7c=>Ae .i64 Bad fun A7f=>Ac A7c<|Ac A0z<|Aa (wrap .i64 (0-Azs)) fun A7b=>Ar (decide (Mo*3<=Jk.length)&&true&&decide ((Mo+1)*56<=1099511627776)&&decide (Mo+1<=1099511627776))<|Aa (Mo+1) fun A9q=>Aa (List.take (Mo*3) Jk++[.sc (.int .u64 1),.lst false 3 0 [],.lst false 2 1 [.sc (.int .i64 As1),.sc (.int .i64 A7b)]]) fun A9b=>Eg fu call Ai Ak Al (fu) A9d A67 A7f (y3) (y4) (y5) (y6) (y7) (y8) (y9) (y10) (Fq) (Gc) (H4) (Kn) (J1) A9q (Ku) (Mq) (K6) A9b (I9) (Nx)) (Eg fu call Ai Ak Al (fu) UY UE UZ (y3) (y4) (y5) (y6) (y7) (y8) (y9) (y10) (Fq) (Gc) (H4) (Kn) (J1) (Mo) (Ku) (Mq) (K6) (Jk) (I9) (Nx))))):=by cases nn with|zero=>exact absurd Ko (Nat.lt_irrefl 0)|succ nn=>kernel_rfl
theorem J7 (fu:Nat)(call:Af)(Ai:Nat)(Ak:List PV)(Al:Int)(m0 nn:Nat)(y0 y1:Int)(y2:Nat)(y3:List PV)(y4 y5:Int)(y6 y7:Int)(y8:Nat)(y9:Int)(y10 Fq:Nat)(Gc H4 Kn:List PV)(J1 Mo Ku:Int)(Mq:Nat)(K6:Int)(Jk I9:Nat)(Nx Ys y24:List PV)(y25:Int)(QQ OU:Nat)(y28 ZO:List PV):F4 fu call Ai Ak Al m0 (nn+1) y0 y1 y2 y3 y4 y5 y6 y7 y8 y9 y10 Fq Gc H4 Kn J1 Mo Ku Mq K6 Jk I9 Nx Ys y24 y25 QQ OU y28 ZO=(Bk (decide (y1>0)) (Aj (call 15 [.pbox [.lst false 1 y2 y3,.sc (.int .i64 y4)],.sc (.int .i64 4)]) fun A9f A6t=>Ab A9f fun A68 A8u=>Ae .i64 A68 fun A8a=>Ac A8u<|Ab A6t fun A8j A7v=>Ab A8j fun A81 A9i=>Em 1 A81 fun Bb7 A92 A78=>Ab A9i fun A9e A8m=>Ae .i64 A9e fun A80=>Ac A8m<|Ac A7v<|Aa (wrap .i64 (1+A8a)) fun A99=>Aa (wrap .i64 (10*(↑OU:Int))) fun A6y=>Aj (call 15 [.pbox [.lst false 1 A92 A78,.sc (.int .i64 A80)],.sc (.int .i64 12)]) fun A7j A77=>Ab A7j fun A6g A6v=>Ae .i64 A6g fun A8h=>Ac A6v<|Ab A77 fun A8d A7n=>Ab A8d fun A8p A6m=>Em 1 A8p fun Bbu A60 Baj=>Ab A6m fun A61 A6l=>Ae .i64 A61 fun A9j=>Ac A6l<|Ac A7n<|Aa (wrap .i64 (A6y+A8h)) fun A7g=>Ar (decide (OU*2<=ZO.length)&&true&&decide ((OU+1)*16<=1099511627776)&&decide (OU+1<=1099511627776))<|Aa (OU+1) fun A7r=>Aa (List.take (OU*2) ZO++[.sc (.int .i64 A99),.sc (.int .i64 A7g)]) fun A7k=>Aa (wrap .i64 (y1-1)) fun A7z=>F4 fu call Ai Ak Al m0 (nn) (y0) A7z A60 Baj A9j (y5) (y6) (y7) (y8) (y9) (y10) (Fq) (Gc) (H4) (Kn) (J1) (Mo) (Ku) (Mq) (K6) (Jk) (I9) (Nx) (Ys) (y24) (y25) (QQ) A7r (y28) A7k) (Ar (decide (0+QQ*3<=y28.length))<|Ar (decide (0+OU*2<=ZO.length))<|Ar (decide (Mq*3<=Nx.length)&&true&&decide ((Mq+1)*56<=1099511627776)&&decide (Mq+1<=1099511627776))<|Aa (Mq+1) fun A7e=>Aa (List.take (Mq*3) Nx++[.sc (.int .u64 y25),.lst false 3 QQ (List.take (QQ*3) (List.drop 0 y28)),.lst false 2 OU (List.take (OU*2) (List.drop 0 ZO))]) fun A8e=>Aa (wrap .i64 (y0-1)) fun A70=>F3 fu call Ai Ak Al (m0) A70 (y2) (y3) (y4) (y5) (y6) (y7) (y8) (y9) (y10) (Fq) (Gc) (H4) (Kn) (J1) (Mo) (Ku) A7e (K6) (Jk) (I9) A8e (Ys) (y24))):=by kernel_rfl
theorem Fe (fu:Nat)(call:Af)(Ai:Nat)(Ak:List PV)(Al:Int)(nn:Nat)(Ko:0<nn)(y0:Nat)(y1:List PV)(y2 y3:Int)(y4 y5:Int)(y6:Nat)(y7:Int)(y8 y9:Nat)(y10 Fq Gc:List PV)(H4 Kn J1:Int)(Mo:Nat)(Ku:Int)(Mq K6:Nat)(Jk I9 Nx:List PV):Eg fu call Ai Ak Al nn y0 y1 y2 y3 y4 y5 y6 y7 y8 y9 y10 Fq Gc H4 Kn J1 Mo Ku Mq K6 Jk I9 Nx=(Ar (decide (0+Mo*3<=Jk.length))<|Ar (decide (0+Mq*1<=I9.length))<|Ar (decide (0+K6*1<=Nx.length))<|some (A5.mk [.agg [.sc (.int .i64 H4),.sc (.int .i64 Kn),.sc (.int .i64 J1),.lst false 3 Mo (List.take (Mo*3) (List.drop 0 Jk)),.sc (.int .i64 Ku),.lst false 1 Mq (List.take (Mq*1) (List.drop 0 I9)),.lst false 1 K6 (List.take (K6*1) (List.drop 0 Nx))]] [[.lst false 1 y0 y1,.sc (.int .i64 y2)]])):=by cases nn with|zero=>exact absurd Ko (Nat.lt_irrefl 0)|succ nn=>kernel_rfl
theorem Vp (fu d Ai:Nat)(Ak:List PV)(Al:Int):Ad C0 prog fu (d+1) Mi [.pbox [.lst false 1 Ai Ak,.sc (.int .i64 Al)]]=(fun (call:Af)=>Aj (call 15 [.pbox [.lst false 1 Ai Ak,.sc (.int .i64 Al)],.sc (.int .i64 16)]) fun x1 x2=>Ab x1 fun x3 x4=>Ae .i64 x3 fun x5=>Ac x4<|Ab x2 fun x6 x7=>Ab x6 fun x8 x9=>Em 1 x8 fun C7 Dm Eh=>Ab x9 fun E6 D8=>Ae .i64 E6 fun Ez=>Ac D8<|Ac x7<|Aa (wrap .i64 (1+x5)) fun Fu=>Aj (call 15 [.pbox [.lst false 1 Dm Eh,.sc (.int .i64 Ez)],.sc (.int .i64 20)]) fun Gt G7=>Ab Gt fun Gj Gx=>Ae .i64 Gj fun Ju=>Ac Gx<|Ab G7 fun H3 Jd=>Ab H3 fun Fn Ev=>Em 1 Fn fun Hz J3 Gy=>Ab Ev fun O4 Nu=>Ae .i64 O4 fun K7=>Ac Nu<|Ac Jd<|Aj (call 15 [.pbox [.lst false 1 J3 Gy,.sc (.int .i64 K7)],.sc (.int .i64 100)]) fun M4 Oh=>Ab M4 fun P1 Py=>Ae .i64 P1 fun Q9=>Ac Py<|Ab Oh fun Um Ii=>Ab Um fun Lq Sr=>Em 1 Lq fun Xv Ss Zu=>Ab Sr fun Y5 Xw=>Ae .i64 Y5 fun Xe=>Ac Xw<|Ac Ii<|Aa (wrap .i64 (20+Q9)) fun Xx=>Aj (call 15 [.pbox [.lst false 1 Ss Zu,.sc (.int .i64 Xe)],.sc (.int .i64 4)]) fun X9 X8=>Ab X9 fun AW Yu=>Ae .i64 AW fun X7=>Ac Yu<|Ab X8 fun BF DR=>Ab BF fun EL BO=>Em 1 EL fun DV Yy EW=>Ab BO fun AM BB=>Ae .i64 AM fun DI=>Ac BB<|Ac DR<|F3 fu call Ai Ak Al (fu) X7 Yy EW DI 0 0 0 0 0 0 0 ([]) ([]) ([]) Fu Ju Xx 0 0 0 0 ([]) ([]) ([])) (Ad C0 prog fu d):=by kernel_rfl
abbrev Pd:FuncId:=9
theorem Zh (fu d:Nat):Ad C0 prog fu (d+1) Pd []=(fun (call:Af)=>Aj (call 16 [.agg [.sc (.int .i64 2),.sc (.int .i64 1),.sc (.int .i64 9),.lst false 3 1 [.sc (.int .u64 4),.lst false 3 0 [],.lst false 2 2 [.sc (.int .i64 1),.sc (.int .i64 0),.sc (.int .i64 4),.sc (.int .i64 50)]],.sc (.int .i64 0),.lst false 1 0 [],.lst false 1 0 []],.sc (.int .u64 7),.sc (.int .i64 2)]) fun x1 x2=>Ac x2<|Ab x1 fun x3 x4=>Ft x3 fun x5=>Ab x5 fun x6 x7=>Ae .i64 x6 fun x8=>Ab x7 fun x9 C7=>Ae .i64 x9 fun Dm=>Ab C7 fun Eh E6=>Ae .i64 Eh fun D8=>Ab E6 fun Ez Fu=>Em 3 Ez fun Gt G7 Gj=>Ab Fu fun Gx Ju=>Ae .i64 Gx fun H3=>Ab Ju fun Jd Fn=>Em 1 Jd fun Ev Hz J3=>Ab Fn fun Gy O4=>Em 1 Gy fun Nu K7 M4=>Ac O4<|Ab x4 fun Oh P1=>Ae .i64 Oh fun Py=>Ac P1<|Aj (call 25 [.agg [.sc (.int .i64 x8),.sc (.int .i64 Dm),.sc (.int .i64 D8),.lst false 3 G7 Gj,.sc (.int .i64 H3),.lst false 1 Hz J3,.lst false 1 K7 M4]]) fun Q9 Um=>Ac Um<|Ab Q9 fun Ii Lq=>Gw 1 Ii fun Sr Xv=>Ab Lq fun Ss Zu=>Ae .i64 Ss fun Y5=>Ac Zu<|Aj (call 17 [.sc (.int .u64 7),.sc (.int .i64 2)]) fun Xw Xe=>Ac Xe<|Ab Xw fun Xx X9=>Ft Xx fun X8=>Ab X8 fun AW Yu=>Ae .i64 AW fun X7=>Ab Yu fun BF DR=>Ae .u64 BF fun EL=>Ac DR<|Ac X9<|Ar (decide (0+Sr*1<=Xv.length))<|Aj (call 27 [.agg [.sc (.int .i64 1),.sc (.int .i64 0),.sc (.int .i64 0),.lst false 3 0 [],.sc (.int .i64 0),.lst false 1 0 [],.lst false 1 0 []],.lst false 1 Sr (List.take (Sr*1) (List.drop 0 Xv)),.agg [.sc (.int .i64 X7),.sc (.int .u64 EL)],.sc (.int .i64 5)]) fun BO DV=>Ac DV<|Ab BO fun Yy EW=>Ft Yy fun AM=>Ab AM fun BB DI=>Ae .i64 BB fun BJ=>Ab DI fun Zw Ya=>Ae .i64 Zw fun Xg=>Ab Ya fun BS ET=>Ae .i64 BS fun CH=>Ab ET fun CN CF=>Em 3 CN fun CO FJ Z9=>Ab CF fun HN LC=>Ae .i64 HN fun EG=>Ab LC fun JX OB=>Em 1 JX fun NB NK QN=>Ab OB fun ZP UB=>Em 1 ZP fun x85 VR VO=>Ac UB<|Ab EW fun UM MA=>Ae .i64 UM fun YS=>Ac MA<|Aj (call 17 [.sc (.int .u64 7),.sc (.int .i64 2)]) fun UP x92=>Ac x92<|Ab UP fun x93 x94=>Ft x93 fun x95=>Ab x95 fun x96 UA=>Ae .i64 x96 fun OQ=>Ab UA fun x99 V2=>Ae .u64 x99 fun Xs=>Ac V2<|Ac x94<|Ar (decide (0+Sr*1<=Xv.length))<|Aj (call 27 [.agg [.sc (.int .i64 x8),.sc (.int .i64 Dm),.sc (.int .i64 D8),.lst false 3 G7 Gj,.sc (.int .i64 H3),.lst false 1 Hz J3,.lst false 1 K7 M4],.lst false 1 Sr (List.take (Sr*1) (List.drop 0 Xv)),.agg [.sc (.int .i64 OQ),.sc (.int .u64 Xs)],.sc (.int .i64 5)]) fun Jh Mx=>Ac Mx<|Ab Jh fun X1 Uy=>Ft X1 fun Vq=>Ab Vq fun Pa DK=>Ae .i64 Pa fun HC=>Ab DK fun JS ID=>Ae .i64 JS fun Lf=>Ab ID fun P5 NW=>Ae .i64 P5 fun IX=>Ab NW fun GQ MY=>Em 3 GQ fun KJ JN MT=>Ab MY fun JO GJ=>Ae .i64 JO fun KH=>Ab GJ fun JG IQ=>Em 1 JG fun Xu EC OD=>Ab IQ fun NF Zi=>Em 1 NF fun QE NC QY=>Ac Zi<|Ab Uy fun VD QX=>Ae .i64 VD fun NG=>Ac QX<|Bk (Py==0) (Bk (Y5==0) (Bk (YS==0) (Bk (NG==7) (Bk (H3==1) (Aj (call 18 [.agg [.sc (.int .i64 x8),.sc (.int .i64 Dm),.sc (.int .i64 D8),.lst false 3 G7 Gj,.sc (.int .i64 H3),.lst false 1 Hz J3,.lst false 1 K7 M4],.agg [.sc (.int .i64 BJ),.sc (.int .i64 Xg),.sc (.int .i64 CH),.lst false 3 FJ Z9,.sc (.int .i64 EG),.lst false 1 NK QN,.lst false 1 VR VO]]) fun UQ UG=>Ac UG<|Ab UQ fun SB SD=>Bv SB fun RI=>Ac SD<|Bk RI (Aj (call 29 [.agg [.sc (.int .i64 BJ),.sc (.int .i64 Xg),.sc (.int .i64 CH),.lst false 3 FJ Z9,.sc (.int .i64 EG),.lst false 1 NK QN,.lst false 1 VR VO],.sc (.int .u64 4),.sc (.int .i64 49)]) fun RN QR=>Ac QR<|Ab RN fun JT ND=>Ae .i64 JT fun RA=>Ac ND<|Bk (RA==1) (Aj (call 29 [.agg [.sc (.int .i64 BJ),.sc (.int .i64 Xg),.sc (.int .i64 CH),.lst false 3 FJ Z9,.sc (.int .i64 EG),.lst false 1 NK QN,.lst false 1 VR VO],.sc (.int .u64 4),.sc (.int .i64 50)]) fun PD RQ=>Ac RQ<|Ab PD fun Abf Aba=>Ae .i64 Abf fun Aa1=>Ac Aba<|some (A5.mk [.sc (.bool (Aa1==4))] [])) (some (A5.mk [.sc (.bool false)] []))) (some (A5.mk [.sc (.bool false)] []))) (some (A5.mk [.sc (.bool false)] []))) (some (A5.mk [.sc (.bool false)] []))) (some (A5.mk [.sc (.bool false)] []))) (some (A5.mk [.sc (.bool false)] []))) (some (A5.mk [.sc (.bool false)] []))) (Ad C0 prog fu d):=by kernel_rfl
end
section
open Go.Proofs.Tryz (prog)
open Go.IntKind (wrap)
set_option maxRecDepth 1000000
structure Me.few (x:Me):Prop where
 model:Uo x.model
 rts:x.rts
 ans:x.ans.length<=2
 sts:x.sts.length<=3
 nam:∀a∈x.ans,a.name.size<=60
structure Md.plain (m:Md):Prop where
 ent:∀x∈m.ents,x.few
 len:m.ents.length<=4
 sg:m.sig=sg0
abbrev rtN:ByteArray:=⟨#[(114:UInt8),(111:UInt8),(111:UInt8),(116:UInt8)]⟩
abbrev otN:ByteArray:=⟨#[(111:UInt8),(116:UInt8),(104:UInt8),(101:UInt8),(114:UInt8)]⟩
theorem Aot {v:Int}(h0:0<=v)(h1:v<2):∃s:ByteArray,s.size<=60∧List.getD [PV.sc (Value.string rtN),PV.sc (Value.string otN)] (0+Int.toNat v*1) PV.top=.sc (.string s):=by
 have:v=0∨v=1:=by omega
 rcases this with rfl|rfl
 ·exact⟨rtN,by decide,rfl⟩
 ·exact⟨otN,by decide,rfl⟩
section
variable {fu d:Nat} {l:List Int}
theorem Apj (a:List An)(x:An):Dg a++[.sc (.string x.name),.sc (.int .i64 x.key.h),.sc (.int .u64 x.key.root)]=Dg (a++[x]):=by
 unfold Dg;rw[List.flatMap_append,List.flatMap_cons,List.flatMap_nil,List.append_nil];rfl
theorem Asz (a:List Sa)(x:Sa):D0 a++[.sc (.int .i64 x.kd),.sc (.int .i64 x.at_)]=D0 (a++[x]):=by
 unfold D0;rw[List.flatMap_append,List.flatMap_cons,List.flatMap_nil,List.append_nil];rfl
noncomputable abbrev IM (fu d:Nat)(l:List Int)(Al:Int)(nn:Nat)(v:Int)(i:Nat)(ver iss nxt:Int)(n:Nat)(c:List PV):Option A5:=
 F3 fu (Ad C0 prog fu (d+13)) l.length (Ah .i64 l) Al nn v l.length (Ah .i64 l) (i:Int) 0 0 0 0 0 0 0 [] [] [] ver iss nxt n 0 0 0 c [] []
theorem Ax8 (hl:l.length<=maxLen){Al:Int}{m0:Nat}{v0 ver iss nxt mo:Int}{en:Nat}{E:List Me}(hE:E.length<=100){A:List An}(hA:A.length<=100):∀(k nn:Nat)(v:Int)(i:Nat)(S:List Sa),v<=k->k<nn->S.length+k<=100 ->
  ∃(S':List Sa) (i':Nat),S'.length<=S.length+k ∧
  F4 fu (Ad C0 prog fu (d+13)) l.length (Ah .i64 l) Al m0 nn v0 v l.length (Ah .i64 l) (i:Int) 0 0 0 0 0 0 0 [] [] [] ver iss nxt E.length 0 0 0 (Cm E) [] [] mo A.length S.length (Dg A) (D0 S) =
   IM fu d l Al m0 (wrap .i64 (v0-1)) i' ver iss nxt (E++[Me.mk mo A S']).length (Cm (E++[Me.mk mo A S']))
 |_,0,_,_,_,_,h,_=>by omega
 |k,nn+1,v,i,S,hv,hn,hS=>by
  have LA:=Q7 A;have LS:=Z3 S;have LE:=Og E;have tA:List.take (A.length*3) (Dg A)=Dg A:=L6 (by omega)
  have tS:List.take (S.length*2) (D0 S)=D0 S:=L6 (by omega)
  have tE:List.take (E.length*3) (Cm E)=Cm E:=L6 (by omega)
  by_cases h0:v>0
  rotate_left
  ·refine⟨S,i,by omega,?_⟩
   rw[J7];have ea:=AF E (Me.mk mo A S);simp only at ea;have el:(E++[Me.mk mo A S]).length=E.length+1:=by rw[Io];rfl
   rw[el];generalize Cm (E++[_])=E' at *
   try unfold Aa
   repeat first
    |((with_reducible first|apply Av|apply Ao|apply At|apply B4|apply Bg|apply Bc|apply Am|apply Au|apply Aw);· first|with_reducible rfl|(simp (disch:=omega) only[gT,LA,LS,LE,tA,tS,tE,ea,Ch,C8]<;>first|with_reducible rfl|omega)|omega)
    |(with_reducible apply As;· first|with_reducible rfl|(simp (disch:=omega) only[gF,LA,LS,LE,tA,tS,tE,ea,Ch,C8]<;>omega))
   try simp (disch:=omega) only[LA,LS,LE,tA,tS,tE,ea,Ch,C8]
   all_goals rfl
  ·obtain⟨k',rfl⟩:∃k',k=k'+1:=⟨k-1,by omega⟩
   obtain⟨u0,j0,u00,u01,n0⟩:=Ir hl i 4 (by omega) (by omega)
   obtain⟨u1,j1,u10,u11,n1⟩:=Ir hl j0 12 (by omega) (by omega)
   have n0:=n0 (fu:=fu) (d:=d+11);have n1:=n1 (fu:=fu) (d:=d+11);simp only[dkc] at n0 n1;have wd:wrap .i64 (v-1)=v-1:=Ap (by omega) (by omega)
   obtain⟨S',i',h1,h2⟩:=Ax8 hl (Al:=Al) (m0:=m0) (v0:=v0) (ver:=ver) (iss:=iss) (nxt:=nxt) (mo:=mo) (en:=en) hE hA k' nn (v-1) j1 (S++[⟨wrap .i64 (1+u0),wrap .i64 (wrap .i64 (10*(S.length:Int))+u1)⟩]) (by omega) (by omega) (by rw[Io,List.length_singleton];omega)
   refine⟨S',i',by rw[Io,List.length_singleton] at h1;omega,?_⟩
   rw[←h2,J7];have ea:=Asz S ⟨wrap .i64 (1+u0),wrap .i64 (wrap .i64 (10*(S.length:Int))+u1)⟩;simp only at ea;have el:(S++[Sa.mk (wrap .i64 (1+u0)) (wrap .i64 (wrap .i64 (10*(S.length:Int))+u1))]).length=S.length+1:=by rw[Io];rfl
   rw[el];clear h2;generalize D0 (S++[_])=S2 at *
   try unfold Aa
   repeat first
    |((with_reducible first|apply Av|apply Ao|apply At|apply B4|apply Bg|apply Bc|apply Am|apply Au|apply Aw);· first|with_reducible rfl|(simp (disch:=omega) only[gT,n0,n1,LS,tS,ea,wd]<;>first|with_reducible rfl|omega)|omega)
    |(with_reducible apply As;· first|with_reducible rfl|(simp (disch:=omega) only[gF,n0,n1,LS,tS,ea,wd]<;>omega))
   try simp (disch:=omega) only[n0,n1,LS,tS,ea,wd]
   all_goals rfl
theorem Ax0 (Ca:2000<=fu)(hl:l.length<=maxLen){Al:Int}{m0:Nat}{v0 ver iss nxt mo:Int}(hmo:Uo mo){E:List Me}(hE:E.length<=100):∀(k nn:Nat)(v:Int)(i:Nat)(A:List An),v<=k->k<nn->A.length+k<=2->(∀a∈A,Uo a.key.root∧a.name.size<=60) ->
  ∃(x:Me) (i':Nat),x.few ∧
  F0 fu (Ad C0 prog fu (d+13)) l.length (Ah .i64 l) Al m0 nn v0 v l.length (Ah .i64 l) (i:Int) 0 0 0 0 0 0 0 [] [] [] ver iss nxt E.length 0 0 0 (Cm E) [] [] mo A.length 0 (Dg A) [] =
   IM fu d l Al m0 (wrap .i64 (v0-1)) i' ver iss nxt (E++[x]).length (Cm (E++[x]))
 |_,0,_,_,_,_,h,_,_=>by omega
 |k,nn+1,v,i,A,hv,hn,hA,hk=>by
  have LA:=Q7 A;have tA:List.take (A.length*3) (Dg A)=Dg A:=L6 (by omega)
  by_cases h0:v>0
  rotate_left
  ·obtain⟨u0,j0,u00,u01,n0⟩:=Ir hl i 4 (by omega) (by omega)
   have n0:=n0 (fu:=fu) (d:=d+11);simp only[dkc] at n0;obtain⟨S',i',h1,h2⟩:=Ax8 (fu:=fu) (d:=d) hl (Al:=Al) (m0:=m0) (v0:=v0) (ver:=ver) (iss:=iss) (nxt:=nxt) (mo:=mo) (en:=0) hE (A:=A) (by omega) 3 fu u0 j0 [] (by omega) (by omega) (by simp)
   refine⟨⟨mo,A,S'⟩,i',⟨hmo,fun a ha=>(hk a ha).1,by simp only;omega,by simp only[Zx] at h1 ⊢;omega,fun a ha=>(hk a ha).2⟩,?_⟩
   rw[←h2,Ka];clear h2
   try unfold Aa
   repeat first
    |((with_reducible first|apply Av|apply Ao|apply At|apply B4|apply Bg|apply Bc|apply Am|apply Au|apply Aw);· first|with_reducible rfl|(simp (disch:=omega) only[gT,n0]<;>first|with_reducible rfl|omega)|omega)
    |(with_reducible apply As;· first|with_reducible rfl|(simp (disch:=omega) only[gF,n0]<;>omega))
   try simp (disch:=omega) only[n0]
   all_goals rfl
  ·obtain⟨k',rfl⟩:∃k',k=k'+1:=⟨k-1,by omega⟩
   obtain⟨u0,j0,u00,u01,n0⟩:=Ir hl i 4 (by omega) (by omega)
   obtain⟨u1,j1,u10,u11,n1⟩:=Ir hl j0 2 (by omega) (by omega)
   have n0:=n0 (fu:=fu) (d:=d+11);have n1:=n1 (fu:=fu) (d:=d+11);simp only[dkc] at n0 n1;have pk:=PU (fu:=fu) (d:=d+1) (by omega) (wrap .u64 u0) 1
   have kr:=Amg (wrap .u64 u0) 1;obtain⟨s1,z1,g1⟩:=Aot u10 u11;have c1:(decide ((0:Int)<=u1)&&decide (u1<2))=true:=by simp;omega
   simp only[Ky.cells] at pk;generalize Vh (wrap .u64 u0) 1=K at *
   generalize (if Ex 1=true then (9:Int) else 0)=er at *
   have wd:wrap .i64 (v-1)=v-1:=Ap (by omega) (by omega)
   obtain⟨x,i',h1,h2⟩:=Ax0 Ca hl (Al:=Al) (m0:=m0) (v0:=v0) (ver:=ver) (iss:=iss) (nxt:=nxt) hmo hE k' nn (v-1) j1 (A++[⟨s1,K⟩]) (by omega) (by omega) (by rw[Io,List.length_singleton];omega) (fun a ha=>(List.mem_append.1 ha).elim (hk a) fun h=>by rw[List.mem_singleton.1 h];exact⟨kr,z1⟩)
   refine⟨x,i',h1,?_⟩;rw[←h2,Ka];have ea:=Apj A ⟨s1,K⟩;simp only at ea;have el:(A++[An.mk s1 K]).length=A.length+1:=by rw[Io];rfl
   rw[el];clear h2;generalize Dg (A++[_])=A2 at *
   try unfold Aa
   repeat first
    |((with_reducible first|apply Av|apply Ao|apply At|apply B4|apply Bg|apply Bc|apply Am|apply Au|apply Aw);· first|with_reducible rfl|(simp (disch:=omega) only[gT,n0,n1,pk,g1,c1,LA,tA,ea,wd]<;>first|with_reducible rfl|omega)|omega)
    |(with_reducible apply As;· first|with_reducible rfl|(simp (disch:=omega) only[gF,n0,n1,pk,g1,c1,LA,tA,ea,wd]<;>omega))
   try simp (disch:=omega) only[n0,n1,pk,g1,c1,LA,tA,ea,wd]
   all_goals rfl
theorem Ag2 (s:Sa)(E:List Me):Cm E++[.sc (.int .u64 1),.lst false 3 0 [],.lst false 2 1 [.sc (.int .i64 s.kd),.sc (.int .i64 s.at_)]]=Cm (E++[Me.mk 1 [] [s]]):=AF E (Me.mk 1 [] [s])
theorem Ax6 (Ca:2000<=fu)(hl:l.length<=maxLen){Al:Int}{ver iss nxt:Int}:∀(k nn:Nat)(v:Int)(i:Nat)(E:List Me),v<=k->k<nn->E.length+k<=3->(∀x∈E,x.few) ->
  ∃(m:Md) (j:Nat),m.plain∧IM fu d l Al nn v i ver iss nxt E.length (Cm E)=some ⟨[.agg m.cells],[dkc l j]⟩
 |_,0,_,_,_,_,h,_,_=>by omega
 |k,nn+1,v,i,E,hv,hn,hE,hk=>by
  have LE:=Og E;have tE:List.take (E.length*3) (Cm E)=Cm E:=L6 (by omega)
  by_cases h0:v>0
  ·obtain⟨k',rfl⟩:∃k',k=k'+1:=⟨k-1,by omega⟩
   obtain⟨u0,j0,u00,u01,n0⟩:=Ir hl i 2 (by omega) (by omega)
   obtain⟨u1,j1,u10,u11,n1⟩:=Ir hl j0 3 (by omega) (by omega)
   have n0:=n0 (fu:=fu) (d:=d+11);have n1:=n1 (fu:=fu) (d:=d+11);simp only[dkc] at n0 n1;have wd:wrap .i64 (v-1)=v-1:=Ap (by omega) (by omega)
   obtain⟨x,i',h1,h2⟩:=Ax0 (fu:=fu) (d:=d) Ca hl (Al:=Al) (m0:=nn) (v0:=v) (ver:=ver) (iss:=iss) (nxt:=nxt) (mo:=wrap .u64 (wrap .i64 (wrap .i64 ((E.length:Int)+1)+u0))) (Kh _) (E:=E) (by omega) 2 fu u1 j1 [] (by omega) (by omega) (by simp) (fun a ha=>by cases ha)
   obtain⟨m,j,m1,m2⟩:=Ax6 Ca hl (Al:=Al) (ver:=ver) (iss:=iss) (nxt:=nxt) k' nn (v-1) i' (E++[x]) (by omega) (by omega) (by rw[Io,List.length_singleton];omega) (fun y hy=>(List.mem_append.1 hy).elim (hk y) fun h=>by rw[List.mem_singleton.1 h];exact h1)
   refine⟨m,j,m1,?_⟩;rw[←m2];rw[wd] at h2;rw[←h2];unfold IM;rw[D2];clear h2 m2
   try unfold Aa
   repeat first
    |((with_reducible first|apply Av|apply Ao|apply At|apply B4|apply Bg|apply Bc|apply Am|apply Au|apply Aw);· first|with_reducible rfl|(simp (disch:=omega) only[gT,n0,n1]<;>first|with_reducible rfl|omega)|omega)
    |(with_reducible apply As;· first|with_reducible rfl|(simp (disch:=omega) only[gF,n0,n1]<;>omega))
   try simp (disch:=omega) only[n0,n1]
   all_goals rfl
  ·obtain⟨vs,j0,vs0,vs1,n0⟩:=Ir hl i 12 (by omega) (by omega)
   have n0:=n0 (fu:=fu) (d:=d+11);have h4:vs=11∨vs=10∨vs=9∨(vs≠11∧vs≠10∧vs≠9):=by omega
   unfold IM;rcases h4 with rfl|rfl|rfl|⟨m1,m2,m3⟩
   ·obtain⟨u1,j1,u10,u11,n1⟩:=Ir hl j0 3 (by omega) (by omega)
    have n1:=n1 (fu:=fu) (d:=d+11);simp only[dkc] at n0 n1;have c1:(decide ((0:Int)<=u1)&&decide (u1<3))=true:=by simp;omega
    obtain⟨w,g1⟩:∃w:Int,List.getD [PV.sc (Value.int IntKind.i64 (0:Int)),PV.sc (Value.int IntKind.i64 (17:Int)),PV.sc (Value.int IntKind.i64 (-1:Int))] ((0:Nat)+Int.toNat u1*(1:Nat)) PV.top=.sc (.int .i64 w):=by
     have:u1=0∨u1=1∨u1=2:=by omega
     rcases this with rfl|rfl|rfl
     ·exact⟨_,rfl⟩
     ·exact⟨_,rfl⟩
     ·exact⟨_,rfl⟩
    rw[Ch] at g1;refine⟨⟨w,iss,nxt,E,sg0⟩,j1,⟨hk,by simp only;omega,rfl⟩,?_⟩
    rw[D2,Ej _ _ _ h0,Fb (Ko:=by omega)]
    try unfold Aa
    repeat first
     |((with_reducible first|apply Av|apply Ao|apply At|apply B4|apply Bg|apply Bc|apply Am|apply Au|apply Aw);· first|with_reducible rfl|(simp (disch:=omega) only[gT,n0,n1,c1,g1,LE,tE,Ch,C8,Int.reduceBEq]<;>first|with_reducible rfl|omega)|omega)
     |(with_reducible apply As;· first|with_reducible rfl|(simp (disch:=omega) only[gF,n0,n1,c1,g1,LE,tE,Ch,C8,Int.reduceBEq]<;>omega))
    try simp (disch:=omega) only[n0,n1,c1,g1,LE,tE,Ch,C8,Int.reduceBEq]
    rw[Fe (Ko:=by omega)]
    try unfold Aa
    repeat first
     |((with_reducible first|apply Av|apply Ao|apply At|apply B4|apply Bg|apply Bc|apply Am|apply Au|apply Aw);· first|with_reducible rfl|(simp (disch:=omega) only[gT,n0,n1,c1,g1,LE,tE,Ch,C8,Int.reduceBEq]<;>first|with_reducible rfl|omega)|omega)
     |(with_reducible apply As;· first|with_reducible rfl|(simp (disch:=omega) only[gF,n0,n1,c1,g1,LE,tE,Ch,C8,Int.reduceBEq]<;>omega))
    try simp (disch:=omega) only[n0,n1,c1,g1,LE,tE,Ch,C8,Int.reduceBEq]
    all_goals rfl
   ·simp only[dkc] at n0;refine⟨⟨ver,iss,wrap .i64 (iss-1),E,sg0⟩,j0,⟨hk,by simp only;omega,rfl⟩,?_⟩
    rw[D2,Ej _ _ _ h0,Fb (Ko:=by omega)]
    try unfold Aa
    repeat first
     |((with_reducible first|apply Av|apply Ao|apply At|apply B4|apply Bg|apply Bc|apply Am|apply Au|apply Aw);· first|with_reducible rfl|(simp (disch:=omega) only[gT,n0,LE,tE,Ch,C8,Int.reduceBEq]<;>first|with_reducible rfl|omega)|omega)
     |(with_reducible apply As;· first|with_reducible rfl|(simp (disch:=omega) only[gF,n0,LE,tE,Ch,C8,Int.reduceBEq]<;>omega))
    try simp (disch:=omega) only[n0,LE,tE,Ch,C8,Int.reduceBEq]
    rw[Fe (Ko:=by omega)]
    try unfold Aa
    repeat first
     |((with_reducible first|apply Av|apply Ao|apply At|apply B4|apply Bg|apply Bc|apply Am|apply Au|apply Aw);· first|with_reducible rfl|(simp (disch:=omega) only[gT,n0,LE,tE,Ch,C8,Int.reduceBEq]<;>first|with_reducible rfl|omega)|omega)
     |(with_reducible apply As;· first|with_reducible rfl|(simp (disch:=omega) only[gF,n0,LE,tE,Ch,C8,Int.reduceBEq]<;>omega))
    try simp (disch:=omega) only[n0,LE,tE,Ch,C8,Int.reduceBEq]
    all_goals rfl
   ·obtain⟨u1,j1,u10,u11,n1⟩:=Ir hl j0 6 (by omega) (by omega)
    obtain⟨u2,j2,u20,u21,n2⟩:=Ir hl j1 2 (by omega) (by omega)
    have n1:=n1 (fu:=fu) (d:=d+11);have n2:=n2 (fu:=fu) (d:=d+11);simp only[dkc] at n0 n1 n2;refine⟨⟨ver,iss,nxt,E++[⟨1,[],[⟨u1,wrap .i64 (0-u2)⟩]⟩],sg0⟩,j2,⟨fun y hy=>(List.mem_append.1 hy).elim (hk y) fun h=>by rw[List.mem_singleton.1 h];exact⟨(show Uo 1 from ⟨by decide,by decide⟩),fun a ha=>(by cases ha),Nat.zero_le _,(show (1:Nat)<=3 by omega),fun a ha=>(by cases ha)⟩,by simp only[Io,List.length_singleton];omega,rfl⟩,?_⟩
    rw[D2,Ej _ _ _ h0,Fb (Ko:=by omega)]
    have ea:=Ag2 ⟨u1,wrap .i64 (0-u2)⟩ E;have LE2:=Og (E++[⟨1,[],[⟨u1,wrap .i64 (0-u2)⟩]⟩]);have el:(E++[Me.mk 1 [] [⟨u1,wrap .i64 (0-u2)⟩]]).length=E.length+1:=by rw[Io];rfl
    simp only[Md.cells];rw[el] at LE2 ⊢;have tE2:List.take ((E.length+1)*3) (Cm (E++[⟨1,[],[⟨u1,wrap .i64 (0-u2)⟩]⟩]))=Cm (E++[⟨1,[],[⟨u1,wrap .i64 (0-u2)⟩]⟩]):=L6 (by omega)
    simp only at ea;generalize Cm (E++[_])=E' at *
    try unfold Aa
    repeat first
     |((with_reducible first|apply Av|apply Ao|apply At|apply B4|apply Bg|apply Bc|apply Am|apply Au|apply Aw);· first|with_reducible rfl|(simp (disch:=omega) only[gT,n0,n1,n2,LE,tE,ea,LE2,tE2,Ch,C8,Int.reduceBEq]<;>first|with_reducible rfl|omega)|omega)
     |(with_reducible apply As;· first|with_reducible rfl|(simp (disch:=omega) only[gF,n0,n1,n2,LE,tE,ea,LE2,tE2,Ch,C8,Int.reduceBEq]<;>omega))
    try simp (disch:=omega) only[n0,n1,n2,LE,tE,ea,LE2,tE2,Ch,C8,Int.reduceBEq]
    rw[Fe (Ko:=by omega)]
    try unfold Aa
    repeat first
     |((with_reducible first|apply Av|apply Ao|apply At|apply B4|apply Bg|apply Bc|apply Am|apply Au|apply Aw);· first|with_reducible rfl|(simp (disch:=omega) only[gT,n0,n1,n2,LE,tE,ea,LE2,tE2,Ch,C8,Int.reduceBEq]<;>first|with_reducible rfl|omega)|omega)
     |(with_reducible apply As;· first|with_reducible rfl|(simp (disch:=omega) only[gF,n0,n1,n2,LE,tE,ea,LE2,tE2,Ch,C8,Int.reduceBEq]<;>omega))
    try simp (disch:=omega) only[n0,n1,n2,LE,tE,ea,LE2,tE2,Ch,C8,Int.reduceBEq]
    all_goals rfl
   ·have f1:(vs==11)=false:=by rw[beq_eq_false_iff_ne];exact m1
    have f2:(vs==10)=false:=by rw[beq_eq_false_iff_ne];exact m2
    have f3:(vs==9)=false:=by rw[beq_eq_false_iff_ne];exact m3
    simp only[dkc] at n0;refine⟨⟨ver,iss,nxt,E,sg0⟩,j0,⟨hk,by simp only;omega,rfl⟩,?_⟩
    rw[D2,Ej _ _ _ h0,Fb (Ko:=by omega)]
    try unfold Aa
    repeat first
     |((with_reducible first|apply Av|apply Ao|apply At|apply B4|apply Bg|apply Bc|apply Am|apply Au|apply Aw);· first|with_reducible rfl|(simp (disch:=omega) only[gT,n0,LE,tE,f1,f2,f3,Ch,C8]<;>first|with_reducible rfl|omega)|omega)
     |(with_reducible apply As;· first|with_reducible rfl|(simp (disch:=omega) only[gF,n0,LE,tE,f1,f2,f3,Ch,C8]<;>omega))
    try simp (disch:=omega) only[n0,LE,tE,f1,f2,f3,Ch,C8]
    rw[Fe (Ko:=by omega)]
    try unfold Aa
    repeat first
     |((with_reducible first|apply Av|apply Ao|apply At|apply B4|apply Bg|apply Bc|apply Am|apply Au|apply Aw);· first|with_reducible rfl|(simp (disch:=omega) only[gT,n0,LE,tE,f1,f2,f3,Ch,C8]<;>first|with_reducible rfl|omega)|omega)
     |(with_reducible apply As;· first|with_reducible rfl|(simp (disch:=omega) only[gF,n0,LE,tE,f1,f2,f3,Ch,C8]<;>omega))
    try simp (disch:=omega) only[n0,LE,tE,f1,f2,f3,Ch,C8]
    all_goals rfl
theorem Aoy (Ca:2000<=fu)(hl:l.length<=maxLen)(i:Nat):∃(m:Md)(j:Nat),m.plain ∧
  Ad C0 prog fu (d+14) Mi [.pbox (dkc l i)]=some ⟨[.agg m.cells],[dkc l j]⟩:=by
 obtain⟨v0,j0,v00,v01,n0⟩:=Ir hl i 16 (by omega) (by omega)
 obtain⟨v1,j1,v10,v11,n1⟩:=Ir hl j0 20 (by omega) (by omega)
 obtain⟨v2,j2,v20,v21,n2⟩:=Ir hl j1 100 (by omega) (by omega)
 obtain⟨v3,j3,v30,v31,n3⟩:=Ir hl j2 4 (by omega) (by omega)
 have n0:=n0 (fu:=fu) (d:=d+11);have n1:=n1 (fu:=fu) (d:=d+11);have n2:=n2 (fu:=fu) (d:=d+11);have n3:=n3 (fu:=fu) (d:=d+11);simp only[dkc] at n0 n1 n2 n3;obtain⟨m,j,m1,m2⟩:=Ax6 (fu:=fu) (d:=d) Ca hl (Al:=(i:Int)) (ver:=wrap .i64 (1+v0)) (iss:=v1) (nxt:=wrap .i64 (20+v2)) 3 fu v3 j3 [] (by omega) (by omega) (by simp) (fun y hy=>by cases hy)
 refine⟨m,j,m1,(Vp fu (d+13) l.length (Ah .i64 l) i).trans ?_⟩;rw[←m2];unfold IM;clear m2
 try unfold Aa
 repeat first
  |((with_reducible first|apply Av|apply Ao|apply At|apply B4|apply Bg|apply Bc|apply Am|apply Au|apply Aw);· first|with_reducible rfl|(simp (disch:=omega) only[gT,n0,n1,n2,n3]<;>first|with_reducible rfl|omega)|omega)
  |(with_reducible apply As;· first|with_reducible rfl|(simp (disch:=omega) only[gF,n0,n1,n2,n3]<;>omega))
 try simp (disch:=omega) only[n0,n1,n2,n3]
 all_goals rfl
end
end
section
open Go.Proofs.Tryz (prog)
open Go.IntKind (wrap)
set_option maxRecDepth 1000000
section
variable {fu d:Nat}
theorem Acj {call:Af}{Be Lx:Nat}{a0 a1:List PV}{l:List Int}(hl:l.length<=1000):∀(k i nn:Nat),i+k=l.length->k<nn ->
  F1 fu call Be a0 Lx a1 nn l.length (Ah .u64 l) l.length (Ah .u64 l) i=some ⟨[.sc (.bool true)],[]⟩
 |_,_,0,_,h=>by omega
 |0,i,nn+1,hi,hn=>by
  have e:i=l.length:=by omega
  subst e;rw[J5];simp (disch:=omega) only[Cu]
 |k+1,i,nn+1,hi,hn=>by
  have ih:=Acj (call:=call) (Be:=Be) (Lx:=Lx) (a0:=a0) (a1:=a1) hl k (i+1) nn (by omega) (by omega)
  obtain⟨x,hx⟩:∃x,l[i]?=some x:=⟨_,List.getElem?_eq_getElem (by omega)⟩
  have w:wrap .i64 ((i:Int)+1)=((i+1:Nat):Int):=by rw[Ap (by omega) (by omega)];omega
  have q:(x != x)=false:=bne_self_eq_false x;rw[J5];simp (disch:=omega) only[Cu,Kz,Dc,Ch,EU hx,q,w];exact ih
theorem Apd (Ca:2000<=fu){l:List Int}(hl:l.length<=1000):Ad C0 prog fu (d+1) Mn [.lst false 1 l.length (Ah .u64 l),.lst false 1 l.length (Ah .u64 l)]=some ⟨[.sc (.bool true)],[]⟩:=by
 refine (Vl fu d l.length (Ah .u64 l) l.length (Ah .u64 l)).trans ?_;have q:=Acj (fu:=fu) (call:=Ad C0 prog fu d) (Be:=l.length) (Lx:=l.length) (a0:=Ah .u64 l) (a1:=Ah .u64 l) hl l.length 0 fu (by omega) (by omega)
 have b:((l.length:Int) != (l.length:Int))=false:=bne_self_eq_false _;simp only[Cu,b];exact q
theorem Azk (Ca:2000<=fu){s:Sg}(h1:s.chains.length<=1000)(h2:s.path.length<=1000):Ad C0 prog fu (d+2) Jw [.agg s.cells,.agg s.cells]=some ⟨[.sc (.bool true)],[]⟩:=by
 refine (Qs fu (d+1) s.leaf s.chains.length (Ah .u64 s.chains) s.path.length (Ah .u64 s.path) s.leaf s.chains.length (Ah .u64 s.chains) s.path.length (Ah .u64 s.path)).trans ?_;have w1:=Apd (fu:=fu) (d:=d) Ca h1;have w2:=Apd (fu:=fu) (d:=d) Ca h2;have q1:(s.leaf==s.leaf)=true:=beq_self_eq_true _
 try unfold Aa
 repeat first
  |((with_reducible first|apply Av|apply Ao|apply At|apply A7|apply B4|apply Bg|apply Am|apply Au|apply Aw);· first|with_reducible rfl|(simp (disch:=omega) only[gT,q1,w1,w2]<;>first|with_reducible rfl|omega)|omega)
  |(with_reducible apply As;· first|with_reducible rfl|(simp (disch:=omega) only[gF,q1,w1,w2]<;>omega))
 try simp (disch:=omega) only[q1,w1,w2]
 all_goals rfl
theorem Aqd {call:Af}{Ak Cg:Int}{Cd Bp Hs Hr:Nat}{Al Bd Cf Cn:List PV}{x:Me}(hl:x.sts.length<=1000):∀(k i nn:Nat),i+k=x.sts.length->k<nn ->
  Fo fu call Ak Cd Al Bp Bd Cg Hs Cf Hr Cn nn (i:Int) x.model x.ans.length (Dg x.ans) x.sts.length (D0 x.sts) x.model x.ans.length (Dg x.ans) x.sts.length (D0 x.sts)=some ⟨[.sc (.bool true)],[]⟩
 |_,_,0,_,h=>by omega
 |0,i,nn+1,hi,hn=>by
  have e:i=x.sts.length:=by omega
  subst e;rw[Jn];simp (disch:=omega) only[Cu]
 |k+1,i,nn+1,hi,hn=>by
  have ih:=Aqd (call:=call) (Ak:=Ak) (Cg:=Cg) (Cd:=Cd) (Bp:=Bp) (Hs:=Hs) (Hr:=Hr) (Al:=Al) (Bd:=Bd) (Cf:=Cf) (Cn:=Cn) hl k (i+1) nn (by omega) (by omega)
  obtain⟨s,hx⟩:∃s,x.sts[i]?=some s:=⟨_,List.getElem?_eq_getElem (by omega)⟩
  obtain⟨g0,g1⟩:=saa hx;have w:wrap .i64 ((i:Int)+1)=((i+1:Nat):Int):=by rw[Ap (by omega) (by omega)];omega
  have q:∀x:Int,(x==x)=true:=fun x=>beq_self_eq_true x
  rw[Jn,←ih];simp (disch:=omega) only[Cu,Kz,g0,g1,q,w,Bool.and_true,Dz]
theorem An8 {call:Af}{Ak Cg:Int}{Cd Bp Hs Hr:Nat}{Al Bd Cf Cn:List PV}{x:Me}(Ca:2000<=fu)(hl:x.sts.length<=1000)(NQ:x.ans.length<=1000):∀(k i nn:Nat),i+k=x.ans.length->k<nn ->
  Fp fu call Ak Cd Al Bp Bd Cg Hs Cf Hr Cn nn (i:Int) x.model x.ans.length (Dg x.ans) x.sts.length (D0 x.sts) x.model x.ans.length (Dg x.ans) x.sts.length (D0 x.sts)=some ⟨[.sc (.bool true)],[]⟩
 |_,_,0,_,h=>by omega
 |0,i,nn+1,hi,hn=>by
  have e:i=x.ans.length:=by omega
  subst e;have l1:=Aqd (fu:=fu) (call:=call) (Ak:=Ak) (Cg:=Cg) (Cd:=Cd) (Bp:=Bp) (Hs:=Hs) (Hr:=Hr) (Al:=Al) (Bd:=Bd) (Cf:=Cf) (Cn:=Cn) hl x.sts.length 0 fu (by omega) (by omega)
  rw[Jo,←l1];simp (disch:=omega) only[Cu];rfl
 |k+1,i,nn+1,hi,hn=>by
  have ih:=An8 (call:=call) (Ak:=Ak) (Cg:=Cg) (Cd:=Cd) (Bp:=Bp) (Hs:=Hs) (Hr:=Hr) (Al:=Al) (Bd:=Bd) (Cf:=Cf) (Cn:=Cn) Ca hl NQ k (i+1) nn (by omega) (by omega)
  obtain⟨s,hx⟩:∃s,x.ans[i]?=some s:=⟨_,List.getElem?_eq_getElem (by omega)⟩
  obtain⟨g0,g1,g2⟩:=ana hx;have g2':(Dg x.ans).getD (i*3+1+1) .top=.sc (.int .u64 s.key.root):=g2;have w:wrap .i64 ((i:Int)+1)=((i+1:Nat):Int):=by rw[Ap (by omega) (by omega)];omega
  have q:∀x:Int,(x==x)=true:=fun x=>beq_self_eq_true x
  have qs:∀x:ByteArray,(x==x)=true:=fun x=>by
   rcases x with⟨x⟩;show (x==x)=true;exact beq_self_eq_true x
  rw[Jo,←ih];simp (disch:=omega) only[Cu,Kz,g0,g1,g2',q,qs,w,Bool.and_true,Dz]
theorem A0l (Ca:2000<=fu){x:Me}(hl:x.sts.length<=1000)(NQ:x.ans.length<=1000):Ad C0 prog fu (d+1) Lh [.agg x.cells,.agg x.cells]=some ⟨[.sc (.bool true)],[]⟩:=by
 refine (Ua fu d x.model x.ans.length (Dg x.ans) x.sts.length (D0 x.sts) x.model x.ans.length (Dg x.ans) x.sts.length (D0 x.sts)).trans ?_;have l0:=An8 (fu:=fu) (call:=Ad C0 prog fu d) (Ak:=x.model) (Cg:=x.model) (Cd:=x.ans.length) (Bp:=x.sts.length) (Hs:=x.ans.length) (Hr:=x.sts.length) (Al:=Dg x.ans) (Bd:=D0 x.sts) (Cf:=Dg x.ans) (Cn:=D0 x.sts) Ca hl NQ x.ans.length 0 fu (by omega) (by omega)
 have b:∀x:Int,(x != x)=false:=fun x=>bne_self_eq_false _
 simp only[Cu,b];exact l0
def Md.shrt (m:Md):Prop:=m.ents.length<=1000∧∀x∈m.ents,x.sts.length<=1000∧x.ans.length<=1000
theorem Apb {Be Lx:Nat}{a0 a1:List PV}{l:List Me}(Ca:2000<=fu)(hl:l.length<=1000)(hx:∀x∈l,x.sts.length<=1000∧x.ans.length<=1000):∀(k i nn:Nat),i+k=l.length->k<nn ->
  Es fu (Ad C0 prog fu (d+1)) Be a0 Lx a1 nn l.length (Cm l) l.length (Cm l) (i:Int)=some ⟨[.sc (.bool true)],[]⟩
 |_,_,0,_,h=>by omega
 |0,i,nn+1,hi,hn=>by
  have e:i=l.length:=by omega
  subst e;rw[Ip];simp (disch:=omega) only[Cu]
 |k+1,i,nn+1,hi,hn=>by
  have ih:=Apb (Be:=Be) (Lx:=Lx) (a0:=a0) (a1:=a1) Ca hl hx k (i+1) nn (by omega) (by omega)
  have hil:i<l.length:=by omega
  have hs:=List.getElem?_eq_getElem hil;have hm:=hx _ (List.getElem_mem hil);generalize l[i]=s at hs hm;obtain⟨g0,g1,g2⟩:=mea hs;have g2':(Cm l).getD (i*3+1+1) .top=.lst false 2 s.sts.length (D0 s.sts):=g2;have w:wrap .i64 ((i:Int)+1)=((i+1:Nat):Int):=by rw[Ap (by omega) (by omega)];omega
  have se:=A0l (fu:=fu) (d:=d) Ca hm.1 hm.2;simp only[Me.cells] at se;rw[Ip,←ih];simp (disch:=omega) only[Cu,Kz,g0,g1,g2',se,w,Bool.and_true,Dz]
theorem Ac5 (Ca:2000<=fu){m:Md}(hm:m.shrt)(h1:m.sig.chains.length<=1000)(h2:m.sig.path.length<=1000):Ad C0 prog fu (d+3) Mh [.agg m.cells,.agg m.cells]=some ⟨[.sc (.bool true)],[]⟩:=by
 refine (Va fu (d+2) m.ver m.iss m.nxt m.ents.length (Cm m.ents) m.sig.leaf m.sig.chains.length (Ah .u64 m.sig.chains) m.sig.path.length (Ah .u64 m.sig.path) m.ver m.iss m.nxt m.ents.length (Cm m.ents) m.sig.leaf m.sig.chains.length (Ah .u64 m.sig.chains) m.sig.path.length (Ah .u64 m.sig.path)).trans ?_
 have sl:Ad C0 prog fu (d+2) Kc [.lst false 3 m.ents.length (Cm m.ents),.lst false 3 m.ents.length (Cm m.ents)]=some ⟨[.sc (.bool true)],[]⟩:=by
  refine (Sm fu (d+1) m.ents.length (Cm m.ents) m.ents.length (Cm m.ents)).trans ?_;have l0:=Apb (fu:=fu) (d:=d) (Be:=m.ents.length) (Lx:=m.ents.length) (a0:=Cm m.ents) (a1:=Cm m.ents) Ca hm.1 hm.2 m.ents.length 0 fu (by omega) (by have:=hm.1;omega)
  have b:∀x:Int,(x != x)=false:=fun x=>bne_self_eq_false _
  simp only[Cu,b];exact l0
 have sg:=Azk (fu:=fu) (d:=d) Ca h1 h2;simp only[Sg.cells] at sg;have q:∀x:Int,(x==x)=true:=fun x=>beq_self_eq_true x
 try unfold Aa
 repeat first
  |((with_reducible first|apply Av|apply Ao|apply At|apply A7|apply B4|apply Bg|apply Am|apply Au|apply Aw);· first|with_reducible rfl|(simp (disch:=omega) only[gT,q,sl,sg]<;>first|with_reducible rfl|omega)|omega)
  |(with_reducible apply As;· first|with_reducible rfl|(simp (disch:=omega) only[gF,q,sl,sg]<;>omega))
 try simp (disch:=omega) only[q,sl,sg]
 all_goals rfl
theorem AA {b:List Int}(hb:Li b):(K9 b).1.shrt∧(K9 b).1.sig.chains.length<=1000∧(K9 b).1.sig.path.length<=1000:=by
 have z:TW.shrt∧TW.sig.chains.length<=1000∧TW.sig.path.length<=1000:=⟨⟨by decide,fun x hx=>by cases hx⟩,by decide,by decide⟩
 rcases Aad hb with⟨h1,h2,h3,h4,h5⟩|h|h
 ·obtain⟨e0,e1,e2,e3⟩:=Ja h3;obtain⟨_,_,_,_,_,m6,m7⟩:=Ms e0;have hp:=Kr (h:=(K9 b).1.sig.path.length) (by simpa using e1)
  exact⟨⟨by omega,fun x hx=>by have:=Rq (Oz m7 x hx);omega⟩,by omega,by omega⟩
 ·rw[h];exact z
 ·rw[h];exact z
end
end
section
open Go.Proofs.Tryz (prog)
open Go.IntKind (wrap)
set_option maxRecDepth 1000000
def XC (m:Md)(model now:Int):Int:=Hg now (match m.ents.find? fun x=>x.model==model with|some x=>x.sts.map fun s=>(s.kd,s.at_)|none=>[])
def Auz (x:Me):En:=⟨x.model,x.ans.length,Dg x.ans,x.sts.length,D0 x.sts⟩
theorem PF:∀{l:List Me},(∀x∈l,x.sts.length<=1000∧x.ans.length<=1000)->Wi (Cm l)=some (l.map Auz)
 |[],_=>rfl
 |x::l,h=>by
  have h0:=h x (by simp)
  have ih:=PF (l:=l) fun y hy=>h y (by simp[hy])
  have b:(Nat.beq (Dg x.ans).length (x.ans.length*3)&&Nat.beq (D0 x.sts).length (x.sts.length*2)&&Nat.ble x.ans.length 1000&&Nat.ble x.sts.length 1000)=true:=by
   rw[Q7,Z3];simp only[Nat.beq_refl,Bool.true_and,Bool.and_eq_true];exact⟨Nat.ble_eq_true_of_le h0.2,Nat.ble_eq_true_of_le h0.1⟩
  show Wi (.sc (.int .u64 x.model) :: .lst false 3 x.ans.length (Dg x.ans) :: .lst false 2 x.sts.length (D0 x.sts)::Cm l)=_;rw[Wi,b,cond_true,ih];rfl
theorem KR:∀(l:List Sa),Q1 (D0 l)=some (l.map fun s=>(s.kd,s.at_))
 |[]=>rfl
 |s::l=>by
  show Q1 (.sc (.int .i64 s.kd) :: .sc (.int .i64 s.at_)::D0 l)=_;rw[Q1,KR l];rfl
theorem Aes (model:Int):∀(l:List Me),Aih model (l.map Auz)=match l.find? fun x=>x.model==model with|some x=>D0 x.sts|none=>[]
 |[]=>rfl
 |x::l=>by
  have ih:=Aes model l;unfold Aih at ih ⊢;by_cases h:x.model=model
  ·rw[VN,List.find?_cons_of_pos (by simpa [Auz] using h),List.find?_cons_of_pos (by simpa using h)]
   rfl
  ·rw[VN,List.find?_cons_of_neg (by simpa [Auz] using h),List.find?_cons_of_neg (by simpa using h)]
   exact ih
theorem Amp (fu d:Nat)(args:List PV):Ad C0 prog fu (d+1) 29 args=Ajb args:=by kernel_rfl
section
variable {fu d:Nat}
theorem Aex {m:Md}(hm:m.shrt)(model now:Int):Ad C0 prog fu (d+1) 29 [.agg m.cells,.sc (.int .u64 model),.sc (.int .i64 now)]=some ⟨[.sc (.int .i64 (XC m model now))],[]⟩:=by
 rw[Amp]
 have b:(Nat.beq (Cm m.ents).length (m.ents.length*3)&&Nat.ble m.ents.length 1000)=true:=by
  rw[Og];simp only[Nat.beq_refl,Bool.true_and];exact Nat.ble_eq_true_of_le hm.1
 show (bif (Nat.beq (Cm m.ents).length (m.ents.length*3)&&Nat.ble m.ents.length 1000) then _ else none)=_;rw[b,cond_true,PF hm.2];simp only;rw[Aes];unfold XC;cases m.ents.find? fun x=>x.model==model with
 |none=>rfl
 |some x=>
  simp only;rw[KR]
end
structure CZ (m:Md) (seed h:Int):Prop where
 ok:m.ok
 err:Ea m=0
 ver:Aeu m (Vh seed h)=0
 path:(m.sig.path.length:Int)=h
 leaf:m.sig.leaf=m.ver-1
theorem WB {m:Md}(hm:m.ok){seed h:Int}(he:Cb m=0)(hh:Ex h=false)(ho:Qq (m.ver-1) h=false):∃s,V1 m seed h=({ m with sig:=s },0)∧CZ { m with sig:=s } seed h:=by
 obtain⟨s,e,k1,k2,k3,k4,k5⟩:=At3 (seed:=seed) (m:=CG m) hh ho;refine⟨s,?_,?_⟩
 ·unfold V1;rw[C5 he,e]
 ·have Rc:Cb { m with sig:=s }=0:=he;refine⟨⟨hm.ent,k1⟩,?_,?_,k4,k2⟩
  ·unfold Ea;rw[Rc,C5 rfl];show QP s=0;unfold QP;rw[k4,k2,hh,ho,k3];rfl
  ·unfold Aeu;rw[Rc,C5 rfl,Bn (by simp only[ne_eq,Decidable.not_not];exact k2)]
   exact k5
theorem CZ.wf {m:Md}{seed h:Int}(hs:CZ m seed h):m.wf:=hs.ok.wf
theorem CZ.sizes {m:Md}{seed h:Int}(hs:CZ m seed h)(h4:h<=4):m.shrt∧m.sig.chains.length<=1000∧m.sig.path.length<=1000:=by
 obtain⟨e0,e1,e2,e3⟩:=Ja hs.err;obtain⟨_,_,_,_,_,m6,m7⟩:=Ms e0;have:=hs.path;exact⟨⟨by omega,fun x hx=>by have:=Rq (Oz m7 x hx);omega⟩,by omega,by omega⟩
theorem Adm {m:Md}(hw:m.wf)(h:Ea m=0)(hf:(Bf m).length<=90):(Gn m).length<=4096:=by
 obtain⟨h0,h1,h2,h3⟩:=Ja h;obtain⟨_,f,_⟩:=Yn hw h0;have:=f.len;have hp:=Kr (h:=m.sig.path.length) (by simpa using h1)
 unfold Gn;rw[Io,Awl];omega
theorem As6 {m:Md}(hw:m.wf)(h:Ea m=0):Li (Gn m):=fun y hy=>(List.mem_append.1 hy).elim (ZR hw (Ja h).1 y) (Ayi m.sig y)
def mA0:Md:=⟨2,1,9,[⟨4,[],[⟨1,0⟩,⟨4,50⟩]⟩],sg0⟩
theorem Aoj:mA0.ok:=⟨fun x hx=>by
 rw[List.mem_singleton.1 hx];exact⟨⟨by decide,by decide⟩,fun a ha=>by cases ha⟩,⟨fun x hx=>(by cases hx),fun x hx=>(by cases hx)⟩⟩
theorem Avf:Cb mA0=0:=by decide
section
variable {fu d:Nat}
abbrev mC (v i x:Int)(n:Nat)(c:List PV):List PV:=[.sc (.int .i64 v),.sc (.int .i64 i),.sc (.int .i64 x),.lst false 3 n c,.sc (.int .i64 0),.lst false 1 0 [],.lst false 1 0 []]
theorem Akv (Ca:20000<=fu):Ad C0 prog fu (d+14) Pd []=some ⟨[.sc (.bool true)],[]⟩:=by
 rw[Zh]
 have hM:∃M,V1 mA0 7 2=(M,0)∧CZ M 7 2∧M.ver=2∧M.iss=1∧M.nxt=9∧M.ents=[⟨4,[],[⟨1,0⟩,⟨4,50⟩]⟩]∧(Bf M).length<=90∧M.sig.leaf=1:=by
  obtain⟨s,hs,hg⟩:=WB Aoj (seed:=7) (h:=2) Avf (by decide) (by decide)
  exact⟨_,hs,hg,rfl,rfl,rfl,rfl,(show (15:Nat)<=90 by omega),hg.leaf⟩
 obtain⟨M,hs,hg,m1,m2,m3,m4,m5,lf⟩:=hM;have k7:=Ap7 (fu:=fu) (d:=d) (by omega) 7 2
 have sg:Ad C0 prog fu (d+13) P7 [.agg (mC 2 1 9 1 [.sc (.int .u64 4),.lst false 3 0 [],.lst false 2 2 [.sc (.int .i64 1),.sc (.int .i64 0),.sc (.int .i64 4),.sc (.int .i64 50)]]),.sc (.int .u64 7),.sc (.int .i64 2)]=some ⟨[.agg M.cells,.sc (.int .i64 0)],[]⟩:=by
  have:=Aef (fu:=fu) (d:=d+2) (m:=mA0) Ca Aoj.wf 7 2;rw[hs] at this;exact this
 obtain⟨z1,z2,z3⟩:=hg.sizes (by omega)
 have en:=HI (fu:=fu) (d:=d+3) (m:=M) Ca hg.wf (by omega) (by omega)
 unfold Ws at en;rw[hg.err,C5 rfl] at en;have le:(Gn M).length<=4096:=Adm hg.wf hg.err m5;have hb:=As6 hg.wf hg.err;have dh:=GX hg.ok hg.err le
 have a1:Ad C0 prog fu (d+13) Jv [.agg (mC 1 0 0 0 []),.lst false 1 (Gn M).length (Ah .u8 (Gn M)),.agg (Vh 7 2).cells,.sc (.int .i64 5)]=some ⟨[.agg M.cells,.sc (.int .i64 0)],[]⟩:=by
  have:=Adg (fu:=fu) (d:=d+1) Ca hb (by omega) ⟨1,0,0,[],sg0⟩ (Vh 7 2) 5
  have e1:Ah4 ⟨1,0,0,[],sg0⟩ (Gn M) (Vh 7 2) 5=(M,0):=by
   unfold Ah4;rw[Bn (by omega),dh,Bn (by simp),Bn (by rw[m1];show ¬(2:Int)<=1;omega),Bn (by rw[hg.ver];simp),Bn (by rw[m2,m3];omega)]
  rw[e1] at this;exact this
 have a2:Ad C0 prog fu (d+13) Jv [.agg M.cells,.lst false 1 (Gn M).length (Ah .u8 (Gn M)),.agg (Vh 7 2).cells,.sc (.int .i64 5)]=some ⟨[.agg (mC 0 0 0 0 []),.sc (.int .i64 7)],[]⟩:=by
  have:=Adg (fu:=fu) (d:=d+1) Ca hb (by omega) M (Vh 7 2) 5
  have e2:Ah4 M (Gn M) (Vh 7 2) 5=(TW,7):=by
   unfold Ah4;rw[Bn (by omega),dh,Bn (by simp),C5 (Int.le_refl _)]
  rw[e2] at this;exact this
 have sm:=Ac5 (fu:=fu) (d:=d+10) (m:=M) (by omega) z1 z2 z3
 have s1:=Aex (fu:=fu) (d:=d+12) (m:=M) z1 4 49;have s2:=Aex (fu:=fu) (d:=d+12) (m:=M) z1 4 50;have v1:XC M 4 49=1:=by unfold XC;rw[m4];rfl
 have v2:XC M 4 50=4:=by unfold XC;rw[m4];rfl
 rw[v1] at s1;rw[v2] at s2;have L:=Ay .u8 (Gn M);have t:=Mt .u8 (Gn M);generalize Gn M=E at *
 generalize Vh 7 2=K at *
 simp only[Md.cells,Ky.cells,lf] at k7 sg en a1 a2 sm s1 s2;clear hs hg dh v1 v2
 try unfold Aa
 repeat first
  |((with_reducible first|apply Av|apply Ao|apply At|apply A7|apply Bo|apply Bg|apply Bc|apply Am|apply Au|apply Aw);· first|with_reducible rfl|(simp (disch:=omega) only[gT,k7,sg,en,Dc,Ch,C8,L,t,a1,a2,sm,s1,s2,Int.reduceBEq]<;>first|with_reducible rfl|omega)|omega)
  |(with_reducible apply As;· first|with_reducible rfl|(simp (disch:=omega) only[gF,k7,sg,en,Dc,Ch,C8,L,t,a1,a2,sm,s1,s2,Int.reduceBEq]<;>omega))
 try simp (disch:=omega) only[k7,sg,en,Dc,Ch,C8,L,t,a1,a2,sm,s1,s2,Int.reduceBEq]
 all_goals rfl
end
end
section
open Go.Proofs.Tryz (prog)
open Go.IntKind (wrap)
set_option maxRecDepth 100000
abbrev Jy:FuncId:=6
noncomputable def I8 (fu:Nat)(call:Af)(Be:Nat)(a0:List PV)(Lx:Nat)(a1:List PV)(nn y0:Nat)(y1:List PV)(y2 y3:Int)(y4 y5:Int)(y6:Nat)(y7:List PV)(y8:Int)(y9:Nat)(y10:List PV)(Fq:Nat)(Gc:List PV):Option A5:=Dh CB prog fu call 6 Tryz.f6 (B7 Tryz.f6) [.lst false 1 Be a0,.lst false 1 Lx a1] [.r,.r] nn ⟨lk [(0,(.lst false 1 y0 y1)),(5,(.ptr 5 0)),(6,(.sc (.int .i64 y2)))],Bu [(5,(.st [(.sc (.int .i64 y3)),(.sc (.int .i64 y4)),(.sc (.int .i64 y5)),(.lst false 3 y6 y7),(.sc (.int .i64 y8)),(.lst false 1 y9 y10),(.lst false 1 Fq Gc)]))]⟩
noncomputable def Ge (fu:Nat)(call:Af)(Be:Nat)(a0:List PV)(Lx:Nat)(a1:List PV)(nn y0:Nat)(y1:List PV):Option A5:=Dh CB prog fu call 6 Tryz.f6 (B7 Tryz.f6) [.lst false 1 Be a0,.lst false 1 Lx a1] [.r,.r,.r] nn ⟨lk [(0,(.lst false 1 y0 y1))],Bu []⟩
theorem Cs (fu:Nat)(call:Af)(Be:Nat)(a0:List PV)(Lx:Nat)(a1:List PV)(nn:Nat)(Ko:0<nn)(y0:Nat)(y1:List PV)(y2 y3:Int)(y4 y5:Int)(y6:Nat)(y7:List PV)(y8:Int)(y9:Nat)(y10:List PV)(Fq:Nat)(Gc:List PV):I8 fu call Be a0 Lx a1 nn y0 y1 y2 y3 y4 y5 y6 y7 y8 y9 y10 Fq Gc=(Bk (y2==0) (Aj (call 25 [.agg [.sc (.int .i64 y3),.sc (.int .i64 y4),.sc (.int .i64 y5),.lst false 3 y6 y7,.sc (.int .i64 y8),.lst false 1 y9 y10,.lst false 1 Fq Gc]]) fun x96 UA=>Ac UA<|Ab x96 fun OQ x99=>Gw 1 OQ fun V2 Xs=>Ab x99 fun Jh Mx=>Ae .i64 Jh fun X1=>Ac Mx<|Ar (decide (0+V2*1<=Xs.length))<|Aj (call 26 [.lst false 1 V2 (List.take (V2*1) (List.drop 0 Xs))]) fun Uy Vq=>Ac Vq<|Ab Uy fun Pa DK=>Ft Pa fun HC=>Ab HC fun JS ID=>Ae .i64 JS fun Lf=>Ab ID fun P5 NW=>Ae .i64 P5 fun IX=>Ab NW fun GQ MY=>Ae .i64 GQ fun KJ=>Ab MY fun JN MT=>Em 3 JN fun JO GJ KH=>Ab MT fun JG IQ=>Ae .i64 JG fun Xu=>Ab IQ fun EC OD=>Em 1 EC fun NF Zi QE=>Ab OD fun NC QY=>Em 1 NC fun VD QX NG=>Ac QY<|Ab DK fun UQ UG=>Ae .i64 UQ fun SB=>Ac UG<|Bk (X1 != 0) (some (A5.mk [.sc (.bool false)] [])) (Bk (SB != 0) (some (A5.mk [.sc (.bool false)] [])) (Aj (call 18 [.agg [.sc (.int .i64 y3),.sc (.int .i64 y4),.sc (.int .i64 y5),.lst false 3 y6 y7,.sc (.int .i64 y8),.lst false 1 y9 y10,.lst false 1 Fq Gc],.agg [.sc (.int .i64 Lf),.sc (.int .i64 IX),.sc (.int .i64 KJ),.lst false 3 GJ KH,.sc (.int .i64 Xu),.lst false 1 Zi QE,.lst false 1 QX NG]]) fun SD RI=>Ac RI<|Ab SD fun RN QR=>Bv RN fun JT=>Ac QR<|Bk (!JT) (some (A5.mk [.sc (.bool false)] [])) (Aj (call 17 [.sc (.int .u64 5),.sc (.int .i64 4)]) fun ND RA=>Ac RA<|Ab ND fun PD RQ=>Ft PD fun Abf=>Ab Abf fun Aba Aa1=>Ae .i64 Aba fun Abe=>Ab Aa1 fun Aho Aly=>Ae .u64 Aho fun Aha=>Ac Aly<|Ac RQ<|Aj (call 19 [.agg [.sc (.int .i64 Lf),.sc (.int .i64 IX),.sc (.int .i64 KJ),.lst false 3 GJ KH,.sc (.int .i64 Xu),.lst false 1 Zi QE,.lst false 1 QX NG],.agg [.sc (.int .i64 Abe),.sc (.int .u64 Aha)]]) fun Ag6 Ac8=>Ac Ac8<|Ab Ag6 fun Aht Aie=>Ae .i64 Aht fun Ahl=>Ac Aie<|Bk (Ahl != 0) (some (A5.mk [.sc (.bool false)] [])) (Ge fu call Be a0 Lx a1 (fu) (y0) (y1)))))) (Ge fu call Be a0 Lx a1 (fu) (y0) (y1))):=by cases nn with|zero=>exact absurd Ko (Nat.lt_irrefl 0)|succ nn=>kernel_rfl
theorem Cr (fu:Nat)(call:Af)(Be:Nat)(a0:List PV)(Lx:Nat)(a1:List PV)(nn:Nat)(Ko:0<nn)(y0:Nat)(y1:List PV):Ge fu call Be a0 Lx a1 nn y0 y1=(Aj (call 26 [.lst false 1 y0 y1]) fun Ag5 Ahm=>Ac Ahm<|Ab Ag5 fun Aml TH=>Ft Aml fun Adi=>Ab Adi fun Af3 Agd=>Ae .i64 Af3 fun Ako=>Ab Agd fun Am2 UY=>Ae .i64 Am2 fun UE=>Ab UY fun Agx Ahk=>Ae .i64 Agx fun UZ=>Ab Ahk fun ZJ Abz=>Em 3 ZJ fun Ald Af6 ZG=>Ab Abz fun Aq6 Ap4=>Ae .i64 Aq6 fun Aq3=>Ab Ap4 fun Auo Av4=>Em 1 Auo fun Av0 Are Apy=>Ab Av4 fun Asj Apf=>Em 1 Asj fun Avj Ao2 Aoq=>Ac Apf<|Ab TH fun Aor Asx=>Ae .i64 Aor fun Apx=>Ac Asx<|Bk (Apx != 0) (Aj (call 9 []) fun As1 Apl=>Ac Apl<|Ab As1 fun Asr Aue=>Bv Asr fun Art=>Ac Aue<|some (A5.mk [.sc (.bool Art)] [])) (Aj (call 25 [.agg [.sc (.int .i64 Ako),.sc (.int .i64 UE),.sc (.int .i64 UZ),.lst false 3 Af6 ZG,.sc (.int .i64 Aq3),.lst false 1 Are Apy,.lst false 1 Ao2 Aoq]]) fun Att Asf=>Ac Asf<|Ab Att fun Ary Apw=>Gw 1 Ary fun Afj Ag3=>Ab Apw fun Ar5 Api=>Ae .i64 Ar5 fun A0h=>Ac Api<|Bk (A0h==0) (Ar (decide (0+Afj*1<=Ag3.length))<|Ar (decide (List.length (List.take (Afj*1) (List.drop 0 Ag3))=Afj))<|F7 (bytesOf (List.take (Afj*1) (List.drop 0 Ag3))) fun A1y=>Ar (decide (y1.length=y0))<|F7 (bytesOf y1) fun Azs=>Bk (Array.toList (ByteArray.data (ByteArray.mk (List.toArray A1y)))==Array.toList (ByteArray.data (ByteArray.mk (List.toArray Azs)))) (Aj (call 9 []) fun Azh A0z=>Ac A0z<|Ab Azh fun A1j Azo=>Bv A1j fun A4z=>Ac Azo<|some (A5.mk [.sc (.bool A4z)] [])) (some (A5.mk [.sc (.bool false)] []))) (some (A5.mk [.sc (.bool false)] [])))):=by cases nn with|zero=>exact absurd Ko (Nat.lt_irrefl 0)|succ nn=>kernel_rfl
theorem Qu (fu d Be:Nat)(a0:List PV)(Lx:Nat)(a1:List PV):Ad C0 prog fu (d+1) Jy [.lst false 1 Be a0,.lst false 1 Lx a1]=(fun (call:Af)=>Bk (decide ((↑Be:Int)>5000)) (Aj (call 9 []) fun x1 x2=>Ac x2<|Ab x1 fun x3 x4=>Bv x3 fun x5=>Ac x4<|some (A5.mk [.sc (.bool x5)] [])) (Aj (call 10 [.lst false 1 Lx a1]) fun x6 x7=>Ac x7<|Ab x6 fun x8 x9=>BX x8 fun C7=>Ab C7 fun Dm Eh=>Em 1 Dm fun E6 D8 Ez=>Ab Eh fun Fu Gt=>Ae .i64 Fu fun G7=>Ac Gt<|Ac x9<|Aj (call 11 [.pbox [.lst false 1 D8 Ez,.sc (.int .i64 G7)]]) fun Gj Gx=>Ab Gj fun Ju H3=>Ft Ju fun Jd=>Ab Jd fun Fn Ev=>Ae .i64 Fn fun Hz=>Ab Ev fun J3 Gy=>Ae .i64 J3 fun O4=>Ab Gy fun Nu K7=>Ae .i64 Nu fun M4=>Ab K7 fun Oh P1=>Em 3 Oh fun Py Q9 Um=>Ab P1 fun Ii Lq=>Ae .i64 Ii fun Sr=>Ab Lq fun Xv Ss=>Em 1 Xv fun Zu Y5 Xw=>Ab Ss fun Xe Xx=>Em 1 Xe fun X9 X8 AW=>Ac Xx<|Ac H3<|Ab Gx fun Yu X7=>Ab Yu fun BF DR=>Em 1 BF fun EL BO DV=>Ab DR fun Yy EW=>Ae .i64 Yy fun AM=>Ac EW<|Ac X7<|Aj (call 16 [.agg [.sc (.int .i64 Hz),.sc (.int .i64 O4),.sc (.int .i64 M4),.lst false 3 Q9 Um,.sc (.int .i64 Sr),.lst false 1 Y5 Xw,.lst false 1 X8 AW],.sc (.int .u64 5),.sc (.int .i64 4)]) fun BB DI=>Ac DI<|Ab BB fun BJ Zw=>Ft BJ fun Ya=>Ab Ya fun Xg BS=>Ae .i64 Xg fun ET=>Ab BS fun CH CN=>Ae .i64 CH fun CF=>Ab CN fun CO FJ=>Ae .i64 CO fun Z9=>Ab FJ fun HN LC=>Em 3 HN fun EG JX OB=>Ab LC fun NB NK=>Ae .i64 NB fun QN=>Ab NK fun ZP UB=>Em 1 ZP fun x85 VR VO=>Ab UB fun UM MA=>Em 1 UM fun YS UP x92=>Ac MA<|Ab Zw fun x93 x94=>Ae .i64 x93 fun x95=>Ac x94<|I8 fu call Be a0 Lx a1 (fu) (Be) (a0) x95 ET CF Z9 JX OB QN VR VO UP x92)) (Ad C0 prog fu d):=by kernel_rfl
end
section
open Go.IntKind (wrap)
set_option maxRecDepth 1000000
theorem Md.plain.ok {m:Md}(h:m.plain):m.ok:=⟨fun x hx=>⟨(h.ent x hx).model,(h.ent x hx).rts⟩,by rw[h.sg];exact⟨fun x hx=>(by cases hx),fun x hx=>(by cases hx)⟩⟩
theorem Md.plain.shrt {m:Md}(h:m.plain):m.shrt:=⟨by have:=h.len;omega,fun x hx=>by have:=h.ent x hx;have:=this.ans;have:=(h.ent x hx).sts;omega⟩
end
section
open Go.Proofs.Tryz (prog)
open Go.IntKind (wrap)
set_option maxRecDepth 1000000
theorem Ap6 {v:Int}(h1:1<=v)(h2:v<=16):Qq (v-1) 4=false:=by
 have:v=1∨v=2∨v=3∨v=4∨v=5∨v=6∨v=7∨v=8∨v=9∨v=10∨v=11∨v=12∨v=13∨v=14∨v=15∨v=16:=by omega
 rcases this with rfl|rfl|rfl|rfl|rfl|rfl|rfl|rfl|rfl|rfl|rfl|rfl|rfl|rfl|rfl|rfl<;>rfl
theorem Asq {m:Md}(hm:m.ok)(seed:Int):((V1 m seed 4).2=0∧CZ (V1 m seed 4).1 seed 4∧(V1 m seed 4).1.ents=m.ents)∨(V1 m seed 4).2≠0:=by
 by_cases he:Cb m=0
 ·obtain⟨h1,h2,_⟩:=Ms he;obtain⟨s,hs,hg⟩:=WB hm (seed:=seed) (h:=4) he (by decide) (Ap6 h1 h2)
  rw[hs];exact .inl ⟨rfl,hg,rfl⟩
 ·right;unfold V1;rw[Bn he];exact he
theorem To {α:Type}{f:α->List It}{k:Nat}:∀{l:List α},(∀x∈l,(f x).length<=k)->(l.map f).flatten.length<=l.length*k
 |[],_=>by simp
 |x::l,h=>by
  have h1:=h x (by simp)
  have h2:=To (l:=l) (fun y hy=>h y (by simp[hy]))
  rw[VN,List.flatten_cons,Io,Ik,Nat.succ_mul];omega
theorem Al2 {x:Me}(h1:x.ans.length<=2)(h2:x.sts.length<=3):(Ba x).length<=19:=by
 have a:=To (f:=C9) (k:=3) (l:=x.ans) (fun y _=>Nat.le_of_eq (Mm y))
 have s:=To (f:=Di) (k:=3) (l:=x.sts) (fun y _=>Nat.le_of_eq (Rb y))
 simp only[Ba,Xh,Do,List.flatten_cons,List.flatten_nil,List.append_nil,Ik,Io,List.length_singleton,Zx];omega
theorem Au3 {m x:Md}(hx:x.plain)(hE:m.ents=x.ents):(Bf m).length<=90:=by
 have a:=To (f:=Ba) (k:=19) (l:=m.ents) (fun y hy=>by rw[hE] at hy;have:=hx.ent y hy;exact Al2 this.ans this.sts)
 have l:m.ents.length<=4:=by rw[hE];exact hx.len
 simp only[Bf,P3,Do,List.flatten_cons,List.flatten_nil,List.append_nil,Ik,Io,List.length_singleton,Zx];omega
set_option maxHeartbeats 4000000 in
theorem metadataBack_plain (qs:List PV)(h:Bw (WTv prog) [47,28] qs):∃fu d,Ad C0 prog fu d Jy qs=some ⟨[.sc (.bool true)],[]⟩:=by
 obtain⟨q0,_,rfl,h0,g⟩:=h.cons_inv;obtain⟨q1,_,rfl,h1,g⟩:=g.cons_inv;obtain rfl:=g.nil_inv;clear h g;obtain⟨b,rfl,DP,hbw⟩:=Adn (k:=.u8) (e:=5) (by kernel_rfl) (by kernel_rfl) (by kernel_rfl) (by kernel_rfl) h0
 have hb:Li b:=fun x hx=>A4w (hbw x hx)
 obtain⟨l,rfl,hl,_⟩:=Adn (k:=.i64) (e:=3) (by kernel_rfl) (by kernel_rfl) (by kernel_rfl) (by kernel_rfl) h1
 clear h0 h1;refine⟨20000,20,?_⟩;refine (Qu 20000 19 b.length (Ah .u8 b) l.length (Ah .i64 l)).trans ?_;have aw:=Akv (fu:=20000) (d:=5) (by omega)
 by_cases h6:(b.length:Int)>5000
 ·have hd:decide ((b.length:Int)>5000)=true:=by simp[h6]
  try unfold Aa
  repeat first
   |((with_reducible first|apply Av|apply Ao|apply At|apply A7|apply Bo|apply Bg|apply Bc|apply Gr|apply He|apply Am|apply Au|apply Aw);· first|with_reducible rfl|(simp (disch:=omega) only[gT,hd,aw]<;>first|with_reducible rfl|omega)|omega)
   |(with_reducible apply As;· first|with_reducible rfl|(simp (disch:=omega) only[gF,hd,aw]<;>omega))
  try simp (disch:=omega) only[hd,aw]
  all_goals rfl
 have hd:decide ((b.length:Int)>5000)=false:=by simp[h6]
 have nq:=Azr (fu:=20000) (d:=18) (l:=l);obtain⟨x,j,hx,xe⟩:=Aoy (fu:=20000) (d:=5) (by omega) hl 0
 have sg:=Aef (fu:=20000) (d:=8) (m:=x) (by omega) hx.ok.wf 5 4
 have st:=Asq hx.ok 5;have e00:((0:Int) != 0)=false:=rfl;have z0:((0:Nat):Int)=0:=rfl;have db:=SO (fu:=20000) (d:=8) (by omega) hb (by omega)
 have dk:=Aad hb;have Lb:=Ay .u8 b;have ob:=J4 b;have q0:∀l:List UInt8,(l==l)=true:=fun l=>beq_self_eq_true l
 generalize (V1 x 5 4).2=er at *
 generalize hy:(V1 x 5 4).1=y at *
 simp only[Md.cells,dkc] at nq xe sg;rw[z0] at nq xe;rcases st with⟨rfl,hg,hE⟩|he
 rotate_left
 ·have Rc:(er==0)=false:=by simp[he]
  rcases dk with⟨k1,k2,k3,k4,k5⟩|hk|hk
  ·have ee:=HI (fu:=20000) (d:=9) (m:=(K9 b).1) (by omega) k2.wf (by have:=(AA hb).2.2;omega) (by have:=(AA hb).2.2;omega)
   unfold Ws at ee;rw[k3,C5 rfl,k4] at ee;rw[k1] at db;generalize (K9 b).1=z at *
   simp only[Md.cells] at db ee
   try unfold Aa
   repeat first
    |((with_reducible first|apply Av|apply Ao|apply At|apply A7|apply Bo|apply Bg|apply Bc|apply Gr|apply He|apply Am|apply Au|apply Aw);· first|with_reducible rfl|(simp (disch:=omega) only[gT,hd,nq,xe,sg,Rc,db,e00,ee,Lb,ob,q0,aw,Dc,Ch,C8,Mt .u8 b]<;>first|with_reducible rfl|omega)|omega)
    |(with_reducible apply As;· first|with_reducible rfl|(simp (disch:=omega) only[gF,hd,nq,xe,sg,Rc,db,e00,ee,Lb,ob,q0,aw,Dc,Ch,C8,Mt .u8 b]<;>omega))
   try simp (disch:=omega) only[hd,nq,xe,sg,Rc,db,e00,ee,Lb,ob,q0,aw,Dc,Ch,C8,Mt .u8 b]
   rw[Cs (Ko:=by omega)]
   try unfold Aa
   repeat first
    |((with_reducible first|apply Av|apply Ao|apply At|apply A7|apply Bo|apply Bg|apply Bc|apply Gr|apply He|apply Am|apply Au|apply Aw);· first|with_reducible rfl|(simp (disch:=omega) only[gT,hd,nq,xe,sg,Rc,db,e00,ee,Lb,ob,q0,aw,Dc,Ch,C8,Mt .u8 b]<;>first|with_reducible rfl|omega)|omega)
    |(with_reducible apply As;· first|with_reducible rfl|(simp (disch:=omega) only[gF,hd,nq,xe,sg,Rc,db,e00,ee,Lb,ob,q0,aw,Dc,Ch,C8,Mt .u8 b]<;>omega))
   try simp (disch:=omega) only[hd,nq,xe,sg,Rc,db,e00,ee,Lb,ob,q0,aw,Dc,Ch,C8,Mt .u8 b]
   rw[Cr (Ko:=by omega)]
   try unfold Aa
   repeat first
    |((with_reducible first|apply Av|apply Ao|apply At|apply A7|apply Bo|apply Bg|apply Bc|apply Gr|apply He|apply Am|apply Au|apply Aw);· first|with_reducible rfl|(simp (disch:=omega) only[gT,hd,nq,xe,sg,Rc,db,e00,ee,Lb,ob,q0,aw,Dc,Ch,C8,Mt .u8 b]<;>first|with_reducible rfl|omega)|omega)
    |(with_reducible apply As;· first|with_reducible rfl|(simp (disch:=omega) only[gF,hd,nq,xe,sg,Rc,db,e00,ee,Lb,ob,q0,aw,Dc,Ch,C8,Mt .u8 b]<;>omega))
   try simp (disch:=omega) only[hd,nq,xe,sg,Rc,db,e00,ee,Lb,ob,q0,aw,Dc,Ch,C8,Mt .u8 b]
   all_goals rfl
  ·rw[hk] at db;simp only[Md.cells] at db
   try unfold Aa
   repeat first
    |((with_reducible first|apply Av|apply Ao|apply At|apply A7|apply Bo|apply Bg|apply Bc|apply Gr|apply He|apply Am|apply Au|apply Aw);· first|with_reducible rfl|(simp (disch:=omega) only[gT,hd,nq,xe,sg,Rc,db,aw]<;>first|with_reducible rfl|omega)|omega)
    |(with_reducible apply As;· first|with_reducible rfl|(simp (disch:=omega) only[gF,hd,nq,xe,sg,Rc,db,aw]<;>omega))
   try simp (disch:=omega) only[hd,nq,xe,sg,Rc,db,aw]
   rw[Cs (Ko:=by omega)]
   try unfold Aa
   repeat first
    |((with_reducible first|apply Av|apply Ao|apply At|apply A7|apply Bo|apply Bg|apply Bc|apply Gr|apply He|apply Am|apply Au|apply Aw);· first|with_reducible rfl|(simp (disch:=omega) only[gT,hd,nq,xe,sg,Rc,db,aw]<;>first|with_reducible rfl|omega)|omega)
    |(with_reducible apply As;· first|with_reducible rfl|(simp (disch:=omega) only[gF,hd,nq,xe,sg,Rc,db,aw]<;>omega))
   try simp (disch:=omega) only[hd,nq,xe,sg,Rc,db,aw]
   rw[Cr (Ko:=by omega)]
   try unfold Aa
   repeat first
    |((with_reducible first|apply Av|apply Ao|apply At|apply A7|apply Bo|apply Bg|apply Bc|apply Gr|apply He|apply Am|apply Au|apply Aw);· first|with_reducible rfl|(simp (disch:=omega) only[gT,hd,nq,xe,sg,Rc,db,aw]<;>first|with_reducible rfl|omega)|omega)
    |(with_reducible apply As;· first|with_reducible rfl|(simp (disch:=omega) only[gF,hd,nq,xe,sg,Rc,db,aw]<;>omega))
   try simp (disch:=omega) only[hd,nq,xe,sg,Rc,db,aw]
   all_goals rfl
  ·rw[hk] at db;simp only[Md.cells] at db
   try unfold Aa
   repeat first
    |((with_reducible first|apply Av|apply Ao|apply At|apply A7|apply Bo|apply Bg|apply Bc|apply Gr|apply He|apply Am|apply Au|apply Aw);· first|with_reducible rfl|(simp (disch:=omega) only[gT,hd,nq,xe,sg,Rc,db,aw]<;>first|with_reducible rfl|omega)|omega)
    |(with_reducible apply As;· first|with_reducible rfl|(simp (disch:=omega) only[gF,hd,nq,xe,sg,Rc,db,aw]<;>omega))
   try simp (disch:=omega) only[hd,nq,xe,sg,Rc,db,aw]
   rw[Cs (Ko:=by omega)]
   try unfold Aa
   repeat first
    |((with_reducible first|apply Av|apply Ao|apply At|apply A7|apply Bo|apply Bg|apply Bc|apply Gr|apply He|apply Am|apply Au|apply Aw);· first|with_reducible rfl|(simp (disch:=omega) only[gT,hd,nq,xe,sg,Rc,db,aw]<;>first|with_reducible rfl|omega)|omega)
    |(with_reducible apply As;· first|with_reducible rfl|(simp (disch:=omega) only[gF,hd,nq,xe,sg,Rc,db,aw]<;>omega))
   try simp (disch:=omega) only[hd,nq,xe,sg,Rc,db,aw]
   rw[Cr (Ko:=by omega)]
   try unfold Aa
   repeat first
    |((with_reducible first|apply Av|apply Ao|apply At|apply A7|apply Bo|apply Bg|apply Bc|apply Gr|apply He|apply Am|apply Au|apply Aw);· first|with_reducible rfl|(simp (disch:=omega) only[gT,hd,nq,xe,sg,Rc,db,aw]<;>first|with_reducible rfl|omega)|omega)
    |(with_reducible apply As;· first|with_reducible rfl|(simp (disch:=omega) only[gF,hd,nq,xe,sg,Rc,db,aw]<;>omega))
   try simp (disch:=omega) only[hd,nq,xe,sg,Rc,db,aw]
   all_goals rfl
 ·have e1:((0:Int)==0)=true:=rfl;obtain⟨z1,z2,z3⟩:=hg.sizes (by omega)
  have en:=HI (fu:=20000) (d:=9) (m:=y) (by omega) hg.wf (by omega) (by omega)
  unfold Ws at en;rw[hg.err,C5 rfl] at en;have hl4:(Gn y).length<=4096:=Adm hg.wf hg.err (Au3 hx hE);have eb:=As6 hg.wf hg.err;have dy:=SO (fu:=20000) (d:=8) (by omega) eb (by omega)
  rw[GX hg.ok hg.err hl4] at dy;have sm:=Ac5 (fu:=20000) (d:=16) (m:=y) (by omega) z1 z2 z3
  have ky:=Ap7 (fu:=20000) (d:=6) (by omega) 5 4
  have vy:=Aio (fu:=20000) (d:=8) (m:=y) (by omega) hg.wf (Vh 5 4)
  rw[hg.ver] at vy;have Le:=Ay .u8 (Gn y);have te:=Mt .u8 (Gn y);generalize Gn y=E at *
  generalize Vh 5 4=K at *
  simp only[Md.cells,Ky.cells] at en dy sm ky vy;rcases dk with⟨k1,k2,k3,k4,k5⟩|hk|hk
  ·have ee:=HI (fu:=20000) (d:=9) (m:=(K9 b).1) (by omega) k2.wf (by have:=(AA hb).2.2;omega) (by have:=(AA hb).2.2;omega)
   unfold Ws at ee;rw[k3,C5 rfl,k4] at ee;rw[k1] at db;generalize (K9 b).1=z at *
   simp only[Md.cells] at db ee
   try unfold Aa
   repeat first
    |((with_reducible first|apply Av|apply Ao|apply At|apply A7|apply Bo|apply Bg|apply Bc|apply Gr|apply He|apply Am|apply Au|apply Aw);· first|with_reducible rfl|(simp (disch:=omega) only[gT,hd,nq,xe,sg,e1,en,dy,sm,ky,vy,Le,te,Dz,db,e00,ee,Lb,ob,q0,aw,Dc,Ch,C8,Mt .u8 b]<;>first|with_reducible rfl|omega)|omega)
    |(with_reducible apply As;· first|with_reducible rfl|(simp (disch:=omega) only[gF,hd,nq,xe,sg,e1,en,dy,sm,ky,vy,Le,te,Dz,db,e00,ee,Lb,ob,q0,aw,Dc,Ch,C8,Mt .u8 b]<;>omega))
   try simp (disch:=omega) only[hd,nq,xe,sg,e1,en,dy,sm,ky,vy,Le,te,Dz,db,e00,ee,Lb,ob,q0,aw,Dc,Ch,C8,Mt .u8 b]
   rw[Cs (Ko:=by omega)]
   try unfold Aa
   repeat first
    |((with_reducible first|apply Av|apply Ao|apply At|apply A7|apply Bo|apply Bg|apply Bc|apply Gr|apply He|apply Am|apply Au|apply Aw);· first|with_reducible rfl|(simp (disch:=omega) only[gT,hd,nq,xe,sg,e1,en,dy,sm,ky,vy,Le,te,Dz,db,e00,ee,Lb,ob,q0,aw,Dc,Ch,C8,Mt .u8 b]<;>first|with_reducible rfl|omega)|omega)
    |(with_reducible apply As;· first|with_reducible rfl|(simp (disch:=omega) only[gF,hd,nq,xe,sg,e1,en,dy,sm,ky,vy,Le,te,Dz,db,e00,ee,Lb,ob,q0,aw,Dc,Ch,C8,Mt .u8 b]<;>omega))
   try simp (disch:=omega) only[hd,nq,xe,sg,e1,en,dy,sm,ky,vy,Le,te,Dz,db,e00,ee,Lb,ob,q0,aw,Dc,Ch,C8,Mt .u8 b]
   rw[Cr (Ko:=by omega)]
   try unfold Aa
   repeat first
    |((with_reducible first|apply Av|apply Ao|apply At|apply A7|apply Bo|apply Bg|apply Bc|apply Gr|apply He|apply Am|apply Au|apply Aw);· first|with_reducible rfl|(simp (disch:=omega) only[gT,hd,nq,xe,sg,e1,en,dy,sm,ky,vy,Le,te,Dz,db,e00,ee,Lb,ob,q0,aw,Dc,Ch,C8,Mt .u8 b]<;>first|with_reducible rfl|omega)|omega)
    |(with_reducible apply As;· first|with_reducible rfl|(simp (disch:=omega) only[gF,hd,nq,xe,sg,e1,en,dy,sm,ky,vy,Le,te,Dz,db,e00,ee,Lb,ob,q0,aw,Dc,Ch,C8,Mt .u8 b]<;>omega))
   try simp (disch:=omega) only[hd,nq,xe,sg,e1,en,dy,sm,ky,vy,Le,te,Dz,db,e00,ee,Lb,ob,q0,aw,Dc,Ch,C8,Mt .u8 b]
   all_goals rfl
  ·rw[hk] at db;simp only[Md.cells] at db
   try unfold Aa
   repeat first
    |((with_reducible first|apply Av|apply Ao|apply At|apply A7|apply Bo|apply Bg|apply Bc|apply Gr|apply He|apply Am|apply Au|apply Aw);· first|with_reducible rfl|(simp (disch:=omega) only[gT,hd,nq,xe,sg,e1,en,dy,sm,ky,vy,Le,te,Dz,db,e00,aw,Dc,Ch,C8]<;>first|with_reducible rfl|omega)|omega)
    |(with_reducible apply As;· first|with_reducible rfl|(simp (disch:=omega) only[gF,hd,nq,xe,sg,e1,en,dy,sm,ky,vy,Le,te,Dz,db,e00,aw,Dc,Ch,C8]<;>omega))
   try simp (disch:=omega) only[hd,nq,xe,sg,e1,en,dy,sm,ky,vy,Le,te,Dz,db,e00,aw,Dc,Ch,C8]
   rw[Cs (Ko:=by omega)]
   try unfold Aa
   repeat first
    |((with_reducible first|apply Av|apply Ao|apply At|apply A7|apply Bo|apply Bg|apply Bc|apply Gr|apply He|apply Am|apply Au|apply Aw);· first|with_reducible rfl|(simp (disch:=omega) only[gT,hd,nq,xe,sg,e1,en,dy,sm,ky,vy,Le,te,Dz,db,e00,aw,Dc,Ch,C8]<;>first|with_reducible rfl|omega)|omega)
    |(with_reducible apply As;· first|with_reducible rfl|(simp (disch:=omega) only[gF,hd,nq,xe,sg,e1,en,dy,sm,ky,vy,Le,te,Dz,db,e00,aw,Dc,Ch,C8]<;>omega))
   try simp (disch:=omega) only[hd,nq,xe,sg,e1,en,dy,sm,ky,vy,Le,te,Dz,db,e00,aw,Dc,Ch,C8]
   rw[Cr (Ko:=by omega)]
   try unfold Aa
   repeat first
    |((with_reducible first|apply Av|apply Ao|apply At|apply A7|apply Bo|apply Bg|apply Bc|apply Gr|apply He|apply Am|apply Au|apply Aw);· first|with_reducible rfl|(simp (disch:=omega) only[gT,hd,nq,xe,sg,e1,en,dy,sm,ky,vy,Le,te,Dz,db,e00,aw,Dc,Ch,C8]<;>first|with_reducible rfl|omega)|omega)
    |(with_reducible apply As;· first|with_reducible rfl|(simp (disch:=omega) only[gF,hd,nq,xe,sg,e1,en,dy,sm,ky,vy,Le,te,Dz,db,e00,aw,Dc,Ch,C8]<;>omega))
   try simp (disch:=omega) only[hd,nq,xe,sg,e1,en,dy,sm,ky,vy,Le,te,Dz,db,e00,aw,Dc,Ch,C8]
   all_goals rfl
  ·rw[hk] at db;simp only[Md.cells] at db
   try unfold Aa
   repeat first
    |((with_reducible first|apply Av|apply Ao|apply At|apply A7|apply Bo|apply Bg|apply Bc|apply Gr|apply He|apply Am|apply Au|apply Aw);· first|with_reducible rfl|(simp (disch:=omega) only[gT,hd,nq,xe,sg,e1,en,dy,sm,ky,vy,Le,te,Dz,db,e00,aw,Dc,Ch,C8]<;>first|with_reducible rfl|omega)|omega)
    |(with_reducible apply As;· first|with_reducible rfl|(simp (disch:=omega) only[gF,hd,nq,xe,sg,e1,en,dy,sm,ky,vy,Le,te,Dz,db,e00,aw,Dc,Ch,C8]<;>omega))
   try simp (disch:=omega) only[hd,nq,xe,sg,e1,en,dy,sm,ky,vy,Le,te,Dz,db,e00,aw,Dc,Ch,C8]
   rw[Cs (Ko:=by omega)]
   try unfold Aa
   repeat first
    |((with_reducible first|apply Av|apply Ao|apply At|apply A7|apply Bo|apply Bg|apply Bc|apply Gr|apply He|apply Am|apply Au|apply Aw);· first|with_reducible rfl|(simp (disch:=omega) only[gT,hd,nq,xe,sg,e1,en,dy,sm,ky,vy,Le,te,Dz,db,e00,aw,Dc,Ch,C8]<;>first|with_reducible rfl|omega)|omega)
    |(with_reducible apply As;· first|with_reducible rfl|(simp (disch:=omega) only[gF,hd,nq,xe,sg,e1,en,dy,sm,ky,vy,Le,te,Dz,db,e00,aw,Dc,Ch,C8]<;>omega))
   try simp (disch:=omega) only[hd,nq,xe,sg,e1,en,dy,sm,ky,vy,Le,te,Dz,db,e00,aw,Dc,Ch,C8]
   rw[Cr (Ko:=by omega)]
   try unfold Aa
   repeat first
    |((with_reducible first|apply Av|apply Ao|apply At|apply A7|apply Bo|apply Bg|apply Bc|apply Gr|apply He|apply Am|apply Au|apply Aw);· first|with_reducible rfl|(simp (disch:=omega) only[gT,hd,nq,xe,sg,e1,en,dy,sm,ky,vy,Le,te,Dz,db,e00,aw,Dc,Ch,C8]<;>first|with_reducible rfl|omega)|omega)
    |(with_reducible apply As;· first|with_reducible rfl|(simp (disch:=omega) only[gF,hd,nq,xe,sg,e1,en,dy,sm,ky,vy,Le,te,Dz,db,e00,aw,Dc,Ch,C8]<;>omega))
   try simp (disch:=omega) only[hd,nq,xe,sg,e1,en,dy,sm,ky,vy,Le,te,Dz,db,e00,aw,Dc,Ch,C8]
   all_goals rfl
end
section
open Go.Proofs.Tryz (prog)
open Go.IntKind (wrap)
open Go Go.RowKit
def sL:Code->Code
 |.seq a _=>a
 |c=>c
def sR:Code->Code
 |.seq _ b=>b
 |c=>c
def sB:Code->Code
 |.block _ c=>c
 |.loop c=>c
 |c=>c
def sF:Code->Code
 |.rangeFunc _ _ _ b=>b
 |c=>c
def sA:Code->Code
 |.rangeFunc _ _ a _=>a
 |c=>c
def G4:Code->Array Oper
 |.region _ ops _=>ops
 |_=> #[]
noncomputable abbrev EV:Code:=B7 Tryz.f113
noncomputable abbrev QT:Code:=B7 Tryz.f36
def CS:Ji:={ CB with shr:=fun _=>true }
noncomputable abbrev MN (N:Nat)(call:Af)(c:Code)(L:Nat)(s:St):Option (Nat × St):=
 Nj CB prog 2000 N call c L (fun _=>L) 0 (fun s=>I3 N L s fun s'=>some (0,s')) (fun id s=>I3 N L s fun s'=>some (id+1,s')) (fun _=>none) s
section
variable {N:Nat} {w0:World} {X0:Fz} {Y:Nat->Prop} {β:Bt} {s s1:St} {a:Act} {w:World}
theorem Dj {G:U7}(Jr:LO prog G w0 X0)(hm:prog.follows .mixedOrders=true){call:Af}(C6:∀f args res,call f args=some res->Da G prog f args res){c:Code}{L t:Nat}{Q:Exit->Act->World->Prop}(h:B3 N w0 X0 Y β s a w)
  (hk:MN N call c L s=some (t,s1)) (hQ:∀a' w' β',B3 N w0 X0 Y β' s1 a' w'->match t with|0=>Q .normal a' w'|id+1=>Q (.exit id) a' w'):c.wp prog Q a w:=by
 refine DN Jr C6 hm c h hk (fun s' a' w' β' h1 h2=>?_) (fun id s' a' w' β' h1 h2=>?_) (fun s' a' w' β' h1 h2=>by cases h1)
 ·obtain⟨β1,s2,h3,h4⟩:=B6 h2 h1;cases h3;exact hQ _ _ _ h4
 ·obtain⟨β1,s2,h3,h4⟩:=B6 h2 h1;cases h3;exact hQ _ _ _ h4
theorem EQ {G:U7}(Jr:LO prog G w0 X0)(hm:prog.follows .mixedOrders=true){call:Af}(C6:∀f args res,call f args=some res->Da G prog f args res){ro:Option Nat}{n:Nat}{c:Code}(ho:okR c=true){L t:Nat}{Q:Exit->Act->World->Prop}(DO:∀a w,¬Q .outgrown a w)(h:B3 N w0 X0 Y β s a w)
  (hk:MN N call c L s=some (t,s1)) (hQ:∀a' w' β',B3 N w0 X0 Y β' s1 a' w'->match t with|0=>Q .normal a' w'|id+1=>Q (.exit id) a' w'):c.wpIn (WF ro) n prog Q a w:=by
 refine LU Jr C6 hm c ho DO h hk (fun s' a' w' β' h1 h2=>?_) (fun id s' a' w' β' h1 h2=>?_) (fun s' a' w' β' h1 h2=>by cases h1)
 ·obtain⟨β1,s2,h3,h4⟩:=B6 h2 h1;cases h3;exact hQ _ _ _ h4
 ·obtain⟨β1,s2,h3,h4⟩:=B6 h2 h1;cases h3;exact hQ _ _ _ h4
end
end
section
open Go.Proofs.Tryz (prog)
open Go.IntKind (wrap)
set_option maxRecDepth 100000
theorem A0k (call:Af)(yv:Value)(h seed:Int):MN 63 call (sL EV) 23 ⟨lk [(0,.sc yv),(1,.iptr [.sc (.int .i64 h)] 0),(2,.iptr [.sc (.int .u64 seed)] 0)],Bu []⟩=(
 Ar (decide ((0:Int)<=h)) <|
 Aa (J0 IntKind.i64 (1:Int) h) fun x1=>
 Ar (decide ((0:Int)<=x1)&&decide (x1<=x1)&&decide (x1*(8:Int)<=(1099511627776:Int))&&decide (x1<=(1099511627776:Int))) <|
 some (0,⟨lk [(0,(.sc (yv))),(1,(.iptr ([PV.sc (Value.int IntKind.i64 h)]) ((0:Nat)))),(2,(.iptr ([PV.sc (Value.int IntKind.u64 seed)]) ((0:Nat)))),(4,(.view 4 1 0 (Int.toNat x1)))],Bu [(4,(.ar false (Vr (Int.toNat x1) [PV.sc (Value.int IntKind.u64 (0:Int))])))]⟩)):=by kernel_rfl
theorem Ay7 (call:Af)(yv:Value)(h seed:Int)(n:Nat)(c:List PV):MN 63 call (sL (sL (sR EV))) 24599 ⟨lk [(0,.sc yv),(1,.iptr [.sc (.int .i64 h)] 0),(2,.iptr [.sc (.int .u64 seed)] 0),(4,.view 4 1 0 n)],Bu [(4,.ar false c)]⟩=(
 some (0,⟨lk [(0,(.sc (yv))),(1,(.iptr ([PV.sc (Value.int IntKind.i64 h)]) ((0:Nat)))),(2,(.iptr ([PV.sc (Value.int IntKind.u64 seed)]) ((0:Nat)))),(4,(.view 4 1 0 (n))),(13,(.sc (.int .i64 ((↑n:Int))))),(14,(.sc (.int .i64 ((0:Int)))))],Bu [(4,(.ar false (c)))]⟩)):=by kernel_rfl
theorem Apr (call:Af)(yv:Value)(h seed m i:Int)(n:Nat)(c:List PV):MN 63 call (sB (sB (sR (sL (sR EV))))) 24599 ⟨lk [(0,.sc yv),(1,.iptr [.sc (.int .i64 h)] 0),(2,.iptr [.sc (.int .u64 seed)] 0),(4,.view 4 1 0 n),(13,.sc (.int .i64 m)),(14,.sc (.int .i64 i))],Bu [(4,.ar false c)]⟩=(
  Bk (decide (i<m))
   (
   Aj (call (114:Nat) [PV.sc (Value.int IntKind.u64 seed),PV.sc (Value.int IntKind.i64 i)]) fun x1 x2=>
   Ac (x2) <|
   Ab (x1) fun x3 x4=>
   Ae (IntKind.u64) (x3) fun x5=>
   Ac (x4) <|
   Ar (decide ((0:Int)<=i)&&decide (i<(↑n:Int))) <|
   Ar (decide ((0:Nat)+Int.toNat i*(1:Nat)+(1:Nat)<=List.length c)) <|
   Aa (Bq c [PV.sc (Value.int IntKind.u64 x5)] ((0:Nat)+Int.toNat i*(1:Nat))) fun x6=>
   Aa (wrap IntKind.i64 (i+(1:Int))) fun x7=>
   some (0,⟨lk [(0,(.sc (yv))),(1,(.iptr ([PV.sc (Value.int IntKind.i64 h)]) ((0:Nat)))),(2,(.iptr ([PV.sc (Value.int IntKind.u64 seed)]) ((0:Nat)))),(4,(.view 4 1 0 (n))),(13,(.sc (.int .i64 (m)))),(14,(.sc (.int .i64 (x7))))],Bu [(4,(.ar false (x6)))]⟩))
   (
   some (1,⟨lk [(0,(.sc (yv))),(1,(.iptr ([PV.sc (Value.int IntKind.i64 h)]) ((0:Nat)))),(2,(.iptr ([PV.sc (Value.int IntKind.u64 seed)]) ((0:Nat)))),(4,(.view 4 1 0 (n))),(13,(.sc (.int .i64 (m)))),(14,(.sc (.int .i64 (i))))],Bu [(4,(.ar false (c)))]⟩))):=by kernel_rfl
theorem Aze (call:Af)(yv:Value)(h seed m i:Int)(n:Nat)(c:List PV):MN 63 call (sL (sR (sR EV))) 87 ⟨lk [(0,.sc yv),(1,.iptr [.sc (.int .i64 h)] 0),(2,.iptr [.sc (.int .u64 seed)] 0),(4,.view 4 1 0 n),(13,.sc (.int .i64 m)),(14,.sc (.int .i64 i))],Bu [(4,.ar false c)]⟩=(
 some (0,⟨lk [(0,(.sc (yv))),(1,(.iptr ([PV.sc (Value.int IntKind.i64 h)]) ((0:Nat)))),(2,(.iptr ([PV.sc (Value.int IntKind.u64 seed)]) ((0:Nat)))),(4,(.view 4 1 0 (n))),(6,(.sc (.int .i64 ((0:Int)))))],Bu [(4,(.ar false (c)))]⟩)):=by kernel_rfl
theorem A1h (call:Af)(yv:Value)(h seed k:Int)(n:Nat)(c:List PV):MN 63 call (sL (sB (sL (sR (sB (sB (sR (sR (sR EV))))))))) 215 ⟨lk [(0,.sc yv),(1,.iptr [.sc (.int .i64 h)] 0),(2,.iptr [.sc (.int .u64 seed)] 0),(4,.view 4 1 0 n),(6,.sc (.int .i64 k))],Bu [(4,.ar false c)]⟩=(
 Aa (wrap IntKind.i64 (Int.tdiv (↑n:Int) (2:Int))) fun x1=>
 Ar (decide ((0:Int)<=x1)&&decide (x1<=x1)&&decide (x1*(8:Int)<=(1099511627776:Int))&&decide (x1<=(1099511627776:Int))) <|
 some (0,⟨lk [(0,(.sc (yv))),(1,(.iptr ([PV.sc (Value.int IntKind.i64 h)]) ((0:Nat)))),(2,(.iptr ([PV.sc (Value.int IntKind.u64 seed)]) ((0:Nat)))),(4,(.view 4 1 0 (n))),(6,(.sc (.int .i64 (k)))),(7,(.view 7 1 0 (Int.toNat x1)))],Bu [(4,(.ar false (c))),(7,(.ar false (Vr (Int.toNat x1) [PV.sc (Value.int IntKind.u64 (0:Int))])))]⟩)):=by kernel_rfl
theorem Az9 (call:Af)(yv:Value)(h seed k:Int)(n m:Nat)(c e:List PV):MN 63 call (sL (sL (sR (sB (sL (sR (sB (sB (sR (sR (sR EV))))))))))) 3298534883543 ⟨lk [(0,.sc yv),(1,.iptr [.sc (.int .i64 h)] 0),(2,.iptr [.sc (.int .u64 seed)] 0),(4,.view 4 1 0 n),(6,.sc (.int .i64 k)),(7,.view 7 1 0 m)],Bu [(4,.ar false c),(7,.ar false e)]⟩=(
 some (0,⟨lk [(0,(.sc (yv))),(1,(.iptr ([PV.sc (Value.int IntKind.i64 h)]) ((0:Nat)))),(2,(.iptr ([PV.sc (Value.int IntKind.u64 seed)]) ((0:Nat)))),(4,(.view 4 1 0 (n))),(6,(.sc (.int .i64 (k)))),(7,(.view 7 1 0 (m))),(40,(.sc (.int .i64 ((↑m:Int))))),(41,(.sc (.int .i64 ((0:Int)))))],Bu [(4,(.ar false (c))),(7,(.ar false (e)))]⟩)):=by kernel_rfl
theorem Aon (call:Af)(yv:Value)(h seed k p i:Int)(n m:Nat)(c e:List PV):MN 63 call (sB (sB (sR (sL (sR (sB (sL (sR (sB (sB (sR (sR (sR EV))))))))))))) 3298534883543 ⟨lk [(0,.sc yv),(1,.iptr [.sc (.int .i64 h)] 0),(2,.iptr [.sc (.int .u64 seed)] 0),(4,.view 4 1 0 n),(6,.sc (.int .i64 k)),(7,.view 7 1 0 m),(40,.sc (.int .i64 p)),(41,.sc (.int .i64 i))],Bu [(4,.ar false c),(7,.ar false e)]⟩=(
  Bk (decide (i<p))
   (
   Aa (wrap IntKind.i64 (k+(1:Int))) fun x1=>
   Aa (wrap IntKind.i64 ((2:Int)*i)) fun x2=>
   Ar (decide ((0:Int)<=x2)&&decide (x2<(↑n:Int))) <|
   Ae (IntKind.u64) (List.getD c ((0:Nat)+Int.toNat x2*(1:Nat)) PV.top) fun x3=>
   Aa (wrap IntKind.i64 ((2:Int)*i)) fun x4=>
   Aa (wrap IntKind.i64 (x4+(1:Int))) fun x5=>
   Ar (decide ((0:Int)<=x5)&&decide (x5<(↑n:Int))) <|
   Ae (IntKind.u64) (List.getD c ((0:Nat)+Int.toNat x5*(1:Nat)) PV.top) fun x6=>
   Aj (call (76:Nat) [PV.sc (Value.int IntKind.i64 x1),PV.sc (Value.int IntKind.u64 x3),PV.sc (Value.int IntKind.u64 x6)]) fun x7 x8=>
   Ac (x8) <|
   Ab (x7) fun x9 C7=>
   Ae (IntKind.u64) (x9) fun Dm=>
   Ac (C7) <|
   Ar (decide ((0:Int)<=i)&&decide (i<(↑m:Int))) <|
   Ar (decide ((0:Nat)+Int.toNat i*(1:Nat)+(1:Nat)<=List.length e)) <|
   Aa (Bq e [PV.sc (Value.int IntKind.u64 Dm)] ((0:Nat)+Int.toNat i*(1:Nat))) fun Eh=>
   Aa (wrap IntKind.i64 (i+(1:Int))) fun E6=>
   some (0,⟨lk [(0,(.sc (yv))),(1,(.iptr ([PV.sc (Value.int IntKind.i64 h)]) ((0:Nat)))),(2,(.iptr ([PV.sc (Value.int IntKind.u64 seed)]) ((0:Nat)))),(4,(.view 4 1 0 (n))),(6,(.sc (.int .i64 (k)))),(7,(.view 7 1 0 (m))),(40,(.sc (.int .i64 (p)))),(41,(.sc (.int .i64 (E6))))],Bu [(4,(.ar false (c))),(7,(.ar false (Eh)))]⟩))
   (
   some (5,⟨lk [(0,(.sc (yv))),(1,(.iptr ([PV.sc (Value.int IntKind.i64 h)]) ((0:Nat)))),(2,(.iptr ([PV.sc (Value.int IntKind.u64 seed)]) ((0:Nat)))),(4,(.view 4 1 0 (n))),(6,(.sc (.int .i64 (k)))),(7,(.view 7 1 0 (m))),(40,(.sc (.int .i64 (p)))),(41,(.sc (.int .i64 (i))))],Bu [(4,(.ar false (c))),(7,(.ar false (e)))]⟩))):=by kernel_rfl
theorem Ay9 (call:Af)(yv:Value)(h seed k p i:Int)(n m:Nat)(c e:List PV):MN 63 call (sR (sR (sB (sL (sR (sB (sB (sR (sR (sR EV)))))))))) 87 ⟨lk [(0,.sc yv),(1,.iptr [.sc (.int .i64 h)] 0),(2,.iptr [.sc (.int .u64 seed)] 0),(4,.view 4 1 0 n),(6,.sc (.int .i64 k)),(7,.view 7 1 0 m),(40,.sc (.int .i64 p)),(41,.sc (.int .i64 i))],Bu [(4,.ar false c),(7,.ar false e)]⟩=(
 some (0,⟨lk [(0,(.sc (yv))),(1,(.iptr ([PV.sc (Value.int IntKind.i64 h)]) ((0:Nat)))),(2,(.iptr ([PV.sc (Value.int IntKind.u64 seed)]) ((0:Nat)))),(4,(.view 4 1 0 (m))),(6,(.sc (.int .i64 (k))))],Bu [(4,(.ar false (e)))]⟩)):=by kernel_rfl
theorem Azq (call:Af)(yv:Value)(h seed k:Int)(n:Nat)(c:List PV):MN 63 call (sR (sR (sB (sB (sR (sR (sR EV))))))) 87 ⟨lk [(0,.sc yv),(1,.iptr [.sc (.int .i64 h)] 0),(2,.iptr [.sc (.int .u64 seed)] 0),(4,.view 4 1 0 n),(6,.sc (.int .i64 k))],Bu [(4,.ar false c)]⟩=(
 Aa (wrap IntKind.i64 (k+(1:Int))) fun x1=>
 some (0,⟨lk [(0,(.sc (yv))),(1,(.iptr ([PV.sc (Value.int IntKind.i64 h)]) ((0:Nat)))),(2,(.iptr ([PV.sc (Value.int IntKind.u64 seed)]) ((0:Nat)))),(4,(.view 4 1 0 (n))),(6,(.sc (.int .i64 (x1))))],Bu [(4,(.ar false (c)))]⟩)):=by kernel_rfl
theorem A1g (call:Af)(yv:Value)(h seed k:Int)(n:Nat)(c:List PV):K4 CB prog 63 call (G4 (sL (sL (sB (sB (sR (sR (sR EV)))))))) (List.take 3 (G4 (sL (sL (sB (sB (sR (sR (sR EV)))))))).toList) ⟨lk [(0,.sc yv),(1,.iptr [.sc (.int .i64 h)] 0),(2,.iptr [.sc (.int .u64 seed)] 0),(4,.view 4 1 0 n),(6,.sc (.int .i64 k))],Bu [(4,.ar false c)]⟩ (fun s=>I3 63 117440599 s fun s'=>some (0,s'))=(
 some (0,⟨lk [(0,(.sc (yv))),(1,(.iptr ([PV.sc (Value.int IntKind.i64 h)]) ((0:Nat)))),(2,(.iptr ([PV.sc (Value.int IntKind.u64 seed)]) ((0:Nat)))),(4,(.view 4 1 0 (n))),(6,(.sc (.int .i64 (k)))),(24,(.sc (yv))),(25,(.sc (.int .i64 (k)))),(26,(.view 4 1 0 (n)))],Bu [(4,(.ar false (c)))]⟩)):=by kernel_rfl
theorem Awi (call:Af)(yv:Value)(h seed k:Int)(n:Nat)(c:List PV):K4 CB prog 63 call (G4 (sL (sL (sB (sB (sR (sR (sR EV)))))))) (List.drop 4 (G4 (sL (sL (sB (sB (sR (sR (sR EV)))))))).toList) ⟨lk [(0,.sc yv),(1,.iptr [.sc (.int .i64 h)] 0),(2,.iptr [.sc (.int .u64 seed)] 0),(4,.view 4 1 0 n),(6,.sc (.int .i64 k)),(27,.sc (.bool true))],Bu [(4,.ar false c)]⟩ (fun s=>I3 63 4294967383 s fun s'=>some (0,s'))=(
 some (0,⟨lk [(0,(.sc (yv))),(1,(.iptr ([PV.sc (Value.int IntKind.i64 h)]) ((0:Nat)))),(2,(.iptr ([PV.sc (Value.int IntKind.u64 seed)]) ((0:Nat)))),(4,(.view 4 1 0 (n))),(6,(.sc (.int .i64 (k)))),(32,(.sc (.bool (decide (k<h)))))],Bu [(4,(.ar false (c)))]⟩)):=by kernel_rfl
theorem Atu (call:Af)(yv:Value)(h seed k:Int)(n:Nat)(c:List PV):K4 CB prog 63 call (G4 (sL (sL (sB (sB (sR (sR (sR EV)))))))) (List.drop 4 (G4 (sL (sL (sB (sB (sR (sR (sR EV)))))))).toList) ⟨lk [(0,.sc yv),(1,.iptr [.sc (.int .i64 h)] 0),(2,.iptr [.sc (.int .u64 seed)] 0),(4,.view 4 1 0 n),(6,.sc (.int .i64 k)),(27,.sc (.bool false))],Bu [(4,.ar false c)]⟩ (fun s=>I3 63 4294967383 s fun s'=>some (0,s'))=(
 some (0,⟨lk [(0,(.sc (yv))),(1,(.iptr ([PV.sc (Value.int IntKind.i64 h)]) ((0:Nat)))),(2,(.iptr ([PV.sc (Value.int IntKind.u64 seed)]) ((0:Nat)))),(4,(.view 4 1 0 (n))),(6,(.sc (.int .i64 (k)))),(32,(.sc (.bool (false))))],Bu [(4,(.ar false (c)))]⟩)):=by kernel_rfl
theorem Aq0 (call:Af)(yv:Value)(h seed k:Int)(n:Nat)(c:List PV)(q:Bool):MN 63 call (sR (sL (sB (sB (sR (sR (sR EV))))))) 87 ⟨lk [(0,.sc yv),(1,.iptr [.sc (.int .i64 h)] 0),(2,.iptr [.sc (.int .u64 seed)] 0),(4,.view 4 1 0 n),(6,.sc (.int .i64 k)),(32,.sc (.bool q))],Bu [(4,.ar false c)]⟩=(
  Bk (q)
   (
   some (0,⟨lk [(0,(.sc (yv))),(1,(.iptr ([PV.sc (Value.int IntKind.i64 h)]) ((0:Nat)))),(2,(.iptr ([PV.sc (Value.int IntKind.u64 seed)]) ((0:Nat)))),(4,(.view 4 1 0 (n))),(6,(.sc (.int .i64 (k))))],Bu [(4,(.ar false (c)))]⟩))
   (
   some (3,⟨lk [(0,(.sc (yv))),(1,(.iptr ([PV.sc (Value.int IntKind.i64 h)]) ((0:Nat)))),(2,(.iptr ([PV.sc (Value.int IntKind.u64 seed)]) ((0:Nat)))),(4,(.view 4 1 0 (n))),(6,(.sc (.int .i64 (k))))],Bu [(4,(.ar false (c)))]⟩))):=by kernel_rfl
theorem Az3 (call:Af)(seed h leaf m:Int):MN 48 call (sL QT) 873 ⟨lk [(0,.sc (.int .u64 seed)),(1,.sc (.int .i64 h)),(2,.sc (.int .i64 leaf)),(3,.sc (.int .u64 m))],Bu []⟩=(
 some (0,⟨lk [(0,(.sc (.int .u64 (seed)))),(3,(.sc (.int .u64 (m)))),(5,(.ptr 5 0)),(6,(.ptr 6 0)),(8,(.ptr 8 0)),(9,(.sc (.int .i64 ((0:Int)))))],Bu [(5,(.st [(.sc (.int .i64 (h)))])),(6,(.st [(.sc (.int .i64 (leaf)))])),(8,(.st [(.sc (.int .i64 ((0:Int)))),(.view 104 1 0 ((0:Nat))),(.view 152 1 0 ((0:Nat)))])),(104,(.ar false ([]))),(152,(.ar false ([])))]⟩)):=by kernel_rfl
theorem A0n (call:Af)(seed h leaf m:Int):MN 48 call (sL (sR QT)) 873 ⟨lk [(0,.sc (.int .u64 seed)),(3,.sc (.int .u64 m)),(5,.ptr 5 0),(6,.ptr 6 0),(8,.ptr 8 0),(9,.sc (.int .i64 0))],Bu [(5,.st [.sc (.int .i64 h)]),(6,.st [.sc (.int .i64 leaf)]),(8,.st [.sc (.int .i64 0),.view 104 1 0 0,.view 152 1 0 0]),(104,.ar false []),(152,.ar false [])]⟩=(
  Aj (call (67:Nat) [PV.sc (Value.int IntKind.i64 h)]) fun x1 x2=>
  Ac (x2) <|
  Ab (x1) fun x3 x4=>
  Bv (x3) fun x5=>
  Ac (x4) <|
  Bk (x5)
   (
   none)
   (
   Aj (call (68:Nat) [PV.sc (Value.int IntKind.i64 leaf),PV.sc (Value.int IntKind.i64 h)]) fun x6 x7=>
   Ac (x7) <|
   Ab (x6) fun x8 x9=>
   Bv (x8) fun C7=>
   Ac (x9) <|
   Bk (C7)
    (
    none)
    (
    some (0,⟨lk [(0,(.sc (.int .u64 (seed)))),(3,(.sc (.int .u64 (m)))),(5,(.ptr 5 0)),(6,(.ptr 6 0)),(8,(.ptr 8 0)),(9,(.sc (.int .i64 ((0:Int)))))],Bu [(5,(.st [(.sc (.int .i64 (h)))])),(6,(.st [(.sc (.int .i64 (leaf)))])),(8,(.st [(.sc (.int .i64 ((0:Int)))),(.view 104 1 0 ((0:Nat))),(.view 152 1 0 ((0:Nat)))])),(104,(.ar false ([]))),(152,(.ar false ([])))]⟩)))):=by kernel_rfl
theorem A09 (call:Af)(seed h leaf m:Int):MN 48 call (sL (sR (sR QT))) 1897 ⟨lk [(0,.sc (.int .u64 seed)),(3,.sc (.int .u64 m)),(5,.ptr 5 0),(6,.ptr 6 0),(8,.ptr 8 0),(9,.sc (.int .i64 0))],Bu [(5,.st [.sc (.int .i64 h)]),(6,.st [.sc (.int .i64 leaf)]),(8,.st [.sc (.int .i64 0),.view 104 1 0 0,.view 152 1 0 0]),(104,.ar false []),(152,.ar false [])]⟩=(
 Aj (call (69:Nat) [PV.sc (Value.int IntKind.u64 seed),PV.sc (Value.int IntKind.i64 leaf),PV.sc (Value.int IntKind.u64 m)]) fun x1 x2=>
 Ac (x2) <|
 Ab (x1) fun x3 x4=>
 Gw ((1:Nat)) (x3) fun x5 x6=>
 Ac (x4) <|
 some (0,⟨lk [(0,(.sc (.int .u64 (seed)))),(3,(.sc (.int .u64 (m)))),(5,(.ptr 5 0)),(6,(.ptr 6 0)),(8,(.ptr 8 0)),(9,(.sc (.int .i64 ((0:Int))))),(10,(.ptr 10 0))],Bu [(5,(.st [(.sc (.int .i64 (h)))])),(6,(.st [(.sc (.int .i64 (leaf)))])),(8,(.st [(.sc (.int .i64 ((0:Int)))),(.view 104 1 0 ((0:Nat))),(.view 152 1 0 ((0:Nat)))])),(104,(.ar false ([]))),(152,(.ar false ([]))),(10,(.st [(.sc (.int .i64 (leaf))),(.view 106 1 0 (x5)),(.view 154 1 0 ((0:Nat)))])),(106,(.ar false (x6))),(154,(.ar false ([])))]⟩)):=by kernel_rfl
theorem Arl (call:Af)(h leaf k:Int)(ch:Value)(n m:Nat)(c d:List PV):MN 48 call (sF (sB (sR (sL (sR (sR (sR QT))))))) 1024 ⟨lk [(5,.iptr [.sc (.int .i64 h)] 0),(6,.iptr [.sc (.int .i64 leaf)] 0),(10,.ptr 96000 0),(11,.sc (.int .i64 k)),(12,.lst false 1 n c)],Bu [(96000,.st [.sc (.int .i64 leaf),.sc ch,.view 20 1 0 m]),(20,.ar false d)]⟩=(
  Bk (k==h)
   (
   some (1,⟨lk [(10,(.ptr 96000 0))],Bu [(96000,(.st [(.sc (.int .i64 (leaf))),(.sc (ch)),(.view 96144 1 0 (m))])),(96144,(.ar false (d)))]⟩))
   (
   Ar (decide ((0:Int)<=k)) <|
   Aa (Is IntKind.i64 leaf k) fun x1=>
   Aa (E5 IntKind.i64 x1 (1:Int)) fun x2=>
   Ar (decide ((0:Int)<=x2)&&decide (x2<(↑n:Int))) <|
   Ae (IntKind.u64) (List.getD c (Int.toNat x2*(1:Nat)) PV.top) fun x3=>
   Ar (decide (m*(1:Nat)<=List.length d)&&true&&decide ((m+(1:Nat))*(8:Nat)<=(1099511627776:Nat))&&decide (m+(1:Nat)<=(1099511627776:Nat))) <|
   Aa (m+(1:Nat)) fun x4=>
   Aa (List.take (m*(1:Nat)) d++[PV.sc (Value.int IntKind.u64 x3)]) fun x5=>
   some (0,⟨lk [(10,(.ptr 96000 0))],Bu [(96000,(.st [(.sc (.int .i64 (leaf))),(.sc (ch)),(.view 96144 1 0 (x4))])),(96144,(.ar false (x5)))]⟩))):=by kernel_rfl
theorem A1k (call:Af)(seed h leaf m:Int)(n:Nat)(c:List PV):K4 CB prog 48 call (G4 (sL (sL (sR (sR (sR QT)))))) (List.take 2 (G4 (sL (sL (sR (sR (sR QT)))))).toList) ⟨lk [(0,.sc (.int .u64 seed)),(3,.sc (.int .u64 m)),(5,.ptr 5 0),(6,.ptr 6 0),(8,.ptr 8 0),(9,.sc (.int .i64 0)),(10,.ptr 10 0)],Bu [(5,.st [.sc (.int .i64 h)]),(6,.st [.sc (.int .i64 leaf)]),(8,.st [.sc (.int .i64 0),.view 104 1 0 0,.view 152 1 0 0]),(104,.ar false []),(152,.ar false []),(10,.st [.sc (.int .i64 leaf),.view 106 1 0 n,.view 154 1 0 0]),(106,.ar false c),(154,.ar false [])]⟩ (fun s=>I3 48 402655081 s fun s'=>some (0,s'))=(
 some (0,⟨lk [(0,(.sc (.int .u64 (seed)))),(3,(.sc (.int .u64 (m)))),(5,(.ptr 5 0)),(6,(.ptr 6 0)),(8,(.ptr 8 0)),(9,(.sc (.int .i64 ((0:Int))))),(10,(.ptr 10 0)),(27,(.sc (.int .u64 (seed)))),(28,(.sc (.int .i64 (h))))],Bu [(5,(.st [(.sc (.int .i64 (h)))])),(6,(.st [(.sc (.int .i64 (leaf)))])),(8,(.st [(.sc (.int .i64 ((0:Int)))),(.view 104 1 0 ((0:Nat))),(.view 152 1 0 ((0:Nat)))])),(104,(.ar false ([]))),(152,(.ar false ([]))),(10,(.st [(.sc (.int .i64 (leaf))),(.view 106 1 0 (n)),(.view 154 1 0 ((0:Nat)))])),(106,(.ar false (c))),(154,(.ar false ([])))]⟩)):=by kernel_rfl
theorem A0y (call:Af)(leaf:Int)(n1 n2:Nat)(c1 c2:List PV):K4 CB prog 48 call (G4 (sL (sR (sR (sR (sR QT)))))) (G4 (sL (sR (sR (sR (sR QT)))))).toList ⟨lk [(8,.ptr 96000 0),(9,.sc (.int .i64 0)),(10,.iptr [.sc (.int .i64 leaf),.lst false 1 n1 c1,.lst false 1 n2 c2] 0)],Bu [(96000,.st [.top,.top,.top])]⟩ (fun s=>I3 48 768 s fun s'=>some (0,s'))=(
 some (0,⟨lk [(8,(.ptr 96000 0)),(9,(.sc (.int .i64 ((0:Int)))))],Bu [(96000,(.st [(.sc (.int .i64 (leaf))),(.lst false 1 (n1) (c1)),(.lst false 1 (n2) (c2))]))]⟩)):=by kernel_rfl
theorem Az4 (a0 a1 a2 a3 leaf:Int)(n1 n2:Nat)(c1 c2:List PV):Afg CS prog 36 Tryz.f36 [.sc (.int .u64 a0),.sc (.int .i64 a1),.sc (.int .i64 a2),.sc (.int .u64 a3)] ⟨lk [(8,.ptr 96000 0),(9,.sc (.int .i64 0))],Bu [(96000,.st [.sc (.int .i64 leaf),.lst false 1 n1 c1,.lst false 1 n2 c2])]⟩=(
 some (A5.mk [PV.agg [PV.sc (Value.int IntKind.i64 leaf),PV.lst false (1:Nat) n1 c1,PV.lst false (1:Nat) n2 c2],PV.sc (Value.int IntKind.i64 (0:Int))] [])):=by kernel_rfl
theorem Ayz (call:Af)(seed h leaf m:Int):Avr CS prog 2000 call 36 Tryz.f36 QT [.sc (.int .u64 seed),.sc (.int .i64 h),.sc (.int .i64 leaf),.sc (.int .u64 m)]=(
  Aj (call (67:Nat) [PV.sc (Value.int IntKind.i64 h)]) fun x1 x2=>
  Ac (x2) <|
  Ab (x1) fun x3 x4=>
  Bv (x3) fun x5=>
  Ac (x4) <|
  Bk (x5)
   (
   some (A5.mk [PV.agg [PV.sc (Value.int IntKind.i64 (0:Int)),PV.lst false (1:Nat) (0:Nat) [],PV.lst false (1:Nat) (0:Nat) []],PV.sc (Value.int IntKind.i64 (9:Int))] []))
   (
   Aj (call (68:Nat) [PV.sc (Value.int IntKind.i64 leaf),PV.sc (Value.int IntKind.i64 h)]) fun x6 x7=>
   Ac (x7) <|
   Ab (x6) fun x8 x9=>
   Bv (x8) fun C7=>
   Ac (x9) <|
   Bk (C7)
    (
    some (A5.mk [PV.agg [PV.sc (Value.int IntKind.i64 (0:Int)),PV.lst false (1:Nat) (0:Nat) [],PV.lst false (1:Nat) (0:Nat) []],PV.sc (Value.int IntKind.i64 (9:Int))] []))
    (
    Aj (call (69:Nat) [PV.sc (Value.int IntKind.u64 seed),PV.sc (Value.int IntKind.i64 leaf),PV.sc (Value.int IntKind.u64 m)]) fun Dm Eh=>
    Ac (Eh) <|
    Ab (Dm) fun E6 D8=>
    Em ((1:Nat)) (E6) fun Ez Fu Gt=>
    Ac (D8) <|
    Aj (call (70:Nat) [PV.sc (Value.int IntKind.u64 seed),PV.sc (Value.int IntKind.i64 h)]) fun G7 Gj=>
    Ac (Gj) <|
    Ab (G7) fun Gx Ju=>
    fnK (Gx) fun H3=>
    Ac (Ju) <|
    none))):=by kernel_rfl
end
section
open Go.Proofs.Tryz (prog)
open Go.IntKind (wrap)
set_option maxRecDepth 20000
open Go Go.RowKit
def G1:U7:=⟨fun _=>False,fun _=>True,fun _ _ _ _=>trivial⟩
def noX:FuncId->Option (List PV->Option A5):=fun _=>none
theorem A1d:Ajv G1 prog (CX noX):=by
 intro f g args res h _;have h':(bif FF.any (Nat.beq f) then none else (none:Option (List PV->Option A5)))=some g:=h;cases hb:FF.any (Nat.beq f)<;>rw[hb] at h'<;>cases h'
noncomputable abbrev cl:Af:=Ad (CX noX) prog 2000 8
theorem ngT:NoNG prog:=by
 have h:(prog.funcs.toList.all fun fn=> !(fn.name == "runtime.NumGoroutine"))=true:=by kernel_rfl
 intro f fn hf;have:=List.all_eq_true.1 h fn (Array.mem_toList_iff.2 (Array.mem_of_getElem? hf))
 simpa using this
theorem DW:prog.follows .mixedOrders=true:=by kernel_rfl
theorem B0:∀f args res,cl f args=some res->Da G1 prog f args res:=fun f args res h=>Yb ngT DW A1d 8 f args res h
theorem I1 (w0:World)(X0:Fz):LO prog G1 w0 X0:=⟨ngT,fun _ _=>trivial,fun _ h=>h.elim⟩
def gl (f:Nat->Int)(n i:Nat):List Int:=(List.range i).map f++List.replicate (n-i) 0
theorem Ar3 (f:Nat->Int){n i:Nat}(h:i<=n):(gl f n i).length=n:=by simp[gl];omega
theorem Ant (f:Nat->Int){n i:Nat}(h:i<n):(gl f n i).set i (f i)=gl f n (i+1):=by
 unfold gl;rw[List.set_append_right _ _ (by simp),List.length_map,List.length_range,Nat.sub_self,show n-i=(n-(i+1))+1 by omega,List.replicate_succ,List.set_cons_zero,List.range_succ,List.map_append,Zzv]
 rfl
theorem Aka (f:Nat->Int)(n:Nat):gl f n n=(List.range n).map f:=by simp[gl]
theorem Ajt (f:Nat->Int)(n:Nat):gl f n 0=List.replicate n 0:=by simp[gl]
abbrev Ak8 (yv:Value)(h seed:Int)(n:Nat)(m i:Int)(c:List PV):St:=
 ⟨lk [(0,.sc yv),(1,.iptr [.sc (.int .i64 h)] 0),(2,.iptr [.sc (.int .u64 seed)] 0),(4,.view 4 1 0 n),(13,.sc (.int .i64 m)),(14,.sc (.int .i64 i))],Bu [(4,.ar false c)]⟩
abbrev Al0 (yv:Value)(h seed k:Int)(n m:Nat)(p i:Int)(c e:List PV):St:=
 ⟨lk [(0,.sc yv),(1,.iptr [.sc (.int .i64 h)] 0),(2,.iptr [.sc (.int .u64 seed)] 0),(4,.view 4 1 0 n),(6,.sc (.int .i64 k)),(7,.view 7 1 0 m),(40,.sc (.int .i64 p)),(41,.sc (.int .i64 i))],Bu [(4,.ar false c),(7,.ar false e)]⟩
theorem A44 (yv:Value)(h seed:Int){n i:Nat}(hn:n<=1000)(hi:i<n):
  MN 63 cl (sB (sB (sR (sL (sR EV))))) 24599 (Ak8 yv h seed n n i (Ah .u64 (gl (fun (j:Nat)=>J9 seed (j:Int)) n i)))=some (0,Ak8 yv h seed n n ((i+1:Nat):Int) (Ah .u64 (gl (fun (j:Nat)=>J9 seed (j:Int)) n (i+1)))):=by
 have pb:cl Ow [.sc (.int .u64 seed),.sc (.int .i64 i)]=_:=Alo (xs:=noX) (fu:=2000) (d:=1) (by omega) seed i
 have w:wrap .i64 ((i:Int)+1)=((i+1:Nat):Int):=by rw[Ap (by omega) (by omega)];omega
 have L:(Ah .u64 (gl (fun (j:Nat)=>J9 seed (j:Int)) n i)).length=n:=by rw[Ay,Ar3 _ (by omega)]
 have AZ:Bq (Ah .u64 (gl (fun (j:Nat)=>J9 seed (j:Int)) n i)) [.sc (.int .u64 (J9 seed i))] i=Ah .u64 (gl (fun (j:Nat)=>J9 seed (j:Int)) n (i+1)):=by
  rw[G8 (by omega),M5]
  exact congrArg _ (Ant (fun (j:Nat)=>J9 seed (j:Int)) hi)
 refine (Apr cl yv h seed n i n (Ah .u64 (gl (fun (j:Nat)=>J9 seed (j:Int)) n i))).trans ?_
 simp (disch:=omega) only[Cu,Kz,Dc,Ch,pb,L,AZ,w]
theorem A4j (yv:Value)(h seed:Int)(n:Nat)(c:List PV):
  MN 63 cl (sB (sB (sR (sL (sR EV))))) 24599 (Ak8 yv h seed n n n c)=some (1,Ak8 yv h seed n n n c):=
 (Apr cl yv h seed n n n c).trans (Ej _ _ _ (by omega))
theorem Ae6 {yv:Value}{h seed:Int}{n:Nat}(hn:n<=1000):∀(r i nn:Nat),i+r=n->r<nn->∀{w0:World}{X0:Fz}{Y:Nat->Prop}{β:Bt}{a:Act}{w:World}{Q:Exit->Act->World->Prop},
  B3 63 w0 X0 Y β (Ak8 yv h seed n n i (Ah .u64 (gl (fun (j:Nat)=>J9 seed (j:Int)) n i))) a w ->
  (∀a' w' β',B3 63 w0 X0 Y β' (Ak8 yv h seed n n n (Ah .u64 (gl (fun (j:Nat)=>J9 seed (j:Int)) n n))) a' w'->Q (.exit 0) a' w')->Code.rounds prog (sB (sB (sR (sL (sR EV))))) Q nn a w
 |_,_,0,_,h=>by omega
 |0,i,nn+1,hi,_=>by
  intro hs hQ;obtain rfl:i=n:=by omega
  rw[rounds_succ];exact Dj (I1 _ _) DW B0 hs (A4j yv h seed i _) fun a' w' β' h'=>hQ a' w' β' h'
 |r+1,i,nn+1,hi,hr=>by
  intro hs hQ;rw[rounds_succ];exact Dj (I1 _ _) DW B0 hs (A44 yv h seed hn (by omega)) fun a' w' β' h'=>Ae6 hn r (i+1) nn (by omega) (by omega) h' hQ
def Fw (seed:Int)(n k:Nat):List Int:=(List.range n).map fun (j:Nat)=>Ct seed k (j:Int)
theorem RC (seed:Int)(n k:Nat):(Fw seed n k).length=n:=by simp[Fw]
theorem Vy (seed:Int){n k j:Nat}(h:j<n):(Fw seed n k)[j]?=some (Ct seed k j):=by simp[Fw,h]
theorem A3h (yv:Value)(h seed:Int){k m i:Nat}(hm:m<=1000)(hk:k<=1000)(hi:i<m):
  MN 63 cl (sB (sB (sR (sL (sR (sB (sL (sR (sB (sB (sR (sR (sR EV))))))))))))) 3298534883543 (Al0 yv h seed k (2*m) m m i (Ah .u64 (Fw seed (2*m) k)) (Ah .u64 (gl (fun (j:Nat)=>Ct seed (k+1) (j:Int)) m i))) =
   some (0,Al0 yv h seed k (2*m) m m ((i+1:Nat):Int) (Ah .u64 (Fw seed (2*m) k)) (Ah .u64 (gl (fun (j:Nat)=>Ct seed (k+1) (j:Int)) m (i+1)))):=by
 have e1:wrap .i64 ((2:Int)*i)=((2*i:Nat):Int):=by rw[Ap (by omega) (by omega)];omega
 have e2:wrap .i64 (((2*i:Nat):Int)+1)=((2*i+1:Nat):Int):=by rw[Ap (by omega) (by omega)];omega
 have e3:wrap .i64 ((k:Int)+1)=((k+1:Nat):Int):=by rw[Ap (by omega) (by omega)];omega
 have w:wrap .i64 ((i:Int)+1)=((i+1:Nat):Int):=by rw[Ap (by omega) (by omega)];omega
 have a1:(Ah .u64 (Fw seed (2*m) k)).getD (2*i) .top=.sc (.int .u64 (Ct seed k ((2*i:Nat):Int))):=EU (Vy seed (by omega))
 have a2:(Ah .u64 (Fw seed (2*m) k)).getD (2*i+1) .top=.sc (.int .u64 (Ct seed k ((2*i+1:Nat):Int))):=EU (Vy seed (by omega))
 have pn:cl Ox [.sc (.int .i64 ((k+1:Nat):Int)),.sc (.int .u64 (Ct seed k ((2*i:Nat):Int))),.sc (.int .u64 (Ct seed k ((2*i+1:Nat):Int)))]=some ⟨[.sc (.int .u64 (Ct seed (k+1) (i:Int)))],[]⟩:=by
  have:=II (xs:=noX) (fu:=2000) (d:=2) (by omega) ((k+1:Nat):Int) (Ct seed k ((2*i:Nat):Int)) (Ct seed k ((2*i+1:Nat):Int))
  rw[show Ct seed (k+1) (i:Int)=O6 ((k+1:Nat):Int) (Ct seed k ((2*i:Nat):Int)) (Ct seed k ((2*i+1:Nat):Int)) by
   rw[Ct];congr 2<;>omega]
  exact this
 have L:(Ah .u64 (gl (fun (j:Nat)=>Ct seed (k+1) (j:Int)) m i)).length=m:=by rw[Ay,Ar3 _ (by omega)]
 have AZ:Bq (Ah .u64 (gl (fun (j:Nat)=>Ct seed (k+1) (j:Int)) m i)) [.sc (.int .u64 (Ct seed (k+1) (i:Int)))] i=Ah .u64 (gl (fun (j:Nat)=>Ct seed (k+1) (j:Int)) m (i+1)):=by
  rw[G8 (by omega),M5]
  exact congrArg _ (Ant (fun (j:Nat)=>Ct seed (k+1) (j:Int)) hi)
 refine (Aon cl yv h seed k m i (2*m) m _ _).trans ?_;simp (disch:=omega) only[Cu,Kz,Dc,Ch,e1,e2,e3,a1,a2,pn,L,AZ,w]
theorem A3i (yv:Value)(h seed k:Int)(n m:Nat)(c e:List PV):
  MN 63 cl (sB (sB (sR (sL (sR (sB (sL (sR (sB (sB (sR (sR (sR EV))))))))))))) 3298534883543 (Al0 yv h seed k n m m m c e)=some (5,Al0 yv h seed k n m m m c e):=
 (Aon cl yv h seed k m m n m c e).trans (Ej _ _ _ (by omega))
theorem Aev {yv:Value}{h seed:Int}{k m:Nat}(hm:m<=1000)(hk:k<=1000):∀(r i nn:Nat),i+r=m->r<nn->∀{w0:World}{X0:Fz}{Y:Nat->Prop}{β:Bt}{a:Act}{w:World}{Q:Exit->Act->World->Prop},
  B3 63 w0 X0 Y β (Al0 yv h seed k (2*m) m m i (Ah .u64 (Fw seed (2*m) k)) (Ah .u64 (gl (fun (j:Nat)=>Ct seed (k+1) (j:Int)) m i))) a w ->
  (∀a' w' β',B3 63 w0 X0 Y β' (Al0 yv h seed k (2*m) m m m (Ah .u64 (Fw seed (2*m) k)) (Ah .u64 (gl (fun (j:Nat)=>Ct seed (k+1) (j:Int)) m m))) a' w'->Q (.exit 4) a' w') ->
  Code.rounds prog (sB (sB (sR (sL (sR (sB (sL (sR (sB (sB (sR (sR (sR EV))))))))))))) Q nn a w
 |_,_,0,_,h=>by omega
 |0,i,nn+1,hi,_=>by
  intro hs hQ;obtain rfl:i=m:=by omega
  rw[rounds_succ];exact Dj (I1 _ _) DW B0 hs (A3i yv h seed k (2*i) i _ _) fun a' w' β' h'=>hQ a' w' β' h'
 |r+1,i,nn+1,hi,hr=>by
  intro hs hQ;rw[rounds_succ];exact Dj (I1 _ _) DW B0 hs (A3h yv h seed hm hk (by omega)) fun a' w' β' h'=>Aev hm hk r (i+1) nn (by omega) (by omega) h' hQ
end
section
open Go.Proofs.Tryz (prog)
open Go.IntKind (wrap)
set_option maxRecDepth 20000
open Go Go.RowKit
noncomputable abbrev VL:Code:=sB (sB (sR (sR (sR EV))))
noncomputable abbrev lvX:Code:=sB (sL (sR VL))
theorem A1e:VL=.seq (.seq (.region 7 (G4 (sL (sL VL))) false) (sR (sL VL))) (.seq (.block 3 lvX) (sR (sR VL))):=by kernel_rfl
theorem Azu:lvX=.seq (sL lvX) (.seq (.seq (sL (sL (sR lvX))) (.block 4 (.loop (sB (sB (sR (sL (sR lvX)))))))) (sR (sR lvX))):=by kernel_rfl
theorem Azd:EV=.seq (sL EV) (.seq (.seq (sL (sL (sR EV))) (.block 0 (.loop (sB (sB (sR (sL (sR EV)))))))) (.seq (sL (sR (sR EV))) (.block 2 (.loop VL)))):=by kernel_rfl
theorem O3 {F:Fence}{n:Nat}{P:Program}{c c':Code}{Q:Exit->Act->World->Prop}{a:Act}{w:World}(e:c=c')(h:c'.wpIn F n P Q a w):c.wpIn F n P Q a w:=e ▸ h
abbrev lvS (yv:Value)(h seed:Int)(n:Nat)(k:Int)(c:List PV):St:=
 ⟨lk [(0,.sc yv),(1,.iptr [.sc (.int .i64 h)] 0),(2,.iptr [.sc (.int .u64 seed)] 0),(4,.view 4 1 0 n),(6,.sc (.int .i64 k))],Bu [(4,.ar false c)]⟩
abbrev Aao (yv:Value)(h seed:Int)(n:Nat)(k:Int)(c:List PV):St:=
 ⟨lk [(0,.sc yv),(1,.iptr [.sc (.int .i64 h)] 0),(2,.iptr [.sc (.int .u64 seed)] 0),(4,.view 4 1 0 n),(6,.sc (.int .i64 k)),(24,.sc yv),(25,.sc (.int .i64 k)),(26,.view 4 1 0 n)],Bu [(4,.ar false c)]⟩
abbrev A27 (yv:Value)(h seed:Int)(n:Nat)(k:Int)(c:List PV)(b:Bool):St:=
 ⟨lk [(0,.sc yv),(1,.iptr [.sc (.int .i64 h)] 0),(2,.iptr [.sc (.int .u64 seed)] 0),(4,.view 4 1 0 n),(6,.sc (.int .i64 k)),(27,.sc (.bool b))],Bu [(4,.ar false c)]⟩
def lvM (seed:Int)(h:Nat)(pre:List Nat)(k:Nat)(args:Array Value)(Z:Nat->Prop)(A:World):Prop:=
 k<=h∧pre=List.range k∧∃b o cap,args = #[.int .i64 k,.slice (some ⟨b,o,none⟩) (2 ^ (h-k):Nat) cap]∧2 ^ (h-k)<=cap∧b<A.heap.size∧¬Z b∧∀j,j<2 ^ (h-k)->A.cell? ⟨b,o+j,none⟩=some (.int .u64 (Ct seed k j))
theorem Arm {seed:Int}{h:Nat}{pre:List Nat}{k:Nat}{args:Array Value}{Z:Nat->Prop}{A B:World}(hm:lvM seed h pre k args Z A)(hs:A.heap.size<=B.heap.size)(hk:∀b,b<A.heap.size->¬Z b->B.heap[b]?=A.heap[b]?):lvM seed h pre k args Z B:=by
 obtain⟨h0,hpr,b,o,cap,h1,h2,h3,h4,h5⟩:=hm;exact⟨h0,hpr,b,o,cap,h1,h2,by omega,h4,fun j hj=>(World.cell?_of_block (a:=⟨b,o+j,none⟩) (hk b h3 h4)).trans (h5 j hj)⟩
theorem Ar6 {seed:Int}{h:Nat}{pre:List Nat}{k:Nat}{args:Array Value}{Z:Nat->Prop}{A:World}(hm:lvM seed h pre k args Z A):args.size=2:=by
 obtain⟨h0,_,b,o,cap,h1,_⟩:=hm;rw[h1];rfl
theorem A4u:∃ty pos aft x,(G4 (sL (sL VL)))[3]?=some { dst:=some 27,op:=.call { callee:=.value (.tmp 24),args:= #[.tmp 25,.tmp 26],argTypes:=x },type:=ty,pos:=pos,after:=aft,guard:=none }:=
 ⟨_,_,_,_,rfl⟩
theorem Oj {k:IntKind}{l:List Int}{i:Nat}{n:Int}(h:l[i]?=some n):(Ah k l)[i]?=some (.sc (.int k n)):=by
 have h1:=EU (k:=k) h;have Cc:i<(Ah k l).length:=by rw[Ay];exact (List.getElem?_eq_some_iff.1 h).1
 rw[List.getD_eq_getElem?_getD,List.getElem?_eq_getElem Cc] at h1;rw[List.getElem?_eq_getElem Cc];exact congrArg some h1
section
variable {seed:Int} {h l:Nat} {w0:World} {X0:Fz} {Z:Nat->Prop} {β:Bt} {a:Act} {w:World}
theorem Avt {yv:Value}{k n:Nat}{c:List PV}{hi:Int}(hs:B3 63 w0 X0 Z β (Aao yv hi seed n k c) a w) (hn:0<n):
  a.tmps.getD 24 undef=yv∧a.tmps.getD 25 undef=.int .i64 k∧∃b o cap,β 4=some (b,o)∧a.tmps.getD 26 undef=.slice (some ⟨b,o,none⟩) n cap∧n<=cap∧b<w.heap.size∧VH w (De (Bu [(4,.ar false c)]) β Z) ⟨b,o,none⟩ c:=by
 have h24:=hs.tms 24 (by decide)
 have h25:=hs.tms 25 (by decide)
 have h26:=hs.tms 26 (by decide)
 have hb:=hs.box 4 _ (rfl:_=some (Bx.ar false c));refine⟨(L7 h24),(L7 h25),?_⟩;rcases (show Cj w (De (Bu [(4,.ar false c)]) β Z) β (.view 4 1 0 n) (a.tmps.getD 26 undef) from h26) with⟨_,_,h3,_⟩|⟨b,o,x,cap,h1,h2,h3,h4,h5,h6⟩
 ·omega
 ·rcases hb with⟨h7,_⟩|⟨b',o',h7,h8,_⟩
  ·rw[h1] at h7;cases h7
  ·rw[h1] at h7;cases h7;have hx:x=o:=by omega
   subst hx;exact⟨b,x,cap,h1,h2,h4,h6,h8⟩
abbrev A4y (yv:Value)(h seed:Int)(n:Nat)(k:Int)(c:List PV)(q:Bool):St:=
 ⟨lk [(0,.sc yv),(1,.iptr [.sc (.int .i64 h)] 0),(2,.iptr [.sc (.int .u64 seed)] 0),(4,.view 4 1 0 n),(6,.sc (.int .i64 k)),(32,.sc (.bool q))],Bu [(4,.ar false c)]⟩
theorem Ajg {yv:Value}{hi seed:Int}{n:Nat}{k:Int}{c:List PV}:∀id cc,(Aao yv hi seed n k c).hp id≠some (.st cc):=by
 intro id cc e;rcases Ro [(4,Bx.ar false c)] id with h1|⟨q,hq,h1,h2⟩
 ·rw[show (Aao yv hi seed n k c).hp id=Bu [(4,Bx.ar false c)] id from rfl,h1] at e;cases e
 ·simp at hq;subst hq;rw[show (Aao yv hi seed n k c).hp id=Bu [(4,Bx.ar false c)] id from rfl,h2] at e
  cases e
theorem Avg {hi:Int}{yv:Value}{n:Nat}{k:Int}{c:List PV}{Z':Nat->Prop}{B:World}(b:Bool)(hs:B3 63 w0 X0 Z β (Aao yv hi seed n k c) a w) (ht:R4 Z Z' w B):
  B3 63 B (Alv (Aao yv hi seed n k c) β) Z' β (A27 yv hi seed n k c b) (a.put (some 27) (.bool b)) B:=by
 have h1:=(hs.rebase ht Ajg).put (d:=some 27) (v:=.sc (.bool b)) (val:=.bool b) rfl (A4.sc _) (by simp[B8,Cl,Az])
 refine h1.pick _ _ ?_ ?_ ?_ ?_ (fun _ h=>h.elim)
 ·intro q hq;simp only[List.mem_cons,List.not_mem_nil,or_false] at hq;rcases hq with rfl|rfl|rfl|rfl|rfl|rfl<;>rfl
 ·intro q hq;simp only[List.mem_cons,List.not_mem_nil,or_false] at hq;rcases hq with rfl<;>rfl
 ·intro q hq id Br;simp only[List.mem_cons,List.not_mem_nil,or_false] at hq;rcases hq with rfl|rfl|rfl|rfl|rfl|rfl<;>simp[B8,Cl,Az] at Br
  subst Br;simp[Bu]
 ·intro q hq cells e;simp only[List.mem_cons,List.not_mem_nil,or_false] at hq;rcases hq with rfl;cases e
theorem At8 (hh:h<=4){J Jx:(Nat->Prop)->List Nat->World->Prop} (hJ:∀Z pre A B,J Z pre A->M3 Z A B->J Z pre B)(hJx:∀Z pre A B,Jx Z pre A->M3 Z A B->Jx Z pre B)
  (hY:∀Z pre x args A,J Z pre A->lvM seed h pre x args Z A->YieldAt Fence.wide 0 prog l args A fun e B=>∃Z',R4 Z Z' A B∧((e=.returned (.bool true)∧J Z' (pre++[x]) B)∨(e=.returned (.bool false)∧Jx Z' (pre++[x]) B)))
  {k r:Nat} (hk:k+r=h) (hs:B3 63 w0 X0 Z β (lvS (.func (.yield l) #[] #[]) h seed (2 ^ r) k (Ah .u64 (Fw seed (2 ^ r) k))) a w) (hd:∀b,Z b->¬X0.X b) (hj:J Z (List.range k) w0) {Q:Exit->Act->World->Prop}
  (hgo:k<h->∀w2 X2 Z' β' a' w',B3 63 w2 X2 Z' β' (lvS (.func (.yield l) #[] #[]) h seed (2 ^ r) k (Ah .u64 (Fw seed (2 ^ r) k))) a' w'->(∀b,Z' b->¬X2.X b)->J Z' (List.range (k+1)) w2->Q .normal a' w')
  (Abi:∀a' w',a'.defers=[]->(∃Z xs,(xs=List.range (h+1)∧J Z xs w')∨((∃k,xs=List.range (k+1))∧Jx Z xs w'))->Q (.exit 2) a' w'):
  (Code.seq (.region 7 (G4 (sL (sL VL))) false) (sR (sL VL))).wpIn Fence.wide 0 prog Q a w:=by
 have hp:0<2 ^ r:=Nat.pos_of_ne_zero (by simp)
 refine wpIn_seq (wpIn_region ?_);have hl:List.range (G4 (sL (sL VL))).size=[0,1,2]++[3,4,5,6,7,8]:=by kernel_rfl
 rw[hl];refine Gs (ro:=none) (C:=CB) (call:=cl) (r:=((0:Nat),Aao (.func (.yield l) #[] #[]) h seed (2 ^ r) k (Ah .u64 (Fw seed (2 ^ r) k)))) (I1 _ _) B0 ?_ [0,1,2] (List.take 3 (G4 (sL (sL VL))).toList) (by kernel_rfl) ?_ (by kernel_rfl) hs (A1g cl _ h seed k (2 ^ r) _)
 rotate_left
 ·intro j i hj
  match j,hj with
  |0,hj=>cases hj;rfl
  |1,hj=>cases hj;rfl
  |2,hj=>cases hj;rfl
 intro s' a1 w1 β1 Eb KQ;obtain⟨β2,s2,Gi,PN⟩:=B6 KQ Eb;cases Gi;obtain⟨v24,v25,b,o,cap,hb,v26,NR,DP,hrd⟩:=Avt PN hp;have hjw:J Z (List.range k) w1:=hJ Z _ _ _ hj (PN.stay hd);have hkr:h-k=r:=by omega
 have hm:lvM seed h (List.range k) k #[.int .i64 k,.slice (some ⟨b,o,none⟩) (2 ^ r:Nat) cap] Z w1:=by
  refine⟨by omega,rfl,b,o,cap,by rw[hkr],by rw[hkr];exact NR,DP,fun hz=>PN.Yx b hz ⟨4,o,by trivial,hb⟩,fun j hj=>?_⟩
  rw[hkr] at hj;obtain⟨v,hv,_,hv2⟩:=hrd j (.sc (.int .u64 (Ct seed k j))) (Oj (Vy seed hj));rw[Eu] at hv;rw[hv,A4.val hv2]
 obtain⟨fn,tmps,assign,body,hy,hR⟩:=hY Z _ k _ w1 hjw hm;obtain⟨ty,pos,aft,x,ho⟩:=A4u;rw[wpOpsIn_cons];unfold wpOpIn;rw[ho];simp only[Region.wanted,if_true]
 have run:(execOp a1.eval { dst:=some 27,op:=.call { callee:=.value (.tmp 24),args:= #[.tmp 25,.tmp 26],argTypes:=x },type:=ty,pos:=pos,after:=aft,guard:=none }).run prog w1=.ok (.round l fn tmps assign body) w1:=by
  have e24:a1.eval (.tmp 24)=.func (.yield l) #[] #[]:=v24;have e25:a1.eval (.tmp 25)=.int .i64 k:=v25;have e26:a1.eval (.tmp 26)=.slice (some ⟨b,o,none⟩) (2 ^ r:Nat) cap:=v26;refine VS rfl rfl e24 ?_;rw[←hy];simp only[List.map_toArray,VN,List.map_nil,e25,e26]
 refine⟨fun _ _=>trivial,?_⟩
 rw[show Oper.semAt (WF none).round a1.eval { dst:=some 27,op:=.call { callee:=.value (.tmp 24),args:= #[.tmp 25,.tmp 26],argTypes:=x },type:=ty,pos:=pos,after:=aft,guard:=none }=execOp a1.eval { dst:=some 27,op:=.call { callee:=.value (.tmp 24),args:= #[.tmp 25,.tmp 26],argTypes:=x },type:=ty,pos:=pos,after:=aft,guard:=none } from rfl,run]
 refine⟨(fun h=>by cases h),(KZ hR).mono ?_⟩
 have rest:∀(e:Bool) (B:World) (Z':Nat->Prop) (q:Bool),R4 Z Z' w1 B->(K4 CB prog 63 cl (G4 (sL (sL VL))) (List.drop 4 (G4 (sL (sL VL))).toList) (A27 (.func (.yield l) #[] #[]) h seed (2 ^ r) k (Ah .u64 (Fw seed (2 ^ r) k)) e) (fun s=>I3 63 4294967383 s fun s'=>some (0,s'))=some ((0:Nat),A4y (.func (.yield l) #[] #[]) h seed (2 ^ r) k (Ah .u64 (Fw seed (2 ^ r) k)) q)) ->
   (∀a' w' β',B3 63 B (Alv (Aao (.func (.yield l) #[] #[]) h seed (2 ^ r) k (Ah .u64 (Fw seed (2 ^ r) k))) β2) Z' β' (lvS (.func (.yield l) #[] #[]) h seed (2 ^ r) k (Ah .u64 (Fw seed (2 ^ r) k))) a' w'->if q=true then Q .normal a' w' else Q (.exit 2) a' w') ->
   wpOpsIn (WF none) 0 prog (G4 (sL (sL VL))) (Exit.then ((sR (sL VL)).wpIn Fence.wide 0 prog Q) Q) [4,5,6,7,8] (a1.put (some 27) (.bool e)) B:=by
  intro e B Z' q ht heq hq;have h4:=Avg e PN ht;show wpOpsIn _ _ _ _ _ ([4,5,6,7,8]++[]) _ _;refine Gs (ro:=none) (C:=CB) (call:=cl) (I1 _ _) B0 ?_ [4,5,6,7,8] (List.drop 4 (G4 (sL (sL VL))).toList) (by kernel_rfl) ?_ (by kernel_rfl) h4 heq
  rotate_left
  ·intro j i hj
   match j,hj with
   |0,hj=>cases hj;rfl
   |1,hj=>cases hj;rfl
   |2,hj=>cases hj;rfl
   |3,hj=>cases hj;rfl
   |4,hj=>cases hj;rfl
  intro s' a5 w5 β5 WS We;obtain⟨β6,s6,hk6,hs6⟩:=B6 We WS;cases hk6;show (sR (sL VL)).wpIn Fence.wide 0 prog Q a5 w5;cases q
  ·exact wpIn_wide.2 (Dj (I1 _ _) DW B0 hs6 ((Aq0 cl _ h seed k (2 ^ r) _ false).trans rfl) fun a' w' β' h'=>hq a' w' β' h')
  ·exact wpIn_wide.2 (Dj (I1 _ _) DW B0 hs6 ((Aq0 cl _ h seed k (2 ^ r) _ true).trans rfl) fun a' w' β' h'=>hq a' w' β' h')
 have G3:∀{B:World} {Z':Nat->Prop} {β':Bt} {s':St} {a':Act} {w':World},R4 Z Z' w1 B->∀b,Z' b->¬(Alv (Aao (.func (.yield l) #[] #[]) h seed (2 ^ r) k (Ah .u64 (Fw seed (2 ^ r) k))) β2).X b:=by
  intro B Z' _ _ _ _ ht b hz;exact (PN.rebase ht Ajg).Yx b hz
 have er:List.range k++[k]=List.range (k+1):=(List.range_succ).symm
 rintro e B ⟨Z',ht,(⟨rfl,hj2⟩|⟨rfl,hj2⟩)⟩
 ·rw[er] at hj2;refine rest true B Z' (decide ((k:Int)<(h:Int))) ht (Awi cl _ h seed k (2 ^ r) _) fun a' w' β' h'=>?_
  have hdd:=G3 (β':=β) (s':=s') (a':=a) (w':=w) ht;by_cases Cc:k<h
  ·rw[C5 (by simp;omega)]
   exact hgo Cc B _ Z' β' a' w' h' hdd hj2
  ·rw[Bn (by simp;omega)]
   exact Abi a' w' h'.dfr ⟨Z',List.range (k+1),.inl ⟨by rw[show k=h by omega],hJ Z' _ _ _ hj2 (h'.stay hdd)⟩⟩
 ·refine rest false B Z' false ht (Atu cl _ h seed k (2 ^ r) _) fun a' w' β' h'=>?_
  have hdd:=G3 (β':=β) (s':=s') (a':=a) (w':=w) ht;rw[Bn (by simp)]
  exact Abi a' w' h'.dfr ⟨Z',_,.inr ⟨⟨k,er⟩,hJx Z' _ _ _ hj2 (h'.stay hdd)⟩⟩
theorem WE (hh:h<=4){J Jx:(Nat->Prop)->List Nat->World->Prop} (hJ:∀Z pre A B,J Z pre A->M3 Z A B->J Z pre B)(hJx:∀Z pre A B,Jx Z pre A->M3 Z A B->Jx Z pre B)
  (hY:∀Z pre x args A,J Z pre A->lvM seed h pre x args Z A->YieldAt Fence.wide 0 prog l args A fun e B=>∃Z',R4 Z Z' A B∧((e=.returned (.bool true)∧J Z' (pre++[x]) B)∨(e=.returned (.bool false)∧Jx Z' (pre++[x]) B)))
  {Q:Exit->Act->World->Prop} (Abi:∀a' w',a'.defers=[]->(∃Z xs,(xs=List.range (h+1)∧J Z xs w')∨((∃k,xs=List.range (k+1))∧Jx Z xs w'))->Q (.exit 2) a' w'):
  ∀(r k nn:Nat),k+r=h->r<nn->∀{w0:World} {X0:Fz} {Z:Nat->Prop} {β:Bt} {a:Act} {w:World},
   B3 63 w0 X0 Z β (lvS (.func (.yield l) #[] #[]) h seed (2 ^ r:Nat) k (Ah .u64 (Fw seed (2 ^ r) k))) a w->(∀b,Z b->¬X0.X b)->J Z (List.range k) w0->Code.roundsIn Fence.wide 0 prog VL Q nn a w
 |_,_,0,_,h=>by omega
 |r,k,nn+1,hk,hr=>by
  intro hs hd hj;rw[roundsIn_succ];refine O3 A1e (wpIn_seq (At8 hh hJ hJx hY hk hs hd hj ?_ fun a' w' h1 h2=>Abi a' w' h1 h2))
  intro Cc w2 X2 Z' β' a' w' PN hd2 hj2
  match r,hk,hr,PN with
  |0,hk,hr,PN=>omega
  |r+1,hk,hr,PN=>
   have hp:2 ^ (r+1)=2*2 ^ r:=by rw[Nat.pow_succ];omega
   have AK:2 ^ r<=8:=by
    have:2 ^ r<=2 ^ 3:=Nat.pow_le_pow_right (by omega) (by omega)
    omega
   rw[hp] at PN;show (Code.seq (.block 3 lvX) (sR (sR VL))).wpIn Fence.wide 0 prog _ a' w';refine wpIn_seq (wpIn_block (O3 Azu (wpIn_seq (wpIn_wide.2 (Dj (I1 _ _) DW B0 PN (L:=215) (t:=0) (s1:=⟨lk [(0,.sc (.func (.yield l) #[] #[])),(1,.iptr [.sc (.int .i64 h)] 0),(2,.iptr [.sc (.int .u64 seed)] 0),(4,.view 4 1 0 (2*2 ^ r)),(6,.sc (.int .i64 k)),(7,.view 7 1 0 (2 ^ r))],Bu [(4,.ar false (Ah .u64 (Fw seed (2*2 ^ r) k))),(7,.ar false (Ah .u64 (List.replicate (2 ^ r) 0)))]⟩) ?_ ?_)))))
   ·have w2:wrap .i64 (Int.tdiv ((2*2 ^ r:Nat):Int) 2)=((2 ^ r:Nat):Int):=by
     rw[Int.tdiv_eq_ediv_of_nonneg (by omega),Ap (by omega) (by omega)];omega
    refine (A1h cl _ h seed k (2*2 ^ r) _).trans ?_;simp (disch:=omega) only[Cu,Kz,w2,QZ]
   intro a3 w3 β3 hs3;refine wpIn_seq (wpIn_seq (wpIn_wide.2 (Dj (I1 _ _) DW B0 hs3 (Az9 cl _ h seed k _ _ _ _) ?_)));intro a4 w4 β4 hs4;refine wpIn_block (wpIn_wide.2 (wp_loop_rounds 1000 (Aev (k:=k) (m:=2 ^ r) (by omega) (by omega) (2 ^ r) 0 1000 (by omega) (by omega) (by rw[Ajt];exact hs4) ?_)))
   intro a5 w5 β5 We;show (sR (sR lvX)).wpIn Fence.wide 0 prog _ a5 w5;refine wpIn_wide.2 (Dj (I1 _ _) DW B0 We (Ay9 cl _ h seed k _ _ _ _ _ _) ?_);intro a6 w6 β6 hs6;show (sR (sR VL)).wpIn Fence.wide 0 prog _ a6 w6;refine wpIn_wide.2 (Dj (I1 _ _) DW B0 hs6 (L:=87) (t:=0) (s1:=lvS (.func (.yield l) #[] #[]) h seed (2 ^ r:Nat) ((k+1:Nat):Int) (Ah .u64 (Fw seed (2 ^ r) (k+1)))) ?_ ?_)
   ·have w1:wrap .i64 ((k:Int)+1)=((k+1:Nat):Int):=by rw[Ap (by omega) (by omega)];omega
    refine (Azq cl _ h seed k _ _).trans ?_;simp only[Cu,w1];rw[Aka];rfl
   intro a7 w7 β7 hs7;exact WE hh hJ hJx hY Abi r (k+1) nn (by omega) (by omega) hs7 hd2 hj2
end
end
section
open Go.Proofs.Tryz (prog)
open Go.IntKind (wrap)
set_option maxRecDepth 20000
open Go Go.RowKit
def noL:Fz:={ X:=fun _=>False,L:=fun _ _=>False,pn:=fun _=>False,pt:=fun _=>none,p8:=fun _ h=>h.elim }
theorem B3.init {N:Nat}{W:World}{Z0:Nat->Prop}(l:List (Nat × PV)) (a:Act)(hd:a.defers=[]) (Lw:a.tmps.size=N)(Cc:∀q∈l,q.1<N)(hv:∀q∈l,Ed W Z0 (fun _=>none) q.2 (a.tmps.getD q.1 undef)) (hr:∀q∈l,B8 q.2=[]) (hZ:∀b,Z0 b->b<W.heap.size):
  B3 N W noL Z0 (fun _=>none) ⟨lk l,Bu []⟩ a W:=by
 have hA:∀b,b<W.heap.size->De (Bu []) (fun _=>none) Z0 b->Z0 b:=fun b _ hb=>hb.elim (fun ⟨_,_,h,_⟩=>(h:Cv none).elim) id
 have Gv:Cq Z0 W W:=⟨Nat.le_refl _,fun _ _ _=>rfl,fun _ _=>Nat.le_refl _⟩
 refine⟨hd,Lw,fun i hi=>?_,fun i hi=>?_,fun id bx e=>(by cases e),fun id id' b o o' h=>(h:Cv none).elim,fun id b o h=>(h rfl).elim,fun i hi id Br=>?_,fun id c e=>(by cases e),fun b ⟨_,_,h,_⟩=>(h:Cv none).elim,fun id bx b o e=>(by cases e),
  fun i hi=>hi.elim,fun id c b o e=>(by cases e),fun b hz ⟨_,_,h,_⟩=>(h:Cv none).elim,hZ,⟨rfl,rfl,rfl,⟨Nat.le_refl _,fun _ _ _=>rfl,fun _ _=>Nat.le_refl _⟩,fun _ _ _ _=>⟨rfl,rfl⟩⟩⟩
 ·rcases Qv l i with e|⟨q,hq,h1,h2⟩
  ·exact e
  ·have:=Cc q hq;omega
 ·show Ed W (De (Bu []) (fun _=>none) Z0) (fun _=>none) (lk l i) _
  rcases Qv l i with e|⟨q,hq,h1,h2⟩
  ·rw[e];exact A4.top _
  ·rw[h2,←h1];exact (hv q hq).step Gv hA fun _ _=>rfl
 ·rcases Qv l i with e|⟨q,hq,h1,h2⟩
  ·rw[show (St.mk (lk l) (Bu [])).tm i=lk l i from rfl,e] at Br;simp[B8,Cl,Az] at Br
  ·rw[show (St.mk (lk l) (Bu [])).tm i=lk l i from rfl,h2,hr q hq] at Br;cases Br
def Ayl (seed:Int)(h Bh Bs:Nat)(Z0:Nat->Prop)(W:World):Prop:=
 W.cell? ⟨Bh,0,none⟩=some (.int .i64 h)∧W.cell? ⟨Bs,0,none⟩=some (.int .u64 seed)∧Bh<W.heap.size∧Bs<W.heap.size∧¬Z0 Bh∧¬Z0 Bs
theorem Axn {h:Nat}(hh:h<=4):J0 .i64 1 (h:Int)=((2 ^ h:Nat):Int):=by
 have:h=0∨h=1∨h=2∨h=3∨h=4:=by omega
 rcases this with rfl|rfl|rfl|rfl|rfl<;>decide
theorem Awd {seed:Int}{h Bh Bs:Nat}{Z0:Nat->Prop}{W:World}{yv:Value}(hP:Ayl seed h Bh Bs Z0 W)(hZ:∀b,Z0 b->b<W.heap.size):
  B3 63 W noL Z0 (fun _=>none) ⟨lk [(0,.sc yv),(1,.iptr [.sc (.int .i64 h)] 0),(2,.iptr [.sc (.int .u64 seed)] 0)],Bu []⟩ { tmps:=(yv::Value.pointer (some ⟨Bh,0,none⟩)::Value.pointer (some ⟨Bs,0,none⟩)::List.replicate 60 undef).toArray,defers:=[] } W:=by
 obtain⟨p1,p2,p3,p4,p5,p6⟩:=hP;refine B3.init _ _ rfl (by simp) ?_ ?_ ?_ hZ
 ·intro q hq;simp only[List.mem_cons,List.not_mem_nil,or_false] at hq;rcases hq with rfl|rfl|rfl<;>simp
 ·intro q hq;simp only[List.mem_cons,List.not_mem_nil,or_false] at hq;rcases hq with rfl|rfl|rfl
  ·exact A4.sc _
  ·refine⟨⟨Bh,0,none⟩,rfl,rfl,p3,p5,fun j c hj=>?_⟩
   match j,hj with
   |0,hj=>cases hj;exact⟨_,p1,rfl,A4.sc _⟩
  ·refine⟨⟨Bs,0,none⟩,rfl,rfl,p4,p6,fun j c hj=>?_⟩
   match j,hj with
   |0,hj=>cases hj;exact⟨_,p2,rfl,A4.sc _⟩
 ·intro q hq;simp only[List.mem_cons,List.not_mem_nil,or_false] at hq;rcases hq with rfl|rfl|rfl<;>rfl
theorem Aul {seed:Int}{h Bh Bs:Nat}(hh:h<=4):Axp prog 113 #[.pointer (some ⟨Bh,0,none⟩),.pointer (some ⟨Bs,0,none⟩)] (lvM seed h) (fun xs=>xs=List.range (h+1)) (fun xs=>∃k,xs=List.range (k+1)) (Ayl seed h Bh Bs):=by
 intro l J Jx W Z0 hZ hP hJ hJx hY h0;obtain⟨p1,p2,p3,p4,p5,p6⟩:=hP;refine callsIn_wide.1 (callsIn_of_wp (F:=Fence.wide) (n:=0) Tryz.func113 rfl trivial ?_ rfl);show EV.wpIn _ _ _ _ _ _;have t1:(({ tmps:=(#[Value.func (.yield l) #[] #[]] ++ #[Value.pointer (some ⟨Bh,0,none⟩),Value.pointer (some ⟨Bs,0,none⟩)])++Array.replicate (Tryz.f113.ntmps-(#[Value.func (.yield l) #[] #[]] ++ #[Value.pointer (some ⟨Bh,0,none⟩),Value.pointer (some ⟨Bs,0,none⟩)]).size) undef,defers:=[] }:Act))={ tmps:=(Value.func (.yield l) #[] #[]::Value.pointer (some ⟨Bh,0,none⟩)::Value.pointer (some ⟨Bs,0,none⟩)::List.replicate 60 undef).toArray,defers:=[] }:=by kernel_rfl
 rw[t1];have i0:=Awd (seed:=seed) (h:=h) (Z0:=Z0) (yv:=.func (.yield l) #[] #[]) ⟨p1,p2,p3,p4,p5,p6⟩ hZ;generalize ({ tmps:=(Value.func (.yield l) #[] #[]::Value.pointer (some ⟨Bh,0,none⟩)::Value.pointer (some ⟨Bs,0,none⟩)::List.replicate 60 undef).toArray,defers:=[] }:Act)=a0 at i0 ⊢
 have AK:2 ^ h<=16:=by
  have:2 ^ h<=2 ^ 4:=Nat.pow_le_pow_right (by omega) hh
  omega
 refine O3 Azd (wpIn_seq (wpIn_wide.2 (Dj (I1 _ _) DW B0 i0 (L:=23) (t:=0)
  (s1:=⟨lk [(0,.sc (.func (.yield l) #[] #[])),(1,.iptr [.sc (.int .i64 h)] 0),(2,.iptr [.sc (.int .u64 seed)] 0),(4,.view 4 1 0 (2 ^ h))],Bu [(4,.ar false (Ah .u64 (List.replicate (2 ^ h) 0)))]⟩) ?_ ?_)))
 ·refine (A0k cl _ h seed).trans ?_;have e1:=Axn hh;have e2:(0:Int)<=h:=by omega
  generalize 2 ^ h=n at AK e1 ⊢;simp (disch:=omega) only[Cu,e1,Kz,QZ]
 intro a1 w1 β1 h1;refine wpIn_seq (wpIn_seq (wpIn_wide.2 (Dj (I1 _ _) DW B0 h1 (Ay7 cl _ h seed _ _) ?_)));intro a2 w2 β2 h2;refine wpIn_block (wpIn_wide.2 (wp_loop_rounds 1000 (Ae6 (n:=2 ^ h) (by omega) (2 ^ h) 0 1000 (by omega) (by omega) (by rw[Ajt];exact h2) ?_)))
 intro a3 w3 β3 h3;show (Code.seq (sL (sR (sR EV))) (.block 2 (.loop VL))).wpIn Fence.wide 0 prog _ a3 w3;refine wpIn_seq (wpIn_wide.2 (Dj (I1 _ _) DW B0 h3 (L:=87) (t:=0) (s1:=lvS (.func (.yield l) #[] #[]) h seed (2 ^ h:Nat) ((0:Nat):Int) (Ah .u64 (Fw seed (2 ^ h) 0))) ?_ ?_))
 ·refine (Aze cl _ h seed _ _ _ _).trans ?_;rw[Aka];rfl
 intro a4 w4 β4 h4;refine wpIn_block (wpIn_loop_rounds 1000 (WE hh hJ hJx hY ?_ h 0 1000 (by omega) (by omega) h4 (fun b _ hb=>hb) h0))
 intro a5 w5 h5 h6;exact⟨h5,_,results_none rfl _ _ _,⟨_,rfl⟩,h6⟩
end
section
open Go.IntKind (wrap)
set_option maxRecDepth 20000
open Go Go.RowKit
theorem B3.make {N:Nat}{W:World}{Y:Nat->Prop}{β:Bt}(l:List (Nat × PV)) (bl:List (Nat × Bx)) (a:Act)(pn:Nat->Prop)(p8:∀i,pn i->i<8)(hd:a.defers=[]) (Lw:a.tmps.size=N)(Cc:∀q∈l,q.1<N)
  (hv:∀q∈l,Ed W (De (Bu bl) β Y) β q.2 (a.tmps.getD q.1 undef)) (hb:∀id bx,Bu bl id=some bx->U5 W (De (Bu bl) β Y) β id bx)
  (inj:∀id id' b o o',Cv (Bu bl id)->Cv (Bu bl id')->β id=some (b,o)->β id'=some (b,o')->id=id') (blt:∀id b o,Bu bl id≠none->β id=some (b,o)->b<W.heap.size)
  (wfT:∀q∈l,∀id∈B8 q.2,Bu bl id≠none)(wfB:∀id cells,Bu bl id=some (.st cells)->∀c∈cells,∀i∈Az c,Bu bl i≠none) (Ym:∀i,pn i->Bu bl (Dl N i)≠none)
  (stp:∀id c,Bu bl id=some (.st c)->∃i,id=Dl N i∧pn i) (Yx:∀b,Y b->¬DF (Bu bl) β b) (Ylt:∀b,Y b->b<W.heap.size):
  B3 N W { X:=DF (Bu bl) β,L:=fun b _=>DF (Bu bl) β b,pn:=pn,pt:=fun i=>β (Dl N i),p8:=p8 } Y β ⟨lk l,Bu bl⟩ a W:=by
 refine⟨hd,Lw,fun i hi=>?_,fun i hi=>?_,hb,inj,blt,fun i hi id Br=>?_,wfB,fun b hb=>.inl hb,fun id bx b o h1 h2 h3 _ j _=>⟨id,o,by rw[show Bu bl id=some bx from h1];exact h2,h3⟩,fun i hi=>⟨Ym i hi,rfl⟩,
  fun id c b o h1 _ _=>stp id c h1,Yx,Ylt,⟨rfl,rfl,rfl,⟨Nat.le_refl _,fun _ _ _=>rfl,fun _ _=>Nat.le_refl _⟩,fun _ _ _ _=>⟨rfl,rfl⟩⟩⟩
 ·rcases Qv l i with e|⟨q,hq,h1,h2⟩
  ·exact e
  ·have:=Cc q hq;omega
 ·show Ed W _ β (lk l i) _;rcases Qv l i with e|⟨q,hq,h1,h2⟩
  ·rw[e];exact A4.top _
  ·rw[h2,←h1];exact hv q hq
 ·rcases Qv l i with e|⟨q,hq,h1,h2⟩
  ·rw[show (St.mk (lk l) (Bu bl)).tm i=lk l i from rfl,e] at Br;simp[B8,Cl,Az] at Br
  ·rw[show (St.mk (lk l) (Bu bl)).tm i=lk l i from rfl,h2] at Br;exact wfT q hq id Br
def A2w (lo e0:Nat)(A:World)(pv:Value)(l:List Int):Prop:=
 (l=[]∧∃ad,pv=.slice ad 0 0)∨∃pb po cap,0<cap∧pv=.slice (some ⟨pb,po,none⟩) l.length cap∧l.length<=cap∧po+cap<=bsz A pb∧pb<A.heap.size∧(lo<=pb∨pb=e0)∧(∀(j:Nat) x,l[j]?=some x->A.cell? ⟨pb,po+j,none⟩=some (.int .u64 x))∧∀j,po<=j->j<bsz A pb->A.frozen? ⟨pb,j,none⟩=false
theorem frozen?_of_block {A B:World}{b j:Nat}(h:B.heap[b]?=A.heap[b]?):B.frozen? ⟨b,j,none⟩=A.frozen? ⟨b,j,none⟩:=by
 unfold World.frozen?;simp only[h]
structure IR (wS:World) (D:Nat) (seed leaf:Int) (h b10 o10 e0:Nat) (chv:Value) (Z:Nat->Prop) (pre:List Nat) (A:World):Prop where
 os:A.os=wS.os
 tape:A.tape=wS.tape
 output:A.output=wS.output
 size:D+2<=A.heap.size
 zlo:∀b,b<wS.heap.size->Z b
 zlt:∀b,Z b->b<A.heap.size
 keep:∀b,b<wS.heap.size->b≠b10->b≠e0->A.heap[b]?=wS.heap[b]?
 bs:bsz wS b10<=bsz A b10
 c0:A.cell? ⟨b10,o10,none⟩=some (.int .i64 leaf)
 c1:A.cell? ⟨b10,o10+1,none⟩=some chv
 fz:∀k,k<3->A.frozen? ⟨b10,o10+k,none⟩=false
 lt:∀x∈pre,x<h
 path:∃pv,A.cell? ⟨b10,o10+2,none⟩=some pv∧A2w (D+2) e0 A pv (pre.map fun k=>Ct seed k (J2 leaf k))∧∀pb po n cap,0<cap->pv=.slice (some ⟨pb,po,none⟩) n cap->Z pb
noncomputable abbrev Ahe:Code:=sF (sB (sR (sL (sR (sR (sR QT))))))
abbrev A21 (h leaf:Int)(x:Nat)(n:Nat)(c:List PV):List (Nat × PV):=[(5,.iptr [.sc (.int .i64 h)] 0),(6,.iptr [.sc (.int .i64 leaf)] 0),(10,.ptr 96000 0),(11,.sc (.int .i64 x)),(12,.lst false 1 n c)]
abbrev VG (leaf:Int)(ch:Value)(m:Nat)(d:List PV):List (Nat × Bx):=[(96000,.st [.sc (.int .i64 leaf),.sc ch,.view 20 1 0 m]),(20,.ar false d)]
structure A3d (wS:World) (b5 o5 b6 o6 b10 o10:Nat) (args:Array Value) (a:Act):Prop where
 dfr:a.defers=[]
 size:a.tmps.size=48
 t5:a.tmps.getD 5 undef=.pointer (some ⟨b5,o5,none⟩)
 t6:a.tmps.getD 6 undef=.pointer (some ⟨b6,o6,none⟩)
 t10:a.tmps.getD 10 undef=.pointer (some ⟨b10,o10,none⟩)
 t11:a.tmps.getD 11 undef=args.getD 0 undef
 t12:a.tmps.getD 12 undef=args.getD 1 undef
theorem Ara {wS:World}{D:Nat}{seed leaf:Int}{h b5 o5 b6 o6 b10 o10 e0:Nat}{chv:Value}{Z:Nat->Prop}{pre:List Nat}{A:World}(hI:IR wS D seed leaf h b10 o10 e0 chv Z pre A){x:Nat}{args:Array Value}(hM:lvM seed h pre x args Z A){a:Act}(ha:A3d wS b5 o5 b6 o6 b10 o10 args a)
  (h5:wS.cell? ⟨b5,o5,none⟩=some (.int .i64 h)) (h6:wS.cell? ⟨b6,o6,none⟩=some (.int .i64 leaf)) (l5:b5<wS.heap.size)(l6:b6<wS.heap.size)(l10:b10<wS.heap.size)(n5:b5≠b10)(n6:b6≠b10)(m5:b5≠e0)(m6:b6≠e0)(m10:b10≠e0)(hD:wS.heap.size<=D):
  ∃β X0,X0.pt 0=some (b10,o10)∧X0.pn 0∧(∀b,X0.X b->Z b∧(b=b10∨D+2<=b∨b=e0)) ∧
   B3 48 A X0 (fun _=>False) β ⟨lk (A21 h leaf x (2 ^ (h-x)) (Ah .u64 (Fw seed (2 ^ (h-x)) x))),Bu (VG leaf chv pre.length (Ah .u64 (pre.map fun k=>Ct seed k (J2 leaf k))))⟩ a A:=by
 obtain⟨hx,_,b,o,cap,Ey,NR,DP,hbz,hcell⟩:=hM;obtain⟨pv,EI,G3,hpz⟩:=hI.path
 obtain⟨q,hq⟩:∃q:Option (Nat × Nat),(q=none∧pre=[]∧∃ad,pv=.slice ad 0 0)∨∃pb po cap,q=some (pb,po)∧pv=.slice (some ⟨pb,po,none⟩) pre.length cap∧pre.length<=cap∧po+cap<=bsz A pb∧pb<A.heap.size∧(D+2<=pb∨pb=e0)∧Z pb∧(∀(j:Nat) y,(pre.map fun k=>Ct seed k (J2 leaf k))[j]?=some y->A.cell? ⟨pb,po+j,none⟩=some (.int .u64 y))∧∀j,po<=j->j<bsz A pb->A.frozen? ⟨pb,j,none⟩=false:=by
  rcases G3 with⟨h1,h2⟩|⟨pb,po,cap,h0,h1,h2,h3,h4,h5,h6,h7⟩
  ·exact⟨none,.inl ⟨rfl,by simpa using h1,h2⟩⟩
  ·rw[List.length_map] at h1 h2;exact⟨some (pb,po),.inr ⟨pb,po,cap,rfl,h1,h2,h3,h4,h5,hpz _ _ _ _ h0 h1,h6,h7⟩⟩
 obtain⟨β,hβ⟩:∃β:Bt,β=fun id=>if id=96000 then some (b10,o10) else if id=20 then q else none:=⟨_,rfl⟩
 have e1:β 96000=some (b10,o10):=by rw[hβ];rfl
 have e2:β 20=q:=by rw[hβ];rfl
 obtain⟨d,hd⟩:∃d,Ah .u64 (pre.map fun k=>Ct seed k (J2 leaf k))=d:=⟨_,rfl⟩
 have hdl:d.length=pre.length:=by rw[←hd,Ay,List.length_map]
 rw[hd]
 have V5:∀id bx,Bu (VG leaf chv pre.length d) id=some bx->(id=96000∧bx=.st [.sc (.int .i64 leaf),.sc chv,.view 20 1 0 pre.length])∨(id=20∧bx=.ar false d):=by
  intro id bx e;rcases Ro (VG leaf chv pre.length d) id with h1|⟨p,hp,h1,h2⟩
  ·rw[h1] at e;cases e
  ·rw[h2] at e;cases e;simp only[List.mem_cons,List.not_mem_nil,or_false] at hp;rcases hp with rfl|rfl
   ·exact .inl ⟨h1.symm,rfl⟩
   ·exact .inr ⟨h1.symm,rfl⟩
 have hX:∀b,DF (Bu (VG leaf chv pre.length d)) β b->b=b10∨∃po,q=some (b,po):=by
  rintro b' ⟨id,o',hl,hb⟩
  cases hh:Bu (VG leaf chv pre.length d) id with
  |none=>rw[hh] at hl;exact hl.elim
  |some bx=>
   rcases V5 id bx hh with⟨rfl,_⟩|⟨rfl,_⟩
   ·rw[e1] at hb;cases hb;exact .inl rfl
   ·rw[e2] at hb;exact .inr ⟨o',hb⟩
 have hqz:∀b' po,q=some (b',po)->Z b'∧(D+2<=b'∨b'=e0)∧b'<A.heap.size:=by
  intro b' po e;rcases hq with⟨h1,_⟩|⟨pb,po',cap',h1,h2,h3,h4,h5,h6,h7,h8,h9⟩
  ·rw[h1] at e;cases e
  ·rw[h1] at e;cases e;exact⟨h7,h6,h5⟩
 have A5d:∀b',b'<wS.heap.size->b'≠b10->b'≠e0->¬De (Bu (VG leaf chv pre.length d)) β (fun _=>False) b':=by
  rintro b' hb Gg A6w (hx|hf)
  ·rcases hX b' hx with h1|⟨po,h1⟩
   ·exact Gg h1
   ·rcases (hqz _ _ h1).2.1 with h2|h2
    ·omega
    ·exact A6w h2
  ·exact hf
 have Lw:wS.heap.size<A.heap.size:=by have:=hI.size;omega
 refine⟨β,_,e1,rfl,?_,B3.make (A21 h leaf x (2 ^ (h-x)) (Ah .u64 (Fw seed (2 ^ (h-x)) x))) (VG leaf chv pre.length d) a (fun i=>i=0) (fun i hi=>by omega) ha.dfr ha.size ?_ ?_ ?_ ?_ ?_ ?_ ?_ ?_ ?_ (fun _ h=>h.elim) (fun _ h=>h.elim)⟩
 ·intro b' hb;rcases hX b' hb with rfl|⟨po,h1⟩
  ·exact⟨hI.zlo _ l10,.inl rfl⟩
  ·exact⟨(hqz _ _ h1).1,.inr (hqz _ _ h1).2.1⟩
 ·intro p hp;simp only[List.mem_cons,List.not_mem_nil,or_false] at hp;rcases hp with rfl|rfl|rfl|rfl|rfl<;>simp
 ·intro p hp;simp only[List.mem_cons,List.not_mem_nil,or_false] at hp;rcases hp with rfl|rfl|rfl|rfl|rfl
  ·refine⟨⟨b5,o5,none⟩,ha.t5,rfl,by show b5<_;omega,A5d b5 l5 n5 m5,fun j c hj=>?_⟩
   match j,hj with
   |0,hj=>cases hj;exact⟨_,(World.cell?_of_block (a:=⟨b5,o5,none⟩) (hI.keep b5 l5 n5 m5)).trans h5,rfl,A4.sc _⟩
  ·refine⟨⟨b6,o6,none⟩,ha.t6,rfl,by show b6<_;omega,A5d b6 l6 n6 m6,fun j c hj=>?_⟩
   match j,hj with
   |0,hj=>cases hj;exact⟨_,(World.cell?_of_block (a:=⟨b6,o6,none⟩) (hI.keep b6 l6 n6 m6)).trans h6,rfl,A4.sc _⟩
  ·exact⟨b10,o10,e1,ha.t10⟩
  ·show Ed _ _ _ (.sc (.int .i64 x)) (a.tmps.getD 11 undef);rw[ha.t11,Ey];exact A4.sc _
  ·show Ed _ _ _ (.lst false 1 _ _) (a.tmps.getD 12 undef);rw[ha.t12,Ey];refine A4.lst 1 _ _ ⟨b,o,none⟩ cap (fun j=>.int .u64 (Ct seed x j)) rfl DP ?_ NR ?_ (fun _ _ _=>rfl) ?_
   ·rintro (AV|hf)
    ·rcases hX b AV with h1|⟨po,h1⟩
     ·exact hbz (h1 ▸ hI.zlo _ l10)
     ·exact hbz (hqz _ _ h1).1
    ·exact hf
   ·intro j c hj;rw[Eu];have Cc:j<(Ah .u64 (Fw seed (2 ^ (h-x)) x)).length:=(List.getElem?_eq_some_iff.1 hj).1;rw[Ay,RC] at Cc;exact hcell j Cc
   ·intro j c hj;have Cc:j<(Ah .u64 (Fw seed (2 ^ (h-x)) x)).length:=(List.getElem?_eq_some_iff.1 hj).1;rw[Ay,RC] at Cc;rw[Oj (Vy seed Cc)] at hj;cases hj;exact A4.sc _
 ·intro id bx e;rcases V5 id bx e with⟨rfl,rfl⟩|⟨rfl,rfl⟩
  ·refine⟨b10,o10,e1,fun j c hj=>?_,fun j hj=>hI.fz j hj⟩
   match j,hj with
   |0,hj=>cases hj;exact⟨_,hI.c0,A4.sc _⟩
   |1,hj=>cases hj;exact⟨_,hI.c1,A4.sc _⟩
   |2,hj=>
    cases hj;refine⟨_,EI,?_⟩;rcases hq with⟨h1,h2,h3⟩|⟨pb,po,cap',h1,h2,h3,h4,h5,h6,h7,h8,h9⟩
    ·exact .inl ⟨e2.trans h1,rfl,by rw[h2];rfl,h3⟩
    ·exact .inr ⟨pb,po,po,cap',e2.trans h1,h2,.inl rfl,h3,by omega,h5⟩
  ·rcases hq with⟨h1,h2,h3⟩|⟨pb,po,cap',h1,h2,h3,h4,h5,h6,h7,h8,h9⟩
   ·exact .inl ⟨e2.trans h1,by rw[←hd,h2];rfl⟩
   ·refine .inr ⟨pb,po,e2.trans h1,fun j c hj=>?_,fun _=>h9,fun h=>by cases h⟩
    have Cc:j<d.length:=(List.getElem?_eq_some_iff.1 hj).1;have Adw:j<(pre.map fun k=>Ct seed k (J2 leaf k)).length:=by rw[List.length_map];omega
    rw[←hd,Oj (List.getElem?_eq_getElem Adw)] at hj;cases hj;rw[Eu];exact⟨_,h8 j _ (List.getElem?_eq_getElem Adw),rfl,A4.sc _⟩
 ·intro id id' b1 o1 o2 g1 g2 g3 g4
  have Br:∀i,Cv (Bu (VG leaf chv pre.length d) i)->i=96000∨i=20:=by
   intro i hi;cases hh:Bu (VG leaf chv pre.length d) i with
   |none=>rw[hh] at hi;exact hi.elim
   |some bx=>exact (V5 i bx hh).imp (·.1) (·.1)
  have Gg:∀po po',β 96000=some (b1,po)->β 20=some (b1,po')->False:=by
   intro po po' f1 f2;rw[e1] at f1;rw[e2] at f2;cases f1;rcases (hqz _ _ f2).2.1 with h2|h2
   ·omega
   ·exact m10 h2
  rcases Br id g1 with rfl|rfl<;>rcases Br id' g2 with rfl|rfl
  ·rfl
  ·exact (Gg _ _ g3 g4).elim
  ·exact (Gg _ _ g4 g3).elim
  ·rfl
 ·intro id b1 o1 g1 g2;cases hh:Bu (VG leaf chv pre.length d) id with
  |none=>exact absurd hh g1
  |some bx=>
   rcases V5 id bx hh with⟨rfl,_⟩|⟨rfl,_⟩
   ·rw[e1] at g2;cases g2;omega
   ·rw[e2] at g2;exact (hqz _ _ g2).2.2
 ·intro p hp id Br;simp only[List.mem_cons,List.not_mem_nil,or_false] at hp;rcases hp with rfl|rfl|rfl|rfl|rfl<;>simp[B8,Cl,Az] at Br
  subst Br;simp[Bu]
 ·intro id cells e c hc i hi;rcases V5 id _ e with⟨rfl,e'⟩|⟨rfl,e'⟩
  ·cases e';simp only[List.mem_cons,List.not_mem_nil,or_false] at hc;rcases hc with rfl|rfl|rfl<;>simp[Az] at hi
   subst hi;exact fun h0:some (Bx.ar false d)=none=>by cases h0
  ·cases e'
 ·intro i hi;subst hi;simp[Bu,Dl]
 ·intro id c e;rcases V5 id _ e with⟨rfl,e'⟩|⟨rfl,e'⟩
  ·exact⟨0,rfl,rfl⟩
  ·cases e'
end
section
open Go.Proofs.Tryz (prog)
open Go.IntKind (wrap)
set_option maxRecDepth 20000
open Go Go.RowKit
theorem Ak4:∀h:Nat,h<5->∀k:Nat,k<h->∀n:Nat,n<16->n<2 ^ h->0<=J2 (n:Int) k∧J2 (n:Int) k<((2 ^ (h-k):Nat):Int):=by decide +kernel
theorem Ajq {wS:World}{D:Nat}{seed leaf:Int}{h b10 o10 e0:Nat}{chv:Value}{Z:Nat->Prop}{pre pre':List Nat}{A w':World}(hI:IR wS D seed leaf h b10 o10 e0 chv Z pre A){β':Bt}{X0:Fz}{a':Act}{m:Nat}{d:List PV}
  (hx1:X0.pt 0=some (b10,o10)) (hx2:X0.pn 0)(hX:∀b,X0.X b->Z b∧(b=b10∨D+2<=b∨b=e0)) (nD:D≠e0)(nD1:D+1≠e0)(l10:b10<wS.heap.size)(hD:wS.heap.size<=D)
  (hs:B3 48 A X0 (fun _=>False) β' ⟨lk [(10,.ptr 96000 0)],Bu [(96000,.st [.sc (.int .i64 leaf),.sc chv,.view 96144 1 0 m]),(96144,.ar false d)]⟩ a' w')
  (hm:m=pre'.length)(hd:d=Ah .u64 (pre'.map fun k=>Ct seed k (J2 leaf k))) (Cc:∀x∈pre',x<h)(hZD:Z D)(Awf:Z (D+1)):
  R4 Z (fun b=>Z b∨(A.heap.size<=b∧b<w'.heap.size)) A w'∧w'.heap[D]?=A.heap[D]?∧w'.heap[D+1]?=A.heap[D+1]?∧IR wS D seed leaf h b10 o10 e0 chv (fun b=>Z b∨(A.heap.size<=b∧b<w'.heap.size)) pre' w':=by
 have Lw:=hI.size;have Gv:=hs.fr.step
 have same:∀b,b<A.heap.size->b≠b10->b≠e0->b<D+2->w'.heap[b]?=A.heap[b]?:=fun b hb hn OR hl=>Gv.keep b hb fun hx=>by
  rcases (hX b hx).2 with h1|h1|h1
  ·exact hn h1
  ·omega
  ·exact OR h1
 have hp:β' 96000=some (b10,o10):=(hs.pin 0 hx2).2.trans hx1;obtain⟨b,o,g1,g2,g3⟩:=(show ∃b o,β' 96000=some (b,o)∧_∧_ from hs.box 96000 _ (rfl:_=some (Bx.st [.sc (.int .i64 leaf),.sc chv,.view 96144 1 0 m])))
 rw[hp] at g1;cases g1;obtain⟨v0,q0,r0⟩:=g2 0 _ rfl;obtain⟨v1,q1,r1⟩:=g2 1 _ rfl;obtain⟨v2,q2,r2⟩:=g2 2 _ rfl;have r0:=A4.val r0;have r1:=A4.val r1;subst r0 r1;have Ot:=hs.box 96144 _ (rfl:_=some (Bx.ar false d))
 have Gg:∀pb po,β' 96144=some (pb,po)->pb≠b10∧(Z pb∨(A.heap.size<=pb∧pb<w'.heap.size))∧(D+2<=pb∨pb=e0)∧pb<w'.heap.size:=by
  intro pb po e;have Cc:pb<w'.heap.size:=hs.blt 96144 pb po (fun h0:some (Bx.ar false d)=none=>by cases h0) e
  have hn:pb≠b10:=by
   intro e';subst e';have:=hs.inj 96000 96144 pb o10 po trivial trivial hp e;cases this
  rcases hs.ownd pb ⟨96144,po,trivial,e⟩ with h1|h1
  ·have h2:=hX pb h1;rcases h2.2 with h3|h3
   ·exact absurd h3 hn
   ·exact⟨hn,.inl h2.1,h3,Cc⟩
  ·exact⟨hn,.inr ⟨h1,Cc⟩,.inl (by omega),Cc⟩
 refine⟨⟨hs.fr.os,hs.fr.tape,hs.fr.output,Gv.size,fun b hb hn=>Gv.keep b hb fun hx=>hn (hX b hx).1,fun b hb=>.inl hb,fun b hb=>hb.imp (fun x=>x) (·.1),fun b hb=>hb.elim (fun h1=>Nat.lt_of_lt_of_le (hI.zlt b h1) Gv.size) (·.2),Gv.bs⟩,
  same D (hI.zlt D hZD) (by omega) nD (by omega),same (D+1) (hI.zlt _ Awf) (by omega) nD1 (by omega),?_⟩
 refine⟨hs.fr.os.trans hI.os,hs.fr.tape.trans hI.tape,hs.fr.output.trans hI.output,by have:=Gv.size;omega,fun b hb=>.inl (hI.zlo b hb),fun b hb=>hb.elim (fun h1=>Nat.lt_of_lt_of_le (hI.zlt b h1) Gv.size) (·.2),fun b hb hn OR=>(same b (by omega) hn OR (by omega)).trans (hI.keep b hb hn OR),Nat.le_trans hI.bs (Gv.bs b10 (by omega)),q0,q1,fun k hk=>g3 k hk,Cc,v2,q2,?_,?_⟩
 ·rcases r2 with⟨f1,_,f3,f4⟩|⟨pb,po,xx,cap,f1,f2,f3,f4,f5,f6⟩
  ·have:pre'=[]:=List.length_eq_zero_iff.1 (by omega)
   exact .inl ⟨by rw[this];rfl,f4⟩
  ·rcases Ot with⟨e1,_⟩|⟨pb',po',e1,e2,e3,_⟩
   ·rw[f1] at e1;cases e1
   ·rw[f1] at e1;cases e1;have hxx:xx=po:=by omega
    subst hxx;rcases Nat.eq_zero_or_pos cap with q0|q0
    ·subst q0;have:pre'=[]:=List.length_eq_zero_iff.1 (by omega)
     have h0:m=0:=by omega
     exact .inl ⟨by rw[this];rfl,_,by rw[f2,h0]⟩
    refine .inr ⟨pb,xx,cap,q0,by rw[f2,List.length_map,hm],by rw[List.length_map];omega,by omega,f6,(Gg pb xx f1).2.2.1,fun j y hj=>?_,fun j hj hjb=>e3 rfl j hj hjb⟩
    obtain⟨v,h1,_,h3⟩:=e2 j (.sc (.int .u64 y)) (by rw[hd];exact Oj hj)
    rw[Eu] at h1;rw[h1,A4.val h3]
 ·intro pb po n cap hc0 e;rcases r2 with⟨f1,_,f3,ad,f4⟩|⟨pb',po',xx,cap',f1,f2,f3,f4,f5,f6⟩
  ·rw[f4] at e;cases e;omega
  ·rw[f2] at e;cases e;exact (Gg pb po' f1).2.1
def A1i (wS:World)(D:Nat)(seed leaf:Int)(h b10 o10 e0:Nat)(chv:Value)(c:Code)(Z:Nat->Prop)(xs:List Nat)(B:World):Prop:=c=.exit 0∧∃pre,xs=pre++[h]∧IR wS D seed leaf h b10 o10 e0 chv Z pre B
theorem Ao7 {wS:World}{D:Nat}{seed leaf:Int}{h b5 o5 b6 o6 b10 o10 e0:Nat}{chv:Value}{Z:Nat->Prop}{pre:List Nat}{A:World}(hh:h<=4)(V5:0<=leaf)(IA:leaf<((2 ^ h:Nat):Int)) (hI:IR wS D seed leaf h b10 o10 e0 chv Z pre A){x:Nat}{args:Array Value}(hM:lvM seed h pre x args Z A){a:Act}(ha:A3d wS b5 o5 b6 o6 b10 o10 args a)
  (h5:wS.cell? ⟨b5,o5,none⟩=some (.int .i64 h)) (h6:wS.cell? ⟨b6,o6,none⟩=some (.int .i64 leaf)) (l5:b5<wS.heap.size)(l6:b6<wS.heap.size)(l10:b10<wS.heap.size)(n5:b5≠b10)(n6:b6≠b10)(m5:b5≠e0)(m6:b6≠e0)(m10:b10≠e0)(nD:D≠e0)(nD1:D+1≠e0)(hD:wS.heap.size<=D)(hZD:Z D)(Awf:Z (D+1)):
  Ahe.wpIn (WF (some (D+1))) 0 prog (KE D (IR wS D seed leaf h b10 o10 e0 chv) (A1i wS D seed leaf h b10 o10 e0 chv) Z (pre++[x]) A) a A:=by
 obtain⟨β,X0,hx1,hx2,hX,hs⟩:=Ara hI hM ha h5 h6 l5 l6 l10 n5 n6 m5 m6 m10 hD;have hx:=hM.1;have MZ:pre.length<=1000:=by rw[hM.2.1,List.length_range];omega
 have DO:∀a w,¬KE D (IR wS D seed leaf h b10 o10 e0 chv) (A1i wS D seed leaf h b10 o10 e0 chv) Z (pre++[x]) A .outgrown a w:=fun a w ⟨_,_,_,_,hf⟩=>hf
 by_cases hxh:x=h
 ·subst hxh;refine EQ (I1 _ _) DW B0 (by kernel_rfl) DO hs (t:=1) (L:=1024) (s1:=⟨lk [(10,.ptr 96000 0)],Bu [(96000,.st [.sc (.int .i64 leaf),.sc chv,.view 96144 1 0 pre.length]),(96144,.ar false (Ah .u64 (pre.map fun k=>Ct seed k (J2 leaf k))))]⟩) ?_ ?_
  ·refine (Arl cl x leaf x chv _ _ _ _).trans ?_;rw[show ((x:Int)==(x:Int))=true from beq_self_eq_true _]
   rfl
  ·intro a' w' β' hs';obtain⟨k1,k2,k3,k4⟩:=Ajq hI hx1 hx2 hX nD nD1 l10 hD hs' rfl rfl hI.lt hZD Awf;exact⟨_,k1,k2,k3,rfl,pre,rfl,k4⟩
 ·have Cc:x<h:=by omega
  obtain⟨n,rfl⟩:∃n:Nat,leaf=n:=⟨leaf.toNat,by omega⟩
  have h16:2 ^ h<=16:=by
   have:2 ^ h<=2 ^ 4:=Nat.pow_le_pow_right (by omega) hh
   omega
  have sb:=Ak4 h (by omega) x Cc n (by omega) (by omega)
  have es:E5 .i64 (Is .i64 (n:Int) (x:Int)) 1=J2 n x:=rfl;obtain⟨y,hy⟩:∃y:Nat,J2 n x=y:=⟨(J2 n x).toNat,by omega⟩
  have at1:(Ah .u64 (Fw seed (2 ^ (h-x)) x)).getD y .top=.sc (.int .u64 (Ct seed x (J2 n x))):=by
   rw[hy] at sb ⊢;exact EU (Vy seed (by omega))
  have L:(Ah .u64 (pre.map fun k=>Ct seed k (J2 n k))).length=pre.length:=by rw[Ay,List.length_map]
  have T:List.take pre.length (Ah .u64 (pre.map fun k=>Ct seed k (J2 n k)))=Ah .u64 (pre.map fun k=>Ct seed k (J2 n k)):=L6 (by omega)
  have bq:((x:Int)==(h:Int))=false:=by
   rw[beq_eq_false_iff_ne];omega
  refine EQ (I1 _ _) DW B0 (by kernel_rfl) DO hs (t:=0) (L:=1024) (s1:=⟨lk [(10,.ptr 96000 0)],Bu [(96000,.st [.sc (.int .i64 n),.sc chv,.view 96144 1 0 (pre.length+1)]),(96144,.ar false (Ah .u64 (pre.map fun k=>Ct seed k (J2 n k))++[.sc (.int .u64 (Ct seed x (J2 n x)))]))]⟩) ?_ ?_
  ·refine (Arl cl h n x chv _ _ _ _).trans ?_;rw[bq];have t0:(0:Int)<=x:=by omega
   have t1:(0:Int)<=y:=by omega
   have t2:(y:Int)<((2 ^ (h-x):Nat):Int):=by omega
   have OR:((pre.length+1)*8<=1099511627776):=by omega
   generalize 2 ^ (h-x)=nn at *
   simp (disch:=omega) only[Cu,es,hy,at1,L,T,Kz,Dc]
  ·intro a' w' β' hs'
   obtain⟨k1,k2,k3,k4⟩:=Ajq (pre':=pre++[x]) hI hx1 hx2 hX nD nD1 l10 hD hs' (by simp) (by simp) (by
    intro z hz;rcases List.mem_append.1 hz with h1|h1
    ·exact hI.lt z h1
    ·rw[List.mem_singleton.1 h1];exact Cc) hZD Awf
   exact⟨_,k1,k2,k3,k4⟩
end
section
open Go.Proofs.Tryz (prog)
open Go.IntKind (wrap)
set_option maxRecDepth 20000
open Go Go.RowKit Go.Shelf
set_option maxHeartbeats 2000000 in
theorem Avh (seed h:Int)(n:Nat)(w:World):CallsIn Fence.wide n prog 70 #[.int .u64 seed,.int .i64 h] w fun e w'=>
  e=.returned (.func (.func 113) #[] #[.pointer (some ⟨w.heap.size+1,0,none⟩),.pointer (some ⟨w.heap.size,0,none⟩)])∧w'=(w.alloc (.cells #[.int .u64 seed] 37)).alloc (.cells #[.int .i64 h] 3):=by
 refine callsIn_of_wp Tryz.func70 rfl trivial ?_ rfl;simp only[Tryz.ntmps70,List.size_toArray,Ik,Zx,Nat.reduceAdd,Nat.reduceSub,Array.replicate_succ,Array.replicate_zero,List.push_toArray,List.append_toArray,Zzq,Zzp]
 gi_wp2
 go_ret
 exact⟨rfl,rfl⟩
end
section
open Go.IntKind (wrap)
set_option maxRecDepth 20000
open Go Go.RowKit
theorem A0i {G:U7}{P:Program}{f:FuncId}{v0 v1 v2 v3:Value}{vals:List PV}(hf:∃fn,P.funcs[f]?=some fn∧fn.body.isSome=true)
  (h:∀(w:World)(Y:Nat->Prop),(∀b,Y b->b<w.heap.size)->Calls P f #[v0,v1,v2,v3] w fun e w'=>∃vs own,e=.returned (Ly vs)∧Out w w' Y Y4 [.sc v0,.sc v1,.sc v2,.sc v3] own ⟨vals,[]⟩ vs):Da G P f [.sc v0,.sc v1,.sc v2,.sc v3] ⟨vals,[]⟩:=by
 refine⟨hf,fun w Y bt us Zq _ _=>?_⟩
 have hus:us=[v0,v1,v2,v3]:=by
  have ha:=Zq.args
  match us,ha with
  |[u0,u1,u2,u3],⟨h0,h1,h2,h3,_⟩=>
   rw[A4.val h0.2,A4.val h1.2,A4.val h2.2,A4.val h3.2]
 subst hus
 have hl:∀i q,bt i 0≠some q:=by
  intro i q e;obtain⟨p,h1,h2⟩:=Zq.l0 i q e
  match i,h1 with
  |0,h1=>cases h1;cases h2
  |1,h1=>cases h1;cases h2
  |2,h1=>cases h1;cases h2
  |3,h1=>cases h1;cases h2
 refine (h w Y Zq.Ylt).mono ?_
 rintro e w' ⟨vs,own,rfl,ho⟩
 have hA:SU bt own Y=SU Y4 own Y:=by
  funext b
  apply propext;constructor
  ·rintro (h1|⟨i,o,h1⟩|h1)
   ·exact .inl h1
   ·exact absurd h1 (hl i _)
   ·exact .inr (.inr h1)
  ·rintro (h1|⟨i,o,h1⟩|h1)
   ·exact .inl h1
   ·cases h1
   ·exact .inr (.inr h1)
 refine⟨vs,own,rfl,ho.os,ho.tape,ho.output,ho.ext.weaken (fun b _ hb=>absurd hb (Qd b)),fun b j hb _=>ho.rng b j hb ?_,by rw[hA];exact ho.vals,rfl,fun j b o hj=>⟨(ho.fresh j b o hj).1,fun Cc=>?_⟩,ho.inj⟩
 ·rintro⟨i,p,_,⟨k,o,h1,_⟩|⟨o,ps,h1,_⟩⟩
  ·cases h1
  ·cases h1
 ·obtain⟨⟨i,k,o',h1⟩,_⟩:=(ho.fresh j b o hj).2 Cc;cases h1
theorem B3.unbase {N:Nat}{we B w':World}{X XB:Fz}{Y YB:Nat->Prop}{β:Bt}{s:St}{a:Act}(h:B3 N B XB YB β s a w')(hY:∀b,Y b->YB b)(Azj:∀b,Y b->b<we.heap.size)(G3:∀b,XB.X b->we.heap.size<=b)(hpn:∀i,¬X.pn i)
  (hos:B.os=we.os)(ht:B.tape=we.tape)(hou:B.output=we.output)(Lw:we.heap.size<=B.heap.size)(hk:∀b,b<we.heap.size->B.heap[b]?=we.heap[b]?):B3 N we X Y β s a w':=by
 have hX:∀b,DF s.hp β b->we.heap.size<=b:=fun b hb=>(h.ownd b hb).elim (G3 b) (fun h1=>Nat.le_trans Lw h1)
 have hA:∀b,De s.hp β Y b->De s.hp β YB b:=fun b hb=>hb.imp (fun x=>x) (hY b)
 have Gv:Cq (De s.hp β YB) w' w':=⟨Nat.le_refl _,fun _ _ _=>rfl,fun _ _=>Nat.le_refl _⟩
 have hkw:∀b,b<we.heap.size->w'.heap[b]?=we.heap[b]?:=fun b hb=>(h.fr.step.keep b (by omega) fun hx=>by have:=G3 b hx;omega).trans (hk b hb)
 refine⟨h.dfr,h.tsz,h.tmo,fun i hi=>(h.tms i hi).step Gv (fun b _=>hA b) fun _ _=>rfl,fun id bx e=>(h.box id bx e).step' hA,h.inj,h.blt,h.wfT,h.wfB,fun b hb=>.inr (hX b hb),fun id bx b o h1 h2 h3 h4=>?_,fun i hi=>absurd hi (hpn i),fun id c b o h1 h2 h3=>?_,fun b hy=>h.Yx b (hY b hy),Azj,
  ⟨h.fr.os.trans hos,h.fr.tape.trans ht,h.fr.output.trans hou,⟨Nat.le_trans Lw h.fr.step.size,fun b hb _=>hkw b hb,fun b hb=>by unfold bsz;rw[hkw b hb];exact Nat.le_refl _⟩,fun b j hb _=>⟨World.cell?_of_block (hkw b hb),frozen?_of_block (hkw b hb)⟩⟩⟩
 ·have:=hX b ⟨id,o,by rw[h1];exact h2,h3⟩
  omega
 ·have:=hX b ⟨id,o,by rw[h1];trivial,h2⟩
  omega
theorem IR.stay {wS:World}{D:Nat}{seed leaf:Int}{h b10 o10 e0:Nat}{chv:Value}{Z:Nat->Prop}{pre:List Nat}{A B:World}(hI:IR wS D seed leaf h b10 o10 e0 chv Z pre A)(l10:b10<wS.heap.size)(nD:D≠e0)(nD1:D+1≠e0)(hD:wS.heap.size<=D)(hs:M3 (fun b=>Z b∧b≠D∧b≠D+1) A B):IR wS D seed leaf h b10 o10 e0 chv Z pre B:=by
 have e:∀b,b<wS.heap.size->B.heap[b]?=A.heap[b]?:=fun b hb=>hs.same b ⟨hI.zlo b hb,by omega,by omega⟩
 have hb:bsz B b10=bsz A b10:=by unfold bsz;rw[e b10 l10]
 have hc:∀j,B.cell? ⟨b10,j,none⟩=A.cell? ⟨b10,j,none⟩:=fun j=>World.cell?_of_block (e b10 l10)
 obtain⟨pv,p1,p2,p3⟩:=hI.path;refine⟨hs.os.trans hI.os,hs.tape.trans hI.tape,hs.output.trans hI.output,Nat.le_trans hI.size hs.size,hI.zlo,fun b hz=>Nat.lt_of_lt_of_le (hI.zlt b hz) hs.size,fun b hb hn OR=>(e b hb).trans (hI.keep b hb hn OR),by rw[hb];exact hI.bs,(hc _).trans hI.c0,(hc _).trans hI.c1,fun k hk=>by rw[frozen?_of_block (e b10 l10)];exact hI.fz k hk,hI.lt,pv,(hc _).trans p1,?_,p3⟩
 rcases p2 with p2|⟨pb,po,cap,h0,h1,h2,h3,h4,h5,h6,h7⟩
 ·exact .inl p2
 ·have hh:B.heap[pb]?=A.heap[pb]?:=hs.same pb ⟨p3 _ _ _ _ h0 h1,by omega,by omega⟩
  have hbb:bsz B pb=bsz A pb:=by unfold bsz;rw[hh]
  exact .inr ⟨pb,po,cap,h0,h1,h2,by rw[hbb];exact h3,Nat.lt_of_lt_of_le h4 hs.size,h5,fun j x hj=>(World.cell?_of_block (a:=⟨pb,po+j,none⟩) hh).trans (h6 j x hj),fun j hj hjb=>by rw[frozen?_of_block hh];exact h7 j hj (by rw[←hbb];exact hjb)⟩
end
section
open Go.IntKind (wrap)
set_option maxRecDepth 20000
open Go Go.RowKit
abbrev sgE (leaf:Int)(n1 n2:Nat)(c1 c2:List PV):List (Nat × PV):=[(8,.ptr 96000 0),(9,.sc (.int .i64 0)),(10,.iptr [.sc (.int .i64 leaf),.lst false 1 n1 c1,.lst false 1 n2 c2] 0)]
theorem A0u {wS:World}{D:Nat}{seed leaf:Int}{h b8 o8 b10 o10 e0:Nat}{chv:Value}{Z:Nat->Prop}{pre:List Nat}{B:World}{Y:Nat->Prop}{a:Act}{n1:Nat}{c1:List PV}(hB:IR wS D seed leaf h b10 o10 e0 chv Z pre B)
  (hd:a.defers=[]) (Lw:a.tmps.size=48)(t8:a.tmps.getD 8 undef=.pointer (some ⟨b8,o8,none⟩)) (t9:a.tmps.getD 9 undef=.int .i64 0)(t10:a.tmps.getD 10 undef=.pointer (some ⟨b10,o10,none⟩))
  (c8:∀j,j<3->∃v,B.cell? ⟨b8,o8+j,none⟩=some v)(f8:∀j,j<3->B.frozen? ⟨b8,o8+j,none⟩=false)(l8:b8<B.heap.size)(l10:b10<B.heap.size)(n8:b8≠b10)(y8:¬Y b8)(y10:¬Y b10)
  (hch:A4 B (fun b=>b=b8∨Y b) (.lst false 1 n1 c1) chv) (A95:chv.oneCell'=true)(hp:∀pb,(D+2<=pb∨pb=e0)->pb≠b8∧¬Y pb) (hY:∀b,Y b->b<B.heap.size):
  ∃X0 β,(∀b,X0.X b->b=b8)∧B3 48 B X0 Y β ⟨lk (sgE leaf n1 pre.length c1 (Ah .u64 (pre.map fun k=>Ct seed k (J2 leaf k)))),Bu [(96000,.st [.top,.top,.top])]⟩ a B:=by
 obtain⟨pv,EI,G3,hpz⟩:=hB.path;obtain⟨β,hβ⟩:∃β:Bt,β=fun id=>if id=96000 then some (b8,o8) else none:=⟨_,rfl⟩
 have e1:β 96000=some (b8,o8):=by rw[hβ];rfl
 have V5:∀id bx,Bu [(96000,Bx.st [.top,.top,.top])] id=some bx->id=96000∧bx=.st [.top,.top,.top]:=by
  intro id bx e;rcases Ro [(96000,Bx.st [.top,.top,.top])] id with h1|⟨p,hp,h1,h2⟩
  ·rw[h1] at e;cases e
  ·rw[h2] at e;cases e;simp only[List.mem_cons,List.not_mem_nil,or_false] at hp;subst hp;exact⟨h1.symm,rfl⟩
 have hX:∀b,DF (Bu [(96000,Bx.st [.top,.top,.top])]) β b->b=b8:=by
  rintro b' ⟨id,o',hl,hb⟩
  cases hh:Bu [(96000,Bx.st [.top,.top,.top])] id with
  |none=>rw[hh] at hl;exact hl.elim
  |some bx=>
   obtain⟨rfl,_⟩:=V5 id bx hh;rw[e1] at hb;cases hb;rfl
 have hA:∀b,De (Bu [(96000,Bx.st [.top,.top,.top])]) β Y b->b=b8∨Y b:=fun b hb=>hb.imp (hX b) (fun x=>x)
 have Gv:Cq (fun b=>b=b8∨Y b) B B:=⟨Nat.le_refl _,fun _ _ _=>rfl,fun _ _=>Nat.le_refl _⟩
 have one:pv.oneCell'=true:=by
  rcases G3 with⟨_,ad,h2⟩|⟨pb,po,cap,_,h1,_⟩
  ·rw[h2];rfl
  ·rw[h1];rfl
 refine⟨_,β,?_,B3.make (sgE leaf n1 pre.length c1 (Ah .u64 (pre.map fun k=>Ct seed k (J2 leaf k)))) [(96000,.st [.top,.top,.top])] a (fun i=>i=0) (fun i hi=>by omega) hd Lw ?_ ?_ ?_ ?_ ?_ ?_ ?_ ?_ ?_ ?_ hY⟩
 ·exact hX
 ·intro p C2;simp only[List.mem_cons,List.not_mem_nil,or_false] at C2;rcases C2 with rfl|rfl|rfl<;>simp
 ·intro p C2;simp only[List.mem_cons,List.not_mem_nil,or_false] at C2;rcases C2 with rfl|rfl|rfl
  ·exact⟨b8,o8,e1,t8⟩
  ·show Ed _ _ _ (.sc (.int .i64 0)) (a.tmps.getD 9 undef);rw[t9];exact A4.sc _
  ·refine⟨⟨b10,o10,none⟩,t10,rfl,l10,fun hb=>?_,fun j c hj=>?_⟩
   ·rcases hA _ hb with h1|h1
    ·exact n8 h1.symm
    ·exact y10 h1
   ·match j,hj with
    |0,hj=>cases hj;exact⟨_,hB.c0,rfl,A4.sc _⟩
    |1,hj=>cases hj;exact⟨_,hB.c1,A95,hch.step Gv fun b _=>hA b⟩
    |2,hj=>
     cases hj;refine⟨_,EI,one,?_⟩;rcases G3 with⟨h1,ad,h2⟩|⟨pb,po,cap,_,h1,h2,h3,h4,h5,h6,h7⟩
     ·rw[h2];have:pre=[]:=by simpa using h1
      subst this;cases ad with
      |none=>exact A4.lnil _ _
      |some p=>exact A4.lemp _ p 0
     ·rw[h1,List.length_map];rw[List.length_map] at h2;refine A4.lst 1 _ _ ⟨pb,po,none⟩ cap (fun j=>.int .u64 ((pre.map fun k=>Ct seed k (J2 leaf k)).getD j 0)) rfl h4 (fun hb=>?_) h2 ?_ (fun _ _ _=>rfl) ?_
      ·have hh:=hp pb h5;rcases hA _ hb with h8|h8
       ·exact hh.1 h8
       ·exact hh.2 h8
      ·intro j c hj;have Cc:j<(Ah .u64 (pre.map fun k=>Ct seed k (J2 leaf k))).length:=(List.getElem?_eq_some_iff.1 hj).1
       rw[Ay] at Cc;rw[Eu,h6 j _ (List.getElem?_eq_getElem Cc),List.getD_eq_getElem?_getD,List.getElem?_eq_getElem Cc];rfl
      ·intro j c hj;have Cc:j<(Ah .u64 (pre.map fun k=>Ct seed k (J2 leaf k))).length:=(List.getElem?_eq_some_iff.1 hj).1
       rw[Ay] at Cc;rw[Oj (List.getElem?_eq_getElem Cc)] at hj;cases hj;rw[List.getD_eq_getElem?_getD,List.getElem?_eq_getElem Cc];exact A4.sc _
 ·intro id bx e;obtain⟨rfl,rfl⟩:=V5 id bx e;refine⟨b8,o8,e1,fun j c hj=>?_,fun j hj=>f8 j hj⟩
  have Cc:j<3:=(List.getElem?_eq_some_iff.1 hj).1;obtain⟨v,hv⟩:=c8 j Cc
  match j,hj with
  |0,hj=>cases hj;exact⟨v,hv,A4.top _⟩
  |1,hj=>cases hj;exact⟨v,hv,A4.top _⟩
  |2,hj=>cases hj;exact⟨v,hv,A4.top _⟩
 ·intro id id' b1 o1 o2 g1 g2 g3 g4
  have Br:∀i,Cv (Bu [(96000,Bx.st [.top,.top,.top])] i)->i=96000:=by
   intro i hi;cases hh:Bu [(96000,Bx.st [.top,.top,.top])] i with
   |none=>rw[hh] at hi;exact hi.elim
   |some bx=>exact (V5 i bx hh).1
  rw[Br id g1,Br id' g2]
 ·intro id b1 o1 g1 g2;cases hh:Bu [(96000,Bx.st [.top,.top,.top])] id with
  |none=>exact absurd hh g1
  |some bx=>
   obtain⟨rfl,_⟩:=V5 id bx hh;rw[e1] at g2;cases g2;exact l8
 ·intro p C2 id Br;simp only[List.mem_cons,List.not_mem_nil,or_false] at C2;rcases C2 with rfl|rfl|rfl<;>simp[B8,Cl,Az] at Br
  subst Br;simp[Bu]
 ·intro id cells e c hc i hi;obtain⟨rfl,e'⟩:=V5 id _ e;cases e';simp only[List.mem_cons,List.not_mem_nil,or_false] at hc;rcases hc with rfl|rfl|rfl<;>simp[Az] at hi
 ·intro i hi;subst hi;simp[Bu,Dl]
 ·intro id c e;obtain⟨rfl,_⟩:=V5 id _ e;exact⟨0,rfl,rfl⟩
 ·intro b hy hx;rw[hX b hx] at hy;exact y8 hy
end
section
open Go.IntKind (wrap)
set_option maxRecDepth 20000
open Go Go.RowKit
abbrev Aks (seed h leaf m:Int)(n:Nat)(c:List PV):St:=
  ⟨lk [(0,.sc (.int .u64 seed)),(3,.sc (.int .u64 m)),(5,.ptr 5 0),(6,.ptr 6 0),(8,.ptr 8 0),(9,.sc (.int .i64 0)),(10,.ptr 10 0),(27,.sc (.int .u64 seed)),(28,.sc (.int .i64 h))],
   Bu [(5,.st [.sc (.int .i64 h)]),(6,.st [.sc (.int .i64 leaf)]),(8,.st [.sc (.int .i64 0),.view 104 1 0 0,.view 152 1 0 0]),(104,.ar false []),(152,.ar false []),(10,.st [.sc (.int .i64 leaf),.view 106 1 0 n,.view 154 1 0 0]),(106,.ar false c),(154,.ar false [])]⟩
theorem B3.var {N:Nat}{w0:World}{X0:Fz}{Y:Nat->Prop}{β:Bt}{s:St}{a:Act}{w:World}(h:B3 N w0 X0 Y β s a w){i id:Nat}{cells:List PV}(hi:i<N)(ht:s.tm i=.ptr id 0)(hb:s.hp id=some (.st cells)):
  ∃b o,β id=some (b,o)∧a.tmps.getD i undef=.pointer (some ⟨b,o,none⟩)∧b<w.heap.size∧(∀j c,cells[j]?=some c->∃v,w.cell? ⟨b,o+j,none⟩=some v∧Cj w (De s.hp β Y) β c v)∧∀j,j<cells.length->w.frozen? ⟨b,o+j,none⟩=false:=by
 have h1:=h.tms i hi;rw[ht] at h1;obtain⟨b,o,e1,e2⟩:=(show ∃b o,β id=some (b,o)∧a.tmps.getD i undef=.pointer (some ⟨b,o+0,none⟩) from h1)
 obtain⟨b',o',e3,e4,e5⟩:=(show ∃b o,β id=some (b,o)∧_∧_ from h.box id _ hb)
 rw[e1] at e3;cases e3;exact⟨b,o,e1,e2,h.blt id b o (by rw[hb];simp) e1,e4,e5⟩
structure A4o (w w4:World) (Y:Nat->Prop) (seed h leaf:Int) (c:List PV) (n:Nat) (a4:Act) (b5 o5 b6 o6 b8 o8 b10 o10 e0:Nat) (chv:Value):Prop where
 t5:a4.tmps.getD 5 undef=.pointer (some ⟨b5,o5,none⟩)
 t6:a4.tmps.getD 6 undef=.pointer (some ⟨b6,o6,none⟩)
 t8:a4.tmps.getD 8 undef=.pointer (some ⟨b8,o8,none⟩)
 t9:a4.tmps.getD 9 undef=.int .i64 0
 t10:a4.tmps.getD 10 undef=.pointer (some ⟨b10,o10,none⟩)
 t27:a4.tmps.getD 27 undef=.int .u64 seed
 t28:a4.tmps.getD 28 undef=.int .i64 h
 c5:w4.cell? ⟨b5,o5,none⟩=some (.int .i64 h)
 c6:w4.cell? ⟨b6,o6,none⟩=some (.int .i64 leaf)
 c8:∀j,j<3->∃v,w4.cell? ⟨b8,o8+j,none⟩=some v
 f8:∀j,j<3->w4.frozen? ⟨b8,o8+j,none⟩=false
 c10:w4.cell? ⟨b10,o10,none⟩=some (.int .i64 leaf)
 c11:w4.cell? ⟨b10,o10+1,none⟩=some chv
 f10:∀j,j<3->w4.frozen? ⟨b10,o10+j,none⟩=false
 l5:b5<w4.heap.size
 l6:b6<w4.heap.size
 l8:b8<w4.heap.size
 l10:b10<w4.heap.size
 le:e0<=w4.heap.size
 n5:b5≠b10
 n6:b6≠b10
 m5:b5≠e0
 m6:b6≠e0
 m10:b10≠e0
 n8:b8≠b10
 m8:b8≠e0
 y8:¬Y b8
 y10:¬Y b10
 ye:¬Y e0
 g10:w.heap.size<=b10
 ge:w.heap.size<=e0
 g8:w.heap.size<=b8
 one:chv.oneCell'=true
 ch:∀B:World,w4.heap.size<=B.heap.size->(∀b,b<w4.heap.size->b≠b10->b≠e0->B.heap[b]?=w4.heap[b]?)->A4 B (fun b=>b=b8∨Y b) (.lst false 1 n c) chv
 p0:∃v2,w4.cell? ⟨b10,o10+2,none⟩=some v2∧((∃ad,v2=.slice ad 0 0)∨∃x cap,v2=.slice (some ⟨e0,x,none⟩) 0 cap∧x+cap<=bsz w4 e0∧e0<w4.heap.size∧∀j,x<=j->j<bsz w4 e0->w4.frozen? ⟨e0,j,none⟩=false)
theorem Ap3 {w w4:World}{Y:Nat->Prop}{seed h leaf m:Int}{l:List Int}{n:Nat}{a4:Act}{X0:Fz}{β4:Bt}(hn:0<n)(hl:l.length=n)(hX:∀b,¬X0.X b)(hs:B3 48 w X0 Y β4 (Aks seed h leaf m n (Ah .u64 l)) a4 w4):
  ∃b5 o5 b6 o6 b8 o8 b10 o10 e0 chv,A4o w w4 Y seed h leaf (Ah .u64 l) n a4 b5 o5 b6 o6 b8 o8 b10 o10 e0 chv:=by
 obtain⟨b5,o5,e5,t5,l5,k5,f5⟩:=hs.var (i:=5) (id:=5) (by decide) rfl rfl
 obtain⟨b6,o6,e6,t6,l6,k6,f6⟩:=hs.var (i:=6) (id:=6) (by decide) rfl rfl
 obtain⟨b8,o8,e8,t8,l8,k8,f8⟩:=hs.var (i:=8) (id:=8) (by decide) rfl rfl
 obtain⟨b10,o10,e10,t10,l10,k10,f10⟩:=hs.var (i:=10) (id:=10) (by decide) rfl rfl
 obtain⟨v5,q5,r5⟩:=k5 0 _ rfl;obtain⟨v6,q6,r6⟩:=k6 0 _ rfl;obtain⟨v80,q80,_⟩:=k8 0 _ rfl;obtain⟨v81,q81,_⟩:=k8 1 _ rfl;obtain⟨v82,q82,_⟩:=k8 2 _ rfl;obtain⟨v0,q0,r0⟩:=k10 0 _ rfl;obtain⟨v1,q1,r1⟩:=k10 1 _ rfl;obtain⟨v2,q2,r2⟩:=k10 2 _ rfl;have r5:=A4.val r5;have r6:=A4.val r6;have r0:=A4.val r0;subst r5 r6 r0;have Ib:=hs.box 106 _ (rfl:_=some (Bx.ar false (Ah .u64 l)));have Ot:=hs.box 154 _ (rfl:_=some (Bx.ar false []));have own:∀id b o,Cv ((Aks seed h leaf m n (Ah .u64 l)).hp id)->β4 id=some (b,o)->w.heap.size<=b∧¬Y b:=fun id b o h1 h2=>⟨(hs.ownd b ⟨id,o,h1,h2⟩).elim (fun x=>absurd x (hX b)) (fun x=>x),fun hy=>hs.Yx b hy ⟨id,o,h1,h2⟩⟩
 have dif:∀id id' b b' o o',id≠id'->Cv ((Aks seed h leaf m n (Ah .u64 l)).hp id)->Cv ((Aks seed h leaf m n (Ah .u64 l)).hp id')->β4 id=some (b,o)->β4 id'=some (b',o')->b≠b':=fun id id' b b' o o' Gg h1 h2 h3 h4 e=>by
  subst e;exact Gg (hs.inj id id' b o o' h1 h2 h3 h4)
 obtain⟨e0,he1,he2⟩:∃e0,(∀b o,β4 154=some (b,o)->e0=b)∧((∃o,β4 154=some (e0,o))∨e0=w4.heap.size):=by
  cases hq:β4 154 with
  |none=>exact⟨w4.heap.size,fun b o h=>by (cases h),.inr rfl⟩
  |some q=>exact⟨q.1,fun b o h=>by (cases h;rfl),.inl ⟨q.2,rfl⟩⟩
 have Bdg:w.heap.size<=w4.heap.size:=hs.fr.step.size
 have de:∀id b o,id≠154->Cv ((Aks seed h leaf m n (Ah .u64 l)).hp id)->β4 id=some (b,o)->b<w4.heap.size->b≠e0:=fun id b o Gg h1 h2 Cc e=>by
  rcases he2 with⟨o',h3⟩|h3
  ·exact dif id 154 b e0 o o' Gg h1 trivial h2 h3 e
  ·omega
 have ge:w.heap.size<=e0∧¬Y e0∧e0<=w4.heap.size:=by
  rcases he2 with⟨o',h3⟩|h3
  ·have:=own 154 e0 o' trivial h3;exact⟨this.1,this.2,Nat.le_of_lt (hs.blt 154 e0 o' (fun h0:some (Bx.ar false [])=none=>by cases h0) h3)⟩
  ·exact⟨by omega,fun hy=>by have:=hs.Ylt e0 hy;omega,by omega⟩
 rcases r1 with⟨_,_,h3,_⟩|⟨cb,co,x,cap,g1,g2,g3,g4,g5,g6⟩
 ·omega
 rcases Ib with⟨h7,_⟩|⟨cb',co',h7,h8,h9,_⟩
 ·rw[g1] at h7;cases h7
 rw[g1] at h7;cases h7;have hx:x=co:=by omega
 subst hx
 refine⟨b5,o5,b6,o6,b8,o8,b10,o10,e0,v1,⟨t5,t6,t8,L7 (hs.tms 9 (by decide)),t10,L7 (hs.tms 27 (by decide)),L7 (hs.tms 28 (by decide)),q5,q6,fun j hj=>?_,fun j hj=>f8 j hj,q0,q1,fun j hj=>f10 j hj,l5,l6,l8,l10,ge.2.2,
  dif 5 10 _ _ _ _ (by decide) trivial trivial e5 e10,dif 6 10 _ _ _ _ (by decide) trivial trivial e6 e10,de 5 _ _ (by decide) trivial e5 l5,de 6 _ _ (by decide) trivial e6 l6,de 10 _ _ (by decide) trivial e10 l10,dif 8 10 _ _ _ _ (by decide) trivial trivial e8 e10,de 8 _ _ (by decide) trivial e8 l8,
  (own 8 _ _ trivial e8).2,(own 10 _ _ trivial e10).2,ge.2.1,(own 10 _ _ trivial e10).1,ge.1,(own 8 _ _ trivial e8).1,by rw[g2];rfl,fun B hB hk=>?_,v2,q2,?_⟩⟩
 ·match j,hj with
  |0,_=>exact⟨v80,q80⟩
  |1,_=>exact⟨v81,q81⟩
  |2,_=>exact⟨v82,q82⟩
 ·have Xl:=hk cb g6 (dif 106 10 _ _ _ _ (by decide) trivial trivial g1 e10) (de 106 _ _ (by decide) trivial g1 g6)
  rw[g2];refine A4.lst 1 _ _ ⟨cb,x,none⟩ cap (fun j=>.int .u64 (l.getD j 0)) rfl (by show cb<_;omega) (fun hb=>?_) g4 (fun j c hj=>?_) (fun _ _ _=>rfl) (fun j c hj=>?_)
  ·rcases hb with hb|hb
   ·exact dif 106 8 _ _ _ _ (by decide) trivial trivial g1 e8 hb
   ·exact (own 106 _ _ trivial g1).2 hb
  ·have Cc:j<(Ah .u64 l).length:=(List.getElem?_eq_some_iff.1 hj).1;rw[Ay] at Cc;obtain⟨v,k1,_,k3⟩:=h8 j _ (Oj (List.getElem?_eq_getElem Cc));rw[Eu] at k1 ⊢;rw[World.cell?_of_block (a:=⟨cb,x+j,none⟩) Xl,k1,A4.val k3,List.getD_eq_getElem?_getD,List.getElem?_eq_getElem Cc];rfl
  ·have Cc:j<(Ah .u64 l).length:=(List.getElem?_eq_some_iff.1 hj).1;rw[Ay] at Cc;rw[Oj (List.getElem?_eq_getElem Cc)] at hj;cases hj;rw[List.getD_eq_getElem?_getD,List.getElem?_eq_getElem Cc];exact A4.sc _
 ·rcases r2 with⟨_,_,_,h4⟩|⟨pb,po,x',cap',k1,k2,k3,k4,k5',k6'⟩
  ·exact .inl h4
  ·have he:=he1 pb po k1;subst he;rcases Ot with⟨h7,_⟩|⟨pb',po',h7,_,h9',_⟩
   ·rw[k1] at h7;cases h7
   ·rw[k1] at h7;cases h7;have hxx:x'=po:=by omega
    subst hxx;exact .inr ⟨x',cap',k2,by omega,k6',fun j hj hjb=>h9' rfl j hj hjb⟩
end
section
open Go.Proofs.Tryz (prog)
open Go.IntKind (wrap)
set_option maxRecDepth 20000
open Go Go.RowKit
noncomputable abbrev Apc:Code:=sA (sB (sR (sL (sR (sR (sR QT))))))
theorem Aqi:∃o1 o2:Oper,Apc=.seq (.region 5 #[o1] false) (.region 6 #[o2] false)∧(o1.op=.assign (.tmp 30)∧o1.dst=some 11∧o1.guard=none)∧(o2.op=.assign (.tmp 31)∧o2.dst=some 12∧o2.guard=none):=
 ⟨_,_,rfl,⟨rfl,rfl,rfl⟩,⟨rfl,rfl,rfl⟩⟩
theorem Am3 {F:Fence}{n:Nat}{P:Program}{o:Oper}{x:Operand}{a:Act}{w:World}{next:Act->World->Prop}{Q:Exit->Act->World->Prop}(hF:∀f,F.fn f)(ho:o.op=.assign x)(h:next (a.put o.dst (a.eval x)) w):o.wpIn F n P a w next Q:=by
 refine⟨fun f _=>hF f,?_⟩
 have e:o.semAt F.round a.eval=execOp a.eval o:=Oper.semAt_eq _ _ _ (by intro c hc;rw[ho] at hc;cases hc)
 rw[e]
 have r:(execOp a.eval o).run P w=.ok (.value (a.eval x)) w:=by
  unfold execOp;rw[ho];simp
 rw[r];exact h
theorem Ai0 {F:Fence}{n:Nat}{P:Program}{o:Oper}{x:Operand}{id:Nat}{a:Act}{w:World}{Q:Exit->Act->World->Prop}(hF:∀f,F.fn f)(ho:o.op=.assign x)(hg:o.guard=none)(h:Q .normal (a.put o.dst (a.eval x)) w):(Code.region id #[o] false).wpIn F n P Q a w:=by
 refine wpIn_region ?_;show wpOpsIn F n P #[o] Q [0] a w;unfold wpOpsIn;simp only[List.getElem?_toArray,List.getElem?_cons_zero,Region.wanted,hg,if_true];exact Am3 hF ho h
theorem Fm {a:Act}{i j:Nat}{v:Value}(h:i≠j):(a.put (some i) v).tmps.getD j undef=a.tmps.getD j undef:=by
 show (a.tmps.setIfInBounds i v).getD j undef=_;simp[Array.getD_eq_getD_getElem?,Array.getElem?_setIfInBounds_ne h]
theorem EH {a:Act}{i:Nat}{v:Value}(h:i<a.tmps.size):(a.put (some i) v).tmps.getD i undef=v:=by
 show (a.tmps.setIfInBounds i v).getD i undef=_;simp[Array.getD_eq_getD_getElem?,h]
def sgA (a:Act)(args:Array Value):Act:=
 let r:Act:={ tmps:=((#[30,31]:Array Tmp).zip args).foldl (fun t (p,v)=>t.setIfInBounds p v) a.tmps,defers:=[] }
 let r1:=r.put (some 11) (r.eval (.tmp 30))
 r1.put (some 12) (r1.eval (.tmp 31))
theorem Aru {a:Act}{x y:Value}(hs:a.tmps.size=48):(sgA a #[x,y]).defers=[]∧(sgA a #[x,y]).tmps.size=48∧(sgA a #[x,y]).tmps.getD 5 undef=a.tmps.getD 5 undef∧(sgA a #[x,y]).tmps.getD 6 undef=a.tmps.getD 6 undef∧(sgA a #[x,y]).tmps.getD 10 undef=a.tmps.getD 10 undef ∧
  (sgA a #[x,y]).tmps.getD 11 undef=x∧(sgA a #[x,y]).tmps.getD 12 undef=y:=by
 obtain⟨b,hb⟩:∃b:Act,({ tmps:=a.tmps,defers:=[] }:Act)=b:=⟨_,rfl⟩;have RW:b.tmps.size=48:=by rw[←hb];exact hs
 have e:sgA a #[x,y]=(((b.put (some 30) x).put (some 31) y).put (some 11) (((b.put (some 30) x).put (some 31) y).eval (.tmp 30))).put (some 12) ((((b.put (some 30) x).put (some 31) y).put (some 11) (((b.put (some 30) x).put (some 31) y).eval (.tmp 30))).eval (.tmp 31)):=by
  rw[←hb];have z:((#[30,31]:Array Tmp).zip #[x,y]) = #[(30,x),(31,y)]:=by simp
  unfold sgA;rw[z];simp[Act.put]
 have ev:∀(c:Act) (t:Nat),c.eval (.tmp t)=c.tmps.getD t undef:=fun c t=>rfl
 have e30:((b.put (some 30) x).put (some 31) y).eval (.tmp 30)=x:=by rw[ev,Fm (by decide),EH (by omega)]
 rw[e,e30];have e31:(((b.put (some 30) x).put (some 31) y).put (some 11) x).eval (.tmp 31)=y:=by rw[ev,Fm (by decide),EH (by rw[Hq];omega)]
 rw[e31];have hd:b.defers=[]:=by rw[←hb]
 have ht:b.tmps=a.tmps:=by rw[←hb]
 refine⟨by simp only[Kj,hd],by simp only[Hq,RW],?_,?_,?_,?_,?_⟩
 ·rw[Fm (by decide),Fm (by decide),Fm (by decide),Fm (by decide),ht]
 ·rw[Fm (by decide),Fm (by decide),Fm (by decide),Fm (by decide),ht]
 ·rw[Fm (by decide),Fm (by decide),Fm (by decide),Fm (by decide),ht]
 ·rw[Fm (by decide),EH (by simp only[Hq];omega)]
 ·rw[EH (by simp only[Hq];omega)]
theorem Awb {w w4 w5:World}{Y:Nat->Prop}{seed leaf:Int}{h:Nat}{c:List PV}{n:Nat}{a4 a5:Act}{b5 o5 b6 o6 b8 o8 b10 o10 e0:Nat}{chv:Value}(hh:h<=4)(V5:0<=leaf)(IA:leaf<((2 ^ h:Nat):Int)) (hp:A4o w w4 Y seed h leaf c n a4 b5 o5 b6 o6 b8 o8 b10 o10 e0 chv)
  (Lw:a4.tmps.size=48)(hw5:w5=(w4.alloc (.cells #[.int .u64 seed] 37)).alloc (.cells #[.int .i64 h] 3))
  (RP:a5=a4.put (some 29) (.func (.func 113) #[] #[.pointer (some ⟨w4.heap.size+1,0,none⟩),.pointer (some ⟨w4.heap.size,0,none⟩)])) {K:Act->World->Prop}{Q:Exit->Act->World->Prop}
  (hK:∀Z B,IR w4 (w4.heap.size+2) seed leaf h b10 o10 e0 chv Z (List.range h) B->B.heap[w4.heap.size+2]?=some (.deferred (some []))->K { a5 with defers:={ target:=.collected (w4.heap.size+2),args:= #[] }::a5.defers } B):
  (Code.block 0 (.rangeFunc (.tmp 29) #[30,31] Apc Ahe)).wpIn Fence.wide 0 prog (Exit.then K Q) a5 w5:=by
 have We:w5.heap.size=w4.heap.size+2:=by rw[hw5,World.size_alloc,World.size_alloc]
 have hold:∀b,b<w4.heap.size->w5.heap[b]?=w4.heap[b]?:=fun b hb=>by
  rw[hw5];exact (Below.heap_alloc _ _ _ (by simp;omega)).trans (Below.heap_alloc _ _ _ hb)
 have hB1:w5.heap[w4.heap.size+1]?=some (.cells #[.int .i64 h] 3):=by
  rw[hw5];have:=World.alloc_heap_new (w4.alloc (.cells #[.int .u64 seed] 37)) (.cells #[.int .i64 h] 3);rwa [World.size_alloc] at this
 have hB0:w5.heap[w4.heap.size]?=some (.cells #[.int .u64 seed] 37):=by
  rw[hw5];exact (Below.heap_alloc _ _ _ (by simp)).trans (World.alloc_heap_new w4 _)
 have Azp:a5.tmps.size=48:=by rw[RP,Hq];exact Lw
 have g5:a5.tmps.getD 5 undef=.pointer (some ⟨b5,o5,none⟩):=by rw[RP,Fm (by decide)];exact hp.t5
 have g6:a5.tmps.getD 6 undef=.pointer (some ⟨b6,o6,none⟩):=by rw[RP,Fm (by decide)];exact hp.t6
 have g10:a5.tmps.getD 10 undef=.pointer (some ⟨b10,o10,none⟩):=by rw[RP,Fm (by decide)];exact hp.t10
 have g29:a5.eval (.tmp 29)=.func (.func 113) #[] #[.pointer (some ⟨w4.heap.size+1,0,none⟩),.pointer (some ⟨w4.heap.size,0,none⟩)]:=by
  show a5.tmps.getD 29 undef=_;rw[RP,EH (by omega)]
 have nD:w4.heap.size+2≠e0:=by have:=hp.le;omega
 have nD1:w4.heap.size+2+1≠e0:=by have:=hp.le;omega
 have VK:=Aul (seed:=seed) (h:=h) (Bh:=w4.heap.size+1) (Bs:=w4.heap.size) hh
 refine wpIn_block (Als (Z0:=fun b=>b<w4.heap.size) g29 (enters_of Tryz.func113 (by kernel_rfl) rfl) VK (fun b hb=>by omega) (fun W hW hk=>?_) (fun pre x args Z A B hm h1 h2=>Arm hm h1 h2) (fun pre x args Z A hm=>Ar6 hm)
  (IR w4 (w4.heap.size+2) seed leaf h b10 o10 e0 chv) (A1i w4 (w4.heap.size+2) seed leaf h b10 o10 e0 chv) ?_ ?_ ?_ (sgA a5) ?_ ?_ ?_ ?_)
 ·have k1:=hk (w4.heap.size+1) (by omega)
  have k0:=hk w4.heap.size (by omega)
  refine⟨(World.cell?_of_block (a:=⟨w4.heap.size+1,0,none⟩) k1).trans ?_,(World.cell?_of_block (a:=⟨w4.heap.size,0,none⟩) k0).trans ?_,by omega,by omega,?_,?_⟩
  ·unfold World.cell?;rw[hB1];rfl
  ·unfold World.cell?;rw[hB0];rfl
  ·rintro (h1|h1|h1)<;>omega
  ·rintro (h1|h1|h1)<;>omega
 ·intro Z pre A B hI hs;rw[We] at hs;exact hI.stay hp.l10 nD nD1 (by omega) hs
 ·rintro c' Z pre A B ⟨h1,pre',h2,hI⟩ hs
  rw[We] at hs;exact⟨h1,pre',h2,hI.stay hp.l10 nD nD1 (by omega) hs⟩
 ·intro W hW Gv;have e:∀b,b<w4.heap.size->W.heap[b]?=w4.heap[b]?:=fun b hb=>(Gv.same b (by omega)).trans (hold b hb)
  have o5:w5.os=w4.os∧w5.tape=w4.tape∧w5.output=w4.output:=by rw[hw5];exact⟨rfl,rfl,rfl⟩
  obtain⟨v2,p1,p2⟩:=hp.p0;refine⟨Gv.os.trans o5.1,Gv.tape.trans o5.2.1,Gv.output.trans o5.2.2,by omega,fun b hb=>.inl hb,fun b hb=>by rcases hb with hb|hb|hb<;>omega,fun b hb _ _=>e b hb,by unfold bsz;rw[e b10 hp.l10];exact Nat.le_refl _,(World.cell?_of_block (e b10 hp.l10)).trans hp.c10,(World.cell?_of_block (e b10 hp.l10)).trans hp.c11,fun k hk=>by rw[frozen?_of_block (e b10 hp.l10)];exact hp.f10 k hk,(fun x hx=>by cases hx),v2,(World.cell?_of_block (e b10 hp.l10)).trans p1,?_,?_⟩
  ·rcases p2 with p2|⟨x,cap,q1,q2,q3,q4⟩
   ·exact .inl ⟨rfl,p2⟩
   ·have hb:bsz W e0=bsz w4 e0:=by unfold bsz;rw[e e0 q3]
    rcases Nat.eq_zero_or_pos cap with q0|q0
    ·subst q0;exact .inl ⟨rfl,_,q1⟩
    exact .inr ⟨e0,x,cap,q0,q1,Nat.zero_le _,by rw[hb];exact q2,by omega,.inr rfl,fun j y hj=>(by cases hj),fun j hj hjb=>by rw[frozen?_of_block (e e0 q3)];exact q4 j hj (by rw[←hb];exact hjb)⟩
  ·intro pb po k cap' hc0 hv;rcases p2 with⟨ad,p2⟩|⟨x,cap,q1,q2,q3,q4⟩
   ·rw[p2] at hv;cases hv;omega
   ·rw[q1] at hv;cases hv;exact .inl q3
 ·intro pre x args Z A K' hm hk;obtain⟨o1,o2,e,⟨a1,a2,a3⟩,⟨c1,c2,c3⟩⟩:=Aqi;refine O3 e (wpIn_seq (Ai0 (fun _=>trivial) a1 a3 ?_))
  show (Code.region 6 #[o2] false).wpIn _ _ _ _ _ _;refine Ai0 (fun _=>trivial) c1 c3 ?_
  rw[a2,c2];exact hk
 ·intro Z pre x args A hZ1 hZ2 hI hm;rw[We] at hZ1 hZ2 ⊢;obtain⟨hx,_,bb,oo,cc,Ey,_⟩:=id hm;have sp:=Aru (a:=a5) (x:=.int .i64 x) (y:=.slice (some ⟨bb,oo,none⟩) (2 ^ (h-x):Nat) cc) Azp;rw[←Ey] at sp;refine Ao7 hh V5 IA hI hm ⟨sp.1,sp.2.1,sp.2.2.1.trans g5,sp.2.2.2.1.trans g6,sp.2.2.2.2.1.trans g10,?_,?_⟩ hp.c5 hp.c6 hp.l5 hp.l6 hp.l10 hp.n5 hp.n6 hp.m5 hp.m6 hp.m10 nD nD1 (by omega) hZ1 hZ2
  ·rw[sp.2.2.2.2.2.1,Ey];rfl
  ·rw[sp.2.2.2.2.2.2,Ey];rfl
 ·intro Z xs B hS hI _;subst hS;have:=hI.lt h (by simp)
  omega
 ·rintro c' Z xs B ⟨k,hk⟩ ⟨rfl,pre,Ac0,hI⟩ hdf
  have hrg:pre=List.range h:=by
   rw[Ac0,List.range_succ] at hk;have:=List.append_inj' hk rfl;have h2:h=k:=by simpa using this.2
   rw[this.1,h2]
  subst hrg;rw[We] at hdf ⊢;refine wpIn_exit ?_;simp only[Exit.inBlock,if_true];exact hK Z B hI hdf
end
section
open Go.Proofs.Tryz (prog)
open Go.IntKind (wrap)
set_option maxRecDepth 20000
open Go Go.RowKit
theorem A1s:QT=.seq (sL QT) (.seq (sL (sR QT)) (.seq (sL (sR (sR QT))) (.seq (.seq (.region 4 (G4 (sL (sL (sR (sR (sR QT)))))) false) (.block 0 (.rangeFunc (.tmp 29) #[30,31] Apc Ahe))) (.seq (.region 9 (G4 (sL (sR (sR (sR (sR QT)))))) false) .ret)))):=by kernel_rfl
theorem A2r:∃ty pos aft x,(G4 (sL (sL (sR (sR (sR QT))))))[2]?=some { dst:=some 29,op:=.call { callee:=.value (.func 70),args:= #[.tmp 27,.tmp 28],argTypes:=x },type:=ty,pos:=pos,after:=aft,guard:=none }:=
 ⟨_,_,_,_,rfl⟩
theorem MD {P:Program}{ops:Array Oper}{Q Q':Exit->Act->World->Prop}{n id:Nat}{ds:List Deferred}{a:Act}{w:World}(h:wpOpsIn (WF none) n P ops Q' (List.range ops.size) a w) (hq:∀e a w,TD ds Q' e a w->Q e a w):(Code.region id ops false).wpIn Fence.wide n P Q (Sw ds a) w:=
 wpIn_mono (wpIn_region (F:=Fence.wide) (W6 _ h)) hq
abbrev A8s (seed h leaf m:Int):St:=
  ⟨lk [(0,.sc (.int .u64 seed)),(3,.sc (.int .u64 m)),(5,.ptr 5 0),(6,.ptr 6 0),(8,.ptr 8 0),(9,.sc (.int .i64 0))],
   Bu [(5,.st [.sc (.int .i64 h)]),(6,.st [.sc (.int .i64 leaf)]),(8,.st [.sc (.int .i64 0),.view 104 1 0 0,.view 152 1 0 0]),(104,.ar false []),(152,.ar false [])]⟩
abbrev A9g (seed h leaf m:Int)(n:Nat)(c:List PV):St:=
  ⟨lk [(0,.sc (.int .u64 seed)),(3,.sc (.int .u64 m)),(5,.ptr 5 0),(6,.ptr 6 0),(8,.ptr 8 0),(9,.sc (.int .i64 0)),(10,.ptr 10 0)],
   Bu [(5,.st [.sc (.int .i64 h)]),(6,.st [.sc (.int .i64 leaf)]),(8,.st [.sc (.int .i64 0),.view 104 1 0 0,.view 152 1 0 0]),(104,.ar false []),(152,.ar false []),(10,.st [.sc (.int .i64 leaf),.view 106 1 0 n,.view 154 1 0 0]),(106,.ar false c),(154,.ar false [])]⟩
abbrev Az6 (leaf:Int)(n1 n2:Nat)(c1 c2:List PV):St:=⟨lk [(8,.ptr 96000 0),(9,.sc (.int .i64 0))],Bu [(96000,.st [.sc (.int .i64 leaf),.lst false 1 n1 c1,.lst false 1 n2 c2])]⟩
theorem Ah1 {h leaf:Int}(hb:SV h leaf=false):Ex h=false∧Qq leaf h=false∧∃H:Nat,h=H∧H<=4∧0<=leaf∧leaf<((2 ^ H:Nat):Int):=by
 unfold SV at hb;rw[Bool.or_eq_false_iff] at hb;refine⟨hb.1,hb.2,h.toNat,?_⟩;have h1:=hb.1;have h2:=hb.2;unfold Ex at h1;unfold Qq at h2;rw[Bool.or_eq_false_iff,decide_eq_false_iff_not,decide_eq_false_iff_not] at h1 h2;have h3:h=(h.toNat:Int):=by omega
 have h4:=Axn (h:=h.toNat) (by omega)
 rw[←h3] at h4;rw[h4] at h2;exact⟨h3,by omega,by omega,by omega⟩
theorem Aua {G:U7}{seed h leaf m:Int}(hb:SV h leaf=false):Da G prog 36 [.sc (.int .u64 seed),.sc (.int .i64 h),.sc (.int .i64 leaf),.sc (.int .u64 m)]
  ⟨[.agg [.sc (.int .i64 leaf),.lst false 1 18 (Ah .u64 (Px seed leaf m)),.lst false 1 h.toNat (Ah .u64 ((List.range h.toNat).map fun k=>Ct seed k (J2 leaf k)))],.sc (.int .i64 0)],[]⟩:=by
 obtain⟨hhi,hou,H,rfl,hh,V5,IA⟩:=Ah1 hb;refine A0i ⟨_,Tryz.func36,rfl⟩ fun w Y hY=>?_
 have hk0:Agm prog 48 0 Tryz.f36.params.toList [.sc (.int .u64 seed),.sc (.int .i64 H),.sc (.int .i64 leaf),.sc (.int .u64 m)] (fun tms bs=>some (tms,bs))=some ([(0,.sc (.int .u64 seed)),(1,.sc (.int .i64 H)),(2,.sc (.int .i64 leaf)),(3,.sc (.int .u64 m))],[]):=by kernel_rfl
 have Zq:Ins w Y Y4 [.sc (.int .u64 seed),.sc (.int .i64 H),.sc (.int .i64 leaf),.sc (.int .u64 m)] [.int .u64 seed,.int .i64 H,.int .i64 leaf,.int .u64 m]:=
  ⟨hY,fun b _=>Qd b,fun b x=>(Qd b x).elim,fun _ _ _ _ _ _ _ x=>(by cases x),fun _ _ x=>(by cases x),⟨.inl trivial,A4.sc _⟩,⟨.inl trivial,A4.sc _⟩,⟨.inl trivial,A4.sc _⟩,⟨.inl trivial,A4.sc _⟩,trivial⟩
 obtain⟨tms,bs,Eb,Gv⟩:=IB Zq hk0;cases Eb;obtain⟨h8,β0,TU⟩:=Gv rfl (by simp)
 refine callsIn_wide.1 (callsIn_of_wp_marks (F:=Fence.wide) (n:=0) Tryz.func36 rfl trivial ?_ rfl);have t1:({ tmps:= #[Value.int .u64 seed,.int .i64 H,.int .i64 leaf,.int .u64 m]++Array.replicate (Tryz.f36.ntmps-(#[Value.int .u64 seed,.int .i64 H,.int .i64 leaf,.int .u64 m]).size) undef,defers:=[] }:Act)={ tmps:=[Value.int .u64 seed,.int .i64 H,.int .i64 leaf,.int .u64 m].toArray++Array.replicate (48-[Value.int .u64 seed,.int .i64 H,.int .i64 leaf,.int .u64 m].toArray.size) undef,defers:=[] }:=by kernel_rfl
 rw[t1];show QT.wpIn _ _ _ _ _ _;generalize ({ tmps:=[Value.int .u64 seed,.int .i64 H,.int .i64 leaf,.int .u64 m].toArray++Array.replicate (48-[Value.int .u64 seed,.int .i64 H,.int .i64 leaf,.int .u64 m].toArray.size) undef,defers:=[] }:Act)=a0 at TU ⊢;have hXn:∀b,¬(EM Y4 [.sc (.int .u64 seed),.sc (.int .i64 H),.sc (.int .i64 leaf),.sc (.int .u64 m)] h8).X b:=Qd;refine O3 A1s (wpIn_seq (wpIn_wide.2 (Dj (I1 _ _) DW B0 TU (Az3 cl seed H leaf m) ?_)));intro a1 w1 β1 KQ;have eh:cl Nq [.sc (.int .i64 H)]=_:=Wx (xs:=noX) (fu:=2000) (d:=7) (H:Int);have eo:cl Js [.sc (.int .i64 leaf),.sc (.int .i64 H)]=_:=Rk (xs:=noX) (fu:=2000) (d:=7) leaf H (by omega)
 have es:cl Rg [.sc (.int .u64 seed),.sc (.int .i64 leaf),.sc (.int .u64 m)]=_:=At9 (xs:=noX) (fu:=2000) (d:=1) (by omega) seed leaf m
 refine wpIn_seq (wpIn_wide.2 (Dj (I1 _ _) DW B0 KQ (L:=873) (t:=0) (s1:=A8s seed H leaf m) ?_ ?_))
 ·refine (A0n cl seed H leaf m).trans ?_;simp only[Cu,eh,eo,hhi,hou]
 intro a2 w2 β2 PN;refine wpIn_seq (wpIn_wide.2 (Dj (I1 _ _) DW B0 PN (L:=1897) (t:=0) (s1:=A9g seed H leaf m 18 (Ah .u64 (Px seed leaf m))) ?_ ?_))
 ·refine (A09 cl seed H leaf m).trans ?_;simp only[Cu,es]
 intro a3 w3 β3 hs3;refine wpIn_seq (wpIn_seq (wpIn_region ?_));have hl:List.range (G4 (sL (sL (sR (sR (sR QT)))))).size=[0,1]++[2]:=by kernel_rfl
 rw[hl];refine Gs (ro:=none) (C:=CB) (call:=cl) (r:=((0:Nat),Aks seed H leaf m 18 (Ah .u64 (Px seed leaf m)))) (I1 _ _) B0 ?_ [0,1] (List.take 2 (G4 (sL (sL (sR (sR (sR QT)))))).toList) (by kernel_rfl) ?_ (by kernel_rfl) hs3 (A1k cl seed H leaf m 18 _)
 rotate_left
 ·intro j i hj
  match j,hj with
  |0,hj=>cases hj;rfl
  |1,hj=>cases hj;rfl
 intro s' a4 w4 β4 T8 hs4;obtain⟨β5,s5,WS,We⟩:=B6 hs4 T8;cases WS;obtain⟨b5,o5,b6,o6,b8,o8,b10,o10,e0,chv,hp⟩:=Ap3 (l:=Px seed leaf m) (n:=18) (by omega) (by simp[Px]) hXn We
 obtain⟨ty,pos,aft,x,ho⟩:=A2r;rw[wpOpsIn_cons];unfold wpOpIn;rw[ho];simp only[Region.wanted,if_true];refine⟨fun _ _=>trivial,?_⟩
 rw[show Oper.semAt (WF none).round a4.eval { dst:=some 29,op:=.call { callee:=.value (.func 70),args:= #[.tmp 27,.tmp 28],argTypes:=x },type:=ty,pos:=pos,after:=aft,guard:=none }=execOp a4.eval { dst:=some 29,op:=.call { callee:=.value (.func 70),args:= #[.tmp 27,.tmp 28],argTypes:=x },type:=ty,pos:=pos,after:=aft,guard:=none } from rfl,
  GC (o:={ dst:=some 29,op:=.call { callee:=.value (.func 70),args:= #[.tmp 27,.tmp 28],argTypes:=x },type:=ty,pos:=pos,after:=aft,guard:=none }) rfl rfl ngT Tryz.func70 rfl]
 have e27:a4.eval (.tmp 27)=.int .u64 seed:=hp.t27;have e28:a4.eval (.tmp 28)=.int .i64 H:=hp.t28;simp only[List.map_toArray,VN,List.map_nil,e27,e28];refine⟨(fun h=>by cases h),(Avh seed H _ w4).mono ?_⟩
 rintro e w5 ⟨rfl,hw5⟩
 refine Awb (w:=w) (Y:=Y) hh V5 IA hp We.tsz hw5 rfl ?_;intro Z B hRI hdf;obtain⟨a5,RP⟩:∃a5,a4.put (some 29) (.func (.func 113) #[] #[.pointer (some ⟨w4.heap.size+1,0,none⟩),.pointer (some ⟨w4.heap.size,0,none⟩)])=a5:=⟨_,rfl⟩;rw[RP];have hd5:a5.defers=[]:=by rw[←RP,Kj];exact We.dfr
 have hz5:a5.tmps.size=48:=by rw[←RP,Hq];exact We.tsz
 have ea:({ a5 with defers:={ target:=.collected (w4.heap.size+2),args:= #[] }::a5.defers }:Act)=Sw [{ target:=.collected (w4.heap.size+2),args:= #[] }] a5:=by unfold Sw;rw[hd5];rfl
 rw[ea];have hsB:w4.heap.size<=B.heap.size:=by have:=hRI.size;omega
 have hkB:∀b,b<w4.heap.size->b≠b10->b≠e0->B.heap[b]?=w4.heap[b]?:=hRI.keep;have h8B:=hkB b8 hp.l8 hp.n8 hp.m8
 obtain⟨XB,βB,hXB,hB⟩:=A0u (Y:=Y) (a:=a5) (b8:=b8) (o8:=o8) (n1:=18) (c1:=Ah .u64 (Px seed leaf m)) hRI hd5 hz5 (by rw[←RP,Fm (by decide)];exact hp.t8) (by rw[←RP,Fm (by decide)];exact hp.t9) (by rw[←RP,Fm (by decide)];exact hp.t10)
  (fun j hj=>by rw[World.cell?_of_block (a:=⟨b8,o8+j,none⟩) h8B];exact hp.c8 j hj) (fun j hj=>by rw[frozen?_of_block h8B];exact hp.f8 j hj) (Nat.lt_of_lt_of_le hp.l8 hsB) (Nat.lt_of_lt_of_le hp.l10 hsB) hp.n8 hp.y8 hp.y10 (hp.ch B hsB hkB) hp.one
  (fun pb hpb=>by
   rcases hpb with hpb|hpb
   ·have:=hp.l8;exact⟨by omega,fun hy=>by have:=hY pb hy;have:=We.fr.step.size;omega⟩
   ·rw[hpb];exact⟨fun e=>hp.m8 e.symm,hp.ye⟩)
  (fun b hb=>by have:=hY b hb;have:=We.fr.step.size;omega)
 rw[List.length_range] at hB;refine wpIn_seq (MD (Q':=fun e a' w'=>e=.normal∧∃β',B3 48 B XB Y β' (Az6 leaf 18 H (Ah .u64 (Px seed leaf m)) (Ah .u64 ((List.range H).map fun k=>Ct seed k (J2 leaf k)))) a' w') ?_ ?_)
 ·have hl9:List.range (G4 (sL (sR (sR (sR (sR QT)))))).size=[0,1,2]++[]:=by kernel_rfl
  rw[hl9];refine Gs (ro:=none) (C:=CB) (call:=cl) (r:=((0:Nat),Az6 leaf 18 H (Ah .u64 (Px seed leaf m)) (Ah .u64 ((List.range H).map fun k=>Ct seed k (J2 leaf k))))) (I1 _ _) B0 ?_ [0,1,2] (G4 (sL (sR (sR (sR (sR QT)))))).toList (by kernel_rfl) ?_ (by kernel_rfl) hB (A0y cl leaf 18 H _ _)
  rotate_left
  ·intro j i hj
   match j,hj with
   |0,hj=>cases hj;rfl
   |1,hj=>cases hj;rfl
   |2,hj=>cases hj;rfl
  intro s6 a6 w6 β6 hk6 hs6;obtain⟨β7,s7,hk7,hs7⟩:=B6 hs6 hk6;cases hk7;exact⟨rfl,β7,hs7⟩
 ·rintro e a7 w7 ⟨a6,rfl,rfl,β6,hz⟩
  refine wpIn_ret ?_
  have hD':w7.heap[w4.heap.size+2]?=some (.deferred (some [])):=by
   have Cc:=hRI.size;have hl8:=hp.l8;rw[hz.fr.step.keep (w4.heap.size+2) (by omega) fun hx=>by have:=hXB _ hx;omega]
   exact hdf
  show LeavesInM _ _ _ _ _ _ (a6.defers++[{ target:=.collected (w4.heap.size+2),args:= #[] }]) .returning w7;rw[hz.dfr];refine⟨by simp,.inl ⟨_,_,rfl,run_takeDeferred hD',?_⟩⟩
  have UT:=We.fr
  have hu:B3 48 w (EM Y4 [.sc (.int .u64 seed),.sc (.int .i64 H),.sc (.int .i64 leaf),.sc (.int .u64 m)] h8) Y β6 (Az6 leaf 18 H (Ah .u64 (Px seed leaf m)) (Ah .u64 ((List.range H).map fun k=>Ct seed k (J2 leaf k)))) a6 w7:=
   hz.unbase (fun _ h=>h) hY (fun b hx=>by rw[hXB b hx];exact hp.g8) (fun i ⟨p,h1,h2⟩=>by
    match i,h1 with
    |0,h1=>cases h1;cases h2
    |1,h1=>cases h1;cases h2
    |2,h1=>cases h1;cases h2
    |3,h1=>cases h1;cases h2) (hRI.os.trans UT.os) (hRI.tape.trans UT.tape) (hRI.output.trans UT.output) (Nat.le_trans UT.step.size hsB) (fun b hb=>by
    have h1:=hp.g10;have h2:=hp.ge;have h3:=UT.step.size;exact (hkB b (by omega) (by omega) (by omega)).trans (UT.step.keep b hb (hXn b)))
  have hv:=hu.same (KW (y:=none) hD') fun b hb=>World.putObj_heap_other (by have:=UT.step.size;omega)
  obtain⟨_,v,r1,vs,own,r2,r3⟩:=Zt (C:=CS) (f:=36) (fn:=Tryz.f36) Zq (res:=⟨[.agg [.sc (.int .i64 leaf),.lst false 1 18 (Ah .u64 (Px seed leaf m)),.lst false 1 H (Ah .u64 ((List.range H).map fun k=>Ct seed k (J2 leaf k)))],.sc (.int .i64 0)],[]⟩) (Az4 seed H leaf m leaf 18 H _ _) hv
  exact⟨v,r1,vs,own,r2,r3⟩
end
section
open Go.Proofs.Tryz (prog)
open Go.IntKind (wrap)
set_option maxRecDepth 20000
open Go Go.RowKit
theorem Da.any {G:U7}{P:Program}{f:FuncId}{args:List PV}{r:A5}(h:Da G1 P f args r):Da G P f args r:=
 ⟨h.1,fun w Y bt us Zq _ _=>h.2 w Y bt us Zq trivial fun _ hb=>hb.elim⟩
theorem A0w {G:U7}{seed h leaf m:Int}(hb:SV h leaf=true):Da G prog 36 [.sc (.int .u64 seed),.sc (.int .i64 h),.sc (.int .i64 leaf),.sc (.int .u64 m)]
  ⟨[.agg [.sc (.int .i64 0),.lst false 1 0 [],.lst false 1 0 []],.sc (.int .i64 9)],[]⟩:=by
 refine Da.any (QH ngT DW B0 Tryz.func36 rfl ((Ayz cl seed h leaf m).trans ?_));have eh:cl Nq [.sc (.int .i64 h)]=_:=Wx (xs:=noX) (fu:=2000) (d:=7) h;unfold SV at hb;cases hhi:Ex h
 ·rw[hhi,Bool.false_or] at hb
  have h0:0<=h:=by
   unfold Ex at hhi;rw[Bool.or_eq_false_iff,decide_eq_false_iff_not] at hhi;omega
  have eo:cl Js [.sc (.int .i64 leaf),.sc (.int .i64 h)]=_:=Rk (xs:=noX) (fu:=2000) (d:=7) leaf h h0;simp only[Cu,eh,eo,hhi,hb]
 ·simp only[Cu,eh,hhi]
theorem Amu {G:U7}{args:List PV}{r:A5}(h:A0x args=some r):Da G prog 36 args r:=by
 unfold A0x at h;split at h
 ·rename_i seed hh leaf m;cases h;cases hb:SV hh leaf
  ·have l18:(Px seed leaf m).length=18:=by simp[Px]
   have:=Aua (G:=G) (seed:=seed) (m:=m) hb;unfold tkL tkC tkP tkE;rw[hb];simp only[Bool.false_eq_true,if_false,l18,List.length_map,List.length_range];exact this
  ·have:=A0w (G:=G) (seed:=seed) (m:=m) hb;unfold tkL tkC tkP tkE;rw[hb];exact this
 ·cases h
end
section
open Go.Proofs.Tryz (prog)
open Go.IntKind (wrap)
open Go Go.RowKit
noncomputable abbrev stC:Code:=B7 Tryz.f29
noncomputable abbrev bwC:Code:=B7 Tryz.f93
noncomputable abbrev bwL:Code:=sB (sB (sR bwC))
noncomputable abbrev bwX:Code:=sB (sL (sR bwL))
noncomputable abbrev A3l:Code:=sB (sR (sL (sR (sR stC))))
noncomputable abbrev Ajk:Code:=sA A3l
noncomputable abbrev Aar:Code:=sF A3l
noncomputable abbrev Avm (N:Nat)(call:Af)(c:Code)(L:Nat)(s:St):Option (Nat × St):=
 Nj CB prog 2000 N call c L (fun _=>L) L (fun s=>I3 N L s fun s'=>some (0,s')) (fun id s=>I3 N L s fun s'=>some (id+2,s')) (fun s=>I3 N L s fun s'=>some (1,s')) s
section
variable {N:Nat} {w0:World} {X0:Fz} {Y:Nat->Prop} {β:Bt} {s s1:St} {a:Act} {w:World}
theorem RT {G:U7}(Jr:LO prog G w0 X0)(hm:prog.follows .mixedOrders=true){call:Af}(C6:∀f args res,call f args=some res->Da G prog f args res){c:Code}{L t:Nat}{Q:Exit->Act->World->Prop}(h:B3 N w0 X0 Y β s a w)
  (hk:Avm N call c L s=some (t,s1)) (hQ:∀a' w' β' e,B3 N w0 X0 Y β' s1 a' w'->(t=0∧e=.normal)∨(t=1∧e=.ret)∨(∃id,t=id+2∧e=.exit id)->Q e a' w'):c.wp prog Q a w:=by
 refine DN Jr C6 hm c h hk (fun s' a' w' β' h1 h2=>?_) (fun id s' a' w' β' h1 h2=>?_) (fun s' a' w' β' h1 h2=>?_)
 ·obtain⟨β1,s2,h3,h4⟩:=B6 h2 h1;cases h3;exact hQ _ _ _ _ h4 (.inl ⟨rfl,rfl⟩)
 ·obtain⟨β1,s2,h3,h4⟩:=B6 h2 h1;cases h3;exact hQ _ _ _ _ h4 (.inr (.inr ⟨id,rfl,rfl⟩))
 ·obtain⟨β1,s2,h3,h4⟩:=B6 h2 h1;cases h3;exact hQ _ _ _ _ h4 (.inr (.inl ⟨rfl,rfl⟩))
theorem KL {G:U7}(Jr:LO prog G w0 X0)(hm:prog.follows .mixedOrders=true){call:Af}(C6:∀f args res,call f args=some res->Da G prog f args res){ro:Option Nat}{n:Nat}{c:Code}(ho:okR c=true){L t:Nat}{Q:Exit->Act->World->Prop}(DO:∀a w,¬Q .outgrown a w)(h:B3 N w0 X0 Y β s a w)
  (hk:Avm N call c L s=some (t,s1)) (hQ:∀a' w' β' e,B3 N w0 X0 Y β' s1 a' w'->(t=0∧e=.normal)∨(t=1∧e=.ret)∨(∃id,t=id+2∧e=.exit id)->Q e a' w'):c.wpIn (WF ro) n prog Q a w:=by
 refine LU Jr C6 hm c ho DO h hk (fun s' a' w' β' h1 h2=>?_) (fun id s' a' w' β' h1 h2=>?_) (fun s' a' w' β' h1 h2=>?_)
 ·obtain⟨β1,s2,h3,h4⟩:=B6 h2 h1;cases h3;exact hQ _ _ _ _ h4 (.inl ⟨rfl,rfl⟩)
 ·obtain⟨β1,s2,h3,h4⟩:=B6 h2 h1;cases h3;exact hQ _ _ _ _ h4 (.inr (.inr ⟨id,rfl,rfl⟩))
 ·obtain⟨β1,s2,h3,h4⟩:=B6 h2 h1;cases h3;exact hQ _ _ _ _ h4 (.inr (.inl ⟨rfl,rfl⟩))
end
end
section
open Go.Proofs.Tryz (prog)
open Go.IntKind (wrap)
set_option maxRecDepth 100000
theorem A1m (call:Af)(v i x lf model now:Int)(n n1 n2:Nat)(c c1 c2:List PV):MN 28 call (sL stC) 106 ⟨lk [(0,.agg [.sc (.int .i64 v),.sc (.int .i64 i),.sc (.int .i64 x),.lst false 3 n c,.sc (.int .i64 lf),.lst false 1 n1 c1,.lst false 1 n2 c2]),(1,.sc (.int .u64 model)),(2,.sc (.int .i64 now))],Bu []⟩=(
 some (0,⟨lk [(1,(.sc (.int .u64 (model)))),(3,(.ptr 3 0)),(5,(.ptr 5 0)),(6,(.ptr 6 0))],Bu [(3,(.st [(.sc (.int .i64 (v))),(.sc (.int .i64 (i))),(.sc (.int .i64 (x))),(.lst false 3 (n) (c)),(.sc (.int .i64 (lf))),(.lst false 1 (n1) (c1)),(.lst false 1 (n2) (c2))])),(5,(.st [(.sc (.int .i64 (now)))])),(6,(.st [(.sc (.int .i64 ((0:Int))))]))]⟩)):=by kernel_rfl
theorem A1c (call:Af)(v i x lf model now:Int)(n n1 n2:Nat)(c c1 c2:List PV):MN 28 call (sL (sR stC)) 224 ⟨lk [(1,.sc (.int .u64 model)),(3,.ptr 3 0),(5,.ptr 5 0),(6,.ptr 6 0)],Bu [(3,.st [.sc (.int .i64 v),.sc (.int .i64 i),.sc (.int .i64 x),.lst false 3 n c,.sc (.int .i64 lf),.lst false 1 n1 c1,.lst false 1 n2 c2]),(5,.st [.sc (.int .i64 now)]),(6,.st [.sc (.int .i64 0)])]⟩=(
 Aj (call (52:Nat) [PV.agg [PV.sc (Value.int IntKind.i64 v),PV.sc (Value.int IntKind.i64 i),PV.sc (Value.int IntKind.i64 x),PV.lst false (3:Nat) n c,PV.sc (Value.int IntKind.i64 lf),PV.lst false (1:Nat) n1 c1,PV.lst false (1:Nat) n2 c2],PV.sc (Value.int IntKind.u64 model)]) fun x1 x2=>
 Ac (x2) <|
 Ab (x1) fun x3 x4=>
 Ft (x3) fun x5=>
 Ab (x5) fun x6 x7=>
 Ae (IntKind.u64) (x6) fun x8=>
 Ab (x7) fun x9 C7=>
 Em ((3:Nat)) (x9) fun Dm Eh E6=>
 Ab (C7) fun D8 Ez=>
 Em ((2:Nat)) (D8) fun Fu Gt G7=>
 Ac (Ez) <|
 Ab (x4) fun Gj Gx=>
 Bv (Gj) fun Ju=>
 Ac (Gx) <|
 some (0,⟨lk [(5,(.ptr 5 0)),(6,(.ptr 6 0)),(7,(.ptr 7 0))],Bu [(5,(.st [(.sc (.int .i64 (now)))])),(6,(.st [(.sc (.int .i64 ((0:Int))))])),(7,(.st [(.sc (.int .u64 (x8))),(.lst false 3 (Eh) (E6)),(.lst false 2 (Gt) (G7))]))]⟩)):=by kernel_rfl
theorem Azn (call:Af)(mo now:Int)(n1 n2:Nat)(c1 c2:List PV):K4 CB prog 28 call (G4 (sL (sL (sR (sR stC))))) (List.take 2 (G4 (sL (sL (sR (sR stC))))).toList) ⟨lk [(5,.ptr 5 0),(6,.ptr 6 0),(7,.ptr 7 0)],Bu [(5,.st [.sc (.int .i64 now)]),(6,.st [.sc (.int .i64 0)]),(7,.st [.sc (.int .u64 mo),.lst false 3 n1 c1,.lst false 2 n2 c2])]⟩ (fun s=>I3 28 262240 s fun s'=>some (0,s'))=(
 some (0,⟨lk [(5,(.ptr 5 0)),(6,(.ptr 6 0)),(18,(.lst false 2 (n2) (c2)))],Bu [(5,(.st [(.sc (.int .i64 (now)))])),(6,(.st [(.sc (.int .i64 ((0:Int))))]))]⟩)):=by kernel_rfl
theorem A0j (call:Af)(v5 v6:Value)(kd t:Int):MN 28 call Ajk 1120 ⟨lk [(5,.sc v5),(6,.sc v6),(21,.agg [.sc (.int .i64 kd),.sc (.int .i64 t)])],Bu []⟩=(
 some (0,⟨lk [(5,(.sc (v5))),(6,(.sc (v6))),(10,(.ptr 10 0))],Bu [(10,(.st [(.sc (.int .i64 (kd))),(.sc (.int .i64 (t)))]))]⟩)):=by kernel_rfl
theorem Ao6 (call:Af)(now kd t:Int):Avm 28 call Aar 64 ⟨lk [(5,.iptr [.sc (.int .i64 now)] 0),(6,.ptr 56000 0),(10,.iptr [.sc (.int .i64 kd),.sc (.int .i64 t)] 0)],Bu [(56000,.st [.sc (.int .i64 0)])]⟩=(
  Bk (decide (t<=now))
   (
   some (1,⟨lk [(6,(.ptr 56000 0))],Bu [(56000,(.st [(.sc (.int .i64 (kd)))]))]⟩))
   (
   some (0,⟨lk [(6,(.ptr 56000 0))],Bu [(56000,(.st [(.sc (.int .i64 ((0:Int))))]))]⟩))):=by kernel_rfl
theorem Az0 (call:Af)(k:Int):K4 CB prog 28 call (G4 (sL (sR (sR (sR stC))))) (G4 (sL (sR (sR (sR stC))))).toList ⟨lk [(6,.ptr 56000 0)],Bu [(56000,.st [.sc (.int .i64 k)])]⟩ (fun s=>I3 28 64 s fun s'=>some (0,s'))=(
 some (0,⟨lk [(6,(.ptr 56000 0))],Bu [(56000,(.st [(.sc (.int .i64 ((0:Int))))]))]⟩)):=by kernel_rfl
theorem A1p (v i x lf model now k:Int)(n n1 n2:Nat)(c c1 c2:List PV):Afg CS prog 29 Tryz.f29 [.agg [.sc (.int .i64 v),.sc (.int .i64 i),.sc (.int .i64 x),.lst false 3 n c,.sc (.int .i64 lf),.lst false 1 n1 c1,.lst false 1 n2 c2],.sc (.int .u64 model),.sc (.int .i64 now)] ⟨lk [(6,.ptr 56000 0)],Bu [(56000,.st [.sc (.int .i64 k)])]⟩=(
 some (A5.mk [PV.sc (Value.int IntKind.i64 k)] [])):=by kernel_rfl
theorem Azm (call:Af)(yv:Value)(n:Nat)(c:List PV):MN 19 call (sL bwC) 11 ⟨lk [(0,.sc yv),(1,.iptr [.lst false 2 n c] 0)],Bu []⟩=(
 Aa (wrap IntKind.i64 ((↑n:Int)-(1:Int))) fun x1=>
 some (0,⟨lk [(0,(.sc (yv))),(1,(.iptr ([PV.lst false (2:Nat) n c]) ((0:Nat)))),(3,(.sc (.int .i64 (x1))))],Bu []⟩)):=by kernel_rfl
theorem Arb (call:Af)(yv:Value)(n:Nat)(c:List PV)(i:Int):MN 19 call (sL bwL) 11 ⟨lk [(0,.sc yv),(1,.iptr [.lst false 2 n c] 0),(3,.sc (.int .i64 i))],Bu []⟩=(
  Bk (decide (i>=(0:Int)))
   (
   some (0,⟨lk [(0,(.sc (yv))),(1,(.iptr ([PV.lst false (2:Nat) n c]) ((0:Nat)))),(3,(.sc (.int .i64 (i))))],Bu []⟩))
   (
   some (1,⟨lk [(0,(.sc (yv))),(1,(.iptr ([PV.lst false (2:Nat) n c]) ((0:Nat)))),(3,(.sc (.int .i64 (i))))],Bu []⟩))):=by kernel_rfl
theorem A1a (call:Af)(yv:Value)(n:Nat)(c:List PV)(i:Int):K4 CB prog 19 call (G4 (sL bwX)) (List.take 6 (G4 (sL bwX)).toList) ⟨lk [(0,.sc yv),(1,.iptr [.lst false 2 n c] 0),(3,.sc (.int .i64 i))],Bu []⟩ (fun s=>I3 19 71691 s fun s'=>some (0,s'))=(
 Ar (decide ((0:Int)<=i)&&decide (i<(↑n:Int))) <|
 Ae (IntKind.i64) (List.getD c (Int.toNat i*(2:Nat)) PV.top) fun x1=>
 Ae (IntKind.i64) (List.getD c (Int.toNat i*(2:Nat)+(1:Nat)) PV.top) fun x2=>
 some (0,⟨lk [(0,(.sc (yv))),(1,(.iptr ([PV.lst false (2:Nat) n c]) ((0:Nat)))),(3,(.sc (.int .i64 (i)))),(11,(.sc (yv))),(12,(.sc (.int .i64 (i)))),(16,(.agg [(.sc (.int .i64 (x1))),(.sc (.int .i64 (x2)))]))],Bu []⟩)):=by kernel_rfl
theorem Ao4 (call:Af)(yv:Value)(n:Nat)(c:List PV)(i:Int)(e:Bool):K4 CB prog 19 call (G4 (sL bwX)) (List.drop 7 (G4 (sL bwX)).toList) ⟨lk [(0,.sc yv),(1,.iptr [.lst false 2 n c] 0),(3,.sc (.int .i64 i)),(17,.sc (.bool e))],Bu []⟩ (fun s=>I3 19 262155 s fun s'=>some (0,s'))=(
 some (0,⟨lk [(0,(.sc (yv))),(1,(.iptr ([PV.lst false (2:Nat) n c]) ((0:Nat)))),(3,(.sc (.int .i64 (i)))),(18,(.sc (.bool (!e))))],Bu []⟩)):=by kernel_rfl
theorem Aqj (call:Af)(yv:Value)(n:Nat)(c:List PV)(i:Int)(q:Bool):Avm 19 call (sR bwX) 11 ⟨lk [(0,.sc yv),(1,.iptr [.lst false 2 n c] 0),(3,.sc (.int .i64 i)),(18,.sc (.bool q))],Bu []⟩=(
  Bk (q)
   (
   some (1,⟨lk [(0,(.sc (yv))),(1,(.iptr ([PV.lst false (2:Nat) n c]) ((0:Nat)))),(3,(.sc (.int .i64 (i))))],Bu []⟩))
   (
   some (0,⟨lk [(0,(.sc (yv))),(1,(.iptr ([PV.lst false (2:Nat) n c]) ((0:Nat)))),(3,(.sc (.int .i64 (i))))],Bu []⟩))):=by kernel_rfl
theorem Azx (call:Af)(yv:Value)(n:Nat)(c:List PV)(i:Int):MN 19 call (sR (sR bwL)) 11 ⟨lk [(0,.sc yv),(1,.iptr [.lst false 2 n c] 0),(3,.sc (.int .i64 i))],Bu []⟩=(
 Aa (wrap IntKind.i64 (i-(1:Int))) fun x1=>
 some (0,⟨lk [(0,(.sc (yv))),(1,(.iptr ([PV.lst false (2:Nat) n c]) ((0:Nat)))),(3,(.sc (.int .i64 (x1))))],Bu []⟩)):=by kernel_rfl
end
section
open Go.IntKind (wrap)
open Go Go.RowKit
theorem R4.trans {Z Z1 Z2:Nat->Prop}{A B C:World}(h:R4 Z Z1 A B)(g:R4 Z1 Z2 B C):R4 Z Z2 A C:=
 ⟨g.os.trans h.os,g.tape.trans h.tape,g.output.trans h.output,Nat.le_trans h.size g.size,fun b hb hn=>(g.keep b (Nat.lt_of_lt_of_le hb h.size) fun h1=>(h.new b h1).elim hn fun h2=>by omega).trans (h.keep b hb hn),
  fun b hb=>g.sub b (h.sub b hb),fun b hb=>(g.new b hb).elim (h.new b) fun h1=>.inr (Nat.le_trans h.size h1),g.lt,fun b hb=>Nat.le_trans (h.bs b hb) (g.bs b (Nat.lt_of_lt_of_le hb h.size))⟩
def Axd {α:Type}(P:Program)(gf:Nat)(lb:Array Value)(M:List α->α->Array Value->(Nat->Prop)->World->Prop) (S Sp:List α->Prop)(Pre:(Nat->Prop)->World->Prop):Prop:=
 ∀(l:Nat) (J Jx:(Nat->Prop)->List α->World->Prop) (W:World) (Z0:Nat->Prop),(∀b,Z0 b->b<W.heap.size)->Pre Z0 W ->
  (∀Z pre A B,J Z pre A->M3 (fun b=>b<A.heap.size) A B->J Z pre B)->(∀Z pre A B,Jx Z pre A->M3 (fun b=>b<A.heap.size) A B->Jx Z pre B) ->
  (∀Z pre x args A,J Z pre A->M pre x args Z A->YieldAt Fence.wide 0 P l args A fun e B=>∃Z',R4 Z Z' A B ∧
   ((e=.returned (.bool true)∧J Z' (pre++[x]) B)∨(e=.returned (.bool false)∧Jx Z' (pre++[x]) B))) ->
  J Z0 [] W ->
  Calls P gf (#[.func (.yield l) #[] #[]]++lb) W fun e B=>(∃v,e=.returned v)∧∃Z xs,(S xs∧J Z xs B)∨(Sp xs∧Jx Z xs B)
theorem Ahp {α:Type}{P:Program}{n:Nat}{g:Operand}{ps:Array Tmp}{assign body:Code}{Q:Exit->Act->World->Prop}{a:Act}{w:World}{gf:Nat}{lb:Array Value}
  (hg:a.eval g=.func (.func gf) #[] lb) (eg:∀args w,(callFunc gf args).run P w=.ok (.enter gf args) w)
  {M:List α->α->Array Value->(Nat->Prop)->World->Prop} {S Sp:List α->Prop} {Pre:(Nat->Prop)->World->Prop} (hit:Axd P gf lb M S Sp Pre) {Z0:Nat->Prop} (hZ0:∀b,Z0 b->b<w.heap.size)
  (Aou:∀W:World,W.heap.size=w.heap.size+2->(∀b,b<w.heap.size->W.heap[b]?=w.heap[b]?)->Pre (fun b=>Z0 b∨b=w.heap.size∨b=w.heap.size+1) W)
  (LH:∀pre x args Z A,M pre x args Z A->args.size=ps.size)
  (I:(Nat->Prop)->List α->World->Prop) (Ix:Code->(Nat->Prop)->List α->World->Prop)
  (hI:∀Z pre A B,I Z pre A->M3 (fun b=>b<A.heap.size∧b≠w.heap.size∧b≠w.heap.size+1) A B->I Z pre B)
  (hIx:∀c Z pre A B,Ix c Z pre A->M3 (fun b=>b<A.heap.size∧b≠w.heap.size∧b≠w.heap.size+1) A B->Ix c Z pre B)
  (h0:∀W,W.heap.size=w.heap.size+2->M3 (fun b=>b<w.heap.size) w W->I (fun b=>Z0 b∨b=w.heap.size∨b=w.heap.size+1) [] W)
  (Nn:(Nat->Prop)->List α->α->Act->World->Prop)
  (hN:∀Z pre x a' A B,Nn Z pre x a' A->M3 (fun b=>b<A.heap.size∧b≠w.heap.size∧b≠w.heap.size+1) A B->Nn Z pre x a' B)
  (HV:∀Z pre x args A (K:Act->World->Prop),Z w.heap.size->Z (w.heap.size+1)->I Z pre A->M pre x args Z A->(∀Z1 a' A1,R4 Z Z1 A A1->A1.heap[w.heap.size]?=A.heap[w.heap.size]?->A1.heap[w.heap.size+1]?=A.heap[w.heap.size+1]?->Nn Z1 pre x a' A1->K a' A1) ->
   assign.wpIn (Fence.wide.inRound (w.heap.size+1)) 0 P (Exit.then K (fun _ _ _=>False)) { tmps:=(ps.zip args).foldl (fun t (p,v)=>t.setIfInBounds p v) a.tmps,defers:=[] } A)
  (Acr:∀Z pre x a' A,Z w.heap.size->Z (w.heap.size+1)->Nn Z pre x a' A->body.wpIn (Fence.wide.inRound (w.heap.size+1)) 0 P (KE w.heap.size I Ix Z (pre++[x]) A) a' A)
  (Ac1:∀Z xs B,S xs->I Z xs B->B.heap[w.heap.size]?=some (.deferred (some []))->Q .normal { a with defers:={ target:=.collected w.heap.size,args:= #[] }::a.defers } B)
  (Adt:∀c Z xs B,Sp xs->Ix c Z xs B->B.heap[w.heap.size]?=some (.deferred (some []))->c.wpIn Fence.wide n P Q { a with defers:={ target:=.collected w.heap.size,args:= #[] }::a.defers } B):
  (Code.rangeFunc g ps assign body).wpIn Fence.wide n P Q a w:=by
 refine wpIn_rangeFunc ?_;intro fn hfn;obtain⟨rec,Wo⟩:∃rec:LoopState->Option Code->Loop,rec=fun st pe=>{ state:=st,pending:=pe,fn,tmps:=a.tmps,params:=ps,assign,body,defers:=w.heap.size }:=⟨_,rfl⟩
 obtain⟨D,hD⟩:∃D,w.heap.size=D:=⟨_,rfl⟩;rw[hD] at hI hIx h0 hN HV Acr Ac1 Adt hZ0 Aou;obtain⟨W1,hW1⟩:∃W1,(w.alloc (.deferred (some []))).alloc (.loop (rec .ready none))=W1:=⟨_,rfl⟩;have KQ:W1.heap.size=D+2:=by rw[←hW1,World.size_alloc,World.size_alloc,hD]
 have hL1:W1.heap[D+1]?=some (.loop (rec .ready none)):=by
  rw[←hW1,←hD];have:=World.alloc_heap_new (w.alloc (.deferred (some []))) (.loop (rec .ready none));rwa [World.size_alloc] at this
 have hK1:W1.heap[D]?=some (.deferred (some [])):=by
  rw[←hW1,←hD];exact (Below.heap_alloc _ _ _ (by simp)).trans (World.alloc_heap_new w _)
 have Gv:M3 (fun b=>b<D) w W1:=by
  rw[←hW1,←hD];exact⟨rfl,rfl,rfl,by simp;omega,fun b hb=>(Below.heap_alloc _ _ _ (by simp;omega)).trans (Below.heap_alloc _ _ _ hb)⟩
 refine⟨D+1,[{ target:=.collected D,args:= #[] }],W1,{ target:=.fn (.func gf) lb,args:= #[.func (.yield (D+1)) #[] #[]] },W1,gf,
  #[.func (.yield (D+1)) #[] #[]]++lb,W1,?_,?_,fun _ _=>trivial,?_,(fun h=>by cases h),?_⟩
 ·rw[←hW1,Wo,←hD];exact run_enterLoop_outer _ _ _ _ _
 ·simp only[resolve,hg];simp[go_sem]
 ·simp[invoke,go_sem,eg]
 ·have put:∀{A:World} (o:Obj),M3 (fun b=>b<A.heap.size∧b≠D∧b≠D+1) A (A.putObj (D+1) o):=fun o=>
   ⟨rfl,rfl,rfl,by simp,fun b hb=>World.putObj_heap_other hb.2.2⟩
  refine callsIn_wide.2 (Calls.mono (hit (D+1)
   (fun Z pre A=>(Z D∧Z (D+1))∧I Z pre A∧A.heap[D+1]?=some (.loop (rec .ready none))∧A.heap[D]?=some (.deferred (some [])))
   (fun Z pre A=>(Z D∧Z (D+1))∧∃c,Ix c Z pre A∧A.heap[D+1]?=some (.loop (rec .done (some c)))∧A.heap[D]?=some (.deferred (some [])))
   W1 (fun b=>Z0 b∨b=D∨b=D+1) (fun b hb=>by rw[KQ];exact hb.elim (fun h=>by have:=hZ0 b h;omega) fun h=>by omega) (Aou W1 KQ (fun b hb=>Gv.same b hb)) ?_ ?_ ?_ ?_) ?_)
  ·rintro Z pre A B ⟨hz,hi,hl,hk⟩ hs
   exact⟨hz,hI Z pre A B hi (hs.sub fun _ h=>h.1),(hs.same _ (Array.getElem?_eq_some_iff.1 hl).1).trans hl,(hs.same _ (Array.getElem?_eq_some_iff.1 hk).1).trans hk⟩
  ·rintro Z pre A B ⟨hz,c,hi,hl,hk⟩ hs
   exact⟨hz,c,hIx c Z pre A B hi (hs.sub fun _ h=>h.1),(hs.same _ (Array.getElem?_eq_some_iff.1 hl).1).trans hl,(hs.same _ (Array.getElem?_eq_some_iff.1 hk).1).trans hk⟩
  ·rintro Z0' pre x args A0 ⟨hz0,hi,V5,hk0⟩ hm
   have hy:=run_yield (P:=P) (args:=args) V5 (by rw[Wo];exact LH pre x args Z0' A0 hm)
   rw[Wo] at hy;refine⟨fn,_,assign,body,hy,roundIn_of_wpIn hfn (HV Z0' pre x args A0 _ hz0.1 hz0.2 hi hm ?_)⟩;intro Z a' A ht0 k0 k1 hn;have hz:Z D∧Z (D+1):=⟨ht0.sub _ hz0.1,ht0.sub _ hz0.2⟩;have hl:=k1.trans V5;have hk:=k0.trans hk0;have Cc:D+1<A.heap.size:=(Array.getElem?_eq_some_iff.1 hl).1;refine⟨_,run_beginRound hl (by rw[Wo]),?_⟩
   obtain⟨A2,hA2⟩:∃A2,A.putObj (D+1) (.loop { rec .ready none with state:=.busy })=A2:=⟨_,rfl⟩;rw[hA2];have NQ:A2.heap[D+1]?=some (.loop { rec .ready none with state:=.busy }):=by rw[←hA2];exact World.putObj_heap_same Cc
   have Gi:A2.heap[D]?=some (.deferred (some [])):=by rw[←hA2];exact (World.putObj_heap_other (by omega)).trans hk
   have hz2:A2.heap.size=A.heap.size:=by rw[←hA2];simp
   have hn2:Nn Z pre x a' A2:=by rw[←hA2];exact hN Z pre x a' A _ hn (put _)
   refine wpIn_mono (Acr Z pre x a' A2 hz.1 hz.2 hn2) ?_
   have fin:∀(jump:Option Code) (W3:World) (Z':Nat->Prop),R4 Z Z' A2 W3->W3.heap[D]?=A2.heap[D]?->W3.heap[D+1]?=A2.heap[D+1]? ->
     (Instr.endRound (D+1) jump).run P W3=.ok (.bool jump.isNone) (W3.putObj (D+1) (.loop (rec (if jump.isNone then .ready else .done) jump))) ∧
     (W3.putObj (D+1) (.loop (rec (if jump.isNone then .ready else .done) jump))).heap[D+1]?=some (.loop (rec (if jump.isNone then .ready else .done) jump)) ∧
     (W3.putObj (D+1) (.loop (rec (if jump.isNone then .ready else .done) jump))).heap[D]?=some (.deferred (some [])) ∧
     R4 Z Z' A (W3.putObj (D+1) (.loop (rec (if jump.isNone then .ready else .done) jump))):=fun jump W3 Z' ht e1 e2=>by
    have hl3:=e2.trans NQ;have:=run_endRound (P:=P) jump hl3;rw[Wo] at this ⊢;refine⟨this,World.putObj_heap_same (Array.getElem?_eq_some_iff.1 hl3).1,(World.putObj_heap_other (by omega)).trans (e1.trans Gi),?_⟩
    have hA:A2.os=A.os∧A2.tape=A.tape∧A2.output=A.output:=by rw[←hA2];exact⟨rfl,rfl,rfl⟩
    refine⟨ht.os.trans hA.1,ht.tape.trans hA.2.1,ht.output.trans hA.2.2,by have:=ht.size;simp;omega,fun b hb hn=>?_,ht.sub,fun b hb=>by have:=ht.new b hb;rw[hz2] at this;exact this,fun b hb=>by simpa using ht.lt b hb,fun b hb=>?_⟩
    ·have Gg:b≠D+1:=fun e=>hn (e ▸ hz.2)
     rw[World.putObj_heap_other Gg,ht.keep b (by omega) hn,←hA2,World.putObj_heap_other Gg]
    ·by_cases Gg:b=D+1
     ·subst Gg;unfold bsz;rw[hl];exact Nat.zero_le _
     ·have h5:=ht.bs b (by omega)
      have h6:bsz A2 b=bsz A b:=by unfold bsz;rw[←hA2,World.putObj_heap_other Gg]
      have h7:∀o,bsz (W3.putObj (D+1) o) b=bsz W3 b:=fun o=>by unfold bsz;rw[World.putObj_heap_other Gg]
      rw[h7,←h6];exact h5
   rintro e a3 W3 ⟨Z',ht,e1,e2,hp⟩
   cases e with
   |normal=>
    obtain⟨hr,hl4,T8,ht4⟩:=fin none W3 Z' ht e1 e2;exact⟨_,_,hr,Z',ht0.trans ht4,.inl ⟨rfl,⟨ht.sub _ hz.1,ht.sub _ hz.2⟩,hI Z' _ _ _ hp (put _),hl4,T8⟩⟩
   |ret=>
    obtain⟨hr,hl4,T8,ht4⟩:=fin (some .ret) W3 Z' ht e1 e2;exact⟨_,_,hr,Z',ht0.trans ht4,.inr ⟨rfl,⟨ht.sub _ hz.1,ht.sub _ hz.2⟩,.ret,hIx _ Z' _ _ _ hp (put _),hl4,T8⟩⟩
   |exit id=>
    obtain⟨hr,hl4,T8,ht4⟩:=fin (some (.exit id)) W3 Z' ht e1 e2;exact⟨_,_,hr,Z',ht0.trans ht4,.inr ⟨rfl,⟨ht.sub _ hz.1,ht.sub _ hz.2⟩,.exit id,hIx _ Z' _ _ _ hp (put _),hl4,T8⟩⟩
   |goto t=>
    obtain⟨hr,hl4,T8,ht4⟩:=fin (some (.goto t)) W3 Z' ht e1 e2;exact⟨_,_,hr,Z',ht0.trans ht4,.inr ⟨rfl,⟨ht.sub _ hz.1,ht.sub _ hz.2⟩,.goto t,hIx _ Z' _ _ _ hp (put _),hl4,T8⟩⟩
   |panic ch=>exact hp.elim
   |outgrown=>exact hp.elim
  ·exact⟨⟨.inr (.inl rfl),.inr (.inr rfl)⟩,h0 W1 KQ Gv,hL1,hK1⟩
  ·rintro e W2 ⟨⟨v,rfl⟩,Z,xs,(⟨hS,hz,hi,hl,hk⟩|⟨hSp,hz,c,hi,hl,hk⟩)⟩
   ·exact⟨none,_,by have:=run_endLoop (P:=P) hl (by rw[Wo];simp);rw[Wo] at this;exact this,Ac1 Z xs _ hS (hI Z _ _ _ hi (put _)) ((World.putObj_heap_other (by omega)).trans hk)⟩
   ·exact⟨some c,_,by have:=run_endLoop (P:=P) hl (by rw[Wo];simp);rw[Wo] at this;exact this,Adt c Z xs _ hSp (hIx c Z _ _ _ hi (put _)) ((World.putObj_heap_other (by omega)).trans hk)⟩
end
section
open Go.Proofs.Tryz (prog)
open Go.IntKind (wrap)
set_option maxRecDepth 20000
open Go Go.RowKit
def prC (p:Int × Int):List PV:=[.sc (.int .i64 p.1),.sc (.int .i64 p.2)]
def Kd (l:List (Int × Int)):List PV:=l.flatMap prC
theorem Aae (p:Int × Int):(prC p).length=2:=rfl
theorem Ak7 (l:List (Int × Int)):(Kd l).length=l.length*2:=Ug Aae l
theorem Anx {l:List (Int × Int)} {i:Nat}{p:Int × Int}(h:l[i]?=some p):(Kd l).getD (i*2) .top=.sc (.int .i64 p.1)∧(Kd l).getD (i*2+1) .top=.sc (.int .i64 p.2):=
 ⟨Iq Aae h (j:=0) (by omega),Iq Aae h (j:=1) (by omega)⟩
theorem A1x:bwC=.seq (sL bwC) (.block 0 (.loop bwL)):=by kernel_rfl
theorem Ar9:bwL=.seq (sL bwL) (.seq (.block 1 bwX) (sR (sR bwL))):=by kernel_rfl
theorem A1b:bwX=.seq (.region 3 (G4 (sL bwX)) false) (sR bwX):=by kernel_rfl
theorem A4k:∃ty pos aft x,(G4 (sL bwX))[6]?=some { dst:=some 17,op:=.call { callee:=.value (.tmp 11),args:= #[.tmp 12,.tmp 16],argTypes:=x },type:=ty,pos:=pos,after:=aft,guard:=none }:=
 ⟨_,_,_,_,rfl⟩
abbrev bwS (yv:Value)(l:List (Int × Int)) (i:Int):St:=⟨lk [(0,.sc yv),(1,.iptr [.lst false 2 l.length (Kd l)] 0),(3,.sc (.int .i64 i))],Bu []⟩
abbrev Ass (yv:Value)(l:List (Int × Int)) (i kd t:Int):St:=⟨lk [(0,.sc yv),(1,.iptr [.lst false 2 l.length (Kd l)] 0),(3,.sc (.int .i64 i)),(11,.sc yv),(12,.sc (.int .i64 i)),(16,.agg [.sc (.int .i64 kd),.sc (.int .i64 t)])],Bu []⟩
abbrev A9z (yv:Value)(l:List (Int × Int)) (i:Int)(e:Bool):St:=⟨lk [(0,.sc yv),(1,.iptr [.lst false 2 l.length (Kd l)] 0),(3,.sc (.int .i64 i)),(17,.sc (.bool e))],Bu []⟩
abbrev A4e (yv:Value)(l:List (Int × Int)) (i:Int)(e:Bool):St:=⟨lk [(0,.sc yv),(1,.iptr [.lst false 2 l.length (Kd l)] 0),(3,.sc (.int .i64 i)),(18,.sc (.bool e))],Bu []⟩
def bwM (l:List (Int × Int)) (pre:List Nat)(i:Nat)(args:Array Value)(Z:Nat->Prop)(A:World):Prop:=
 (∀j,i<j->j<l.length->j∈pre)∧∃p,l[i]?=some p∧args = #[.int .i64 i,.agg #[.int .i64 p.1,.int .i64 p.2]]
theorem An3 {l:List (Int × Int)} {pre:List Nat}{i:Nat}{args:Array Value}{Z:Nat->Prop}{A:World}(hm:bwM l pre i args Z A):args.size=2:=by
 obtain⟨_,p,_,h⟩:=hm;rw[h];rfl
theorem B3.stayA {N:Nat}{w0 w:World}{X0:Fz}{Y:Nat->Prop}{β:Bt}{s:St}{a:Act}(h:B3 N w0 X0 Y β s a w)(hx:∀b,¬X0.X b):M3 (fun b=>b<w0.heap.size) w0 w:=
 ⟨h.fr.os,h.fr.tape,h.fr.output,h.fr.step.size,fun b hb=>h.fr.step.keep b hb (hx b)⟩
theorem Aw4 (b:Nat):¬noL.X b:=fun h=>h
theorem hp0 {id:Nat}{bx:Bx}:Bu [] id=some bx->False:=fun h=>by cases h
theorem A76 {β:Bt}{b:Nat}:¬DF (Bu []) β b:=fun ⟨_,_,h,_⟩=>(h:Cv none).elim
section
variable {l:List (Int × Int)} {y:Nat} {w0:World} {X0:Fz} {Z:Nat->Prop} {β:Bt} {a:Act} {w:World}
theorem At4 {yv:Value}{i kd t:Int}(hs:B3 19 w0 X0 Z β (Ass yv l i kd t) a w):
  a.tmps.getD 11 undef=yv∧a.tmps.getD 12 undef=.int .i64 i∧a.tmps.getD 16 undef=.agg #[.int .i64 kd,.int .i64 t]:=by
 refine⟨L7 (hs.tms 11 (by decide)),L7 (hs.tms 12 (by decide)),?_⟩
 obtain⟨vs,h1,h2⟩:=(show ∃vs,a.tmps.getD 16 undef=.agg ⟨vs⟩∧Bw (Cj w (De (Bu []) β Z) β) [.sc (.int .i64 kd),.sc (.int .i64 t)] vs from hs.tms 16 (by decide))
 match vs,h2 with
 |[u,v],⟨k1,k2,_⟩=>
  have e1:=A4.val (w:=w) k1;have e2:=A4.val (w:=w) k2;rw[h1,←e1,←e2]
theorem Ajx {yv:Value}{i kd t:Int}{Z':Nat->Prop}{B:World}(b:Bool)(hs:B3 19 w0 X0 Z β (Ass yv l i kd t) a w) (ht:R4 Z Z' w B):
  B3 19 B (Alv (Ass yv l i kd t) β) Z' β (A9z yv l i b) (a.put (some 17) (.bool b)) B:=by
 have h1:=(hs.rebase ht (fun id c (e:(Bu [] id:Option Bx)=some (.st c))=>hp0 e)).put (d:=some 17) (v:=.sc (.bool b)) (val:=.bool b) rfl (A4.sc _) (by simp[B8,Cl,Az])
 refine h1.pick _ _ ?_ ?_ ?_ ?_ (fun _ h=>h.elim)
 ·intro q hq;simp only[List.mem_cons,List.not_mem_nil,or_false] at hq;rcases hq with rfl|rfl|rfl|rfl<;>rfl
 ·intro q hq;cases hq
 ·intro q hq id Br;simp only[List.mem_cons,List.not_mem_nil,or_false] at hq;rcases hq with rfl|rfl|rfl|rfl<;>simp[B8,Cl,Az] at Br
 ·intro q hq;cases hq
theorem YC {J Jx:(Nat->Prop)->List Nat->World->Prop} (hJ:∀Z pre A B,J Z pre A->M3 (fun b=>b<A.heap.size) A B->J Z pre B) (hJx:∀Z pre A B,Jx Z pre A->M3 (fun b=>b<A.heap.size) A B->Jx Z pre B)
  (hY:∀Z pre x args A,J Z pre A->bwM l pre x args Z A->YieldAt Fence.wide 0 prog y args A fun e B=>∃Z',R4 Z Z' A B∧((e=.returned (.bool true)∧J Z' (pre++[x]) B)∨(e=.returned (.bool false)∧Jx Z' (pre++[x]) B)))
  (hl:l.length<=100000){Q:Exit->Act->World->Prop}(Abi:∀e a' w',e=.exit 0∨e=.ret->a'.defers=[]->(∃Z xs,((∀j,j<l.length->j∈xs)∧J Z xs w')∨Jx Z xs w')->Q e a' w'):
  ∀(k nn:Nat),k<=l.length->k<nn->∀{w0:World} {X0:Fz} {Z:Nat->Prop} {β:Bt} {a:Act} {w:World} {pre:List Nat},
   B3 19 w0 X0 Z β (bwS (.func (.yield y) #[] #[]) l ((k:Int)-1)) a w->(∀b,¬X0.X b)->(∀j,k<=j->j<l.length->j∈pre)->J Z pre w0->Code.roundsIn Fence.wide 0 prog bwL Q nn a w
 |_,0,_,h=>by omega
 |0,nn+1,hk,hn=>by
  intro hs hd Ac0 hj;rename_i w0 X0 Z β a w pre;rw[roundsIn_succ];refine O3 Ar9 (wpIn_seq (wpIn_wide.2 (Dj (I1 _ _) DW B0 hs (t:=1) (L:=11) (s1:=bwS (.func (.yield y) #[] #[]) l (((0:Nat):Int)-1)) ?_ ?_)))
  ·exact (Arb cl _ l.length (Kd l) _).trans (Ej _ _ _ (by omega))
  ·intro a' w' β' h';exact Abi _ a' w' (.inl rfl) h'.dfr ⟨Z,pre,.inl ⟨fun j hj2=>Ac0 j (by omega) hj2,hJ Z pre _ _ hj (h'.stayA hd)⟩⟩
 |k+1,nn+1,hk,hn=>by
  intro hs hd Ac0 hj;rename_i w0 X0 Z β a w pre;rw[roundsIn_succ];have ek:(((k+1:Nat):Int)-1)=(k:Int):=by omega
  rw[ek] at hs;refine O3 Ar9 (wpIn_seq (wpIn_wide.2 (Dj (I1 _ _) DW B0 hs (t:=0) (L:=11) (s1:=bwS (.func (.yield y) #[] #[]) l (k:Int)) ?_ ?_)))
  ·exact (Arb cl _ l.length (Kd l) _).trans (EF _ _ _ (by omega))
  intro a1 w1 β1 KQ;show (Code.seq (.block 1 bwX) (sR (sR bwL))).wpIn Fence.wide 0 prog _ a1 w1;refine wpIn_seq (wpIn_block (O3 A1b (wpIn_seq (wpIn_region ?_))));have hli:List.range (G4 (sL bwX)).size=[0,1,2,3,4,5]++[6,7]:=by kernel_rfl
  rw[hli];have Cc:k<l.length:=by omega
  have hp:=List.getElem?_eq_getElem Cc;generalize l[k]=p at hp;obtain⟨g0,g1⟩:=Anx hp;refine Gs (ro:=none) (C:=CB) (call:=cl) (r:=((0:Nat),Ass (.func (.yield y) #[] #[]) l k p.1 p.2)) (I1 _ _) B0 ?_ [0,1,2,3,4,5] (List.take 6 (G4 (sL bwX)).toList) (by kernel_rfl) ?_ (by kernel_rfl) KQ ((A1a cl _ l.length (Kd l) k).trans ?_)
  rotate_left
  ·intro j i hj
   match j,hj with
   |0,hj=>cases hj;rfl
   |1,hj=>cases hj;rfl
   |2,hj=>cases hj;rfl
   |3,hj=>cases hj;rfl
   |4,hj=>cases hj;rfl
   |5,hj=>cases hj;rfl
  ·simp (disch:=omega) only[Cu,Kz,g0,g1]
  intro s' a2 w2 β2 Gi PN;obtain⟨β3,s3,Un,hs3⟩:=B6 PN Gi;cases Un;obtain⟨v11,v12,v16⟩:=At4 hs3;have hjw:J Z pre w2:=hJ Z _ _ _ hj (hs3.stayA hd);have hm:bwM l pre k #[.int .i64 k,.agg #[.int .i64 p.1,.int .i64 p.2]] Z w2:=⟨fun j h1 h2=>Ac0 j (by omega) h2,p,hp,rfl⟩
  obtain⟨fn,tmps,assign,body,hy,hR⟩:=hY Z _ k _ w2 hjw hm;obtain⟨ty,pos,aft,x,ho⟩:=A4k;rw[wpOpsIn_cons];unfold wpOpIn;rw[ho];simp only[Region.wanted,if_true]
  have run:(execOp a2.eval { dst:=some 17,op:=.call { callee:=.value (.tmp 11),args:= #[.tmp 12,.tmp 16],argTypes:=x },type:=ty,pos:=pos,after:=aft,guard:=none }).run prog w2=.ok (.round y fn tmps assign body) w2:=by
   have e11:a2.eval (.tmp 11)=.func (.yield y) #[] #[]:=v11;have e12:a2.eval (.tmp 12)=.int .i64 k:=v12;have e16:a2.eval (.tmp 16)=.agg #[.int .i64 p.1,.int .i64 p.2]:=v16;refine VS rfl rfl e11 ?_;rw[←hy];simp only[List.map_toArray,VN,List.map_nil,e12,e16]
  refine⟨fun _ _=>trivial,?_⟩
  rw[show Oper.semAt (WF none).round a2.eval { dst:=some 17,op:=.call { callee:=.value (.tmp 11),args:= #[.tmp 12,.tmp 16],argTypes:=x },type:=ty,pos:=pos,after:=aft,guard:=none }=execOp a2.eval { dst:=some 17,op:=.call { callee:=.value (.tmp 11),args:= #[.tmp 12,.tmp 16],argTypes:=x },type:=ty,pos:=pos,after:=aft,guard:=none } from rfl,run]
  refine⟨(fun h=>by cases h),(KZ hR).mono ?_⟩
  rintro e B ⟨Z',ht,he⟩
  have G3:∀b,¬(Alv (Ass (.func (.yield y) #[] #[]) l k p.1 p.2) β3).X b:=fun b hb=>A76 hb
  rcases he with⟨rfl,hj2⟩|⟨rfl,hj2⟩
  ·have h4:=Ajx true hs3 ht;show wpOpsIn _ _ _ _ _ ([7]++[]) _ _;refine Gs (ro:=none) (C:=CB) (call:=cl) (r:=((0:Nat),A4e (.func (.yield y) #[] #[]) l k (!true))) (I1 _ _) B0 ?_ [7] (List.drop 7 (G4 (sL bwX)).toList) (by kernel_rfl) ?_ (by kernel_rfl) h4 (Ao4 cl _ l.length (Kd l) k true)
   rotate_left
   ·intro j i hj
    match j,hj with
    |0,hj=>cases hj;rfl
   intro s' a5 w5 β5 WS We;obtain⟨β6,s6,hk6,hs6⟩:=B6 We WS;cases hk6;show (sR bwX).wpIn Fence.wide 0 prog _ a5 w5;refine wpIn_wide.2 (RT (I1 _ _) DW B0 hs6 (t:=0) (L:=11) (s1:=bwS (.func (.yield y) #[] #[]) l k) (Aqj cl _ l.length (Kd l) k false) ?_)
   rintro a' w' β' e' h' (⟨_,rfl⟩|⟨h1,_⟩|⟨id,h1,_⟩)
   ·show (sR (sR bwL)).wpIn Fence.wide 0 prog _ a' w';refine wpIn_wide.2 (Dj (I1 _ _) DW B0 h' (t:=0) (L:=11) (s1:=bwS (.func (.yield y) #[] #[]) l ((k:Int)-1)) ?_ ?_)
    ·have wk:wrap .i64 ((k:Int)-1)=(k:Int)-1:=Ap (by omega) (by omega)
     refine (Azx cl _ l.length (Kd l) k).trans ?_;simp only[Cu,wk]
    ·intro a7 w7 β7 h7
     exact YC hJ hJx hY hl Abi k nn (by omega) (by omega) h7 G3 (fun j h1 h2=>List.mem_append.2 (by
      rcases Nat.lt_or_ge k j with h3|h3
      ·exact .inl (Ac0 j (by omega) h2)
      ·exact .inr (List.mem_singleton.2 (by omega)))) hj2
   ·cases h1
   ·omega
  ·have h4:=Ajx false hs3 ht;show wpOpsIn _ _ _ _ _ ([7]++[]) _ _;refine Gs (ro:=none) (C:=CB) (call:=cl) (r:=((0:Nat),A4e (.func (.yield y) #[] #[]) l k (!false))) (I1 _ _) B0 ?_ [7] (List.drop 7 (G4 (sL bwX)).toList) (by kernel_rfl) ?_ (by kernel_rfl) h4 (Ao4 cl _ l.length (Kd l) k false)
   rotate_left
   ·intro j i hj
    match j,hj with
    |0,hj=>cases hj;rfl
   intro s' a5 w5 β5 WS We;obtain⟨β6,s6,hk6,hs6⟩:=B6 We WS;cases hk6;show (sR bwX).wpIn Fence.wide 0 prog _ a5 w5;refine wpIn_wide.2 (RT (I1 _ _) DW B0 hs6 (t:=1) (L:=11) (s1:=bwS (.func (.yield y) #[] #[]) l k) (Aqj cl _ l.length (Kd l) k true) ?_)
   rintro a' w' β' e' h' (⟨h1,_⟩|⟨_,rfl⟩|⟨id,h1,rfl⟩)
   ·cases h1
   ·exact Abi _ a' w' (.inr rfl) h'.dfr ⟨Z',_,.inr (hJx Z' _ _ _ hj2 (h'.stayA G3))⟩
   ·omega
end
end
section
open Go.Proofs.Tryz (prog)
open Go.IntKind (wrap)
set_option maxRecDepth 20000
open Go Go.RowKit Go.Shelf
def A3v (S0:Nat)(l:List (Int × Int)) (Z0:Nat->Prop)(W:World):Prop:=VH W Z0 ⟨S0,0,none⟩ [.lst false 2 l.length (Kd l)]∧S0<W.heap.size∧¬Z0 S0
theorem Aws {S0:Nat}{l:List (Int × Int)} (hl:l.length<=100000):Axd prog 93 #[.pointer (some ⟨S0,0,none⟩)] (bwM l) (fun xs=>∀j,j<l.length->j∈xs) (fun _=>True) (A3v S0 l):=by
 intro y J Jx W Z0 hZ hP hJ hJx hY h0;obtain⟨p1,p2,p3⟩:=hP;refine callsIn_wide.1 (callsIn_of_wp (F:=Fence.wide) (n:=0) Tryz.func93 rfl trivial ?_ rfl);show bwC.wpIn _ _ _ _ _ _;have t1:(({ tmps:=(#[Value.func (.yield y) #[] #[]] ++ #[Value.pointer (some ⟨S0,0,none⟩)])++Array.replicate (Tryz.f93.ntmps-(#[Value.func (.yield y) #[] #[]] ++ #[Value.pointer (some ⟨S0,0,none⟩)]).size) undef,defers:=[] }:Act))={ tmps:=(Value.func (.yield y) #[] #[]::Value.pointer (some ⟨S0,0,none⟩)::List.replicate 17 undef).toArray,defers:=[] }:=by kernel_rfl
 rw[t1]
 have i0:B3 19 W noL Z0 (fun _=>none) ⟨lk [(0,.sc (.func (.yield y) #[] #[])),(1,.iptr [.lst false 2 l.length (Kd l)] 0)],Bu []⟩ { tmps:=(Value.func (.yield y) #[] #[]::Value.pointer (some ⟨S0,0,none⟩)::List.replicate 17 undef).toArray,defers:=[] } W:=by
  refine B3.init _ _ rfl (by simp) ?_ ?_ ?_ hZ
  ·intro q hq;simp only[List.mem_cons,List.not_mem_nil,or_false] at hq;rcases hq with rfl|rfl<;>simp
  ·intro q hq;simp only[List.mem_cons,List.not_mem_nil,or_false] at hq;rcases hq with rfl|rfl
   ·exact A4.sc _
   ·exact⟨⟨S0,0,none⟩,rfl,rfl,p2,p3,p1⟩
  ·intro q hq;simp only[List.mem_cons,List.not_mem_nil,or_false] at hq;rcases hq with rfl|rfl<;>rfl
 generalize ({ tmps:=(Value.func (.yield y) #[] #[]::Value.pointer (some ⟨S0,0,none⟩)::List.replicate 17 undef).toArray,defers:=[] }:Act)=a0 at i0 ⊢;refine O3 A1x (wpIn_seq (wpIn_wide.2 (Dj (I1 _ _) DW B0 i0 (L:=11) (t:=0) (s1:=bwS (.func (.yield y) #[] #[]) l ((l.length:Int)-1)) ?_ ?_)))
 ·have wk:wrap .i64 ((l.length:Int)-1)=(l.length:Int)-1:=Ap (by omega) (by omega)
  refine (Azm cl _ l.length (Kd l)).trans ?_;simp only[Cu,wk]
 intro a1 w1 β1 h1;refine wpIn_block (wpIn_loop_rounds (l.length+1) (YC hJ hJx hY hl ?_ l.length (l.length+1) (Nat.le_refl _) (by omega) h1 Aw4 (fun j h1 h2=>by omega) h0))
 rintro e a5 w5 he h5 ⟨Z,xs,h6⟩
 have h7:∃Z xs,((∀j,j<l.length->j∈xs)∧J Z xs w5)∨(True∧Jx Z xs w5):=⟨Z,xs,h6.imp (fun x=>x) fun x=>⟨trivial,x⟩⟩
 rcases he with rfl|rfl
 ·exact⟨h5,_,results_none rfl _ _ _,⟨_,rfl⟩,h7⟩
 ·exact⟨h5,_,results_none rfl _ _ _,⟨_,rfl⟩,h7⟩
set_option maxHeartbeats 2000000 in
theorem Auu (ad:Option Addr)(n c:Int)(m:Nat)(w:World)(k q:Nat):CallsIn Fence.wide m prog 53 #[.slice ad k q] w fun e w'=>
  e=.returned (.func (.func 93) #[] #[.pointer (some ⟨w.heap.size,0,none⟩)])∧w'=w.alloc (.cells #[.slice ad k q] 59):=by
 refine callsIn_of_wp Tryz.func53 rfl trivial ?_ rfl;simp only[Tryz.ntmps53,List.size_toArray,Ik,Zx,Nat.reduceAdd,Nat.reduceSub,Array.replicate_succ,Array.replicate_zero,List.push_toArray,List.append_toArray,Zzq,Zzp]
 gi_wp2
 go_ret
 exact⟨rfl,rfl⟩
end
section
open Go.Proofs.Tryz (prog)
open Go.IntKind (wrap)
set_option maxRecDepth 20000
open Go Go.RowKit
structure OC (wS:World) (D b6 o6:Nat) (v:Int) (Z:Nat->Prop) (A:World):Prop where
 os:A.os=wS.os
 tape:A.tape=wS.tape
 output:A.output=wS.output
 size:D+2<=A.heap.size
 zlt:∀b,Z b->b<A.heap.size
 z6:Z b6
 zn:∀b,Z b->b=b6∨D<=b
 keep:∀b,b<D->b≠b6->A.heap[b]?=wS.heap[b]?
 bs:bsz wS b6<=bsz A b6
 c6:A.cell? ⟨b6,o6,none⟩=some (.int .i64 v)
 f6:A.frozen? ⟨b6,o6,none⟩=false
theorem OC.stay {wS:World}{D b6 o6:Nat}{v:Int}{Z:Nat->Prop}{A B:World}(hI:OC wS D b6 o6 v Z A)(l6:b6<D)(hs:M3 (fun b=>b<A.heap.size∧b≠D∧b≠D+1) A B):OC wS D b6 o6 v Z B:=by
 have hz:=hI.size;have e:∀b,b<D->B.heap[b]?=A.heap[b]?:=fun b hb=>hs.same b ⟨by omega,by omega,by omega⟩
 have hb6:bsz B b6=bsz A b6:=by unfold bsz;rw[e b6 l6]
 exact⟨hs.os.trans hI.os,hs.tape.trans hI.tape,hs.output.trans hI.output,Nat.le_trans hI.size hs.size,fun b hb=>Nat.lt_of_lt_of_le (hI.zlt b hb) hs.size,hI.z6,hI.zn,fun b hb hn=>(e b hb).trans (hI.keep b hb hn),by rw[hb6];exact hI.bs,
  (World.cell?_of_block (e b6 l6)).trans hI.c6,by rw[frozen?_of_block (e b6 l6)];exact hI.f6⟩
def A06 (l:List (Int × Int)) (now:Int)(pre:List Nat):Prop:=∀j∈pre,∀p,l[j]?=some p->now<p.2
structure Av3 (v5 v6:Value) (D:Nat) (kd t:Int) (a:Act) (A:World):Prop where
 dfr:a.defers=[]
 size:a.tmps.size=28
 t5:a.tmps.getD 5 undef=v5
 t6:a.tmps.getD 6 undef=v6
 t10:∃b o,a.tmps.getD 10 undef=.pointer (some ⟨b,o,none⟩)∧D+2<=b∧b<A.heap.size∧A.cell? ⟨b,o,none⟩=some (.int .i64 kd)∧A.cell? ⟨b,o+1,none⟩=some (.int .i64 t)
theorem Av3.stay {v5 v6:Value}{D:Nat}{kd t:Int}{a:Act}{A B:World}(h:Av3 v5 v6 D kd t a A)(hs:M3 (fun b=>b<A.heap.size∧b≠D∧b≠D+1) A B):Av3 v5 v6 D kd t a B:=by
 obtain⟨b,o,h1,h2,h3,h4,h5⟩:=h.t10;have e:B.heap[b]?=A.heap[b]?:=hs.same b ⟨h3,by omega,by omega⟩
 exact⟨h.dfr,h.size,h.t5,h.t6,b,o,h1,h2,Nat.lt_of_lt_of_le h3 hs.size,(World.cell?_of_block e).trans h4,(World.cell?_of_block (a:=⟨b,o+1,none⟩) e).trans h5⟩
def A0p (wS:World)(D b6 o6:Nat)(v5 v6:Value)(l:List (Int × Int)) (now:Int)(Z:Nat->Prop)(pre:List Nat)(x:Nat)(a:Act)(A:World):Prop:=
 OC wS D b6 o6 0 Z A∧A06 l now pre∧(∀j,x<j->j<l.length->j∈pre)∧∃p,l[x]?=some p∧Av3 v5 v6 D p.1 p.2 a A
def stI (wS:World)(D b6 o6:Nat)(l:List (Int × Int)) (now:Int)(Z:Nat->Prop)(pre:List Nat)(A:World):Prop:=OC wS D b6 o6 0 Z A∧A06 l now pre
def A01 (wS:World)(D b6 o6:Nat)(l:List (Int × Int)) (now:Int)(c:Code)(Z:Nat->Prop)(xs:List Nat)(B:World):Prop:=
 c=.ret∧∃pre x p,A06 l now pre∧(∀j,x<j->j<l.length->j∈pre)∧l[x]?=some p∧p.2<=now∧OC wS D b6 o6 p.1 Z B
theorem Al6 {wS:World}{D b6 o6:Nat}{v5 v6:Value}{l:List (Int × Int)} {now:Int}{Z:Nat->Prop}{pre:List Nat}{x:Nat}{args:Array Value}{A:World}{a:Act}{K:Act->World->Prop}(l6:b6<D)(hI:stI wS D b6 o6 l now Z pre A)(hm:bwM l pre x args Z A)(hd:a.tmps.size=28)(h5:a.tmps.getD 5 undef=v5)(h6:a.tmps.getD 6 undef=v6)
  (hK:∀Z1 a' A1,R4 Z Z1 A A1->A1.heap[D]?=A.heap[D]?->A1.heap[D+1]?=A.heap[D+1]?->A0p wS D b6 o6 v5 v6 l now Z1 pre x a' A1->K a' A1):
  Ajk.wpIn (Fence.wide.inRound (D+1)) 0 prog (Exit.then K (fun _ _ _=>False)) { tmps:=((#[20,21]:Array Tmp).zip args).foldl (fun t (p,v)=>t.setIfInBounds p v) a.tmps,defers:=[] } A:=by
 obtain⟨hI1,hI2⟩:=hI;obtain⟨PA,p,hp,rfl⟩:=hm;obtain⟨b0,TX⟩:∃b0:Act,({ tmps:=a.tmps,defers:=[] }:Act)=b0:=⟨_,rfl⟩;have RW:b0.tmps.size=28:=by rw[←TX];exact hd
 have ez:((#[20,21]:Array Tmp).zip #[Value.int .i64 (x:Int),.agg #[.int .i64 p.1,.int .i64 p.2]]) = #[(20,Value.int .i64 (x:Int)),(21,.agg #[.int .i64 p.1,.int .i64 p.2])]:=by simp
 have ea:({ tmps:=((#[20,21]:Array Tmp).zip #[Value.int .i64 (x:Int),.agg #[.int .i64 p.1,.int .i64 p.2]]).foldl (fun t (p,v)=>t.setIfInBounds p v) a.tmps,defers:=[] }:Act)=(b0.put (some 20) (.int .i64 (x:Int))).put (some 21) (.agg #[.int .i64 p.1,.int .i64 p.2]):=by
  rw[ez,←TX];simp[Act.put]
 rw[ea];have hd0:b0.defers=[]:=by rw[←TX]
 have ht0:b0.tmps=a.tmps:=by rw[←TX]
 obtain⟨a1,ha1⟩:∃a1,(b0.put (some 20) (.int .i64 (x:Int))).put (some 21) (.agg #[.int .i64 p.1,.int .i64 p.2])=a1:=⟨_,rfl⟩;rw[ha1];have z1:a1.defers=[]:=by rw[←ha1];simp only[Kj,hd0]
 have z2:a1.tmps.size=28:=by rw[←ha1];simp only[Hq,RW]
 have z5:a1.tmps.getD 5 undef=v5:=by rw[←ha1,Fm (by decide),Fm (by decide),ht0];exact h5
 have z6:a1.tmps.getD 6 undef=v6:=by rw[←ha1,Fm (by decide),Fm (by decide),ht0];exact h6
 have z21:a1.tmps.getD 21 undef=.agg #[.int .i64 p.1,.int .i64 p.2]:=by rw[←ha1,EH (by simp only[Hq,RW];decide)]
 have i0:B3 28 A noL (fun _=>False) (fun _=>none) ⟨lk [(5,.sc v5),(6,.sc v6),(21,.agg [.sc (.int .i64 p.1),.sc (.int .i64 p.2)])],Bu []⟩ a1 A:=by
  refine B3.init _ _ z1 z2 ?_ ?_ ?_ (fun _ h=>h.elim)
  ·intro q hq;simp only[List.mem_cons,List.not_mem_nil,or_false] at hq;rcases hq with rfl|rfl|rfl<;>simp
  ·intro q hq;simp only[List.mem_cons,List.not_mem_nil,or_false] at hq;rcases hq with rfl|rfl|rfl
   ·rw[z5];exact A4.sc _
   ·rw[z6];exact A4.sc _
   ·exact⟨[.int .i64 p.1,.int .i64 p.2],z21,A4.sc _,A4.sc _,trivial⟩
  ·intro q hq;simp only[List.mem_cons,List.not_mem_nil,or_false] at hq;rcases hq with rfl|rfl|rfl<;>rfl
 refine EQ (ro:=some (D+1)) (I1 _ _) DW B0 (by kernel_rfl) (fun _ _ h=>h) i0 (t:=0) (L:=1120) (s1:=⟨lk [(5,.sc v5),(6,.sc v6),(10,.ptr 10 0)],Bu [(10,.st [.sc (.int .i64 p.1),.sc (.int .i64 p.2)])]⟩) (A0j cl v5 v6 p.1 p.2) ?_
 intro a2 w2 β2 h2;have Lw:=hI1.size;have Gv:=h2.stayA Aw4;have keep:∀b,b<A.heap.size->w2.heap[b]?=A.heap[b]?:=Gv.same;obtain⟨b10,o10,e10,t10,l10,k10,_⟩:=h2.var (i:=10) (id:=10) (by decide) rfl rfl
 obtain⟨v0,q0,r0⟩:=k10 0 _ rfl;obtain⟨v1,q1,r1⟩:=k10 1 _ rfl;have r0:=A4.val r0;have r1:=A4.val r1;subst r0 r1;have g10:A.heap.size<=b10:=(h2.ownd b10 ⟨10,o10,by trivial,e10⟩).elim (fun h=>h.elim) (fun h=>h)
 refine hK (fun b=>Z b∨(A.heap.size<=b∧b<w2.heap.size)) a2 w2 ⟨h2.fr.os,h2.fr.tape,h2.fr.output,h2.fr.step.size,fun b hb _=>keep b hb,fun b hb=>.inl hb,fun b hb=>hb.imp (fun h=>h) (·.1),fun b hb=>hb.elim (fun h=>Nat.lt_of_lt_of_le (hI1.zlt b h) h2.fr.step.size) (·.2),h2.fr.step.bs⟩ (keep D (by omega)) (keep (D+1) (by omega)) ⟨?_,hI2,PA,p,hp,⟨h2.dfr,h2.tsz,L7 (h2.tms 5 (by decide)),L7 (h2.tms 6 (by decide)),b10,o10,t10,by omega,l10,q0,q1⟩⟩
 have k6:=keep b6 (by omega)
 exact⟨h2.fr.os.trans hI1.os,h2.fr.tape.trans hI1.tape,h2.fr.output.trans hI1.output,Nat.le_trans Lw h2.fr.step.size,fun b hb=>hb.elim (fun h=>Nat.lt_of_lt_of_le (hI1.zlt b h) h2.fr.step.size) (·.2),.inl hI1.z6,fun b hb=>hb.elim (hI1.zn b) (fun h=>.inr (by omega)),fun b hb hn=>(keep b (by omega)).trans (hI1.keep b hb hn),
  Nat.le_trans hI1.bs (h2.fr.step.bs b6 (by omega)),(World.cell?_of_block k6).trans hI1.c6,by rw[frozen?_of_block k6];exact hI1.f6⟩
theorem Aix {B:World}{Y:Nat->Prop}{a:Act}{l:List (Nat × PV)} {b6 o6:Nat}{v:Int}(hd:a.defers=[]) (Lw:a.tmps.size=28)(Cc:∀q∈l,q.1<28)(c6:B.cell? ⟨b6,o6,none⟩=some (.int .i64 v)) (f6:B.frozen? ⟨b6,o6,none⟩=false)(l6:b6<B.heap.size)(y6:¬Y b6)(hY:∀b,Y b->b<B.heap.size)
  (hv:∀(β:Bt),β 56000=some (b6,o6)->(∀b,De (Bu [(56000,.st [.sc (.int .i64 v)])]) β Y b->b=b6∨Y b)->∀q∈l,Ed B (De (Bu [(56000,.st [.sc (.int .i64 v)])]) β Y) β q.2 (a.tmps.getD q.1 undef)) (hr:∀q∈l,∀id∈B8 q.2,id=56000):
  ∃X0 β,(∀b,X0.X b->b=b6)∧X0.pt 0=some (b6,o6)∧X0.pn 0∧(∀i,X0.pn i->i=0)∧B3 28 B X0 Y β ⟨lk l,Bu [(56000,.st [.sc (.int .i64 v)])]⟩ a B:=by
 obtain⟨β,hβ⟩:∃β:Bt,β=fun id=>if id=56000 then some (b6,o6) else none:=⟨_,rfl⟩
 have e1:β 56000=some (b6,o6):=by rw[hβ];rfl
 have V5:∀id bx,Bu [(56000,Bx.st [.sc (.int .i64 v)])] id=some bx->id=56000∧bx=.st [.sc (.int .i64 v)]:=by
  intro id bx e;rcases Ro [(56000,Bx.st [.sc (.int .i64 v)])] id with h1|⟨p,hp,h1,h2⟩
  ·rw[h1] at e;cases e
  ·rw[h2] at e;cases e;simp only[List.mem_cons,List.not_mem_nil,or_false] at hp;subst hp;exact⟨h1.symm,rfl⟩
 have hX:∀b,DF (Bu [(56000,Bx.st [.sc (.int .i64 v)])]) β b->b=b6:=by
  rintro b' ⟨id,o',hl,hb⟩
  cases hh:Bu [(56000,Bx.st [.sc (.int .i64 v)])] id with
  |none=>rw[hh] at hl;exact hl.elim
  |some bx=>
   obtain⟨rfl,_⟩:=V5 id bx hh;rw[e1] at hb;cases hb;rfl
 have hA:∀b,De (Bu [(56000,Bx.st [.sc (.int .i64 v)])]) β Y b->b=b6∨Y b:=fun b hb=>hb.imp (hX b) (fun x=>x)
 refine⟨_,β,hX,e1,rfl,fun i hi=>hi,B3.make l [(56000,.st [.sc (.int .i64 v)])] a (fun i=>i=0) (fun i hi=>by omega) hd Lw Cc (hv β e1 hA) ?_ ?_ ?_ ?_ ?_ ?_ ?_ ?_ hY⟩
 ·intro id bx e;obtain⟨rfl,rfl⟩:=V5 id bx e;refine⟨b6,o6,e1,fun j c hj=>?_,fun j hj=>?_⟩
  ·match j,hj with
   |0,hj=>cases hj;exact⟨_,c6,A4.sc _⟩
  ·match j,hj with
   |0,_=>exact f6
 ·intro id id' b1 o1 o2 g1 g2 g3 g4
  have Br:∀i,Cv (Bu [(56000,Bx.st [.sc (.int .i64 v)])] i)->i=56000:=by
   intro i hi;cases hh:Bu [(56000,Bx.st [.sc (.int .i64 v)])] i with
   |none=>rw[hh] at hi;exact hi.elim
   |some bx=>exact (V5 i bx hh).1
  rw[Br id g1,Br id' g2]
 ·intro id b1 o1 g1 g2;cases hh:Bu [(56000,Bx.st [.sc (.int .i64 v)])] id with
  |none=>exact absurd hh g1
  |some bx=>
   obtain⟨rfl,_⟩:=V5 id bx hh;rw[e1] at g2;cases g2;exact l6
 ·intro p hp id Br;rw[hr p hp id Br];simp[Bu]
 ·intro id cells e c hc i hi;obtain⟨rfl,e'⟩:=V5 id _ e;cases e';simp only[List.mem_cons,List.not_mem_nil,or_false] at hc;subst hc;simp[Az] at hi
 ·intro i hi;subst hi;simp[Bu,Dl]
 ·intro id c e;obtain⟨rfl,_⟩:=V5 id _ e;exact⟨0,rfl,rfl⟩
 ·intro b hy hx;rw[hX b hx] at hy;exact y6 hy
theorem Aj4 {wS:World}{D b6 o6:Nat}{v v':Int}{Z:Nat->Prop}{A w':World}{X0:Fz}{β':Bt}{a':Act}(l6:b6<D)(hI:OC wS D b6 o6 v Z A)(hx1:X0.pt 0=some (b6,o6)) (hx2:X0.pn 0)(hX:∀b,X0.X b->b=b6)(hs:B3 28 A X0 (fun _=>False) β' ⟨lk [(6,.ptr 56000 0)],Bu [(56000,.st [.sc (.int .i64 v')])]⟩ a' w'):
  R4 Z (fun b=>Z b∨(A.heap.size<=b∧b<w'.heap.size)) A w'∧w'.heap[D]?=A.heap[D]?∧w'.heap[D+1]?=A.heap[D+1]?∧OC wS D b6 o6 v' (fun b=>Z b∨(A.heap.size<=b∧b<w'.heap.size)) w':=by
 have Lw:=hI.size;have Gv:=hs.fr.step;have same:∀b,b<A.heap.size->b≠b6->w'.heap[b]?=A.heap[b]?:=fun b hb hn=>Gv.keep b hb fun hx=>hn (hX b hx)
 have hp:β' 56000=some (b6,o6):=(hs.pin 0 hx2).2.trans hx1;obtain⟨b,o,g1,g2,g3⟩:=(show ∃b o,β' 56000=some (b,o)∧_∧_ from hs.box 56000 _ (rfl:_=some (Bx.st [.sc (.int .i64 v')])))
 rw[hp] at g1;cases g1;obtain⟨v0,q0,r0⟩:=g2 0 _ rfl;have r0:=A4.val r0;subst r0
 refine⟨⟨hs.fr.os,hs.fr.tape,hs.fr.output,Gv.size,fun b hb hn=>same b hb fun e=>hn (e ▸ hI.z6),fun b hb=>.inl hb,fun b hb=>hb.imp (fun x=>x) (·.1),fun b hb=>hb.elim (fun h1=>Nat.lt_of_lt_of_le (hI.zlt b h1) Gv.size) (·.2),Gv.bs⟩,
  same D (by omega) (by omega),same (D+1) (by omega) (by omega),?_⟩
 exact⟨hs.fr.os.trans hI.os,hs.fr.tape.trans hI.tape,hs.fr.output.trans hI.output,by have:=Gv.size;omega,fun b hb=>hb.elim (fun h1=>Nat.lt_of_lt_of_le (hI.zlt b h1) Gv.size) (·.2),.inl hI.z6,fun b hb=>hb.elim (hI.zn b) (fun h=>.inr (by omega)),fun b hb hn=>(same b (by omega) hn).trans (hI.keep b hb hn),Nat.le_trans hI.bs (Gv.bs b6 (by omega)),q0,g3 0 (Nat.zero_lt_succ _)⟩
theorem An6 {wS:World}{D b5 o5 b6 o6:Nat}{l:List (Int × Int)} {now:Int}{Z:Nat->Prop}{pre:List Nat}{x:Nat}{a:Act}{A:World}(l5:b5<D)(l6:b6<D)(n5:b5≠b6)(h5:wS.cell? ⟨b5,o5,none⟩=some (.int .i64 now))
  (hn:A0p wS D b6 o6 (.pointer (some ⟨b5,o5,none⟩)) (.pointer (some ⟨b6,o6,none⟩)) l now Z pre x a A):
  Aar.wpIn (WF (some (D+1))) 0 prog (KE D (stI wS D b6 o6 l now) (A01 wS D b6 o6 l now) Z (pre++[x]) A) a A:=by
 obtain⟨hI,A4g,Ac0,p,hp,hN⟩:=hn;obtain⟨b10,o10,t10,g10,l10,c0,c1⟩:=hN.t10;have Lw:=hI.size
 obtain⟨X0,β,hX,hx1,hx2,_,hs⟩:=Aix (B:=A) (Y:=fun _=>False) (a:=a) (l:=[(5,.iptr [.sc (.int .i64 now)] 0),(6,.ptr 56000 0),(10,.iptr [.sc (.int .i64 p.1),.sc (.int .i64 p.2)] 0)]) (b6:=b6) (o6:=o6) (v:=0) hN.dfr hN.size (by
   intro q hq;simp only[List.mem_cons,List.not_mem_nil,or_false] at hq;rcases hq with rfl|rfl|rfl<;>simp) hI.c6 hI.f6 (by omega) (fun h=>h) (fun _ h=>h.elim) (by
   intro β e1 hA q hq;simp only[List.mem_cons,List.not_mem_nil,or_false] at hq;rcases hq with rfl|rfl|rfl
   ·refine⟨⟨b5,o5,none⟩,hN.t5,rfl,by show b5<_;omega,fun hb=>?_,fun j c hj=>?_⟩
    ·rcases hA _ hb with h1|h1
     ·exact n5 h1
     ·exact h1
    ·match j,hj with
     |0,hj=>cases hj;exact⟨_,(World.cell?_of_block (a:=⟨b5,o5,none⟩) (hI.keep b5 l5 n5)).trans h5,rfl,A4.sc _⟩
   ·exact⟨b6,o6,e1,hN.t6⟩
   ·refine⟨⟨b10,o10,none⟩,t10,rfl,l10,fun hb=>?_,fun j c hj=>?_⟩
    ·rcases hA _ hb with h1|h1
     ·have h1:b10=b6:=h1;omega
     ·exact h1
    ·match j,hj with
     |0,hj=>cases hj;exact⟨_,c0,rfl,A4.sc _⟩
     |1,hj=>cases hj;exact⟨_,c1,rfl,A4.sc _⟩) (by
   intro q hq id Br;simp only[List.mem_cons,List.not_mem_nil,or_false] at hq;rcases hq with rfl|rfl|rfl<;>simp[B8,Cl,Az] at Br
   exact Br)
 have DO:∀a w,¬KE D (stI wS D b6 o6 l now) (A01 wS D b6 o6 l now) Z (pre++[x]) A .outgrown a w:=fun a w ⟨_,_,_,_,hf⟩=>hf
 by_cases AK:p.2<=now
 ·refine KL (I1 _ _) DW B0 (by kernel_rfl) DO hs (t:=1) (L:=64) (s1:=⟨lk [(6,.ptr 56000 0)],Bu [(56000,.st [.sc (.int .i64 p.1)])]⟩) ((Ao6 cl now p.1 p.2).trans (EF _ _ _ AK)) ?_
  rintro a' w' β' e' h' (⟨h1,_⟩|⟨_,rfl⟩|⟨id,h1,_⟩)
  ·cases h1
  ·obtain⟨k1,k2,k3,k4⟩:=Aj4 l6 hI hx1 hx2 hX h';exact⟨_,k1,k2,k3,rfl,pre,x,p,A4g,Ac0,hp,AK,k4⟩
  ·omega
 ·refine KL (I1 _ _) DW B0 (by kernel_rfl) DO hs (t:=0) (L:=64) (s1:=⟨lk [(6,.ptr 56000 0)],Bu [(56000,.st [.sc (.int .i64 0)])]⟩) ((Ao6 cl now p.1 p.2).trans (Ej _ _ _ AK)) ?_
  rintro a' w' β' e' h' (⟨_,rfl⟩|⟨h1,_⟩|⟨id,h1,_⟩)
  ·obtain⟨k1,k2,k3,k4⟩:=Aj4 l6 hI hx1 hx2 hX h';refine⟨_,k1,k2,k3,k4,fun j hj q hq=>?_⟩
   rcases List.mem_append.1 hj with h1|h1
   ·exact A4g j h1 q hq
   ·rw[List.mem_singleton.1 h1,hp] at hq;cases hq;omega
  ·cases h1
  ·omega
end
section
open Go.Proofs.Tryz (prog)
open Go.IntKind (wrap)
set_option maxRecDepth 20000
def En.cells (e:En):List PV:=[.sc (.int .u64 e.k),.lst false 3 e.na e.an,.lst false 2 e.ns e.st]
theorem En.cells_len (e:En):e.cells.length=3:=rfl
def Nl (l:List En):List PV:=l.flatMap En.cells
def En.fit (e:En):Prop:=e.an.length=e.na*3∧e.st.length=e.ns*2∧e.na<=1000∧e.ns<=1000
theorem Arj {l:List En}{i:Nat}{e:En}(h:l[i]?=some e):(Nl l).getD (i*3) .top=.sc (.int .u64 e.k)∧(Nl l).getD (i*3+1) .top=.lst false 3 e.na e.an∧(Nl l).getD (i*3+2) .top=.lst false 2 e.ns e.st:=
 ⟨Iq En.cells_len h (j:=0) (by omega),Iq En.cells_len h (j:=1) (by omega),Iq En.cells_len h (j:=2) (by omega)⟩
theorem Aen {c:List PV}{es:List En}(h:Wi c=some es):c=Nl es∧∀e∈es,e.fit:=by
 fun_induction Wi c generalizing es with
 |case1=>cases h;exact⟨rfl,fun e he=>by cases he⟩
 |case2 k na an ns st r hb ih=>
  simp only[Bool.and_eq_true] at hb;obtain⟨⟨⟨b1,b2⟩,b3⟩,b4⟩:=hb;cases hr:Wi r with
  |none=>rw[hr] at h;cases h
  |some es'=>
   rw[hr] at h;cases h;obtain⟨h1,h2⟩:=ih hr;refine⟨by rw[h1];rfl,fun e he=>?_⟩
   rcases List.mem_cons.1 he with rfl|he
   ·exact⟨Nat.eq_of_beq_eq_true b1,Nat.eq_of_beq_eq_true b2,Nat.le_of_ble_eq_true b3,Nat.le_of_ble_eq_true b4⟩
   ·exact h2 e he
 |case3=>cases h
 |case4=>cases h
theorem ZW {st:List PV}{l:List (Int × Int)} (h:Q1 st=some l):st=Kd l:=by
 fun_induction Q1 st generalizing l with
 |case1=>cases h;rfl
 |case2 k t r ih=>
  cases hr:Q1 r with
  |none=>rw[hr] at h;cases h
  |some l'=>
   rw[hr] at h;cases h;rw[ih hr];rfl
 |case3=>cases h
section
variable {xs:FuncId->Option (List PV->Option A5)} {fu d:Nat}
theorem A05 {n:Nat}{c:List PV}(h:c.length=n*3)(hn:n<=1000):Ad (CX xs) prog fu (d+1) Jg [.lst false 3 n c]=some ⟨[.lst false 3 n c],[]⟩:=by
 refine (N6 fu d n c).trans ?_;have t:List.take (n*3) c=c:=L6 (by omega)
 by_cases h0:0<n
 ·simp (disch:=omega) only[Cu,Zzq,Ch,C8,h,t]
 ·obtain rfl:n=0:=by omega
  have:c=[]:=List.length_eq_zero_iff.1 (by omega)
  subst this;simp (disch:=omega) only[Cu,Zzq,Ch,C8,Zx,Nat.zero_mul,List.take_nil]
theorem Azb {n:Nat}{c:List PV}(h:c.length=n*2)(hn:n<=1000):Ad (CX xs) prog fu (d+1) Jl [.lst false 2 n c]=some ⟨[.lst false 2 n c],[]⟩:=by
 refine (N8 fu d n c).trans ?_;have t:List.take (n*2) c=c:=L6 (by omega)
 by_cases h0:0<n
 ·simp (disch:=omega) only[Cu,Zzq,Ch,C8,h,t]
 ·obtain rfl:n=0:=by omega
  have:c=[]:=List.length_eq_zero_iff.1 (by omega)
  subst this;simp (disch:=omega) only[Cu,Zzq,Ch,C8,Zx,Nat.zero_mul,List.take_nil]
theorem A0t {e:En}(h:e.fit):Ad (CX xs) prog fu (d+2) J6 [.agg e.cells]=some ⟨[.agg e.cells],[]⟩:=by
 refine (Pr fu (d+1) e.k e.na e.an e.ns e.st).trans ?_;have a:=A05 (xs:=xs) (fu:=fu) (d:=d) h.1 h.2.2.1;have s:=Azb (xs:=xs) (fu:=fu) (d:=d) h.2.1 h.2.2.2;simp only[Cu,a,s];rfl
def en0:En:=⟨0,0,[],0,[]⟩
def Uv (model:Int)(es:List En):En:=(es.find? fun e=>e.k==model).getD en0
theorem Aq1 (model:Int)(es:List En):(Uv model es).st=Aih model es:=by
 unfold Uv Aih;cases es.find? fun e=>e.k==model<;>rfl
theorem Amb {model:Int}{es:List En}(h:∀e∈es,e.fit):(Uv model es).fit:=by
 unfold Uv;cases hf:es.find? fun e=>e.k==model with
 |none=>exact⟨rfl,rfl,by decide,by decide⟩
 |some e=>exact h e (List.mem_of_find?_eq_some hf)
theorem Asv {Ak Al Bd Ff a1:Int}{Cp C3 C4:Nat}{Cy Fh Fi:List PV}{es:List En}(hn:es.length<=1000)(hf:∀e∈es,e.fit){model:Int}:∀(r:List En)(i nn:Nat),es.drop i=r->r.length<nn ->
  ∃b,Iy fu (Ad (CX xs) prog fu (d+2)) Ak Al Bd Cp Cy Ff C3 Fh C4 Fi a1 nn model es.length (Nl es) (es.length:Int) (i:Int) 0 0 0 [] []=some ⟨[.agg (Uv model r).cells,.sc (.bool b)],[]⟩
 |_,_,0,_,h=>by omega
 |[],i,nn+1,hr,Ko=>by
  have hi:=drop_nil hr;refine⟨false,?_⟩;rw[Pf];simp (disch:=omega) only[Cu];rfl
 |e::r,i,nn+1,hr,Ko=>by
  obtain⟨Cc,h1,h2⟩:=D1 hr;obtain⟨g0,g1,g2⟩:=Arj h1;have g2':(Nl es).getD (i*3+1+1) .top=.lst false 2 e.ns e.st:=g2;rw[Pf];by_cases hk:e.k=model
  ·refine⟨true,?_⟩;have q:(e.k==model)=true:=by simp[hk]
   have cp:=A0t (xs:=xs) (fu:=fu) (d:=d) (hf e (List.mem_of_getElem? h1));have fe:Uv model (e::r)=e:=by unfold Uv;rw[List.find?_cons_of_pos (by simpa using hk)];rfl
   rw[fe];simp only[En.cells] at cp;simp (disch:=omega) only[Cu,Kz,g0,g1,g2',q,cp];rfl
  ·have q:(e.k==model)=false:=by simp[hk]
   have w:wrap .i64 ((i:Int)+1)=((i+1:Nat):Int):=by rw[Ap (by omega) (by omega)];omega
   obtain⟨b,ih⟩:=Asv (Ak:=Ak) (Al:=Al) (Bd:=Bd) (Ff:=Ff) (a1:=a1) (Cp:=Cp) (C3:=C3) (C4:=C4) (Cy:=Cy) (Fh:=Fh) (Fi:=Fi) hn hf (model:=model) r (i+1) nn h2 (by simp only[Ik] at Ko;omega)
   have fe:Uv model (e::r)=Uv model r:=by unfold Uv;rw[List.find?_cons_of_neg (by simpa using hk)]
   refine⟨b,?_⟩;rw[fe,←ih];simp (disch:=omega) only[Cu,Kz,g0,g1,g2',q,w]
theorem Ayw {es:List En}(hn:es.length<=1000)(Ca:1000<fu)(hf:∀e∈es,e.fit)(v i x lf model:Int)(n1 n2:Nat)(c1 c2:List PV):
  ∃b,Ad (CX xs) prog fu (d+3) M8 [.agg [.sc (.int .i64 v),.sc (.int .i64 i),.sc (.int .i64 x),.lst false 3 es.length (Nl es),.sc (.int .i64 lf),.lst false 1 n1 c1,.lst false 1 n2 c2],.sc (.int .u64 model)]=some ⟨[.agg (Uv model es).cells,.sc (.bool b)],[]⟩:=by
 obtain⟨b,h⟩:=Asv (xs:=xs) (fu:=fu) (d:=d) (Ak:=v) (Al:=i) (Bd:=x) (Ff:=lf) (a1:=model) (Cp:=es.length) (C3:=n1) (C4:=n2) (Cy:=Nl es) (Fh:=c1) (Fi:=c2) hn hf (model:=model) es 0 fu rfl (by omega)
 exact⟨b,(GH fu (d+2) v i x es.length (Nl es) lf n1 c1 n2 c2 model).trans h⟩
end
end
end Go.Proofs.YtpogefhpiaaliaaGreatDoor.Pv
