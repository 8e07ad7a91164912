/-
  The proof of AttestationModels, part 5 (texts GnJ Cb2 Ce1 Ce2 Cb3 Cb4 Cb5 Cb6 Cb7 Cb8 Cb9 CbA CbB GnH CbC CbD CbE CbF Ke6 GnG Ce3 Ce4 Ce5 Ce6 Rd1).
-/
import Derived.Test.YtgfgmbpmghgbkaaGreatDoorMD
import Derived.Test.YtgfgmbpmghgbkaaGreatDoorRows
set_option linter.unusedSimpArgs false
set_option linter.unusedVariables false
namespace Go.Proofs.YtgfgmbpmghgbkaaGreatDoor.Pv
section
set_option maxRecDepth 100000
abbrev Mk:FuncId:=59
theorem Wa (fu d:Nat)(a0 a1 a2:Int):Ae C0 Tryz.prog fu (d+1) Mk [.sc (.int .i64 a0),.sc (.int .i64 a1),.sc (.int .i64 a2)]=(fun (call:Am)=>A4 (decide (a0>=a1)) (some (Ay.mk [.sc (.bool (decide (a0<=a2)))] [])) (some (Ay.mk [.sc (.bool false)] []))) (Ae C0 Tryz.prog fu d):=by kernel_rfl
abbrev Nr:FuncId:=42
theorem X3 (fu d:Nat)(a0:Int):Ae C0 Tryz.prog fu (d+1) Nr [.sc (.int .i64 a0)]=(fun (call:Am)=>Aa (IntKind.wrap .u64 a0) fun x1=>some (Ay.mk [.agg [.sc (.int .i64 5),.sc (.int .u64 x1),.sc (.string (ByteArray.mk #[]))]] [])) (Ae C0 Tryz.prog fu d):=by kernel_rfl
abbrev Oy:FuncId:=70
theorem Zd (fu d:Nat)(a0:ByteArray):Ae C0 Tryz.prog fu (d+1) Oy [.sc (.string a0)]=(fun (call:Am)=>some (Ay.mk [.agg [.sc (.int .i64 4),.sc (.int .u64 0),.sc (.string a0)]] [])) (Ae C0 Tryz.prog fu d):=by kernel_rfl
abbrev Mb:FuncId:=71
theorem Wk (fu d:Nat)(a0:Int):Ae C0 Tryz.prog fu (d+1) Mb [.sc (.int .u64 a0)]=(fun (call:Am)=>some (Ay.mk [.agg [.sc (.int .i64 1),.sc (.int .u64 a0),.sc (.string (ByteArray.mk #[]))]] [])) (Ae C0 Tryz.prog fu d):=by kernel_rfl
abbrev Oq:FuncId:=72
theorem Zb (fu d a0n:Nat)(a0:List PV):Ae C0 Tryz.prog fu (d+1) Oq [.lst false 1 a0n a0]=(fun (call:Am)=>Aq (decide (List.length a0=a0n))<|Ez (bytesOf a0) fun x1=>some (Ay.mk [.agg [.sc (.int .i64 3),.sc (.int .u64 0),.sc (.string (ByteArray.mk (List.toArray x1)))]] [])) (Ae C0 Tryz.prog fu d):=by kernel_rfl
abbrev Lu:FuncId:=73
theorem Uu (fu d:Nat)(a0:Bool):Ae C0 Tryz.prog fu (d+1) Lu [.sc (.bool a0)]=(fun (call:Am)=>A4 (a0) (some (Ay.mk [.agg [.sc (.int .i64 7),.sc (.int .u64 1),.sc (.string (ByteArray.mk #[]))]] [])) (some (Ay.mk [.agg [.sc (.int .i64 7),.sc (.int .u64 0),.sc (.string (ByteArray.mk #[]))]] []))) (Ae C0 Tryz.prog fu d):=by kernel_rfl
abbrev Nj:FuncId:=69
noncomputable def F9 (fu:Nat)(call:Am)(a0n:Nat)(a0:List PV)(nn y0:Nat)(y1:List PV)(y2:Nat)(y3:Int)(y4:List PV):Option Ay:=Db C0 Tryz.prog fu call 69 Tryz.f69 (Ch Tryz.f69) [.lst false 3 a0n a0] [.r,.r,.l,.r,.l] nn ⟨lk [(0,(.lst false 3 y0 y1)),(3,(.view 3 1 0 y2)),(4,(.sc (.int .i64 y3)))],Gn [(3,(.ar false y4))]⟩
theorem Kj (fu:Nat)(call:Am)(a0n:Nat)(a0:List PV)(nn y0:Nat)(y1:List PV)(y2:Nat)(y3:Int)(y4:List PV):F9 fu call a0n a0 (nn+1) y0 y1 y2 y3 y4=(A4 (decide (y3<(↑y0:Int))) (Aq (decide (0<=y3)&&decide (y3<(↑y0:Int)))<|Af .i64 (List.getD y1 (Int.toNat y3*3) .top) fun x1=>Af .u64 (List.getD y1 (Int.toNat y3*3+1) .top) fun x2=>Cn (List.getD y1 (Int.toNat y3*3+1+1) .top) fun x3=>Ag (call 97 [.agg [.sc (.int .i64 x1),.sc (.int .u64 x2),.sc (.string x3)]]) fun x4 x5=>Ac x5<|Ab x4 fun x6 x7=>Cn x6 fun x8=>Ac x7<|Aq (decide (y2*1<=List.length y4)&&decide (List.length (Co x8)=ByteArray.size x8*1)&&decide ((y2+ByteArray.size x8)*1<=1099511627776)&&decide (y2+ByteArray.size x8<=1099511627776))<|Aa (y2+ByteArray.size x8) fun x9=>Aa (List.take (y2*1) y4++Co x8) fun Cd=>Aa (IntKind.wrap .i64 (y3+1)) fun Bp=>F9 fu call a0n a0 (nn) (y0) (y1) x9 Bp Cd) (Aq (decide (y2*1<=List.length y4))<|some (Ay.mk [.own 1 y2 (List.take (y2*1) y4)] []))):=by kernel_rfl
theorem W2 (fu d a0n:Nat)(a0:List PV):Ae C0 Tryz.prog fu (d+1) Nj [.lst false 3 a0n a0]=(fun (call:Am)=>F9 fu call a0n a0 (fu) (a0n) (a0) 0 0 ([])) (Ae C0 Tryz.prog fu d):=by kernel_rfl
abbrev O7:FuncId:=45
theorem Z5 (fu d:Nat)(a0_0 a0_1:ByteArray)(a0_2 a0_3:Int)(a0_4 a0_5 a0_6:Int)(a0_7:Bool)(a0_8 a0_9 a0_10:Int)(a0_11n:Nat)(a0_11:List PV)(a0_12n:Nat)(a0_12:List PV):Ae C0 Tryz.prog fu (d+1) O7 [.agg [.sc (.string a0_0),.sc (.string a0_1),.sc (.int .u64 a0_2),.sc (.int .i64 a0_3),.sc (.int .u64 a0_4),.sc (.int .i64 a0_5),.sc (.int .i64 a0_6),.sc (.bool a0_7),.sc (.int .i64 a0_8),.sc (.int .u64 a0_9),.sc (.int .i64 a0_10),.lst false 1 a0_11n a0_11,.lst false 1 a0_12n a0_12]]=(fun (call:Am)=>Ag (call 59 [.sc (.int .i64 (↑(ByteArray.size a0_0):Int)),.sc (.int .i64 1),.sc (.int .i64 32)]) fun x1 x2=>Ac x2<|Ab x1 fun x3 x4=>Bz x3 fun x5=>Ac x4<|A4 (!x5) (some (Ay.mk [.own 1 0 [],.sc (.int .i64 9)] [])) (Ag (call 59 [.sc (.int .i64 (↑(ByteArray.size a0_1):Int)),.sc (.int .i64 1),.sc (.int .i64 32)]) fun x6 x7=>Ac x7<|Ab x6 fun x8 x9=>Bz x8 fun Cd=>Ac x9<|A4 (!Cd) (some (Ay.mk [.own 1 0 [],.sc (.int .i64 9)] [])) (Ag (call 67 [.sc (.string a0_0)]) fun Bp C4=>Ac C4<|Ab Bp fun Da Cq=>Bz Da fun C9=>Ac Cq<|A4 (!C9) (some (Ay.mk [.own 1 0 [],.sc (.int .i64 6)] [])) (Ag (call 67 [.sc (.string a0_1)]) fun Do Du=>Ac Du<|Ab Do fun D5 D7=>Bz D5 fun Eh=>Ac D7<|A4 (!Eh) (some (Ay.mk [.own 1 0 [],.sc (.int .i64 6)] [])) (Ag (call 68 [.agg [.sc (.int .i64 a0_3),.sc (.int .u64 a0_4)]]) fun Fy Ci=>Ac Ci<|Ab Fy fun Fn Ds=>Dk 1 Fn fun Bx Fc=>Ab Ds fun Ft Bk=>Af .i64 Ft fun Cg=>Ac Bk<|A4 (Cg != 0) (some (Ay.mk [.own 1 0 [],.sc (.int .i64 Cg)] [])) (A4 (decide (a0_5<0)) (some (Ay.mk [.own 1 0 [],.sc (.int .i64 9)] [])) (A4 (decide (a0_6<a0_5)) (some (Ay.mk [.own 1 0 [],.sc (.int .i64 9)] [])) (A4 (decide (a0_6>1099511627776)) (some (Ay.mk [.own 1 0 [],.sc (.int .i64 9)] [])) (Ag (call 59 [.sc (.int .i64 a0_8),.sc (.int .i64 0),.sc (.int .i64 2)]) fun Hg Gf=>Ac Gf<|Ab Hg fun Ie H0=>Bz Ie fun Jn=>Ac H0<|A4 (!Jn) (some (Ay.mk [.own 1 0 [],.sc (.int .i64 9)] [])) (A4 (a0_8 != 0) (A4 (!a0_7) (some (Ay.mk [.own 1 0 [],.sc (.int .i64 4)] [])) (Ag (call 42 [.sc (.int .i64 9)]) fun Gt Ix=>Ac Ix<|Ab Gt fun M5 F0=>Cu M5 fun H5=>Ab H5 fun Rh R6=>Af .i64 Rh fun L6=>Ab R6 fun Rl Pu=>Af .u64 Rl fun Lx=>Ab Pu fun Q6 Rj=>Cn Q6 fun Oc=>Ac Rj<|Ac F0<|Ag (call 70 [.sc (.string a0_0)]) fun Pw Sd=>Ac Sd<|Ab Pw fun Pq Rx=>Cu Pq fun Lz=>Ab Lz fun Py Rr=>Af .i64 Py fun Ts=>Ab Rr fun Pi Q9=>Af .u64 Pi fun S5=>Ab Q9 fun Uv Oe=>Cn Uv fun Ro=>Ac Oe<|Ac Rx<|Ag (call 70 [.sc (.string a0_1)]) fun V9 Uq=>Ac Uq<|Ab V9 fun Q7 S6=>Cu Q7 fun S1=>Ab S1 fun Ty Up=>Af .i64 Ty fun Us=>Ab Up fun Q8 Ws=>Af .u64 Q8 fun Wj=>Ab Ws fun Ur V1=>Cn Ur fun Wu=>Ac V1<|Ac S6<|Ag (call 71 [.sc (.int .u64 a0_2)]) fun V7 Wt=>Ac Wt<|Ab V7 fun Za x80=>Cu Za fun x81=>Ab x81 fun x82 x83=>Af .i64 x82 fun Z9=>Ab x83 fun x85 x86=>Af .u64 x85 fun x87=>Ab x86 fun Rm S9=>Cn Rm fun Vx=>Ac S9<|Ac x80<|Aq (decide (0+Bx*1<=List.length Fc))<|Ag (call 72 [.lst false 1 Bx (List.take (Bx*1) (List.drop 0 Fc))]) fun x91 x92=>Ac x92<|Ab x91 fun x93 x94=>Cu x93 fun x95=>Ab x95 fun x96 x97=>Af .i64 x96 fun x98=>Ab x97 fun x99 Tt=>Af .u64 x99 fun Qd=>Ab Tt fun G5 Jm=>Cn G5 fun S0=>Ac Jm<|Ac x94<|Aa (IntKind.wrap .u64 a0_5) fun Pn=>Ag (call 71 [.sc (.int .u64 Pn)]) fun Oh Kl=>Ac Kl<|Ab Oh fun Wd Xr=>Cu Wd fun Vu=>Ab Vu fun Wo Ig=>Af .i64 Wo fun Km=>Ab Ig fun Abb Aa3=>Af .u64 Abb fun Om=>Ab Aa3 fun S2 Aba=>Cn S2 fun Zm=>Ac Aba<|Ac Xr<|Aa (IntKind.wrap .u64 a0_6) fun Abj=>Ag (call 71 [.sc (.int .u64 Abj)]) fun Z7 Zp=>Ac Zp<|Ab Z7 fun Abu Aa8=>Cu Abu fun Zk=>Ab Zk fun Rc Ut=>Af .i64 Rc fun Acc=>Ab Ut fun Abk Zl=>Af .u64 Abk fun Afe=>Ab Zl fun Aaz Ab3=>Cn Aaz fun Ac8=>Ac Ab3<|Ac Aa8<|Ag (call 73 [.sc (.bool a0_7)]) fun Ae6 Ahu=>Ac Ahu<|Ab Ae6 fun Ahf Aex=>Cu Ahf fun Z2=>Ab Z2 fun Ac6 Abx=>Af .i64 Ac6 fun Adl=>Ab Abx fun Afa Abf=>Af .u64 Afa fun Z6=>Ab Abf fun Zt Ae1=>Cn Zt fun Aeu=>Ac Ae1<|Ac Aex<|Aa (IntKind.wrap .u64 a0_8) fun Alj=>Ag (call 71 [.sc (.int .u64 Alj)]) fun Al4 Aia=>Ac Aia<|Ab Al4 fun Abh Aha=>Cu Abh fun Aff=>Ab Aff fun Ahb Ahk=>Af .i64 Ahb fun Ahg=>Ab Ahk fun Aht Ag9=>Af .u64 Aht fun Ajy=>Ab Ag9 fun Aio Ajg=>Cn Aio fun Ak4=>Ac Ajg<|Ac Aha<|Ag (call 71 [.sc (.int .u64 a0_9)]) fun Afr Aho=>Ac Aho<|Ab Afr fun Ajz Afg=>Cu Ajz fun Ahx=>Ab Ahx fun Afx Ae3=>Af .i64 Afx fun Ajr=>Ab Ae3 fun Aoa Aii=>Af .u64 Aoa fun Ala=>Ab Aii fun Ahp Al6=>Cn Ahp fun Aso=>Ac Al6<|Ac Afg<|Ag (call 69 [.lst false 3 10 [.sc (.int .i64 L6),.sc (.int .u64 Lx),.sc (.string Oc),.sc (.int .i64 Ts),.sc (.int .u64 S5),.sc (.string Ro),.sc (.int .i64 Us),.sc (.int .u64 Wj),.sc (.string Wu),.sc (.int .i64 Z9),.sc (.int .u64 x87),.sc (.string Vx),.sc (.int .i64 x98),.sc (.int .u64 Qd),.sc (.string S0),.sc (.int .i64 Km),.sc (.int .u64 Om),.sc (.string Zm),.sc (.int .i64 Acc),.sc (.int .u64 Afe),.sc (.string Ac8),.sc (.int .i64 Adl),.sc (.int .u64 Z6),.sc (.string Aeu),.sc (.int .i64 Ahg),.sc (.int .u64 Ajy),.sc (.string Ak4),.sc (.int .i64 Ajr),.sc (.int .u64 Ala),.sc (.string Aso)]]) fun Alu Apg=>Ac Apg<|Ab Alu fun As9 Af5=>Dk 1 As9 fun X4 Apu=>Ac Af5<|Aq (decide (X4*1<=List.length Apu))<|some (Ay.mk [.own 1 X4 (List.take (X4*1) Apu),.sc (.int .i64 0)] []))) (Ag (call 42 [.sc (.int .i64 9)]) fun Aut Au6=>Ac Au6<|Ab Aut fun Ay6 Auy=>Cu Ay6 fun As5=>Ab As5 fun Auw Ats=>Af .i64 Auw fun Aqa=>Ab Ats fun Arq A0g=>Af .u64 Arq fun A28=>Ab A0g fun A3s Ayg=>Cn A3s fun Az2=>Ac Ayg<|Ac Auy<|Ag (call 70 [.sc (.string a0_0)]) fun A22 A01=>Ac A01<|Ab A22 fun Az4 Aw3=>Cu Az4 fun Azw=>Ab Azw fun A2b Ayk=>Af .i64 A2b fun A36=>Ab Ayk fun A0x Aqr=>Af .u64 A0x fun Ava=>Ab Aqr fun Azy A4f=>Cn Azy fun A16=>Ac A4f<|Ac Aw3<|Ag (call 70 [.sc (.string a0_1)]) fun A1u A1i=>Ac A1i<|Ab A1u fun Azr A1l=>Cu Azr fun Az1=>Ab Az1 fun A2g A1t=>Af .i64 A2g fun A0c=>Ab A1t fun Ay2 A2s=>Af .u64 Ay2 fun A1p=>Ab A2s fun Axj A2y=>Cn Axj fun A3b=>Ac A2y<|Ac A1l<|Ag (call 71 [.sc (.int .u64 a0_2)]) fun Ary At7=>Ac At7<|Ab Ary fun A3j A7y=>Cu A3j fun A29=>Ab A29 fun A40 A8t=>Af .i64 A40 fun A8a=>Ab A8t fun A87 A7p=>Af .u64 A87 fun A85=>Ab A7p fun A6o A8q=>Cn A6o fun A9u=>Ac A8q<|Ac A7y<|Aq (decide (0+Bx*1<=List.length Fc))<|Ag (call 72 [.lst false 1 Bx (List.take (Bx*1) (List.drop 0 Fc))]) fun A7j A7b=>Ac A7b<|Ab A7j fun Bac A8z=>Cu Bac fun A7h=>Ab A7h fun A9z A74=>Af .i64 A9z fun A6n=>Ab A74 fun A4o A8y=>Af .u64 A4o fun A81=>Ab A8y fun A88 A7r=>Cn A88 fun A67=>Ac A7r<|Ac A8z<|Aa (IntKind.wrap .u64 a0_5) fun A7k=>Ag (call 71 [.sc (.int .u64 A7k)]) fun A8f Bab=>Ac Bab<|Ab A8f fun A6m A7n=>Cu A6m fun A92=>Ab A92 fun A7o A6r=>Af .i64 A7o fun Baj=>Ab A6r fun A62 A7m=>Af .u64 A62 fun A4u=>Ab A7m fun A65 A6h=>Cn A65 fun A8e=>Ac A6h<|Ac A7n<|Aa (IntKind.wrap .u64 a0_6) fun A7i=>Ag (call 71 [.sc (.int .u64 A7i)]) fun A7c A6j=>Ac A6j<|Ab A7c fun A8m A9v=>Cu A8m fun A70=>Ab A70 fun A6e A9p=>Af .i64 A6e fun A6k=>Ab A9p fun A7v A93=>Af .u64 A7v fun A8i=>Ab A93 fun A75 A4x=>Cn A75 fun A61=>Ac A4x<|Ac A9v<|Ag (call 73 [.sc (.bool a0_7)]) fun A64 A82=>Ac A82<|Ab A64 fun A9i A8o=>Cu A9i fun A95=>Ab A95 fun A7t A8s=>Af .i64 A7t fun A79=>Ab A8s fun A9d A80=>Af .u64 A9d fun A7f=>Ab A80 fun A6q A73=>Cn A6q fun A8v=>Ac A73<|Ac A8o<|Aa (IntKind.wrap .u64 a0_8) fun A6z=>Ag (call 71 [.sc (.int .u64 A6z)]) fun A6w A6y=>Ac A6y<|Ab A6w fun A76 A6v=>Cu A76 fun A7a=>Ab A7a fun A7z A6s=>Af .i64 A7z fun A8x=>Ab A6s fun A8c A8n=>Af .u64 A8c fun A84=>Ab A8n fun A77 A6t=>Cn A77 fun A8j=>Ac A6t<|Ac A6v<|Ag (call 71 [.sc (.int .u64 a0_9)]) fun A7l A6u=>Ac A6u<|Ab A7l fun A71 A8l=>Cu A71 fun A8u=>Ab A8u fun A6g A86=>Af .i64 A6g fun A72=>Ab A86 fun A7d A8g=>Af .u64 A7d fun A9f=>Ab A8g fun A7w A9b=>Cn A7w fun A89=>Ac A9b<|Ac A8l<|Ag (call 69 [.lst false 3 10 [.sc (.int .i64 Aqa),.sc (.int .u64 A28),.sc (.string Az2),.sc (.int .i64 A36),.sc (.int .u64 Ava),.sc (.string A16),.sc (.int .i64 A0c),.sc (.int .u64 A1p),.sc (.string A3b),.sc (.int .i64 A8a),.sc (.int .u64 A85),.sc (.string A9u),.sc (.int .i64 A6n),.sc (.int .u64 A81),.sc (.string A67),.sc (.int .i64 Baj),.sc (.int .u64 A4u),.sc (.string A8e),.sc (.int .i64 A6k),.sc (.int .u64 A8i),.sc (.string A61),.sc (.int .i64 A79),.sc (.int .u64 A7f),.sc (.string A8v),.sc (.int .i64 A8x),.sc (.int .u64 A84),.sc (.string A8j),.sc (.int .i64 A72),.sc (.int .u64 A9f),.sc (.string A89)]]) fun A7e A66=>Ac A66<|Ab A7e fun A9a A8w=>Dk 1 A9a fun A34 A5e=>Ac A8w<|Aq (decide (A34*1<=List.length A5e))<|some (Ay.mk [.own 1 A34 (List.take (A34*1) A5e),.sc (.int .i64 0)] [])))))))))))) (Ae C0 Tryz.prog fu d):=by kernel_rfl
abbrev Ox:FuncId:=78
theorem Ze (fu d:Nat)(a0_0 a0_1:ByteArray)(a0_2 a0_3:Int)(a0_4 a0_5 a0_6:Int)(a0_7:Bool)(a0_8 a0_9 a0_10:Int)(a0_11n:Nat)(a0_11:List PV)(a0_12n:Nat)(a0_12:List PV)(a1 a2 a3:Int):Ae C0 Tryz.prog fu (d+1) Ox [.agg [.sc (.string a0_0),.sc (.string a0_1),.sc (.int .u64 a0_2),.sc (.int .i64 a0_3),.sc (.int .u64 a0_4),.sc (.int .i64 a0_5),.sc (.int .i64 a0_6),.sc (.bool a0_7),.sc (.int .i64 a0_8),.sc (.int .u64 a0_9),.sc (.int .i64 a0_10),.lst false 1 a0_11n a0_11,.lst false 1 a0_12n a0_12],.sc (.int .u64 a1),.sc (.int .i64 a2),.sc (.int .i64 a3)]=(fun (call:Am)=>Ag (call 45 [.agg [.sc (.string a0_0),.sc (.string a0_1),.sc (.int .u64 a0_2),.sc (.int .i64 a0_3),.sc (.int .u64 a0_4),.sc (.int .i64 a0_5),.sc (.int .i64 a0_6),.sc (.bool a0_7),.sc (.int .i64 a0_8),.sc (.int .u64 a0_9),.sc (.int .i64 a0_10),.lst false 1 a0_11n a0_11,.lst false 1 a0_12n a0_12]]) fun x1 x2=>Ac x2<|Ab x1 fun x3 x4=>Dk 1 x3 fun x5 x6=>Ab x4 fun x7 x8=>Af .i64 x7 fun x9=>Ac x8<|A4 (x9 != 0) (some (Ay.mk [.agg [.sc (.string (ByteArray.mk #[])),.sc (.string (ByteArray.mk #[])),.sc (.int .u64 0),.sc (.int .i64 0),.sc (.int .u64 0),.sc (.int .i64 0),.sc (.int .i64 0),.sc (.bool false),.sc (.int .i64 0),.sc (.int .u64 0),.sc (.int .i64 0),.lst false 1 0 [],.lst false 1 0 []],.sc (.int .i64 x9)] [])) (Aq (decide (0+x5*1<=List.length x6))<|Ag (call 46 [.sc (.int .i64 14),.lst false 1 x5 (List.take (x5*1) (List.drop 0 x6))]) fun Cd Bp=>Ac Bp<|Ab Cd fun C4 Da=>Af .u64 C4 fun Cq=>Ac Da<|Ag (call 17 [.sc (.int .u64 a1),.sc (.int .i64 a2),.sc (.int .i64 a3),.sc (.int .u64 Cq)]) fun C9 Do=>Ac Do<|Ab C9 fun Du D5=>Cu Du fun D7=>Ab D7 fun Eh Fy=>Af .i64 Eh fun Ci=>Ab Fy fun Fn Ds=>Dk 1 Fn fun Bx Fc=>Ab Ds fun Ft Bk=>Dk 1 Ft fun Cg Hg=>Ac Bk<|Ab D5 fun Gf Ie=>Af .i64 Gf fun H0=>Ac Ie<|A4 (H0 != 0) (some (Ay.mk [.agg [.sc (.string (ByteArray.mk #[])),.sc (.string (ByteArray.mk #[])),.sc (.int .u64 0),.sc (.int .i64 0),.sc (.int .u64 0),.sc (.int .i64 0),.sc (.int .i64 0),.sc (.bool false),.sc (.int .i64 0),.sc (.int .u64 0),.sc (.int .i64 0),.lst false 1 0 [],.lst false 1 0 []],.sc (.int .i64 H0)] [])) (Aq (decide (0+Bx*1<=List.length Fc))<|Aq (decide (0+Cg*1<=List.length Hg))<|some (Ay.mk [.agg [.sc (.string a0_0),.sc (.string a0_1),.sc (.int .u64 a0_2),.sc (.int .i64 a0_3),.sc (.int .u64 a0_4),.sc (.int .i64 a0_5),.sc (.int .i64 a0_6),.sc (.bool a0_7),.sc (.int .i64 a0_8),.sc (.int .u64 a0_9),.sc (.int .i64 Ci),.lst false 1 Bx (List.take (Bx*1) (List.drop 0 Fc)),.lst false 1 Cg (List.take (Cg*1) (List.drop 0 Hg))],.sc (.int .i64 0)] [])))) (Ae C0 Tryz.prog fu d):=by kernel_rfl
abbrev Mj:FuncId:=22
theorem Wg (fu d:Nat)(a0_0 a0_1:ByteArray)(a0_2 a0_3:Int)(a0_4 a0_5 a0_6:Int)(a0_7:Bool)(a0_8 a0_9 a0_10:Int)(a0_11n:Nat)(a0_11:List PV)(a0_12n:Nat)(a0_12:List PV)(a1_0 a1_1:Int):Ae C0 Tryz.prog fu (d+1) Mj [.agg [.sc (.string a0_0),.sc (.string a0_1),.sc (.int .u64 a0_2),.sc (.int .i64 a0_3),.sc (.int .u64 a0_4),.sc (.int .i64 a0_5),.sc (.int .i64 a0_6),.sc (.bool a0_7),.sc (.int .i64 a0_8),.sc (.int .u64 a0_9),.sc (.int .i64 a0_10),.lst false 1 a0_11n a0_11,.lst false 1 a0_12n a0_12],.agg [.sc (.int .i64 a1_0),.sc (.int .u64 a1_1)]]=(fun (call:Am)=>Ag (call 45 [.agg [.sc (.string a0_0),.sc (.string a0_1),.sc (.int .u64 a0_2),.sc (.int .i64 a0_3),.sc (.int .u64 a0_4),.sc (.int .i64 a0_5),.sc (.int .i64 a0_6),.sc (.bool a0_7),.sc (.int .i64 a0_8),.sc (.int .u64 a0_9),.sc (.int .i64 a0_10),.lst false 1 a0_11n a0_11,.lst false 1 a0_12n a0_12]]) fun x1 x2=>Ac x2<|Ab x1 fun x3 x4=>Dk 1 x3 fun x5 x6=>Ab x4 fun x7 x8=>Af .i64 x7 fun x9=>Ac x8<|A4 (x9 != 0) (some (Ay.mk [.sc (.int .i64 x9)] [])) (Aq (decide (0+x5*1<=List.length x6))<|Ag (call 46 [.sc (.int .i64 14),.lst false 1 x5 (List.take (x5*1) (List.drop 0 x6))]) fun Cd Bp=>Ac Bp<|Ab Cd fun C4 Da=>Af .u64 C4 fun Cq=>Ac Da<|Ag (call 19 [.agg [.sc (.int .i64 a1_0),.sc (.int .u64 a1_1)],.sc (.int .u64 Cq),.agg [.sc (.int .i64 a0_10),.lst false 1 a0_11n a0_11,.lst false 1 a0_12n a0_12]]) fun C9 Do=>Ac Do<|Ab C9 fun Du D5=>Af .i64 Du fun D7=>Ac D5<|some (Ay.mk [.sc (.int .i64 D7)] []))) (Ae C0 Tryz.prog fu d):=by kernel_rfl
abbrev Me:FuncId:=44
theorem Wl (fu d:Nat)(a0_0 a0_1:ByteArray)(a0_2 a0_3:Int)(a0_4 a0_5 a0_6:Int)(a0_7:Bool)(a0_8 a0_9 a0_10:Int)(a0_11n:Nat)(a0_11:List PV)(a0_12n:Nat)(a0_12:List PV):Ae C0 Tryz.prog fu (d+1) Me [.agg [.sc (.string a0_0),.sc (.string a0_1),.sc (.int .u64 a0_2),.sc (.int .i64 a0_3),.sc (.int .u64 a0_4),.sc (.int .i64 a0_5),.sc (.int .i64 a0_6),.sc (.bool a0_7),.sc (.int .i64 a0_8),.sc (.int .u64 a0_9),.sc (.int .i64 a0_10),.lst false 1 a0_11n a0_11,.lst false 1 a0_12n a0_12]]=(fun (call:Am)=>Ag (call 45 [.agg [.sc (.string a0_0),.sc (.string a0_1),.sc (.int .u64 a0_2),.sc (.int .i64 a0_3),.sc (.int .u64 a0_4),.sc (.int .i64 a0_5),.sc (.int .i64 a0_6),.sc (.bool a0_7),.sc (.int .i64 a0_8),.sc (.int .u64 a0_9),.sc (.int .i64 a0_10),.lst false 1 a0_11n a0_11,.lst false 1 a0_12n a0_12]]) fun x1 x2=>Ac x2<|Ab x1 fun x3 x4=>Dk 1 x3 fun x5 x6=>Ab x4 fun x7 x8=>Af .i64 x7 fun x9=>Ac x8<|A4 (x9 != 0) (some (Ay.mk [.own 1 0 [],.sc (.int .i64 x9)] [])) (Ag (call 18 [.agg [.sc (.int .i64 a0_10),.lst false 1 a0_11n a0_11,.lst false 1 a0_12n a0_12]]) fun Cd Bp=>Ac Bp<|Ab Cd fun C4 Da=>Dk 1 C4 fun Cq C9=>Ab Da fun Do Du=>Af .i64 Do fun D5=>Ac Du<|A4 (D5 != 0) (some (Ay.mk [.own 1 0 [],.sc (.int .i64 D5)] [])) (Aq (decide (0+Cq*1<=List.length C9))<|Aq (decide (x5*1<=List.length x6)&&decide (List.length (List.take (Cq*1) (List.drop 0 C9))=Cq*1)&&decide ((x5+Cq)*1<=1099511627776)&&decide (x5+Cq<=1099511627776))<|Aa (x5+Cq) fun D7=>Aa (List.take (x5*1) x6++List.take (Cq*1) (List.drop 0 C9)) fun Eh=>Aq (decide (D7*1<=List.length Eh))<|some (Ay.mk [.own 1 D7 (List.take (D7*1) Eh),.sc (.int .i64 0)] [])))) (Ae C0 Tryz.prog fu d):=by kernel_rfl
abbrev H1:FuncId:=21
theorem We (fu d a0n:Nat)(a0:List PV):Ae C0 Tryz.prog fu (d+1) H1 [.lst false 1 a0n a0]=(fun (call:Am)=>A4 (decide ((↑a0n:Int)>512)) (some (Ay.mk [.agg [.sc (.string (ByteArray.mk #[])),.sc (.string (ByteArray.mk #[])),.sc (.int .u64 0),.sc (.int .i64 0),.sc (.int .u64 0),.sc (.int .i64 0),.sc (.int .i64 0),.sc (.bool false),.sc (.int .i64 0),.sc (.int .u64 0),.sc (.int .i64 0),.lst false 1 0 [],.lst false 1 0 []],.sc (.int .i64 8)] [])) (Ag (call 41 [.lst false 1 a0n a0]) fun x1 x2=>Ac x2<|Ab x1 fun x3 x4=>Dk 3 x3 fun x5 x6=>Ab x4 fun x7 x8=>Af .i64 x7 fun x9=>Ab x8 fun Cd Bp=>Af .i64 Cd fun C4=>Ac Bp<|A4 (C4 != 0) (some (Ay.mk [.agg [.sc (.string (ByteArray.mk #[])),.sc (.string (ByteArray.mk #[])),.sc (.int .u64 0),.sc (.int .i64 0),.sc (.int .u64 0),.sc (.int .i64 0),.sc (.int .i64 0),.sc (.bool false),.sc (.int .i64 0),.sc (.int .u64 0),.sc (.int .i64 0),.lst false 1 0 [],.lst false 1 0 []],.sc (.int .i64 2)] [])) (A4 ((↑x5:Int) != 10) (some (Ay.mk [.agg [.sc (.string (ByteArray.mk #[])),.sc (.string (ByteArray.mk #[])),.sc (.int .u64 0),.sc (.int .i64 0),.sc (.int .u64 0),.sc (.int .i64 0),.sc (.int .i64 0),.sc (.bool false),.sc (.int .i64 0),.sc (.int .u64 0),.sc (.int .i64 0),.lst false 1 0 [],.lst false 1 0 []],.sc (.int .i64 2)] [])) (Aq (decide (0<(↑x5:Int)))<|Af .i64 (List.getD x6 0 .top) fun Da=>Af .u64 (List.getD x6 1 .top) fun Cq=>Cn (List.getD x6 2 .top) fun C9=>Ag (call 42 [.sc (.int .i64 9)]) fun Do Du=>Ac Du<|Ab Do fun D5 D7=>Cu D5 fun Eh=>Ab Eh fun Fy Ci=>Af .i64 Fy fun Fn=>Ab Ci fun Ds Bx=>Af .u64 Ds fun Fc=>Ab Bx fun Ft Bk=>Cn Ft fun Cg=>Ac Bk<|Ac D7<|A4 (!(Da==Fn&&(Cq==Fc&&(C9==Cg&&true)))) (some (Ay.mk [.agg [.sc (.string (ByteArray.mk #[])),.sc (.string (ByteArray.mk #[])),.sc (.int .u64 0),.sc (.int .i64 0),.sc (.int .u64 0),.sc (.int .i64 0),.sc (.int .i64 0),.sc (.bool false),.sc (.int .i64 0),.sc (.int .u64 0),.sc (.int .i64 0),.lst false 1 0 [],.lst false 1 0 []],.sc (.int .i64 2)] [])) (Aq (decide (4<(↑x5:Int)))<|Cn (List.getD x6 14 .top) fun Hg=>Aq (decide (ByteArray.size Hg<=1099511627776))<|Aq (decide (0+ByteArray.size Hg*1<=List.length (Co Hg)))<|Ag (call 43 [.lst false 1 (ByteArray.size Hg) (List.take (ByteArray.size Hg*1) (List.drop 0 (Co Hg)))]) fun Gf Ie=>Ac Ie<|Ab Gf fun H0 Jn=>Cu H0 fun Gt=>Ab Gt fun Ix M5=>Af .i64 Ix fun F0=>Ab M5 fun H5 Rh=>Af .u64 H5 fun R6=>Ac Rh<|Ab Jn fun L6 Rl=>Af .i64 L6 fun Pu=>Ac Rl<|A4 (Pu != 0) (some (Ay.mk [.agg [.sc (.string (ByteArray.mk #[])),.sc (.string (ByteArray.mk #[])),.sc (.int .u64 0),.sc (.int .i64 0),.sc (.int .u64 0),.sc (.int .i64 0),.sc (.int .i64 0),.sc (.bool false),.sc (.int .i64 0),.sc (.int .u64 0),.sc (.int .i64 0),.lst false 1 0 [],.lst false 1 0 []],.sc (.int .i64 2)] [])) (Aq (decide (0<=x9))<|Aq (decide (Int.toNat x9<=a0n)&&decide (a0n<=a0n))<|Aa (a0n-Int.toNat x9) fun Lx=>Aa (List.take (Lx*1) (List.drop (Int.toNat x9*1) a0)) fun Q6=>Ag (call 32 [.lst false 1 Lx Q6]) fun Rj Oc=>Ac Oc<|Ab Rj fun Pw Sd=>Cu Pw fun Pq=>Ab Pq fun Rx Lz=>Af .i64 Rx fun Py=>Ab Lz fun Rr Ts=>Dk 1 Rr fun Pi Q9=>Ab Ts fun S5 Uv=>Dk 1 S5 fun Oe Ro=>Ac Uv<|Ab Sd fun V9 Uq=>Af .i64 V9 fun Q7=>Ac Uq<|A4 (Q7 != 0) (some (Ay.mk [.agg [.sc (.string (ByteArray.mk #[])),.sc (.string (ByteArray.mk #[])),.sc (.int .u64 0),.sc (.int .i64 0),.sc (.int .u64 0),.sc (.int .i64 0),.sc (.int .i64 0),.sc (.bool false),.sc (.int .i64 0),.sc (.int .u64 0),.sc (.int .i64 0),.lst false 1 0 [],.lst false 1 0 []],.sc (.int .i64 2)] [])) (Aq (decide (5<(↑x5:Int)))<|Af .u64 (List.getD x6 16 .top) fun S6=>A4 (decide (S6>1099511627776)) (some (Ay.mk [.agg [.sc (.string (ByteArray.mk #[])),.sc (.string (ByteArray.mk #[])),.sc (.int .u64 0),.sc (.int .i64 0),.sc (.int .u64 0),.sc (.int .i64 0),.sc (.int .i64 0),.sc (.bool false),.sc (.int .i64 0),.sc (.int .u64 0),.sc (.int .i64 0),.lst false 1 0 [],.lst false 1 0 []],.sc (.int .i64 2)] [])) (Aq (decide (6<(↑x5:Int)))<|Af .u64 (List.getD x6 19 .top) fun S1=>A4 (decide (S1>1099511627776)) (some (Ay.mk [.agg [.sc (.string (ByteArray.mk #[])),.sc (.string (ByteArray.mk #[])),.sc (.int .u64 0),.sc (.int .i64 0),.sc (.int .u64 0),.sc (.int .i64 0),.sc (.int .i64 0),.sc (.bool false),.sc (.int .i64 0),.sc (.int .u64 0),.sc (.int .i64 0),.lst false 1 0 [],.lst false 1 0 []],.sc (.int .i64 2)] [])) (Aq (decide (8<(↑x5:Int)))<|Af .u64 (List.getD x6 25 .top) fun Ty=>A4 (decide (Ty>2)) (some (Ay.mk [.agg [.sc (.string (ByteArray.mk #[])),.sc (.string (ByteArray.mk #[])),.sc (.int .u64 0),.sc (.int .i64 0),.sc (.int .u64 0),.sc (.int .i64 0),.sc (.int .i64 0),.sc (.bool false),.sc (.int .i64 0),.sc (.int .u64 0),.sc (.int .i64 0),.lst false 1 0 [],.lst false 1 0 []],.sc (.int .i64 2)] [])) (Aq (decide (1<(↑x5:Int)))<|Cn (List.getD x6 5 .top) fun Up=>Aq (decide (2<(↑x5:Int)))<|Cn (List.getD x6 8 .top) fun Us=>Aq (decide (3<(↑x5:Int)))<|Af .u64 (List.getD x6 10 .top) fun Q8=>Aq (decide (5<(↑x5:Int)))<|Af .u64 (List.getD x6 16 .top) fun Ws=>Aa (IntKind.wrap .i64 Ws) fun Wj=>Aq (decide (6<(↑x5:Int)))<|Af .u64 (List.getD x6 19 .top) fun Ur=>Aa (IntKind.wrap .i64 Ur) fun V1=>Aq (decide (7<(↑x5:Int)))<|Af .u64 (List.getD x6 22 .top) fun Wu=>Aq (decide (8<(↑x5:Int)))<|Af .u64 (List.getD x6 25 .top) fun V7=>Aa (IntKind.wrap .i64 V7) fun Wt=>Aq (decide (9<(↑x5:Int)))<|Af .u64 (List.getD x6 28 .top) fun Za=>Aq (decide (0+Pi*1<=List.length Q9))<|Aq (decide (0+Oe*1<=List.length Ro))<|Ag (call 44 [.agg [.sc (.string Up),.sc (.string Us),.sc (.int .u64 Q8),.sc (.int .i64 F0),.sc (.int .u64 R6),.sc (.int .i64 Wj),.sc (.int .i64 V1),.sc (.bool (Wu==1)),.sc (.int .i64 Wt),.sc (.int .u64 Za),.sc (.int .i64 Py),.lst false 1 Pi (List.take (Pi*1) (List.drop 0 Q9)),.lst false 1 Oe (List.take (Oe*1) (List.drop 0 Ro))]]) fun x80 x81=>Ac x81<|Ab x80 fun x82 x83=>Dk 1 x82 fun Z9 x85=>Ab x83 fun x86 x87=>Af .i64 x86 fun Rm=>Ac x87<|A4 (Rm != 0) (some (Ay.mk [.agg [.sc (.string (ByteArray.mk #[])),.sc (.string (ByteArray.mk #[])),.sc (.int .u64 0),.sc (.int .i64 0),.sc (.int .u64 0),.sc (.int .i64 0),.sc (.int .i64 0),.sc (.bool false),.sc (.int .i64 0),.sc (.int .u64 0),.sc (.int .i64 0),.lst false 1 0 [],.lst false 1 0 []],.sc (.int .i64 2)] [])) (Aq (decide (0+Z9*1<=List.length x85))<|Aq (decide (List.length (List.take (Z9*1) (List.drop 0 x85))=Z9))<|Ez (bytesOf (List.take (Z9*1) (List.drop 0 x85))) fun S9=>Aq (decide (List.length a0=a0n))<|Ez (bytesOf a0) fun Vx=>A4 (!Array.toList (ByteArray.data (ByteArray.mk (List.toArray S9)))==Array.toList (ByteArray.data (ByteArray.mk (List.toArray Vx)))) (some (Ay.mk [.agg [.sc (.string (ByteArray.mk #[])),.sc (.string (ByteArray.mk #[])),.sc (.int .u64 0),.sc (.int .i64 0),.sc (.int .u64 0),.sc (.int .i64 0),.sc (.int .i64 0),.sc (.bool false),.sc (.int .i64 0),.sc (.int .u64 0),.sc (.int .i64 0),.lst false 1 0 [],.lst false 1 0 []],.sc (.int .i64 2)] [])) (Aq (decide (0+Pi*1<=List.length Q9))<|Aq (decide (0+Oe*1<=List.length Ro))<|some (Ay.mk [.agg [.sc (.string Up),.sc (.string Us),.sc (.int .u64 Q8),.sc (.int .i64 F0),.sc (.int .u64 R6),.sc (.int .i64 Wj),.sc (.int .i64 V1),.sc (.bool (Wu==1)),.sc (.int .i64 Wt),.sc (.int .u64 Za),.sc (.int .i64 Py),.lst false 1 Pi (List.take (Pi*1) (List.drop 0 Q9)),.lst false 1 Oe (List.take (Oe*1) (List.drop 0 Ro))],.sc (.int .i64 0)] []))))))))))))) (Ae C0 Tryz.prog fu d):=by kernel_rfl
end
section
def Tl (x:It):List Int:=
 if x.k=7 then [IntKind.wrap .u8 (244+IntKind.wrap .u8 x.n)] else if x.k=8 then [246] else if x.k=3 then Dj 2 x.s.size else if x.k=4 then Dj 3 x.s.size else Dj (x.k-1) x.n
def It.dat (x:It):Prop:=x.k=3∨x.k=4∨Bv x.s=[]
theorem Ayz {x:It}(h:x.dat):Br x=Tl x++Bv x.s:=by
 unfold Br Tl;by_cases c7:x.k=7
 ·rcases h with h|h|h
  ·omega
  ·omega
  ·simp [c7,h]
 ·by_cases c8:x.k=8
  ·rcases h with h|h|h
   ·omega
   ·omega
   ·simp [c8,h]
  ·by_cases c3:x.k=3
   ·simp [c3]
   ·by_cases c4:x.k=4
    ·simp [c4]
    ·rcases h with h|h|h
     ·omega
     ·omega
     ·simp [c7,c8,c3,c4,h]
theorem Axc (x:It):(Tl x).length<=9:=by
 have h2:=Hy 2 x.s.size;have h3:=Hy 3 x.s.size;have h4:=Hy (x.k-1) x.n;unfold Tl
 repeat' split
 all_goals try simp only [Iw,Y6]
 all_goals omega
theorem Az6 (v:Int):Eg .u64 v 0=v:=by
 show v.fdiv (2 ^ (min (0:Int).toNat IntKind.u64.bits))=v;have:(2:Int) ^ (min (0:Int).toNat IntKind.u64.bits)=1:=by decide
 rw [this,Int.fdiv_one]
theorem tb1 (v:Int):tb v 1=[IntKind.wrap .u8 v]:=by
 show [IntKind.wrap .u8 (Eg .u64 v (56-8*((7:Nat):Int)))]=_;rw [show (56:Int)-8*((7:Nat):Int)=0 by omega,Az6]
theorem tb2 (v:Int):tb v 2=[IntKind.wrap .u8 (Eg .u64 v 8),IntKind.wrap .u8 v]:=by
 show [IntKind.wrap .u8 (Eg .u64 v (56-8*((6:Nat):Int))),IntKind.wrap .u8 (Eg .u64 v (56-8*((7:Nat):Int)))]=_;rw [show (56:Int)-8*((7:Nat):Int)=0 by omega,show (56:Int)-8*((6:Nat):Int)=8 by omega,Az6]
theorem tb4 (v:Int):tb v 4=[IntKind.wrap .u8 (Eg .u64 v 24),IntKind.wrap .u8 (Eg .u64 v 16),IntKind.wrap .u8 (Eg .u64 v 8),IntKind.wrap .u8 v]:=by
 show [IntKind.wrap .u8 (Eg .u64 v (56-8*((4:Nat):Int))),IntKind.wrap .u8 (Eg .u64 v (56-8*((5:Nat):Int))),IntKind.wrap .u8 (Eg .u64 v (56-8*((6:Nat):Int))),IntKind.wrap .u8 (Eg .u64 v (56-8*((7:Nat):Int)))]=_;rw [show (56:Int)-8*((7:Nat):Int)=0 by omega,show (56:Int)-8*((6:Nat):Int)=8 by omega,show (56:Int)-8*((5:Nat):Int)=16 by omega,show (56:Int)-8*((4:Nat):Int)=24 by omega,Az6]
theorem tb8 (v:Int):tb v 8=Ca v:=rfl
section
variable {fu d:Nat}
theorem Az5 (hfu:1000<=fu){k n:Int}{s:ByteArray}{nn:Nat}(hn:0<nn){mj v:Int}(h0:0<=mj)(h1:mj<=5)(hv:0<=v):
  Dn fu (Ae C0 Tryz.prog fu (d+1)) k n s nn v (32*mj)=some ⟨[.own 1 (Dj mj v).length (Ah .u8 (Dj mj v))],[]⟩:=by
 rw [Wf (hnn:=hn)];have w24:IntKind.wrap .u8 (32*mj+24)=32*mj+24:=F7 (by omega) (by omega)
 have w25:IntKind.wrap .u8 (32*mj+25)=32*mj+25:=F7 (by omega) (by omega)
 have w26:IntKind.wrap .u8 (32*mj+26)=32*mj+26:=F7 (by omega) (by omega)
 have w27:IntKind.wrap .u8 (32*mj+27)=32*mj+27:=F7 (by omega) (by omega)
 unfold Dj;by_cases c1:v<24
 ·have wn:IntKind.wrap .u8 v=v:=F7 (by omega) (by omega)
  have ws:IntKind.wrap .u8 (32*mj+v)=32*mj+v:=F7 (by omega) (by omega)
  rw [Bm c1];simp (disch:=omega) only [B3,wn,ws];rfl
 ·by_cases c2:v<256
  ·rw [A0 c1,Bm c2,tb1];simp (disch:=omega) only [B3,w24];rfl
  ·by_cases c3:v<65536
   ·rw [A0 c1,A0 c2,Bm c3,tb2];simp (disch:=omega) only [B3,w25];rfl
   ·by_cases c4:v<4294967296
    ·rw [A0 c1,A0 c2,A0 c3,Bm c4,tb4];simp (disch:=omega) only [B3,w26];rfl
    ·have wd:=Aua (fu:=fu) (d:=d) hfu v;have L:=Al .u8 (Ca v);rw [Cw] at L;have t8:List.take 8 (Ah .u8 (Ca v))=Ah .u8 (Ca v):=Iv (by omega)
     have eC:[PV.sc (.int .u8 (32*mj+27))]++Ah .u8 (Ca v)=Ah .u8 ((32*mj+27)::Ca v):=rfl;have L9:(Ah .u8 ((32*mj+27)::Ca v)).length=9:=by rw [Al,Iw,Cw]
     have t9:List.take 9 (Ah .u8 ((32*mj+27)::Ca v))=Ah .u8 ((32*mj+27)::Ca v):=Iv (by omega)
     rw [A0 c1,A0 c2,A0 c3,A0 c4,tb8,Iw,Cw];simp (disch:=omega) only [B3,w27,wd,Bj,Bw,Cf,L,t8,eC,Nat.reduceAdd,L9,t9]
theorem A2d (hfu:1000<=fu){x:It}(hx:x.ok):Ae C0 Tryz.prog fu (d+2) Qn [.agg x.cells]=some ⟨[.own 1 (Tl x).length (Ah .u8 (Tl x))],[]⟩:=by
 obtain ⟨k,n,s⟩:=x;obtain ⟨k1,k8,n0,s0⟩:=hx;simp only at k1 k8 n0 s0;refine (Abm fu (d+1) k n s).trans ?_;have wsz:IntKind.wrap .u64 (s.size:Int)=s.size:=B6 (by omega) (by omega)
 have J:=fun (mj v:Int) (h0:0<=mj) (h1:mj<=5) (hv:0<=v)=>Az5 (fu:=fu) (d:=d) hfu (k:=k) (n:=n) (s:=s) (nn:=fu) (by omega) h0 h1 hv
 have j0:=J 0 n (by omega) (by omega) n0
 have j1:=J 1 n (by omega) (by omega) n0
 have j2:=J 2 s.size (by omega) (by omega) (by omega)
 have j3:=J 3 s.size (by omega) (by omega) (by omega)
 have j4:=J 4 n (by omega) (by omega) n0
 have j5:=J 5 n (by omega) (by omega) n0
 rw [show (32:Int)*0=0 by omega] at j0
 rw [show (32:Int)*1=32 by omega] at j1
 rw [show (32:Int)*2=64 by omega] at j2
 rw [show (32:Int)*3=96 by omega] at j3
 rw [show (32:Int)*4=128 by omega] at j4
 rw [show (32:Int)*5=160 by omega] at j5
 unfold Tl;simp only;have:k=1∨k=2∨k=3∨k=4∨k=5∨k=6∨k=7∨k=8:=by omega
 rcases this with rfl|rfl|rfl|rfl|rfl|rfl|rfl|rfl
 ·simp only [B3,Fd,Int.reduceEq,if_true,if_false,Int.reduceSub,j0]
 ·simp only [B3,Fd,Int.reduceEq,if_true,if_false,Int.reduceSub,j1]
 ·simp only [B3,Fd,Int.reduceEq,if_true,if_false,Int.reduceSub,wsz,j2]
 ·simp only [B3,Fd,Int.reduceEq,if_true,if_false,Int.reduceSub,wsz,j3]
 ·simp only [B3,Fd,Int.reduceEq,if_true,if_false,Int.reduceSub,j4]
 ·simp only [B3,Fd,Int.reduceEq,if_true,if_false,Int.reduceSub,j5]
 ·simp only [B3,Fd,Int.reduceEq,if_true,if_false];rfl
 ·simp only [B3,Fd,Int.reduceEq,if_true,if_false];rfl
theorem Y4 (hfu:1000<=fu){x:It}(hx:x.ok)(hd:x.dat):Ae C0 Tryz.prog fu (d+3) Pa [.agg x.cells]=some ⟨[.sc (.string (Bl (Br x)))],[]⟩:=by
 refine (Zz fu (d+2) x.k x.n x.s).trans ?_;have hr:=A2d (fu:=fu) (d:=d) hfu hx;have L:=Al .u8 (Tl x);have l9:=Axc x;have bo:=Fk (Tl x);have eA:ByteArray.mk (List.map (fun n:Int=>n.toNat.toUInt8) (Tl x)).toArray=Bl (Tl x):=rfl
 have sz:=Er (Tl x);have s0:=hx.s0;have ap:Bl (Tl x)++x.s=Bl (Br x):=by rw [Asl,Ayz hd]
 simp only [It.cells] at hr;simp (disch:=omega) only [B3,hr,Bj,Bw,Cf,Gs,L,bo,eA,sz,ap]
def Bn (its:List It):List PV:=its.flatMap It.cells
theorem It.cells_len (x:It):x.cells.length=3:=rfl
def Bc (its:List It):List Int:=its.flatMap Br
theorem Agz {a0n:Nat}{a0:List PV}{its:List It}(hk:∀x∈its,x.ok∧x.dat)(hl:its.length<=1000)(hfu:1000<=fu):∀(r:List It)(i nn:Nat)(b:List Int),its.drop i=r->r.length<nn->b.length+500010*r.length<=1000000000 ->
  F9 fu (Ae C0 Tryz.prog fu (d+3)) a0n a0 nn its.length (Bn its) b.length i (Ah .u8 b)=some ⟨[.own 1 (b++Bc r).length (Ah .u8 (b++Bc r))],[]⟩
 |_,_,0,_,_,h,_=>by omega
 |[],i,nn+1,b,h,hn,hb=>by
  have:=drop_nil h;have L:=Al .u8 b;rw [Kj,Dw _ _ _ (by omega)]
  simp (disch:=omega) only [B3,Bj,Gs,L];simp [Bc]
 |x::r,i,nn+1,b,h,hn,hb=>by
  obtain ⟨h1,h2,h3⟩:=Ct h;simp only [Iw] at hn hb;obtain ⟨ok,dt⟩:=hk x (List.mem_of_getElem? h2);have hil:=Hi x;have hs0:=ok.s0;have g0:(Bn its).getD (i*3) .top=.sc (.int .i64 x.k):=Ep It.cells_len h2 (j:=0) (by omega)
  have g1:(Bn its).getD (i*3+1) .top=.sc (.int .u64 x.n):=Ep It.cells_len h2 (j:=1) (by omega)
  have g2:(Bn its).getD (i*3+1+1) .top=.sc (.string x.s):=Ep It.cells_len h2 (j:=2) (by omega)
  have by_:=Y4 (fu:=fu) (d:=d) hfu ok dt;simp only [It.cells] at by_;have ih:=Agz (a0n:=a0n) (a0:=a0) hk hl hfu r (i+1) nn (b++Br x) h3 (by omega) (by rw [Hz];omega)
  have w:IntKind.wrap .i64 ((i:Int)+1)=((i+1:Nat):Int):=by rw [Ap (by omega) (by omega)];omega
  have L:=Al .u8 b;have hB:=Av6 ok.k1 ok.k8 ok.n0;have sc:Co (Bl (Br x))=Ah .u8 (Br x):=by rw [Fh,Ks hB]
  have sz:=Er (Br x);have Li:=Al .u8 (Br x);have ea:Ah .u8 b++Ah .u8 (Br x)=Ah .u8 (b++Br x):=by rw [Ah,Ah,Ah,List.flatMap_append]
  have ei:Bc (x::r)=Br x++Bc r:=rfl;rw [ei,←Zzv,←ih,Kj];simp (disch:=omega) only [B3,Hr,g0,g1,g2,by_,sc,sz,Li,Bj,Gs,L,ea,w,Hz]
theorem Ayp {its:List It}(hk:∀x∈its,x.ok∧x.dat)(hl:its.length<=900)(hfu:1000<=fu):Ae C0 Tryz.prog fu (d+4) Nj [.lst false 3 its.length (Bn its)]=some ⟨[.own 1 (Bc its).length (Ah .u8 (Bc its))],[]⟩:=by
 rw [W2];exact Agz (fu:=fu) (d:=d) (a0n:=its.length) (a0:=Bn its) hk (by omega) hfu its 0 fu [] rfl (by omega) (by simp;omega)
end
end
section
structure Ce where
 subj:ByteArray
 iss:ByteArray
 serial:Int
 key:Ky
 fr:Int
 un:Int
 auth:Bool
 path:Int
 model:Int
 sig:Sg
def Ce.cells (c:Ce):List PV:=[.sc (.string c.subj),.sc (.string c.iss),.sc (.int .u64 c.serial),.sc (.int .i64 c.key.h),.sc (.int .u64 c.key.root),.sc (.int .i64 c.fr),.sc (.int .i64 c.un),.sc (.bool c.auth),.sc (.int .i64 c.path),.sc (.int .u64 c.model),.sc (.int .i64 c.sig.leaf),.lst false 1 c.sig.chains.length (Ah .u64 c.sig.chains),.lst false 1 c.sig.path.length (Ah .u64 c.sig.path)]
abbrev okS (s:ByteArray):Bool:=Lib.validD s.data.toList
abbrev Cy:ByteArray:=⟨#[]⟩
def Bf (c:Ce):Int:=
 if c.subj.size<1∨32<c.subj.size then 9 else if c.iss.size<1∨32<c.iss.size then 9 else if okS c.subj=false then 6 else if okS c.iss=false then 6 else
 if Dd c.key.h=true then 9 else if c.fr<0 then 9 else if c.un<c.fr then 9 else if c.un>1099511627776 then 9 else if c.path<0∨2<c.path then 9 else if c.path≠0∧c.auth=false then 4 else 0
def Ba (c:Ce):List It:=[⟨5,9,Cy⟩,⟨4,0,c.subj⟩,⟨4,0,c.iss⟩,⟨1,c.serial,Cy⟩,⟨3,0,Bl (Gl c.key)⟩,⟨1,c.fr,Cy⟩,⟨1,c.un,Cy⟩,⟨7,(if c.auth=true then 1 else 0),Cy⟩,⟨1,c.path,Cy⟩,⟨1,c.model,Cy⟩]
structure Ce.wf (c:Ce):Prop where
 ser:0<=c.serial
 mod:0<=c.model
def Gx (c:Ce):List PV:=if Bf c=0 then [.own 1 (Bc (Ba c)).length (Ah .u8 (Bc (Ba c))),.sc (.int .i64 0)] else [.own 1 0 [],.sc (.int .i64 (Bf c))]
theorem Acb {c:Ce}(hw:c.wf)(h:Bf c=0):∀x∈Ba c,x.ok∧x.dat:=by
 unfold Bf at h;have kl:(Bl (Gl c.key)).size=9:=by rw [Er];rfl
 have ns:Cy.size=0:=rfl;have hs:=hw.ser;have hm:=hw.mod
 repeat' (split at h;· cases h)
 intro x hx;simp only [Ba,List.mem_cons,List.not_mem_nil,or_false] at hx;rcases hx with rfl|rfl|rfl|rfl|rfl|rfl|rfl|rfl|rfl|rfl
 ·exact ⟨⟨by simp,by simp,by simp,by simp [ns]⟩,.inr (.inr rfl)⟩
 ·exact ⟨⟨by simp,by simp,by simp,by simp only;omega⟩,.inr (.inl rfl)⟩
 ·exact ⟨⟨by simp,by simp,by simp,by simp only;omega⟩,.inr (.inl rfl)⟩
 ·exact ⟨⟨by simp,by simp,hs,by simp [ns]⟩,.inr (.inr rfl)⟩
 ·exact ⟨⟨by simp,by simp,by simp,by simp only [kl];omega⟩,.inl rfl⟩
 ·exact ⟨⟨by simp,by simp,by simp only;omega,by simp [ns]⟩,.inr (.inr rfl)⟩
 ·exact ⟨⟨by simp,by simp,by simp only;omega,by simp [ns]⟩,.inr (.inr rfl)⟩
 ·exact ⟨⟨by simp,by simp,by simp only;split<;>omega,by simp [ns]⟩,.inr (.inr rfl)⟩
 ·exact ⟨⟨by simp,by simp,by simp only;omega,by simp [ns]⟩,.inr (.inr rfl)⟩
 ·exact ⟨⟨by simp,by simp,hm,by simp [ns]⟩,.inr (.inr rfl)⟩
section
variable {fu d:Nat}
theorem Kv (s:ByteArray)(h:s.size<=9223372036854775807):Ae C0 Tryz.prog fu (d+1) 67 [.sc (.string s)]=some ⟨[.sc (.bool (okS s))],[]⟩:=by
 show Ajp [.sc (.string s)]=_;unfold Ajp;simp [h]
theorem Afw (n lo hi:Int):Ae C0 Tryz.prog fu (d+1) Mk [.sc (.int .i64 n),.sc (.int .i64 lo),.sc (.int .i64 hi)]=some ⟨[.sc (.bool (decide (lo<=n)&&decide (n<=hi)))],[]⟩:=by
 rw [Wa];by_cases h:lo<=n
 ·simp (disch:=omega) only [B3,h,decide_true,Zzm]
 ·simp (disch:=omega) only [B3,h,decide_false,Bool.false_and]
theorem Ame (n:Int)(h0:0<=n)(h1:n<=1000):Ae C0 Tryz.prog fu (d+1) Nr [.sc (.int .i64 n)]=some ⟨[.agg [.sc (.int .i64 5),.sc (.int .u64 n),.sc (.string Cy)]],[]⟩:=by
 rw [X3];have w:IntKind.wrap .u64 n=n:=B6 (by omega) (by omega)
 simp only [B3,w]
theorem Ard (s:ByteArray):Ae C0 Tryz.prog fu (d+1) Oy [.sc (.string s)]=some ⟨[.agg [.sc (.int .i64 4),.sc (.int .u64 0),.sc (.string s)]],[]⟩:=by
 rw [Zd]
theorem Aum (n:Int):Ae C0 Tryz.prog fu (d+1) Mb [.sc (.int .u64 n)]=some ⟨[.agg [.sc (.int .i64 1),.sc (.int .u64 n),.sc (.string Cy)]],[]⟩:=by
 rw [Wk]
theorem A2c (l:List Int):Ae C0 Tryz.prog fu (d+1) Oq [.lst false 1 l.length (Ah .u8 l)]=some ⟨[.agg [.sc (.int .i64 3),.sc (.int .u64 0),.sc (.string (Bl l))]],[]⟩:=by
 rw [Zb];have L:=Al .u8 l;have bo:=Fk l;simp (disch:=omega) only [B3,L,bo];rfl
theorem Aqm (b:Bool):Ae C0 Tryz.prog fu (d+1) Lu [.sc (.bool b)]=some ⟨[.agg [.sc (.int .i64 7),.sc (.int .u64 (if b=true then 1 else 0)),.sc (.string Cy)]],[]⟩:=by
 rw [Uu];cases b<;>rfl
theorem Aj0 (hfu:1000<=fu){c:Ce}(hw:c.wf)(hs1:c.subj.size<=9223372036854775807)(hs2:c.iss.size<=9223372036854775807):Ae C0 Tryz.prog fu (d+5) O7 [.agg c.cells]=some ⟨Gx c,[]⟩:=by
 refine (Z5 fu (d+4) c.subj c.iss c.serial c.key.h c.key.root c.fr c.un c.auth c.path c.model c.sig.leaf c.sig.chains.length (Ah .u64 c.sig.chains) c.sig.path.length (Ah .u64 c.sig.path)).trans ?_;have n1:=Afw (fu:=fu) (d:=d+3) c.subj.size 1 32;have n2:=Afw (fu:=fu) (d:=d+3) c.iss.size 1 32;have n3:=Afw (fu:=fu) (d:=d+3) c.path 0 2;have v1:=Kv (fu:=fu) (d:=d+3) c.subj hs1;have v2:=Kv (fu:=fu) (d:=d+3) c.iss hs2;have ek:=Abs (fu:=fu) (d:=d+2) hfu c.key;have e90:((9:Int) != 0)=true:=rfl;have e00:((0:Int) != 0)=false:=rfl;simp only [Ky.cells] at ek;unfold Gx;by_cases e1:c.subj.size<1∨32<c.subj.size
 ·have hb:Bf c=9:=by unfold Bf;rw [Bm e1]
  have:(decide ((1:Int)<=c.subj.size)&&decide ((c.subj.size:Int)<=32))=false:=by simp;omega
  rw [this] at n1;rw [hb,A0 (by omega)]
  try unfold Aa
  repeat first
   |((with_reducible first|apply At|apply Aj|apply As|apply Ax|apply Az|apply A5|apply Bb|apply B9|apply Ai);· first|with_reducible rfl|(simp (disch:=omega) only [n1,Int.reduceEq,Bs,B4]<;>with_reducible rfl))
   |((with_reducible first|apply Ar|apply Au);· first|with_reducible rfl|omega|(simp (disch:=omega) only [gT,n1,Int.reduceEq,Bs,B4]<;>omega))
   |(with_reducible apply Aw;· first|with_reducible rfl|(simp (disch:=omega) only [gF,n1,Int.reduceEq,Bs,B4]<;>omega))
  try simp (disch:=omega) only [n1,Int.reduceEq,Bs,B4]
  all_goals rfl
 have q1:(decide ((1:Int)<=c.subj.size)&&decide ((c.subj.size:Int)<=32))=true:=by simp;omega
 rw [q1] at n1;by_cases e2:c.iss.size<1∨32<c.iss.size
 ·have hb:Bf c=9:=by unfold Bf;rw [A0 e1,Bm e2]
  have:(decide ((1:Int)<=c.iss.size)&&decide ((c.iss.size:Int)<=32))=false:=by simp;omega
  rw [this] at n2;rw [hb,A0 (by omega)]
  try unfold Aa
  repeat first
   |((with_reducible first|apply At|apply Aj|apply As|apply Ax|apply Az|apply A5|apply Bb|apply B9|apply Ai);· first|with_reducible rfl|(simp (disch:=omega) only [n1,n2,Int.reduceEq,Bs,B4]<;>with_reducible rfl))
   |((with_reducible first|apply Ar|apply Au);· first|with_reducible rfl|omega|(simp (disch:=omega) only [gT,n1,n2,Int.reduceEq,Bs,B4]<;>omega))
   |(with_reducible apply Aw;· first|with_reducible rfl|(simp (disch:=omega) only [gF,n1,n2,Int.reduceEq,Bs,B4]<;>omega))
  try simp (disch:=omega) only [n1,n2,Int.reduceEq,Bs,B4]
  all_goals rfl
 have q2:(decide ((1:Int)<=c.iss.size)&&decide ((c.iss.size:Int)<=32))=true:=by simp;omega
 rw [q2] at n2;cases e3:okS c.subj
 ·have hb:Bf c=6:=by unfold Bf;rw [A0 e1,A0 e2,Bm e3]
  rw [e3] at v1;rw [hb,A0 (by omega)]
  try unfold Aa
  repeat first
   |((with_reducible first|apply At|apply Aj|apply As|apply Ax|apply Az|apply A5|apply Bb|apply B9|apply Ai);· first|with_reducible rfl|(simp (disch:=omega) only [n1,n2,v1,Int.reduceEq,Bs,B4]<;>with_reducible rfl))
   |((with_reducible first|apply Ar|apply Au);· first|with_reducible rfl|omega|(simp (disch:=omega) only [gT,n1,n2,v1,Int.reduceEq,Bs,B4]<;>omega))
   |(with_reducible apply Aw;· first|with_reducible rfl|(simp (disch:=omega) only [gF,n1,n2,v1,Int.reduceEq,Bs,B4]<;>omega))
  try simp (disch:=omega) only [n1,n2,v1,Int.reduceEq,Bs,B4]
  all_goals rfl
 rw [e3] at v1;cases e4:okS c.iss
 ·have hb:Bf c=6:=by unfold Bf;rw [A0 e1,A0 e2,A0 (by simp [e3]),Bm e4]
  rw [e4] at v2;rw [hb,A0 (by omega)]
  try unfold Aa
  repeat first
   |((with_reducible first|apply At|apply Aj|apply As|apply Ax|apply Az|apply A5|apply Bb|apply B9|apply Ai);· first|with_reducible rfl|(simp (disch:=omega) only [n1,n2,v1,v2,Int.reduceEq,Bs,B4]<;>with_reducible rfl))
   |((with_reducible first|apply Ar|apply Au);· first|with_reducible rfl|omega|(simp (disch:=omega) only [gT,n1,n2,v1,v2,Int.reduceEq,Bs,B4]<;>omega))
   |(with_reducible apply Aw;· first|with_reducible rfl|(simp (disch:=omega) only [gF,n1,n2,v1,v2,Int.reduceEq,Bs,B4]<;>omega))
  try simp (disch:=omega) only [n1,n2,v1,v2,Int.reduceEq,Bs,B4]
  all_goals rfl
 rw [e4] at v2;cases e5:Dd c.key.h
 rotate_left
 ·have hb:Bf c=9:=by unfold Bf;rw [A0 e1,A0 e2,A0 (by simp [e3]),A0 (by simp [e4]),Bm e5]
  rw [e5,Bm rfl] at ek;rw [hb,A0 (by omega)]
  try unfold Aa
  repeat first
   |((with_reducible first|apply At|apply Aj|apply As|apply Ax|apply Az|apply A5|apply Bb|apply B9|apply Ai);· first|with_reducible rfl|(simp (disch:=omega) only [n1,n2,v1,v2,ek,e90,e00,Int.reduceEq,Bs,B4]<;>with_reducible rfl))
   |((with_reducible first|apply Ar|apply Au);· first|with_reducible rfl|omega|(simp (disch:=omega) only [gT,n1,n2,v1,v2,ek,e90,e00,Int.reduceEq,Bs,B4]<;>omega))
   |(with_reducible apply Aw;· first|with_reducible rfl|(simp (disch:=omega) only [gF,n1,n2,v1,v2,ek,e90,e00,Int.reduceEq,Bs,B4]<;>omega))
  try simp (disch:=omega) only [n1,n2,v1,v2,ek,e90,e00,Int.reduceEq,Bs,B4]
  all_goals rfl
 rw [e5,A0 (by simp)] at ek
 have B0:Bf c=if c.fr<0 then 9 else if c.un<c.fr then 9 else if c.un>1099511627776 then 9 else if c.path<0∨2<c.path then 9 else if c.path≠0∧c.auth=false then 4 else 0:=by
  unfold Bf;rw [A0 e1,A0 e2,A0 (by simp [e3]),A0 (by simp [e4]),A0 (by simp [e5])]
 by_cases e6:c.fr<0
 ·have hb:Bf c=9:=by rw [B0,Bm e6]
  rw [hb,A0 (by omega)]
  try unfold Aa
  repeat first
   |((with_reducible first|apply At|apply Aj|apply As|apply Ax|apply Az|apply A5|apply Bb|apply B9|apply Ai);· first|with_reducible rfl|(simp (disch:=omega) only [n1,n2,v1,v2,ek,e90,e00,Int.reduceEq,Bs,B4]<;>with_reducible rfl))
   |((with_reducible first|apply Ar|apply Au);· first|with_reducible rfl|omega|(simp (disch:=omega) only [gT,n1,n2,v1,v2,ek,e90,e00,Int.reduceEq,Bs,B4]<;>omega))
   |(with_reducible apply Aw;· first|with_reducible rfl|(simp (disch:=omega) only [gF,n1,n2,v1,v2,ek,e90,e00,Int.reduceEq,Bs,B4]<;>omega))
  try simp (disch:=omega) only [n1,n2,v1,v2,ek,e90,e00,Int.reduceEq,Bs,B4]
  all_goals rfl
 by_cases e7:c.un<c.fr
 ·have hb:Bf c=9:=by rw [B0,A0 e6,Bm e7]
  rw [hb,A0 (by omega)]
  try unfold Aa
  repeat first
   |((with_reducible first|apply At|apply Aj|apply As|apply Ax|apply Az|apply A5|apply Bb|apply B9|apply Ai);· first|with_reducible rfl|(simp (disch:=omega) only [n1,n2,v1,v2,ek,e90,e00,Int.reduceEq,Bs,B4]<;>with_reducible rfl))
   |((with_reducible first|apply Ar|apply Au);· first|with_reducible rfl|omega|(simp (disch:=omega) only [gT,n1,n2,v1,v2,ek,e90,e00,Int.reduceEq,Bs,B4]<;>omega))
   |(with_reducible apply Aw;· first|with_reducible rfl|(simp (disch:=omega) only [gF,n1,n2,v1,v2,ek,e90,e00,Int.reduceEq,Bs,B4]<;>omega))
  try simp (disch:=omega) only [n1,n2,v1,v2,ek,e90,e00,Int.reduceEq,Bs,B4]
  all_goals rfl
 by_cases e8:c.un>1099511627776
 ·have hb:Bf c=9:=by rw [B0,A0 e6,A0 e7,Bm e8]
  rw [hb,A0 (by omega)]
  try unfold Aa
  repeat first
   |((with_reducible first|apply At|apply Aj|apply As|apply Ax|apply Az|apply A5|apply Bb|apply B9|apply Ai);· first|with_reducible rfl|(simp (disch:=omega) only [n1,n2,v1,v2,ek,e90,e00,Int.reduceEq,Bs,B4]<;>with_reducible rfl))
   |((with_reducible first|apply Ar|apply Au);· first|with_reducible rfl|omega|(simp (disch:=omega) only [gT,n1,n2,v1,v2,ek,e90,e00,Int.reduceEq,Bs,B4]<;>omega))
   |(with_reducible apply Aw;· first|with_reducible rfl|(simp (disch:=omega) only [gF,n1,n2,v1,v2,ek,e90,e00,Int.reduceEq,Bs,B4]<;>omega))
  try simp (disch:=omega) only [n1,n2,v1,v2,ek,e90,e00,Int.reduceEq,Bs,B4]
  all_goals rfl
 by_cases e9:c.path<0∨2<c.path
 ·have hb:Bf c=9:=by rw [B0,A0 e6,A0 e7,A0 e8,Bm e9]
  have:(decide ((0:Int)<=c.path)&&decide (c.path<=2))=false:=by simp;omega
  rw [this] at n3;rw [hb,A0 (by omega)]
  try unfold Aa
  repeat first
   |((with_reducible first|apply At|apply Aj|apply As|apply Ax|apply Az|apply A5|apply Bb|apply B9|apply Ai);· first|with_reducible rfl|(simp (disch:=omega) only [n1,n2,v1,v2,ek,e90,e00,n3,Int.reduceEq,Bs,B4]<;>with_reducible rfl))
   |((with_reducible first|apply Ar|apply Au);· first|with_reducible rfl|omega|(simp (disch:=omega) only [gT,n1,n2,v1,v2,ek,e90,e00,n3,Int.reduceEq,Bs,B4]<;>omega))
   |(with_reducible apply Aw;· first|with_reducible rfl|(simp (disch:=omega) only [gF,n1,n2,v1,v2,ek,e90,e00,n3,Int.reduceEq,Bs,B4]<;>omega))
  try simp (disch:=omega) only [n1,n2,v1,v2,ek,e90,e00,n3,Int.reduceEq,Bs,B4]
  all_goals rfl
 have q9:(decide ((0:Int)<=c.path)&&decide (c.path<=2))=true:=by simp;omega
 rw [q9] at n3;by_cases e10:c.path≠0∧c.auth=false
 ·have hb:Bf c=4:=by rw [B0,A0 e6,A0 e7,A0 e8,A0 e9,Bm e10]
  have ea:=e10.2;have ep:(c.path != 0)=true:=by simp [e10.1]
  rw [hb,A0 (by omega)]
  try unfold Aa
  repeat first
   |((with_reducible first|apply At|apply Aj|apply As|apply Ax|apply Az|apply A5|apply Bb|apply B9|apply Ai);· first|with_reducible rfl|(simp (disch:=omega) only [n1,n2,v1,v2,ek,e90,e00,n3,ep,ea,Int.reduceEq,Bs,B4]<;>with_reducible rfl))
   |((with_reducible first|apply Ar|apply Au);· first|with_reducible rfl|omega|(simp (disch:=omega) only [gT,n1,n2,v1,v2,ek,e90,e00,n3,ep,ea,Int.reduceEq,Bs,B4]<;>omega))
   |(with_reducible apply Aw;· first|with_reducible rfl|(simp (disch:=omega) only [gF,n1,n2,v1,v2,ek,e90,e00,n3,ep,ea,Int.reduceEq,Bs,B4]<;>omega))
  try simp (disch:=omega) only [n1,n2,v1,v2,ek,e90,e00,n3,ep,ea,Int.reduceEq,Bs,B4]
  all_goals rfl
 have hb:Bf c=0:=by rw [B0,A0 e6,A0 e7,A0 e8,A0 e9,A0 e10]
 rw [hb,Bm rfl];have a0:=Ame (fu:=fu) (d:=d+3) 9 (by omega) (by omega)
 have t1:=Ard (fu:=fu) (d:=d+3) c.subj;have t2:=Ard (fu:=fu) (d:=d+3) c.iss;have nu:=fun n=>Aum (fu:=fu) (d:=d+3) n
 have da:=A2c (fu:=fu) (d:=d+3) (Gl c.key);have k9:(Gl c.key).length=9:=rfl;rw [k9] at da;have bo:=Aqm (fu:=fu) (d:=d+3) c.auth;have wf:IntKind.wrap .u64 c.fr=c.fr:=B6 (by omega) (by omega)
 have wu:IntKind.wrap .u64 c.un=c.un:=B6 (by omega) (by omega)
 have wp:IntKind.wrap .u64 c.path=c.path:=B6 (by omega) (by omega)
 have bi:=Ayp (fu:=fu) (d:=d) (Acb hw hb) (by simp [Ba]) hfu
 have L9:=Al .u8 (Gl c.key);rw [k9] at L9;have tk9:List.take 9 (Ah .u8 (Gl c.key))=Ah .u8 (Gl c.key):=Iv (by omega)
 have LB:=Al .u8 (Bc (Ba c));have tB:=Gs .u8 (Bc (Ba c));generalize Bc (Ba c)=W at bi LB tB ⊢;simp only [Ba,Bn,List.flatMap_cons,List.flatMap_nil,It.cells,List.cons_append,Zzq,List.append_nil,Iw,Y6,Bw,Nat.reduceAdd] at bi;have w0:IntKind.wrap .u64 (0:Int)=0:=rfl;by_cases ep:c.path=0
 ·rw [ep] at bi n3
  try unfold Aa
  repeat first
   |((with_reducible first|apply At|apply Aj|apply As|apply Ax|apply Az|apply A5|apply Bb|apply B9|apply Ai);· first|with_reducible rfl|(simp (disch:=omega) only [n1,n2,v1,v2,ek,e90,e00,n3,ep,w0,a0,t1,t2,nu,Bj,Bw,Cf,L9,tk9,da,wf,wu,bo,bi,LB,tB,Int.reduceEq,Bs,B4]<;>with_reducible rfl))
   |((with_reducible first|apply Ar|apply Au);· first|with_reducible rfl|omega|(simp (disch:=omega) only [gT,n1,n2,v1,v2,ek,e90,e00,n3,ep,w0,a0,t1,t2,nu,Bj,Bw,Cf,L9,tk9,da,wf,wu,bo,bi,LB,tB,Int.reduceEq,Bs,B4]<;>omega))
   |(with_reducible apply Aw;· first|with_reducible rfl|(simp (disch:=omega) only [gF,n1,n2,v1,v2,ek,e90,e00,n3,ep,w0,a0,t1,t2,nu,Bj,Bw,Cf,L9,tk9,da,wf,wu,bo,bi,LB,tB,Int.reduceEq,Bs,B4]<;>omega))
  try simp (disch:=omega) only [n1,n2,v1,v2,ek,e90,e00,n3,ep,w0,a0,t1,t2,nu,Bj,Bw,Cf,L9,tk9,da,wf,wu,bo,bi,LB,tB,Int.reduceEq,Bs,B4]
  all_goals rfl
 ·have ea:c.auth=true:=by
   cases h:c.auth
   ·exact absurd ⟨ep,h⟩ e10
   ·rfl
  rw [ea,Bm rfl] at bo bi;have ep:(c.path != 0)=true:=by simp [ep]
  try unfold Aa
  repeat first
   |((with_reducible first|apply At|apply Aj|apply As|apply Ax|apply Az|apply A5|apply Bb|apply B9|apply Ai);· first|with_reducible rfl|(simp (disch:=omega) only [n1,n2,v1,v2,ek,e90,e00,n3,ep,ea,a0,t1,t2,nu,Bj,Bw,Cf,L9,tk9,da,wf,wu,wp,bo,bi,LB,tB,Int.reduceEq,Bs,B4]<;>with_reducible rfl))
   |((with_reducible first|apply Ar|apply Au);· first|with_reducible rfl|omega|(simp (disch:=omega) only [gT,n1,n2,v1,v2,ek,e90,e00,n3,ep,ea,a0,t1,t2,nu,Bj,Bw,Cf,L9,tk9,da,wf,wu,wp,bo,bi,LB,tB,Int.reduceEq,Bs,B4]<;>omega))
   |(with_reducible apply Aw;· first|with_reducible rfl|(simp (disch:=omega) only [gF,n1,n2,v1,v2,ek,e90,e00,n3,ep,ea,a0,t1,t2,nu,Bj,Bw,Cf,L9,tk9,da,wf,wu,wp,bo,bi,LB,tB,Int.reduceEq,Bs,B4]<;>omega))
  try simp (disch:=omega) only [n1,n2,v1,v2,ek,e90,e00,n3,ep,ea,a0,t1,t2,nu,Bj,Bw,Cf,L9,tk9,da,wf,wu,wp,bo,bi,LB,tB,Int.reduceEq,Bs,B4]
  all_goals rfl
end
end
section
def Aev (s:Sg):Int:=if Dd s.path.length=true then 9 else if F4 s.leaf s.path.length=true then 9 else if s.chains.length≠18 then 4 else 0
def Dp (c:Ce):Int:=if Bf c=0 then Aev c.sig else Bf c
def El (c:Ce):List Int:=Bc (Ba c)++Ly c.sig
def Abp (c:Ce):List PV:=if Dp c=0 then [.own 1 (El c).length (Ah .u8 (El c)),.sc (.int .i64 0)] else [.own 1 0 [],.sc (.int .i64 (Dp c))]
def Q0 (c:Ce):Int:=D8 14 (Bc (Ba c))
def Ok (c:Ce)(k:Ky):Int:=if Bf c=0 then L8 k (Q0 c) c.sig else Bf c
def Zy:Ce:=⟨Cy,Cy,0,⟨0,0⟩,0,0,false,0,0,⟨0,[],[]⟩⟩
def Arc (c:Ce)(seed h leaf:Int):Ce × Int:=
 if Bf c=0 then (match Al7 seed h leaf (Q0 c) with|some s=>({ c with sig:=s },0)|none=>(Zy,9)) else (Zy,Bf c)
theorem Ir {c:Ce}(h:Bf c=0):(Bc (Ba c)).length<=200:=by
 have k9:(Bl (Gl c.key)).size=9:=by rw [Er];rfl
 have ns:Cy.size=0:=rfl;unfold Bf at h
 have hs:c.subj.size<=32∧c.iss.size<=32:=by
  split at h
  ·cases h
  ·split at h
   ·cases h
   ·omega
 have e:Bc (Ba c)=Br ⟨5,9,Cy⟩++(Br ⟨4,0,c.subj⟩++(Br ⟨4,0,c.iss⟩++(Br ⟨1,c.serial,Cy⟩++(Br ⟨3,0,Bl (Gl c.key)⟩++(Br ⟨1,c.fr,Cy⟩++(Br ⟨1,c.un,Cy⟩++(Br ⟨7,(if c.auth=true then 1 else 0),Cy⟩++(Br ⟨1,c.path,Cy⟩++(Br ⟨1,c.model,Cy⟩++[]))))))))):=rfl
 rw [e];simp only [Hz,Y6];have i1:=Hi ⟨5,9,Cy⟩;have i2:=Hi ⟨4,0,c.subj⟩;have i3:=Hi ⟨4,0,c.iss⟩;have i4:=Hi ⟨1,c.serial,Cy⟩;have i5:=Hi ⟨3,0,Bl (Gl c.key)⟩;have i6:=Hi ⟨1,c.fr,Cy⟩;have i7:=Hi ⟨1,c.un,Cy⟩;have i8:=Hi ⟨7,(if c.auth=true then 1 else 0),Cy⟩
 have i9:=Hi ⟨1,c.path,Cy⟩;have i0:=Hi ⟨1,c.model,Cy⟩;simp only [ns,k9] at i1 i2 i3 i4 i5 i6 i7 i8 i9 i0;omega
theorem Yo {c:Ce}(hw:c.wf)(h:Bf c=0):Hf (Bc (Ba c)):=by
 intro y hy;obtain ⟨x,hx,hy⟩:=List.mem_flatMap.1 hy;have:=(Acb hw h x hx).1;exact Av6 this.k1 this.k8 this.n0 y hy
theorem Axr {seed h leaf m:Int}{s:Sg}(e:Al7 seed h leaf m=some s):s.chains.length=18∧s.path.length<=4:=by
 unfold Al7 at e;split at e
 ·cases e
 ·rename_i hh;split at e
  ·cases e
  ·cases e;have:=Ga (by simpa using hh)
   simp [Zf];omega
section
variable {fu d:Nat} {c:Ce}
theorem Avr (hfu:1000<=fu)(hw:c.wf)(hs1:c.subj.size<=9223372036854775807)(hs2:c.iss.size<=9223372036854775807)(hp:c.sig.path.length<=1000000000):Ae C0 Tryz.prog fu (d+6) Me [.agg c.cells]=some ⟨Abp c,[]⟩:=by
 refine (Wl fu (d+5) c.subj c.iss c.serial c.key.h c.key.root c.fr c.un c.auth c.path c.model c.sig.leaf c.sig.chains.length (Ah .u64 c.sig.chains) c.sig.path.length (Ah .u64 c.sig.path)).trans ?_;have bq:=Aj0 (fu:=fu) (d:=d) hfu hw hs1 hs2;simp only [Ce.cells] at bq;have es:=Abn (fu:=fu) (d:=d+3) hfu c.sig hp;simp only [Sg.cells] at es;unfold Gx at bq;unfold Abp Dp;by_cases h0:Bf c=0
 ·have lb:=Ir h0;rw [Bm h0] at bq;rw [Bm h0];have L1:=Al .u8 (Bc (Ba c));have t1:=Gs .u8 (Bc (Ba c));have e00:((0:Int) != 0)=false:=rfl;have e90:((9:Int) != 0)=true:=rfl;have e40:((4:Int) != 0)=true:=rfl;unfold Aev;by_cases g1:Dd c.sig.path.length=true
  ·rw [Bm g1] at es;rw [Bm g1,A0 (by omega)]
   try unfold Aa
   repeat first
    |((with_reducible first|apply At|apply Aj|apply As|apply A5|apply Bb|apply Ai);· first|with_reducible rfl|(simp (disch:=omega) only [bq,es,e00,e90]<;>with_reducible rfl))
    |((with_reducible first|apply Ar|apply Au);· first|with_reducible rfl|omega|(simp (disch:=omega) only [gT,bq,es,e00,e90]<;>omega))
    |(with_reducible apply Aw;· first|with_reducible rfl|(simp (disch:=omega) only [gF,bq,es,e00,e90]<;>omega))
   try simp (disch:=omega) only [bq,es,e00,e90]
   all_goals rfl
  rw [A0 g1] at es;rw [A0 g1];by_cases g2:F4 c.sig.leaf c.sig.path.length=true
  ·rw [Bm g2] at es;rw [Bm g2,A0 (by omega)]
   try unfold Aa
   repeat first
    |((with_reducible first|apply At|apply Aj|apply As|apply A5|apply Bb|apply Ai);· first|with_reducible rfl|(simp (disch:=omega) only [bq,es,e00,e90]<;>with_reducible rfl))
    |((with_reducible first|apply Ar|apply Au);· first|with_reducible rfl|omega|(simp (disch:=omega) only [gT,bq,es,e00,e90]<;>omega))
    |(with_reducible apply Aw;· first|with_reducible rfl|(simp (disch:=omega) only [gF,bq,es,e00,e90]<;>omega))
   try simp (disch:=omega) only [bq,es,e00,e90]
   all_goals rfl
  rw [A0 g2] at es;rw [A0 g2];by_cases g3:c.sig.chains.length≠18
  ·rw [Bm g3] at es;rw [Bm g3,A0 (by omega)]
   try unfold Aa
   repeat first
    |((with_reducible first|apply At|apply Aj|apply As|apply A5|apply Bb|apply Ai);· first|with_reducible rfl|(simp (disch:=omega) only [bq,es,e00,e40]<;>with_reducible rfl))
    |((with_reducible first|apply Ar|apply Au);· first|with_reducible rfl|omega|(simp (disch:=omega) only [gT,bq,es,e00,e40]<;>omega))
    |(with_reducible apply Aw;· first|with_reducible rfl|(simp (disch:=omega) only [gF,bq,es,e00,e40]<;>omega))
   try simp (disch:=omega) only [bq,es,e00,e40]
   all_goals rfl
  rw [A0 g3] at es;rw [A0 g3,Bm rfl];have hb4:=Ga (h:=c.sig.path.length) (by simpa using g1)
  have ls:(Ly c.sig).length=2+8*c.sig.chains.length+8*c.sig.path.length:=by
   unfold Ly;simp only [Iw,Hz,C7];omega
  have L2:=Al .u8 (Ly c.sig);have t2:=Gs .u8 (Ly c.sig)
  have ea:Ah .u8 (Bc (Ba c))++Ah .u8 (Ly c.sig)=Ah .u8 (El c):=by
   unfold El;rw [Ah,Ah,Ah,List.flatMap_append]
  have le:(El c).length=(Bc (Ba c)).length+(Ly c.sig).length:=by unfold El;rw [Hz]
  have L3:=Al .u8 (El c);have t3:List.take ((Bc (Ba c)).length+(Ly c.sig).length) (Ah .u8 (El c))=Ah .u8 (El c):=Iv (by omega)
  rw [le] at L3 ⊢;generalize (Bc (Ba c)).length=n1 at *
  generalize (Ly c.sig).length=n2 at *
  generalize Ah .u8 (Bc (Ba c))=c1 at *
  generalize Ah .u8 (Ly c.sig)=c2 at *
  try unfold Aa
  repeat first
   |((with_reducible first|apply At|apply Aj|apply As|apply A5|apply Bb|apply Ai);· first|with_reducible rfl|(simp (disch:=omega) only [bq,es,e00,Bj,Bw,Cf,L1,t1,L2,t2,ea,L3,t3]<;>with_reducible rfl))
   |((with_reducible first|apply Ar|apply Au);· first|with_reducible rfl|omega|(simp (disch:=omega) only [gT,bq,es,e00,Bj,Bw,Cf,L1,t1,L2,t2,ea,L3,t3]<;>omega))
   |(with_reducible apply Aw;· first|with_reducible rfl|(simp (disch:=omega) only [gF,bq,es,e00,Bj,Bw,Cf,L1,t1,L2,t2,ea,L3,t3]<;>omega))
  try simp (disch:=omega) only [bq,es,e00,Bj,Bw,Cf,L1,t1,L2,t2,ea,L3,t3]
  all_goals rfl
 ·have hne:(Bf c != 0)=true:=by simp [h0]
  rw [A0 h0] at bq;rw [A0 h0,A0 h0]
  try unfold Aa
  repeat first
   |((with_reducible first|apply At|apply Aj|apply As|apply A5|apply Bb|apply Ai);· first|with_reducible rfl|(simp (disch:=omega) only [bq,hne]<;>with_reducible rfl))
   |((with_reducible first|apply Ar|apply Au);· first|with_reducible rfl|omega|(simp (disch:=omega) only [gT,bq,hne]<;>omega))
   |(with_reducible apply Aw;· first|with_reducible rfl|(simp (disch:=omega) only [gF,bq,hne]<;>omega))
  try simp (disch:=omega) only [bq,hne]
  all_goals rfl
theorem A3q (hfu:1000<=fu)(hw:c.wf)(hs1:c.subj.size<=9223372036854775807)(hs2:c.iss.size<=9223372036854775807)(k:Ky):Ae C0 Tryz.prog fu (d+8) Mj [.agg c.cells,.agg k.cells]=some ⟨[.sc (.int .i64 (Ok c k))],[]⟩:=by
 refine (Wg fu (d+7) c.subj c.iss c.serial c.key.h c.key.root c.fr c.un c.auth c.path c.model c.sig.leaf c.sig.chains.length (Ah .u64 c.sig.chains) c.sig.path.length (Ah .u64 c.sig.path) k.h k.root).trans ?_;have bq:=Aj0 (fu:=fu) (d:=d+2) hfu hw hs1 hs2;simp only [Ce.cells] at bq;unfold Gx at bq;unfold Ok;by_cases h0:Bf c=0
 ·have lb:=Ir h0;rw [Bm h0] at bq;rw [Bm h0];have e00:((0:Int) != 0)=false:=rfl;have hh:=Tx (fu:=fu) (d:=d+3) (Yo hw h0) (by omega) (by omega) (by omega) 14
  have vr:=Au3 (fu:=fu) (d:=d) hfu k (Q0 c) c.sig;simp only [Ky.cells,Sg.cells] at vr;have eW:D8 14 (Bc (Ba c))=Q0 c:=rfl;rw [eW] at hh;have L1:=Al .u8 (Bc (Ba c));have t1:=Gs .u8 (Bc (Ba c));generalize (Bc (Ba c)).length=n1 at *
  generalize Ah .u8 (Bc (Ba c))=c1 at *
  try unfold Aa
  repeat first
   |((with_reducible first|apply At|apply Aj|apply As|apply A5|apply Bb|apply Ai);· first|with_reducible rfl|(simp (disch:=omega) only [bq,e00,Bj,Bw,Cf,L1,t1,hh,vr]<;>with_reducible rfl))
   |((with_reducible first|apply Ar|apply Au);· first|with_reducible rfl|omega|(simp (disch:=omega) only [gT,bq,e00,Bj,Bw,Cf,L1,t1,hh,vr]<;>omega))
   |(with_reducible apply Aw;· first|with_reducible rfl|(simp (disch:=omega) only [gF,bq,e00,Bj,Bw,Cf,L1,t1,hh,vr]<;>omega))
  try simp (disch:=omega) only [bq,e00,Bj,Bw,Cf,L1,t1,hh,vr]
  all_goals rfl
 ·have hne:(Bf c != 0)=true:=by simp [h0]
  rw [A0 h0] at bq;rw [A0 h0]
  try unfold Aa
  repeat first
   |((with_reducible first|apply At|apply Aj|apply As|apply A5|apply Bb|apply Ai);· first|with_reducible rfl|(simp (disch:=omega) only [bq,hne]<;>with_reducible rfl))
   |((with_reducible first|apply Ar|apply Au);· first|with_reducible rfl|omega|(simp (disch:=omega) only [gT,bq,hne]<;>omega))
   |(with_reducible apply Aw;· first|with_reducible rfl|(simp (disch:=omega) only [gF,bq,hne]<;>omega))
  try simp (disch:=omega) only [bq,hne]
  all_goals rfl
theorem Ayn (hfu:1000<=fu)(hw:c.wf)(hs1:c.subj.size<=9223372036854775807)(hs2:c.iss.size<=9223372036854775807)(seed h leaf:Int):Ae C0 Tryz.prog fu (d+13) Ox [.agg c.cells,.sc (.int .u64 seed),.sc (.int .i64 h),.sc (.int .i64 leaf)]=some ⟨[.agg (Arc c seed h leaf).1.cells,.sc (.int .i64 (Arc c seed h leaf).2)],[]⟩:=by
 refine (Ze fu (d+12) c.subj c.iss c.serial c.key.h c.key.root c.fr c.un c.auth c.path c.model c.sig.leaf c.sig.chains.length (Ah .u64 c.sig.chains) c.sig.path.length (Ah .u64 c.sig.path) seed h leaf).trans ?_;have bq:=Aj0 (fu:=fu) (d:=d+7) hfu hw hs1 hs2;simp only [Ce.cells] at bq;unfold Gx at bq;unfold Arc;by_cases h0:Bf c=0
 ·have lb:=Ir h0;rw [Bm h0] at bq;rw [Bm h0];have e00:((0:Int) != 0)=false:=rfl;have e90:((9:Int) != 0)=true:=rfl;have hh:=Tx (fu:=fu) (d:=d+8) (Yo hw h0) (by omega) (by omega) (by omega) 14
  have sg:=Akj (fu:=fu) (d:=d) hfu seed h leaf (Q0 c);have eW:D8 14 (Bc (Ba c))=Q0 c:=rfl;rw [eW] at hh;have L1:=Al .u8 (Bc (Ba c));have t1:=Gs .u8 (Bc (Ba c));generalize (Bc (Ba c)).length=n1 at *
  generalize Ah .u8 (Bc (Ba c))=c1 at *
  cases hs:Al7 seed h leaf (Q0 c) with
  |none=>
   rw [hs] at sg;simp only [Ac1,Sg.owned,Y6] at sg
   try unfold Aa
   repeat first
    |((with_reducible first|apply At|apply Aj|apply As|apply A5|apply Bb|apply Ai);· first|with_reducible rfl|(simp (disch:=omega) only [bq,e00,e90,Bj,Bw,Cf,L1,t1,hh,sg]<;>with_reducible rfl))
    |((with_reducible first|apply Ar|apply Au);· first|with_reducible rfl|omega|(simp (disch:=omega) only [gT,bq,e00,e90,Bj,Bw,Cf,L1,t1,hh,sg]<;>omega))
    |(with_reducible apply Aw;· first|with_reducible rfl|(simp (disch:=omega) only [gF,bq,e00,e90,Bj,Bw,Cf,L1,t1,hh,sg]<;>omega))
   try simp (disch:=omega) only [bq,e00,e90,Bj,Bw,Cf,L1,t1,hh,sg]
   all_goals rfl
  |some s=>
   rw [hs] at sg;simp only [Ac1,Sg.owned] at sg;have hl:=Axr hs;have La:=Al .u64 s.chains;have Lb:=Al .u64 s.path;have ta:=Gs .u64 s.chains;have tb:=Gs .u64 s.path
   try unfold Aa
   repeat first
    |((with_reducible first|apply At|apply Aj|apply As|apply A5|apply Bb|apply Ai);· first|with_reducible rfl|(simp (disch:=omega) only [bq,e00,Bj,Bw,Cf,L1,t1,hh,sg,La,Lb,ta,tb]<;>with_reducible rfl))
    |((with_reducible first|apply Ar|apply Au);· first|with_reducible rfl|omega|(simp (disch:=omega) only [gT,bq,e00,Bj,Bw,Cf,L1,t1,hh,sg,La,Lb,ta,tb]<;>omega))
    |(with_reducible apply Aw;· first|with_reducible rfl|(simp (disch:=omega) only [gF,bq,e00,Bj,Bw,Cf,L1,t1,hh,sg,La,Lb,ta,tb]<;>omega))
   try simp (disch:=omega) only [bq,e00,Bj,Bw,Cf,L1,t1,hh,sg,La,Lb,ta,tb]
   all_goals rfl
 ·have hne:(Bf c != 0)=true:=by simp [h0]
  rw [A0 h0] at bq;rw [A0 h0]
  try unfold Aa
  repeat first
   |((with_reducible first|apply At|apply Aj|apply As|apply A5|apply Bb|apply Ai);· first|with_reducible rfl|(simp (disch:=omega) only [bq,hne]<;>with_reducible rfl))
   |((with_reducible first|apply Ar|apply Au);· first|with_reducible rfl|omega|(simp (disch:=omega) only [gT,bq,hne]<;>omega))
   |(with_reducible apply Aw;· first|with_reducible rfl|(simp (disch:=omega) only [gF,bq,hne]<;>omega))
  try simp (disch:=omega) only [bq,hne]
  all_goals rfl
end
end
section
structure G4 where
 p:Bool
 left:Int
 last:List Int
def G4.cells (f:G4):List PV:=[.sc (.bool f.p),.sc (.int .i64 f.left),.lst false 1 f.last.length (Ah .u8 f.last)]
def Fm (l:List G4):List PV:=l.flatMap G4.cells
theorem G4.cells_len (f:G4):f.cells.length=3:=rfl
theorem Dl (l:List G4):(Fm l).length=l.length*3:=Air G4.cells_len l
theorem D4 (l:List G4):List.take (l.length*3) (Fm l)=Fm l:=Iv (by rw [Dl];omega)
def Sx (l:List G4):Bool:=match l.getLast? with|some f=>f.p&&(Int.tmod f.left 2==0)|none=>false
def J3 (l:List G4)(cnt k:Int):Int:=
 if cnt>=512 then 8 else if k<1 then 3 else if k>8 then 3 else if Sx l=true∧k≠1∧k≠2∧k≠4 then 3 else if (l.length:Int)>8 then 5 else 0
abbrev L7 (l:List G4)(cnt:Int):List PV:=[.own 3 l.length (Fm l),.sc (.int .i64 cnt)]
section
variable {fu d:Nat}
theorem Ao3 (l:List G4)(cnt:Int):Ae C0 Tryz.prog fu (d+1) Ul [.pbox (L7 l cnt)]=some ⟨[.sc (.bool (decide (cnt>0)&&((l.length:Int)==0)))],[L7 l cnt]⟩:=by
 rw [Aet];have L:=Dl l;have t:=D4 l;by_cases h:cnt>0
 ·simp (disch:=omega) only [B3,h,decide_true,Zzm,L,t]
 ·simp (disch:=omega) only [B3,h,decide_false,Bool.false_and,L,t]
theorem Aj4 {l:List G4}(hl:l.length<=1000000)(cnt:Int):Ae C0 Tryz.prog fu (d+1) Sp [.pbox (L7 l cnt)]=some ⟨[.sc (.bool (Sx l))],[L7 l cnt]⟩:=by
 rw [Aec];have L:=Dl l;have t:=D4 l;unfold Sx;rcases List.eq_nil_or_concat l with rfl|⟨l',f,rfl⟩
 ·have e0:¬(((([]:List G4).length:Nat):Int)>0):=by simp
  simp (disch:=first|assumption|omega) only [B3,L,t]
  first|done|rfl
 ·have hn:(l'.concat f).length=l'.length+1:=by simp
  have hx:(l'.concat f)[l'.length]?=some f:=by simp
  have gl:(l'.concat f).getLast?=some f:=by simp
  have w:IntKind.wrap .i64 (((l'.concat f).length:Int)-1)=(l'.length:Int):=by rw [Ap (by omega) (by omega)];omega
  have g0:(Fm (l'.concat f)).getD (l'.length*3) .top=.sc (.bool f.p):=Ep G4.cells_len hx (j:=0) (by omega)
  have g1:(Fm (l'.concat f)).getD (l'.length*3+1) .top=.sc (.int .i64 f.left):=Ep G4.cells_len hx (j:=1) (by omega)
  rw [gl];cases hp:f.p
  ·rw [hp] at g0;simp (disch:=omega) only [B3,w,Hr,Bw,Zzr,g0,L,t,hp,Bool.false_and]
  ·rw [hp] at g0;simp (disch:=omega) only [B3,w,Hr,Bw,Zzr,g0,g1,L,t,hp,Zzm]
theorem Asa {l:List G4}(hl:l.length<=1000000)(cnt k:Int):Ae C0 Tryz.prog fu (d+2) Sn [.pbox (L7 l cnt),.sc (.int .i64 k)]=some ⟨[.sc (.int .i64 (J3 l cnt k))],[L7 l cnt]⟩:=by
 refine (Ac3 fu (d+1) l.length (Fm l) cnt k).trans ?_;have L:=Dl l;have t:=D4 l;have ak:=Aj4 (fu:=fu) (d:=d) hl cnt;unfold L7 at ak;unfold J3;by_cases c1:cnt>=512
 ·rw [Bm c1];simp (disch:=omega) only [B3,L,t]
 rw [A0 c1];by_cases c2:k<1
 ·rw [Bm c2];simp (disch:=omega) only [B3,L,t]
 rw [A0 c2];by_cases c3:k>8
 ·rw [Bm c3];simp (disch:=omega) only [B3,L,t]
 rw [A0 c3];cases ha:Sx l
 ·rw [ha] at ak;rw [A0 (by simp)]
  by_cases c5:(l.length:Int)>8
  ·rw [Bm c5];simp (disch:=omega) only [B3,L,t,ak]
  ·rw [A0 c5];simp (disch:=omega) only [B3,L,t,ak]
 ·rw [ha] at ak;by_cases c4:k≠1∧k≠2∧k≠4
  ·rw [Bm ⟨rfl,c4⟩];simp (disch:=omega) only [B3,L,t,ak,Di];rw [A0 c4.1,A0 c4.2.1,A0 c4.2.2]
  ·rw [A0 (fun h=>c4 h.2)]
   have hk:k=1∨k=2∨k=4:=by omega
   by_cases c5:(l.length:Int)>8
   ·rw [Bm c5];rcases hk with rfl|rfl|rfl<;>simp (disch:=omega) only [B3,L,t,ak,Di,Int.reduceEq,if_true,if_false]
   ·rw [A0 c5];rcases hk with rfl|rfl|rfl<;>simp (disch:=omega) only [B3,L,t,ak,Di,Int.reduceEq,if_true,if_false]
end
end
section
theorem Ny (l:List G4):l=[]∨∃l' f,l=l'++[f]:=by
 rcases List.eq_nil_or_concat l with h|⟨a,b,h⟩
 ·exact .inl h
 ·exact .inr ⟨a,b,by simpa using h⟩
def Ae2 (l:List G4):List G4:=(l.reverse.dropWhile fun f=>f.left==0).reverse
theorem Am6 {l:List G4}{f:G4}(h:f.left=0):Ae2 (l++[f])=Ae2 l:=by
 unfold Ae2;rw [List.reverse_append,List.reverse_singleton,List.singleton_append,List.dropWhile_cons_of_pos (by simp [h])]
theorem Ais {l:List G4}{f:G4}(h:f.left≠0):Ae2 (l++[f])=l++[f]:=by
 unfold Ae2;rw [List.reverse_append,List.reverse_singleton,List.singleton_append,List.dropWhile_cons_of_neg (by simp [h])]
 simp
def Aim (l:List G4):List G4:=match l.getLast? with|some f=>l.dropLast++[⟨f.p,IntKind.wrap .i64 (f.left-1),f.last⟩]|none=>[]
def Anh (l:List G4)(x:It):List G4:=
 if x.k=5∧x.n>0 then l++[⟨false,IntKind.wrap .i64 x.n,[]⟩] else if x.k=6∧x.n>0 then l++[⟨true,IntKind.wrap .i64 (2*IntKind.wrap .i64 x.n),[]⟩] else l
def F6 (l:List G4)(x:It):List G4:=Ae2 (Anh (Aim l) x)
theorem Xw (l:List G4)(f:G4):Aim (l++[f])=l++[⟨f.p,IntKind.wrap .i64 (f.left-1),f.last⟩]:=by
 unfold Aim;simp
theorem Ajw (l:List G4):(Aim l).length=l.length:=by
 rcases Ny l with rfl|⟨l',f,rfl⟩
 ·rfl
 ·rw [Xw];simp
theorem To (a b:List G4):Fm (a++b)=Fm a++Fm b:=by
 unfold Fm;rw [List.flatMap_append]
theorem Uf (f:G4):Fm [f]=f.cells:=by
 unfold Fm;simp
section
variable {fu d:Nat}
theorem Anu {call:Am}{a0_0n:Nat}{a0_0:List PV}{a0_1 a1_0 a1_1:Int}{a1_2:ByteArray}{c:Int}:∀(n:Nat)(l:List G4)(r:List PV)(nn:Nat),l.length=n->n<nn->n<=1000000 ->
  Bh fu call a0_0n a0_0 a0_1 a1_0 a1_1 a1_2 nn (l.length:Int) l.length c (Fm l++r)=some ⟨[],[L7 (Ae2 l) c]⟩:=by
 intro n
 induction n with
 |zero=>
  intro l r nn hl hn _;obtain rfl:l=[]:=List.eq_nil_of_length_eq_zero hl;obtain ⟨m,rfl⟩:∃m,nn=m+1:=⟨nn-1,by omega⟩
  have e0:¬(((([]:List G4).length:Nat):Int)>0):=by simp
  have e1:([]:List G4).length*3<=(Fm []++r).length:=by simp
  rw [O8];simp (disch:=first|assumption|omega) only [B3];rfl
 |succ n ih=>
  intro l r nn hl hn hm;obtain ⟨m,rfl⟩:∃m,nn=m+1:=⟨nn-1,by omega⟩
  rcases Ny l with rfl|⟨l',f,rfl⟩
  ·simp at hl
  have hn':(l'++[f]).length=l'.length+1:=by simp
  have hx:(l'++[f])[l'.length]?=some f:=by simp
  have w:IntKind.wrap .i64 (((l'++[f]).length:Int)-1)=(l'.length:Int):=by rw [Ap (by omega) (by omega)];omega
  have L:=Dl (l'++[f]);have L2:(Fm (l'++[f])++r).length=(l'++[f]).length*3+r.length:=by rw [Hz,L]
  have t:List.take ((l'++[f]).length*3) (Fm (l'++[f])++r)=Fm (l'++[f]):=by rw [←L,List.take_left'];rfl
  have g1:(Fm (l'++[f])++r).getD (l'.length*3+1) .top=.sc (.int .i64 f.left):=by
   have:=Ep (f:=G4.cells) G4.cells_len hx (j:=1) (by omega)
   rw [List.getD_eq_getElem?_getD,List.getElem?_append_left (by rw [L];omega),←List.getD_eq_getElem?_getD]
   exact this
  rw [O8];by_cases hz:f.left=0
  ·have e:Fm (l'++[f])++r=Fm l'++(f.cells++r):=by rw [To,Uf,Zzv]
   have q:=ih l' (f.cells++r) m (by omega) (by omega) (by omega)
   rw [←e] at q;rw [Am6 hz];have hb:(f.left==(0:Int))=true:=by simp [hz]
   simp (disch:=omega) only [B3,w,Hr,Bw,Nat.sub_zero,g1,hb,q]
  ·rw [Ais hz];have hb:(f.left==(0:Int))=false:=by simp [hz]
   simp (disch:=omega) only [B3,w,Hr,Bw,g1,hb,L2,t]
theorem Awe {l:List G4}{x:It}{cnt:Int}(hl:l.length<=100000)(hf:l.length+1<fu)(h0:0<=cnt)(h1:cnt<=1000000):
  Ae C0 Tryz.prog fu (d+1) Tm [.pbox (L7 l cnt),.agg x.cells]=some ⟨[],[L7 (F6 l x) (cnt+1)]⟩:=by
 obtain ⟨k,v,s⟩:=x;refine (Af0 fu d l.length (Fm l) cnt k v s).trans ?_;have w1:IntKind.wrap .i64 (cnt+1)=cnt+1:=Ap (by omega) (by omega)
 unfold F6 Anh;have DL:=Ajw l;generalize hD:Aim l=l1 at DL ⊢;have L1:(Fm l1).length=l.length*3:=by rw [Dl,DL]
 have t1:List.take (l.length*3) (Fm l1)=Fm l1:=Iv (by omega)
 have p5:∀b u,Fm l1++[.sc (.bool b),.sc (.int .i64 u),.lst false 1 0 []]=Fm (l1++[⟨b,u,[]⟩]):=by
  intro b u;rw [To,Uf];rfl
 have lp0:∀call,Bh fu call l.length (Fm l) cnt k v s fu (l.length:Int) l.length (cnt+1) (Fm l1)=some ⟨[],[L7 (Ae2 l1) (cnt+1)]⟩:=by
  intro call;have:=Anu (fu:=fu) (call:=call) (a0_0n:=l.length) (a0_0:=Fm l) (a0_1:=cnt) (a1_0:=k) (a1_1:=v) (a1_2:=s) (c:=cnt+1) _ l1 [] fu rfl (by omega) (by omega)
  rw [List.append_nil,DL] at this;exact this
 have lp1:∀call f,Bh fu call l.length (Fm l) cnt k v s fu ((l.length+1:Nat):Int) (l.length+1) (cnt+1) (Fm (l1++[f]))=some ⟨[],[L7 (Ae2 (l1++[f])) (cnt+1)]⟩:=by
  intro call f;have ll:(l1++[f]).length=l.length+1:=by simp [DL]
  have:=Anu (fu:=fu) (call:=call) (a0_0n:=l.length) (a0_0:=Fm l) (a0_1:=cnt) (a1_0:=k) (a1_1:=v) (a1_2:=s) (c:=cnt+1) _ (l1++[f]) [] fu rfl (by omega) (by omega)
  rw [List.append_nil,ll] at this;exact this
 rcases Ny l with rfl|⟨l',f,rfl⟩
 ·have e0:¬(((([]:List G4).length:Nat):Int)>0):=by simp
  obtain rfl:l1=[]:=by rw [←hD];rfl
  by_cases k5:k=5
  ·subst k5;by_cases hv:v>0
   ·rw [Bm ⟨rfl,hv⟩];simp (disch:=first|assumption|omega) only [B3,w1,L1,t1,p5,lp1,Int.reduceBEq]
   ·rw [A0 (fun h=>hv h.2),A0 (fun h=>hv h.2)]
    simp (disch:=first|assumption|omega) only [B3,w1,L1,t1,p5,lp0,Int.reduceBEq]
  ·have b5:(k==(5:Int))=false:=by simp [k5]
   rw [A0 (fun h=>k5 h.1)]
   by_cases k6:k=6
   ·subst k6;by_cases hv:v>0
    ·rw [Bm ⟨rfl,hv⟩];simp (disch:=first|assumption|omega) only [B3,w1,L1,t1,p5,lp1,Int.reduceBEq]
    ·rw [A0 (fun h=>hv h.2)]
     simp (disch:=first|assumption|omega) only [B3,w1,L1,t1,p5,lp0,Int.reduceBEq]
   ·have b6:(k==(6:Int))=false:=by simp [k6]
    rw [A0 (fun h=>k6 h.1)]
    simp (disch:=first|assumption|omega) only [B3,w1,L1,t1,p5,lp0,b5,b6]
 ·have hn':(l'++[f]).length=l'.length+1:=by simp
  have hx:(l'++[f])[l'.length]?=some f:=by simp
  have w:IntKind.wrap .i64 (((l'++[f]).length:Int)-1)=(l'.length:Int):=by rw [Ap (by omega) (by omega)];omega
  have L:=Dl (l'++[f]);have g1:(Fm (l'++[f])).getD (l'.length*3+1) .top=.sc (.int .i64 f.left):=Ep G4.cells_len hx (j:=1) (by omega)
  have sp:B8 (Fm (l'++[f])) [.sc (.int .i64 (IntKind.wrap .i64 (f.left-1)))] (l'.length*3+1)=Fm l1:=by
   rw [J1 (by omega),←hD,Xw,To,To,Uf,Uf]
   have:=Dl l';rw [List.set_append_right _ _ (by omega)]
   have:l'.length*3+1-(Fm l').length=1:=by omega
   rw [this];rfl
  by_cases k5:k=5
  ·subst k5;by_cases hv:v>0
   ·rw [Bm ⟨rfl,hv⟩];simp (disch:=first|assumption|omega) only [B3,w,w1,Hr,Bw,g1,sp,L1,t1,p5,lp1,Int.reduceBEq]
   ·rw [A0 (fun h=>hv h.2),A0 (fun h=>hv h.2)]
    simp (disch:=first|assumption|omega) only [B3,w,w1,Hr,Bw,g1,sp,L1,t1,p5,lp0,Int.reduceBEq]
  ·have b5:(k==(5:Int))=false:=by simp [k5]
   rw [A0 (fun h=>k5 h.1)]
   by_cases k6:k=6
   ·subst k6;by_cases hv:v>0
    ·rw [Bm ⟨rfl,hv⟩];simp (disch:=first|assumption|omega) only [B3,w,w1,Hr,Bw,g1,sp,L1,t1,p5,lp1,Int.reduceBEq]
    ·rw [A0 (fun h=>hv h.2)]
     simp (disch:=first|assumption|omega) only [B3,w,w1,Hr,Bw,g1,sp,L1,t1,p5,lp0,Int.reduceBEq]
   ·have b6:(k==(6:Int))=false:=by simp [k6]
    rw [A0 (fun h=>k6 h.1)]
    simp (disch:=first|assumption|omega) only [B3,w,w1,Hr,Bw,g1,sp,L1,t1,p5,lp0,b5,b6]
end
end
section
def Aee (s:ByteArray):Bool:=Array.toList (ByteArray.data s)==Array.toList (ByteArray.data (ByteArray.mk #[]))
def Gv (x:It):Bool:=
 if x.k=3 then x.n==0 else if x.k=4 then x.n==0 else if x.k=8 then (x.n==0)&&Aee x.s else if x.k=7 then decide (x.n<=1)&&Aee x.s else Aee x.s
section
variable {fu d:Nat}
theorem Ax4 (x:It):Ae C0 Tryz.prog fu (d+1) Aan [.agg x.cells]=some ⟨[.sc (.bool (Gv x))],[]⟩:=by
 obtain ⟨k,n,s⟩:=x;refine (Alz fu d k n s).trans ?_;unfold Gv;show _=some (⟨[.sc (.bool (if k=3 then n==0 else if k=4 then n==0 else if k=8 then (n==0)&&Aee s else if k=7 then decide (n<=1)&&Aee s else Aee s))],[]⟩:Ay)
 by_cases h3:k=3
 ·subst h3;simp only [B3,Int.reduceBEq,if_true]
 by_cases h4:k=4
 ·subst h4;simp only [B3,Int.reduceBEq,Int.reduceEq,if_true,if_false]
 have b3:(k==(3:Int))=false:=by simp [h3]
 have b4:(k==(4:Int))=false:=by simp [h4]
 by_cases h8:k=8
 ·subst h8;cases hn:n==0<;>simp only [B3,Int.reduceBEq,Int.reduceEq,if_true,if_false,hn,Zzm,Bool.false_and]<;>rfl
 have b8:(k==(8:Int))=false:=by simp [h8]
 by_cases h7:k=7
 ·subst h7;cases hn:decide (n<=1)<;>simp only [B3,Int.reduceBEq,Int.reduceEq,if_true,if_false,hn,Zzm,Bool.false_and]<;>rfl
 have b7:(k==(7:Int))=false:=by simp [h7]
 simp only [B3,b3,b4,b8,b7,A0 h3,A0 h4,A0 h8,A0 h7];rfl
theorem Agx {l:List G4}{x:It}{cnt:Int}(hl:l.length<=1000)(hf:l.length+1<fu)(h0:0<=cnt)(h1:cnt<=1000000)(ha:Sx l=false)
  (hs:x.s.size<=100000)(hv:x.k=4->Lib.validD x.s.data.toList=true):
  Ae C0 Tryz.prog fu (d+2) Jz [.pbox (L7 l cnt),.agg x.cells]=some ⟨[.sc (.int .i64 0)],[L7 (F6 l x) (cnt+1)]⟩:=by
 have st:=Awe (fu:=fu) (d:=d) (l:=l) (x:=x) (cnt:=cnt) (by omega) hf h0 h1
 have ak:=Aj4 (fu:=fu) (d:=d) (l:=l) (by omega) cnt
 have L:=Dl l;have t:=D4 l;have L2:=Dl (F6 l x);have t2:=D4 (F6 l x);rw [ha] at ak;generalize hE:F6 l x=E at *
 obtain ⟨k,n,s⟩:=x;have va:=Kv (fu:=fu) (d:=d) s (Nat.le_trans hs (by omega))
 unfold okS at va;refine (Js fu (d+1) l.length (Fm l) cnt k n s).trans ?_;unfold L7 It.cells at st;unfold L7 at ak;by_cases k4:k=4
 ·subst k4;rw [hv rfl] at va;simp (disch:=omega) only [B3,Int.reduceBEq,va,Bs,L,t,ak,st,L2,t2]
 ·have b4:(k==(4:Int))=false:=by simp [k4]
  simp (disch:=omega) only [B3,b4,L,t,ak,st,L2,t2]
theorem A0o {l:List G4}{x:It}{cnt:Int}(hl:l.length<=1000)(hf:l.length+1<fu)(h0:0<=cnt)(h1:cnt<=1000000)(ha:Sx l=false)
  (hs:x.s.size<=1024)(hv:x.k=4->Lib.validD x.s.data.toList=true)(hd:(decide (cnt>0)&&((l.length:Int)==0))=false) (hm:J3 l cnt x.k=0)(hsh:Gv x=true)(hn:x.n<=512∨(x.k≠5∧x.k≠6)):
  Ae C0 Tryz.prog fu (d+3) O1 [.pbox (L7 l cnt),.agg x.cells]=some ⟨[.sc (.int .i64 0)],[L7 (F6 l x) (cnt+1)]⟩:=by
 have ac:=Agx (fu:=fu) (d:=d) (l:=l) (x:=x) (cnt:=cnt) hl hf h0 h1 ha (by omega) hv
 have dn:=Ao3 (fu:=fu) (d:=d+1) l cnt;have ad:=Asa (fu:=fu) (d:=d) (l:=l) (by omega) cnt x.k
 have sh:=Ax4 (fu:=fu) (d:=d+1) x;rw [hd] at dn;rw [hm] at ad;rw [hsh] at sh;have L:=Dl l;have t:=D4 l;have L2:=Dl (F6 l x);have t2:=D4 (F6 l x);generalize hE:F6 l x=E at *
 obtain ⟨k,n,s⟩:=x;have hs':¬((s.size:Int)>1024):=by have:s.size<=1024:=hs;omega
 refine (Zc fu (d+2) l.length (Fm l) cnt k n s).trans ?_;unfold L7 It.cells at ac;unfold L7 at dn ad;unfold It.cells at sh;by_cases k5:k=5
 ·subst k5;have hn':¬(n>512):=hn.elim (fun h=>Int.not_lt.2 h) (fun h=>absurd rfl h.1)
  simp (disch:=first|assumption|omega) only [B3,Int.reduceBEq,dn,ad,sh,ac,Bs,L,t,L2,t2,bne_self_eq_false]
 have b5:(k==(5:Int))=false:=by simp [k5]
 by_cases k6:k=6
 ·subst k6;have hn':¬(n>512):=hn.elim (fun h=>Int.not_lt.2 h) (fun h=>absurd rfl h.2)
  simp (disch:=first|assumption|omega) only [B3,Int.reduceBEq,dn,ad,sh,ac,Bs,L,t,L2,t2,bne_self_eq_false]
 have b6:(k==(6:Int))=false:=by simp [k6]
 simp (disch:=first|assumption|omega) only [B3,b5,b6,dn,ad,sh,ac,Bs,L,t,L2,t2,bne_self_eq_false]
end
end
section
theorem Ej (l:List It):(Bn l).length=l.length*3:=Air It.cells_len l
structure A5z (l:List G4) (cnt:Int) (x:It):Prop where
 hl:l.length<=100
 h0:0<=cnt
 h1:cnt<=1000
 ha:Sx l=false
 hs:x.s.size<=1024
 hv:x.k=4->Lib.validD x.s.data.toList=true
 hd:(decide (cnt>0)&&((l.length:Int)==0))=false
 hm:J3 l cnt x.k=0
 hsh:Gv x=true
 hn:x.n<=512∨(x.k≠5∧x.k≠6)
def P9:List G4->Int->List It->Prop
 |l,cnt,[]=>l=[]∧cnt>0
 |l,cnt,x::r=>A5z l cnt x∧P9 (F6 l x) (cnt+1) r
section
variable {fu d:Nat}
theorem Aln (hfu:200<=fu){l:List It}(hl:l.length<=100000){a0n:Nat}{a0:List PV}:∀(r:List It)(i:Nat)(fs:List G4)(cnt:Int)(nn:Nat),l.drop i=r->i+r.length=l.length->r.length<nn->P9 fs cnt r ->
  Iz fu (Ae C0 Tryz.prog fu (d+3)) a0n a0 nn l.length (Bn l) (l.length:Int) (i:Int) fs.length cnt (Fm fs)=some ⟨[.sc (.int .i64 0)],[]⟩:=by
 intro r
 induction r with
 |nil=>
  intro i fs cnt nn hd hi hn hg;obtain ⟨rfl,hc⟩:=hg;obtain ⟨m,rfl⟩:∃m,nn=m+1:=⟨nn-1,by omega⟩
  rw [Y6,Zzr] at hi;rw [Qr];have dn:=Ao3 (fu:=fu) (d:=d+2) [] cnt;have e:(decide (cnt>0)&&(((([]:List G4).length:Nat):Int)==0))=true:=by simp [hc]
  rw [e] at dn;unfold L7 at dn;have L:=Dl [];have t:=D4 [];have c:¬((i:Int)<(l.length:Int)):=by omega
  simp (disch:=first|assumption|omega) only [B3,L,t,dn,Bs]
 |cons x r ih=>
  intro i fs cnt nn hd hi hn hg;obtain ⟨g,hg⟩:=hg;obtain ⟨m,rfl⟩:∃m,nn=m+1:=⟨nn-1,by omega⟩
  rw [Iw] at hi hn
  have hx:l[i]?=some x:=by
   have:=congrArg (fun q=>q[0]?) hd
   simpa using this
  have hd':l.drop (i+1)=r:=by
   have:=congrArg (List.drop 1) hd;rw [List.drop_drop] at this
   simpa using this
  have q:=ih (i+1) (F6 fs x) (cnt+1) m hd' (by omega) (by omega) hg
  have ck:=A0o (fu:=fu) (d:=d) (l:=fs) (x:=x) (cnt:=cnt) (by have:=g.hl;omega) (by have:=g.hl;omega) g.h0 (by have:=g.h1;omega) g.ha g.hs g.hv g.hd g.hm g.hsh g.hn
  generalize F6 fs x=E at *
  have g0:(Bn l).getD (i*3) .top=.sc (.int .i64 x.k):=Ep It.cells_len hx (j:=0) (by omega)
  have g1:(Bn l).getD (i*3+1) .top=.sc (.int .u64 x.n):=Ep It.cells_len hx (j:=1) (by omega)
  have g2:(Bn l).getD (i*3+1+1) .top=.sc (.string x.s):=Ep It.cells_len hx (j:=2) (by omega)
  have L:=Dl fs;have t:=D4 fs;have w:IntKind.wrap .i64 ((i:Int)+1)=((i+1:Nat):Int):=by rw [Ap (by omega) (by omega)];omega
  rw [Qr];unfold L7 It.cells at ck;simp (disch:=first|assumption|omega) only [B3,Hr,g0,g1,g2,L,t,ck,bne_self_eq_false,w,q]
theorem S4 (hfu:200<=fu){l:List It}(hl:l.length<=100000)(hf:l.length<fu)(hg:P9 [] 0 l):Ae C0 Tryz.prog fu (d+4) Vy [.lst false 3 l.length (Bn l)]=some ⟨[.sc (.int .i64 0)],[]⟩:=by
 rw [Ahc];exact Aln hfu hl l 0 [] 0 fu rfl (by omega) hf hg
end
end
section
section
variable {fu d:Nat}
theorem Aq9 (hfu:1000<=fu){l:List It}(hl:l.length<=100000){a0n:Nat}{a0:List PV}:∀(r:List It)(i:Nat)(o:List Int)(nn:Nat),l.drop i=r->i+r.length=l.length->r.length<nn->(∀x∈r,x.ok)->(o++Bc r).length<=300000 ->
  Lo fu (Ae C0 Tryz.prog fu (d+2)) a0n a0 nn o.length l.length (Bn l) (l.length:Int) (i:Int) (Ah .u8 o)=some ⟨[.own 1 (o++Bc r).length (Ah .u8 (o++Bc r)),.sc (.int .i64 0)],[]⟩:=by
 intro r
 induction r with
 |nil=>
  intro i o nn hd hi hn hg hb;obtain ⟨m,rfl⟩:∃m,nn=m+1:=⟨nn-1,by omega⟩
  rw [Y6,Zzr] at hi;have e:o++Bc []=o:=by simp [Bc]
  rw [e,Uh];have L:(Ah .u8 o).length=o.length:=Al _ _;have t:List.take o.length (Ah .u8 o)=Ah .u8 o:=Iv (by omega)
  have c:¬((i:Int)<(l.length:Int)):=by omega
  simp (disch:=first|assumption|omega) only [B3,Bj,L,t]
 |cons x r ih=>
  intro i o nn hd hi hn hg hb;obtain ⟨m,rfl⟩:∃m,nn=m+1:=⟨nn-1,by omega⟩
  rw [Iw] at hi hn
  have hx:l[i]?=some x:=by
   have:=congrArg (fun q=>q[0]?) hd
   simpa using this
  have hd':l.drop (i+1)=r:=by
   have:=congrArg (List.drop 1) hd;rw [List.drop_drop] at this
   simpa using this
  have e:o++Bc (x::r)=(o++Br x)++Bc r:=by simp [Bc]
  rw [e] at hb ⊢
  have ho:o.length<=300000:=by
   rw [Hz,Hz] at hb;omega
  have q:=ih (i+1) (o++Br x) m hd' (by omega) (by omega) (fun y hy=>hg y (List.mem_cons_of_mem _ hy)) hb
  have it:=Av2 (fu:=fu) (d:=d) hfu (l:=o) ho (x:=x) (hg x (by simp))
  have g0:(Bn l).getD (i*3) .top=.sc (.int .i64 x.k):=Ep It.cells_len hx (j:=0) (by omega)
  have g1:(Bn l).getD (i*3+1) .top=.sc (.int .u64 x.n):=Ep It.cells_len hx (j:=1) (by omega)
  have g2:(Bn l).getD (i*3+1+1) .top=.sc (.string x.s):=Ep It.cells_len hx (j:=2) (by omega)
  have L:(Ah .u8 o).length=o.length:=Al _ _;have t:List.take o.length (Ah .u8 o)=Ah .u8 o:=Iv (by omega)
  have w:IntKind.wrap .i64 ((i:Int)+1)=((i+1:Nat):Int):=by rw [Ap (by omega) (by omega)];omega
  rw [Uh];unfold It.cells at it;simp (disch:=first|assumption|omega) only [B3,Hr,Bj,g0,g1,g2,L,t,it,w,q]
theorem Ar1 (hfu:1000<=fu){l:List It}(hl:l.length<=100000)(hf:l.length<fu)(hg:P9 [] 0 l) (hk:∀x∈l,x.ok)(hb:(Bc l).length<=300000):
  Ae C0 Tryz.prog fu (d+5) Sw [.lst false 3 l.length (Bn l)]=some ⟨[.own 1 (Bc l).length (Ah .u8 (Bc l)),.sc (.int .i64 0)],[]⟩:=by
 rw [Al1];have v:=S4 (fu:=fu) (d:=d) (by omega) hl hf hg
 have q:=Aq9 (fu:=fu) (d:=d+2) hfu hl (a0n:=l.length) (a0:=Bn l) l 0 [] fu rfl (by omega) hf hk (by simpa using hb)
 rw [Zzq] at q;simp only [B3,v,bne_self_eq_false];exact q
end
end
section
section
variable {fu d:Nat}
theorem Apw (hfu:200<=fu){l:List It}(hl:l.length<=100000)(hf:l.length<fu)(hg:P9 [] 0 l):
  Ae C0 Tryz.prog fu (d+5) Xu [.own 3 l.length (Bn l)]=some ⟨[.own 3 l.length (Bn l),.sc (.int .i64 0)],[]⟩:=by
 rw [Akm];have v:=S4 (fu:=fu) (d:=d) hfu hl hf hg;have L:=Ej l;have t:List.take (l.length*3) (Bn l)=Bn l:=Iv (by omega)
 simp (disch:=omega) only [B3,L,t,Cf,v,bne_self_eq_false]
end
end
section
structure Aox (x:It):Prop where
 kd:x.k=1∨x.k=2∨x.k=3∨x.k=4∨x.k=7∨x.k=8
 hs:x.s.size<=1024
 hv:x.k=4->Lib.validD x.s.data.toList=true
 hsh:Gv x=true
 n0:0<=x.n
theorem Aox.ok {x:It}(h:Aox x):x.ok:=by
 have:=h.kd;have:=h.hs;exact ⟨by omega,by omega,h.n0,by omega⟩
theorem Aox.push {x:It}(h:Aox x)(l:List G4):Anh l x=l:=by
 unfold Anh;have:=h.kd;rw [A0 (by omega),A0 (by omega)]
theorem Ayo {x:It}(h:Aox x):P9 [] 0 [x]:=by
 have hk:=h.kd;refine ⟨⟨by simp,by omega,by omega,rfl,h.hs,h.hv,rfl,?_,h.hsh,.inr (by omega)⟩,?_,?_⟩
 ·unfold J3;rw [A0 (by omega),A0 (by omega),A0 (by omega),A0 (by intro q;exact absurd q.1 (by decide)),A0 (by simp)]
 ·unfold F6;rw [h.push];rfl
 ·omega
theorem Ai0:∀(r:List It)(cnt:Int),r≠[]->(∀x∈r,Aox x)->0<cnt->cnt+r.length<=500->P9 [⟨false,r.length,[]⟩] cnt r
 |[],_,h,_,_,_=>absurd rfl h
 |x::r,cnt,_,hf,hc,hl=>by
  have h:=hf x (by simp)
  have hk:=h.kd;simp only [Iw] at hl;refine ⟨⟨by simp,by omega,by omega,rfl,h.hs,h.hv,by simp,?_,h.hsh,.inr (by omega)⟩,?_⟩
  ·unfold J3;rw [A0 (by omega),A0 (by omega),A0 (by omega),A0 (by intro q;exact absurd q.1 (by simp [Sx])),A0 (by simp)]
  ·have w:IntKind.wrap .i64 (((x::r).length:Int)-1)=(r.length:Int):=by
    rw [Ap (by simp only [Iw];omega) (by simp only [Iw];omega)]
    simp only [Iw];omega
   have e:F6 [⟨false,((x::r).length:Nat),[]⟩] x=Ae2 [⟨false,(r.length:Nat),[]⟩]:=by
    unfold F6;rw [h.push];have:=Xw [] ⟨false,((x::r).length:Nat),[]⟩;rw [Zzq,Zzq] at this;rw [this];simp only [w]
   rw [e];by_cases hr:r=[]
   ·subst hr;have:=Am6 (l:=[]) (f:=⟨false,(([]:List It).length:Nat),[]⟩) rfl;rw [Zzq] at this;rw [this];exact ⟨rfl,by omega⟩
   ·have:=Ais (l:=[]) (f:=⟨false,(r.length:Nat),[]⟩) (by simp only;have:=List.length_pos_iff.2 hr;omega)
    rw [Zzq] at this;rw [this];exact Ai0 r (cnt+1) hr (fun y hy=>hf y (List.mem_cons_of_mem _ hy)) (by omega) (by omega)
theorem Ay1 {r:List It}(hr:r≠[]) (hl:r.length<=400)(hf:∀x∈r,Aox x):P9 [] 0 (⟨5,r.length,⟨#[]⟩⟩::r):=by
 have hp:=List.length_pos_iff.2 hr;refine ⟨⟨by simp,by omega,by omega,rfl,Nat.zero_le _,(by intro h;cases h),rfl,?_,(by rfl),.inl (by simp only;omega)⟩,?_⟩
 ·unfold J3;rw [A0 (by omega),A0 (by simp),A0 (by simp),A0 (by intro q;exact absurd q.1 (by decide)),A0 (by simp)]
 ·have w:IntKind.wrap .i64 (r.length:Int)=(r.length:Int):=Ap (by omega) (by omega)
  have e:F6 [] ⟨5,(r.length:Nat),⟨#[]⟩⟩=Ae2 [⟨false,(r.length:Nat),[]⟩]:=by
   unfold F6 Anh;rw [Bm ⟨rfl,by simp only;omega⟩]
   simp only [w];rfl
  have:=Ais (l:=[]) (f:=⟨false,(r.length:Nat),[]⟩) (by simp only;omega)
  rw [Zzq] at this;rw [e,this];exact Ai0 r _ hr hf (by omega) (by omega)
end
section
def A58 (v:List It):List PV:=[.lst false 3 v.length (Bn v)]
theorem Ayq (v:List It):(A58 v).length=1:=rfl
def Ax5 (l:List (List It)):List PV:=l.flatMap A58
theorem atv {l:List (List It)} {i:Nat}{v:List It}(h:l[i]?=some v):(Ax5 l).getD (i*1) .top=.lst false 3 v.length (Bn v):=by
 exact Ep Ayq h (j:=0) (by omega)
section
variable {fu d:Nat}
theorem Agn (hfu:1000<=fu){a0n:Nat}{a0:List PV}{vs:List (List It)} (hl:vs.length<=100000):∀(r:List (List It)) (i nn:Nat),vs.drop i=r->r.length<nn->(∀v∈r,P9 [] 0 v∧v.length<1000)->i<=vs.length ->
  Lr fu (Ae C0 Tryz.prog fu (d+4)) a0n a0 nn vs.length (Ax5 vs) (vs.length:Int) (i:Int)=some ⟨[.sc (.int .i64 0)],[]⟩
 |_,_,0,_,h,_,_=>by omega
 |[],i,nn+1,h,hn,hg,hi=>by
  have:=drop_nil h;rw [Tq,Dw _ _ _ (by omega)]
 |v::r,i,nn+1,h,hn,hg,hi=>by
  obtain ⟨h1,h2,h3⟩:=Ct h;simp only [Iw] at hn;have w:IntKind.wrap .i64 ((i:Int)+1)=((i+1:Nat):Int):=by rw [Ap (by omega) (by omega)];omega
  have ih:=Agn hfu (a0n:=a0n) (a0:=a0) hl r (i+1) nn h3 (by omega) (fun v hv=>hg v (List.mem_cons_of_mem _ hv)) (by omega)
  obtain ⟨g,gl⟩:=hg v (by simp)
  have vg:=S4 (fu:=fu) (d:=d) (by omega) (by omega) (by omega) g
  have g0:=atv h2;rw [Tq];simp (disch:=omega) only [B3,Hr,g0,vg,bne_self_eq_false,w,ih]
theorem Aq8 (hfu:1000<=fu){vs:List (List It)} (hl:vs.length<1000)(hg:∀v∈vs,P9 [] 0 v∧v.length<1000):
  Ae C0 Tryz.prog fu (d+5) Aag [.lst false 1 vs.length (Ax5 vs)]=some ⟨[.sc (.int .i64 0)],[]⟩:=by
 rw [Alc];exact Agn hfu (by omega) vs 0 fu rfl (by omega) hg (by omega)
theorem Ad8 (a b:List It):Bn (a++b)=Bn a++Bn b:=by
 unfold Bn;rw [List.flatMap_append]
theorem Ai8 (hfu:1000<=fu){a0n:Nat}{a0:List PV}{vs:List (List It)} (hl:vs.length<=100000):∀(r:List (List It)) (i nn:Nat)(o:List It),vs.drop i=r->r.length<nn->P9 [] 0 (o++r.flatten)->(o++r.flatten).length<=500->i<=vs.length ->
  M6 fu (Ae C0 Tryz.prog fu (d+5)) a0n a0 nn o.length vs.length (Ax5 vs) (vs.length:Int) (i:Int) (Bn o)=some ⟨[.own 3 (o++r.flatten).length (Bn (o++r.flatten)),.sc (.int .i64 0)],[]⟩
 |_,_,0,_,_,h,_,_,_=>by omega
 |[],i,nn+1,o,h,hn,hg,hb,hi=>by
  have:=drop_nil h;have e:o++([]:List (List It)).flatten=o:=by simp
  rw [e] at hg hb ⊢;have L:=Ej o;have t:List.take (o.length*3) (Bn o)=Bn o:=Iv (by omega)
  have ck:=Apw (fu:=fu) (d:=d) (by omega) (by omega) (by omega) hg
  rw [Vw,Dw _ _ _ (by omega)]
  simp (disch:=omega) only [B3,L,t,ck]
 |v::r,i,nn+1,o,h,hn,hg,hb,hi=>by
  obtain ⟨h1,h2,h3⟩:=Ct h;simp only [Iw] at hn;have w:IntKind.wrap .i64 ((i:Int)+1)=((i+1:Nat):Int):=by rw [Ap (by omega) (by omega)];omega
  have e:o++(v::r).flatten=(o++v)++r.flatten:=by simp
  rw [e] at hg hb ⊢
  have hb':o.length+v.length<=500:=by
   rw [Hz,Hz] at hb;omega
  have ih:=Ai8 hfu (a0n:=a0n) (a0:=a0) hl r (i+1) nn (o++v) h3 (by omega) hg hb (by omega)
  have g0:=atv h2;have L:=Ej o;have Lv:=Ej v;have t:List.take (o.length*3) (Bn o)=Bn o:=Iv (by omega)
  rw [Hz,Ad8] at ih;rw [Vw];simp (disch:=omega) only [B3,Hr,g0,L,Lv,t,w,ih]
theorem Atf (hfu:1000<=fu){vs:List (List It)} (hg:∀v∈vs,P9 [] 0 v∧v.length<1000) (hl:vs.length<=400)(ha:P9 [] 0 (⟨5,vs.length,⟨#[]⟩⟩::vs.flatten)) (hb:vs.flatten.length<=400):
  Ae C0 Tryz.prog fu (d+6) Vk [.lst false 1 vs.length (Ax5 vs)]=some ⟨[.own 3 (vs.flatten.length+1) (Bn (⟨5,vs.length,⟨#[]⟩⟩::vs.flatten)),.sc (.int .i64 0)],[]⟩:=by
 rw [Ao9];have f:=Aq8 (fu:=fu) (d:=d) hfu (by omega) hg
 have w:IntKind.wrap .u64 (vs.length:Int)=vs.length:=B6 (by omega) (by omega)
 have q:=Ai8 (fu:=fu) (d:=d) hfu (a0n:=vs.length) (a0:=Ax5 vs) (by omega) vs 0 fu [⟨5,vs.length,⟨#[]⟩⟩] rfl (by omega) ha (by rw [Hz,List.length_singleton];omega) (by omega)
 simp only [B3,f,bne_self_eq_false,w];exact q
end
end
section
def Baa (a b:List Int):Int:=Lib.compareBytes (a.map fun n=>n.toNat.toUInt8) (b.map fun n=>n.toNat.toUInt8)
def Ti (a b:List Int):Bool:=if a.length=b.length then decide (Baa a b<0) else decide (a.length<b.length)
def Jv (l:List G4)(key:List Int):List G4:=match l.getLast? with|some f=>l.dropLast++[⟨f.p,f.left,key⟩]|none=>l
theorem Nq (l:List G4)(f:G4)(key:List Int):Jv (l++[f]) key=l++[⟨f.p,f.left,key⟩]:=by
 unfold Jv;simp
def Ah5 (l:List G4):List Int:=match l.getLast? with|some f=>f.last|none=>[]
theorem Ap5 (l:List G4)(f:G4):Ah5 (l++[f])=f.last:=by
 unfold Ah5;simp
def Ek (l:List G4)(x:It):Int × List G4:=
 if x.k=4∧okS x.s=false then (6,l)
 else if Sx l=true then (if Ah5 l≠[]∧Ti (Ah5 l) (Br x)=false then (7,l) else (0,F6 (Jv l (Br x)) x))
 else (0,F6 l x)
theorem Awv (x:It):1<=(Br x).length:=by
 unfold Br;have h2:=Hy 2 x.s.size;have h3:=Hy 3 x.s.size;have h4:=Hy (x.k-1) x.n
 repeat' split
 all_goals try simp only [Hz,Iw,Y6]
 all_goals omega
section
variable {fu d:Nat}
theorem Au1 (a b:List Int):Ae C0 Tryz.prog fu (d+1) 143 [.lst false 1 a.length (Ah .u8 a),.lst false 1 b.length (Ah .u8 b)]=some ⟨[.sc (.int .i64 (Baa a b))],[]⟩:=by
 have h:Ae C0 Tryz.prog fu (d+1) 143 [.lst false 1 a.length (Ah .u8 a),.lst false 1 b.length (Ah .u8 b)]=X2 [.lst false 1 a.length (Ah .u8 a),.lst false 1 b.length (Ah .u8 b)]:=by kernel_rfl
 rw [h];unfold X2;simp only [Al,Nat.beq_refl,Bool.and_self,cond_true,Fk];rfl
theorem At0 (a b:List Int):Ae C0 Tryz.prog fu (d+2) Xf [.lst false 1 a.length (Ah .u8 a),.lst false 1 b.length (Ah .u8 b)]=some ⟨[.sc (.bool (Ti a b))],[]⟩:=by
 refine (Akx fu (d+1) _ _ _ _).trans ?_;have c:=Au1 (fu:=fu) (d:=d) a b;unfold Ti;by_cases h:a.length=b.length
 ·have b0:((a.length:Int) != (b.length:Int))=false:=by simp [h]
  rw [Bm h];simp only [B3,b0,c]
 ·have b0:((a.length:Int) != (b.length:Int))=true:=by simp;omega
  rw [A0 h];simp only [B3,b0];simp
theorem Amp {l:List G4}{x:It}{cnt:Int}(hfu:1000<=fu)(hl:l.length<=900)(h0:0<=cnt)(h1:cnt<=1000000)(hx:x.ok)(hs:x.s.size<=100000):
  Ae C0 Tryz.prog fu (d+3) Jz [.pbox (L7 l cnt),.agg x.cells]=some ⟨[.sc (.int .i64 (Ek l x).1)],[L7 (Ek l x).2 (if (Ek l x).1=0 then cnt+1 else cnt)]⟩:=by
 cases ha:Sx l with
 |false=>
  cases hv:(x.k==4) && !okS x.s with
  |false=>
   have e:Ek l x=(0,F6 l x):=by
    unfold Ek;rw [A0,A0 (by simp [ha])]
    intro hh;simp [hh.1,hh.2] at hv
   have:=Agx (fu:=fu) (d:=d+1) (l:=l) (x:=x) (cnt:=cnt) (by omega) (by omega) h0 h1 ha hs (by
    intro hk;simp [hk] at hv;exact hv)
   rw [e,this];rfl
  |true=>
   simp at hv
   have e:Ek l x=(6,l):=by
    unfold Ek;rw [Bm hv]
   rw [e];obtain ⟨k,n,s⟩:=x;have va:=Kv (fu:=fu) (d:=d+1) s (Nat.le_trans hs (by omega))
   simp only at hv;obtain ⟨rfl,hv⟩:=hv;rw [hv] at va;have L:=Dl l;have t:=D4 l;refine (Js fu (d+2) l.length (Fm l) cnt 4 n s).trans ?_;simp (disch:=omega) only [B3,Int.reduceBEq,va,L,t];rfl
 |true=>
  rcases Ny l with rfl|⟨l',f,rfl⟩
  ·exact absurd ha (by decide)
  have it:=Av2 (fu:=fu) (d:=d) hfu (l:=[]) (by simp) hx
  rw [Zzq] at it;have hp:=Awv x;have sm:=At0 (fu:=fu) (d:=d) f.last (Br x);have ak:=Aj4 (fu:=fu) (d:=d+1) (l:=l'++[f]) (by omega) cnt
  rw [ha] at ak;have st:=Awe (fu:=fu) (d:=d+1) (l:=Jv (l'++[f]) (Br x)) (x:=x) (cnt:=cnt) (by rw [Nq];simp at hl ⊢;omega) (by rw [Nq];simp at hl ⊢;omega) h0 h1
  have E:Ek (l'++[f]) x=(if x.k=4∧okS x.s=false then (6,l'++[f]) else if f.last≠[]∧Ti f.last (Br x)=false then (7,l'++[f]) else (0,F6 (Jv (l'++[f]) (Br x)) x)):=by
   unfold Ek;rw [ha,Ap5];simp only [if_true]
  have hn':(l'++[f]).length=l'.length+1:=by simp
  have hx':(l'++[f])[l'.length]?=some f:=by simp
  have w:IntKind.wrap .i64 (((l'++[f]).length:Int)-1)=(l'.length:Int):=by rw [Ap (by omega) (by omega)];omega
  have L:=Dl (l'++[f]);have t:=D4 (l'++[f]);have g2:(Fm (l'++[f])).getD (l'.length*3+2) .top=.lst false 1 f.last.length (Ah .u8 f.last):=Ep G4.cells_len hx' (j:=2) (by omega)
  have sp:B8 (Fm (l'++[f])) [.lst false 1 (Br x).length (Ah .u8 (Br x))] (l'.length*3+2)=Fm (Jv (l'++[f]) (Br x)):=by
   rw [J1 (by omega),Nq,To,To,Uf,Uf]
   have:=Dl l';rw [List.set_append_right _ _ (by omega)]
   have:l'.length*3+2-(Fm l').length=2:=by omega
   rw [this];rfl
  have LK:=Dl (Jv (l'++[f]) (Br x));have tK:=D4 (Jv (l'++[f]) (Br x));have nK:(Jv (l'++[f]) (Br x)).length=(l'++[f]).length:=by rw [Nq];simp
  rw [nK] at LK tK;have L2:=Dl (F6 (Jv (l'++[f]) (Br x)) x);have t2:=D4 (F6 (Jv (l'++[f]) (Br x)) x);have Lk:=Al .u8 (Br x);have tk:=Gs .u8 (Br x);unfold L7 at st ak ⊢;rw [nK] at st;rw [E];generalize F6 (Jv (l'++[f]) (Br x)) x=S at *
  generalize Fm (Jv (l'++[f]) (Br x))=K at *
  have hsm:f.last.length=0->Ti f.last (Br x)=true:=by
   intro hz;unfold Ti;rw [A0 (by omega)]
   simp;omega
  have hnil:f.last≠[]↔0<f.last.length:=by rw [List.length_pos_iff]
  generalize hKe:Br x=key at *
  obtain ⟨k,n,s⟩:=x;have va:=Kv (fu:=fu) (d:=d+1) s (Nat.le_trans hs (by omega))
  unfold okS at va ⊢;unfold It.cells at st it ⊢;simp only at st it hs ⊢;refine (Js fu (d+2) (l'++[f]).length (Fm (l'++[f])) cnt k n s).trans ?_;simp only [Y6] at it;have it0:Ah .u8 []=[]:=rfl;rw [it0] at it
  try unfold Aa
  repeat' first
   |((with_reducible first|apply At|apply Aj|apply As|apply Ax|apply A5|apply Cm|apply Ai);· first|with_reducible rfl|(simp (disch:=first|with_reducible assumption|omega) only [va,L,t,ak,w,Hr,Bw,Zzr,it,g2,Bj,Cf,Lk,tk,sm,sp,LK,tK,st,L2,t2]<;>with_reducible rfl))
   |((with_reducible first|apply Ar|apply Au);· first|with_reducible rfl|with_reducible assumption|omega|(simp (disch:=first|with_reducible assumption|omega) only [gT,va,L,t,ak,w,Hr,Bw,Zzr,it,g2,Bj,Cf,Lk,tk,sm,sp,LK,tK,st,L2,t2]<;>omega))
   |(with_reducible apply Aw;· first|with_reducible rfl|with_reducible assumption|(simp (disch:=first|with_reducible assumption|omega) only [gF,va,L,t,ak,w,Hr,Bw,Zzr,it,g2,Bj,Cf,Lk,tk,sm,sp,LK,tK,st,L2,t2]<;>omega))
   |(with_reducible refine A3f ?_ ?_<;>intro hb<;>try simp only [decide_eq_true_eq,decide_eq_false_iff_not,beq_iff_eq,beq_eq_false_iff_ne,bne_iff_ne,bne_eq_false_iff_eq,ne_eq,Bool.not_eq_true',Bool.not_eq_false',Bool.not_eq_true,Bool.not_eq_false] at hb)
   |(with_reducible refine Apf ?_ ?_)
  all_goals try simp (disch:=first|with_reducible assumption|omega) only [va,L,t,ak,w,Hr,Bw,Zzr,it,g2,Bj,Cf,Lk,tk,sm,sp,LK,tK,st,L2,t2]
  all_goals clear st it ak va sm L t g2 sp LK tK L2 t2 Lk tk it0 E ha hKe
  all_goals repeat' split
  all_goals first
   |rfl
   |(exfalso;simp_all;done)
   |(exfalso;simp_all;omega)
end
end
section
set_option maxRecDepth 100000
abbrev P2:FuncId:=120
noncomputable def G0 (fu:Nat)(call:Am)(a0_0n:Nat)(a0_0:List PV)(a0_1:Int)(a0_2n:Nat)(a0_2:List PV)(a0_3:Int)(nn:Nat)(y0 y1 y2:Int)(y3:Nat)(y4:List PV)(y5 y6:Int)(y7:Nat)(y8:Int)(y9:Nat)(y10:List PV)(Gc:Int)(H4:List PV):Option Ay:=Db C0 Tryz.prog fu call 120 Tryz.f120 (Ch Tryz.f120) [.pbox [.own 3 a0_0n a0_0,.sc (.int .i64 a0_1),.lst false 1 a0_2n a0_2,.sc (.int .i64 a0_3)]] [.r,.r,.r,.r,.r,.r,.r,.r,.r,.r,.r,.l,.r,.l] nn ⟨lk [(0,(.ptr 240000 0)),(2,(.sc (.int .i64 y0))),(3,(.sc (.int .u64 y1))),(8,(.sc (.int .i64 y2))),(94,(.lst false 1 y3 y4)),(95,(.sc (.int .i64 y5))),(96,(.sc (.int .i64 y6)))],Gn [(240000,(.st [(.view 240120 3 0 y7),(.sc (.int .i64 y8)),(.lst false 1 y9 y10),(.sc (.int .i64 Gc))])),(240120,(.ar false H4))]⟩
theorem Mi (fu:Nat)(call:Am)(a0_0n:Nat)(a0_0:List PV)(a0_1:Int)(a0_2n:Nat)(a0_2:List PV)(a0_3:Int)(nn:Nat)(y0 y1 y2:Int)(y3:Nat)(y4:List PV)(y5 y6:Int)(y7:Nat)(y8:Int)(y9:Nat)(y10:List PV)(Gc:Int)(H4:List PV):G0 fu call a0_0n a0_0 a0_1 a0_2n a0_2 a0_3 (nn+1) y0 y1 y2 y3 y4 y5 y6 y7 y8 y9 y10 Gc H4=(A4 (decide (y6<y5)) (Aq (decide (0<=y6)&&decide (y6<(↑y3:Int)))<|Af .u8 (List.getD y4 (Int.toNat y6*1) .top) fun D5=>Aa (Fb .u64 y1 8) fun D7=>Aa (IntKind.wrap .u64 D5) fun Eh=>Aa (Y9 .u64 D7 Eh) fun Fy=>Aa (IntKind.wrap .i64 (y6+1)) fun Ci=>G0 fu call a0_0n a0_0 a0_1 a0_2n a0_2 a0_3 (nn) (y0) Fy (y2) (y3) (y4) (y5) Ci (y7) (y8) (y9) (y10) (Gc) (H4)) (Aa (IntKind.wrap .i64 (Gc+y2)) fun Fn=>Ag (call 133 [.sc (.int .u64 y1)]) fun Ds Bx=>Ac Bx<|Ab Ds fun Fc Ft=>Af .i64 Fc fun Bk=>Ac Ft<|A4 (decide (Bk<y2)) (Aq (decide (y7*3<=List.length H4))<|some (Ay.mk [.sc (.int .i64 0),.sc (.int .u64 0),.sc (.int .i64 2)] [[.own 3 y7 (List.take (y7*3) H4),.sc (.int .i64 y8),.lst false 1 y9 y10,.sc (.int .i64 Fn)]])) (Aq (decide (y7*3<=List.length H4))<|some (Ay.mk [.sc (.int .i64 y0),.sc (.int .u64 y1),.sc (.int .i64 0)] [[.own 3 y7 (List.take (y7*3) H4),.sc (.int .i64 y8),.lst false 1 y9 y10,.sc (.int .i64 Fn)]])))):=by kernel_rfl
theorem Ab4 (fu d a0_0n:Nat)(a0_0:List PV)(a0_1:Int)(a0_2n:Nat)(a0_2:List PV)(a0_3:Int):Ae C0 Tryz.prog fu (d+1) P2 [.pbox [.own 3 a0_0n a0_0,.sc (.int .i64 a0_1),.lst false 1 a0_2n a0_2,.sc (.int .i64 a0_3)]]=(fun (call:Am)=>A4 (decide (a0_3>=(↑a0_2n:Int))) (Aq (decide (a0_0n*3<=List.length a0_0))<|some (Ay.mk [.sc (.int .i64 0),.sc (.int .u64 0),.sc (.int .i64 1)] [[.own 3 a0_0n (List.take (a0_0n*3) a0_0),.sc (.int .i64 a0_1),.lst false 1 a0_2n a0_2,.sc (.int .i64 a0_3)]])) (Aq (decide (0<=a0_3)&&decide (a0_3<(↑a0_2n:Int)))<|Af .u8 (List.getD a0_2 (Int.toNat a0_3*1) .top) fun x1=>Aa (IntKind.wrap .i64 (a0_3+1)) fun x2=>A4 (x1==244) (Aa (IntKind.wrap .u8 (x1-244)) fun x3=>Aa (IntKind.wrap .u64 x3) fun x4=>Aq (decide (a0_0n*3<=List.length a0_0))<|some (Ay.mk [.sc (.int .i64 7),.sc (.int .u64 x4),.sc (.int .i64 0)] [[.own 3 a0_0n (List.take (a0_0n*3) a0_0),.sc (.int .i64 a0_1),.lst false 1 a0_2n a0_2,.sc (.int .i64 x2)]])) (A4 (x1==245) (Aa (IntKind.wrap .u8 (x1-244)) fun x5=>Aa (IntKind.wrap .u64 x5) fun x6=>Aq (decide (a0_0n*3<=List.length a0_0))<|some (Ay.mk [.sc (.int .i64 7),.sc (.int .u64 x6),.sc (.int .i64 0)] [[.own 3 a0_0n (List.take (a0_0n*3) a0_0),.sc (.int .i64 a0_1),.lst false 1 a0_2n a0_2,.sc (.int .i64 x2)]])) (A4 (x1==246) (Aq (decide (a0_0n*3<=List.length a0_0))<|some (Ay.mk [.sc (.int .i64 8),.sc (.int .u64 0),.sc (.int .i64 0)] [[.own 3 a0_0n (List.take (a0_0n*3) a0_0),.sc (.int .i64 a0_1),.lst false 1 a0_2n a0_2,.sc (.int .i64 x2)]])) (Aa (Eg .u8 x1 5) fun x7=>Aa (E9 .u8 x1 31) fun x8=>A4 (decide (x7>5)) (Aq (decide (a0_0n*3<=List.length a0_0))<|some (Ay.mk [.sc (.int .i64 0),.sc (.int .u64 0),.sc (.int .i64 2)] [[.own 3 a0_0n (List.take (a0_0n*3) a0_0),.sc (.int .i64 a0_1),.lst false 1 a0_2n a0_2,.sc (.int .i64 x2)]])) (A4 (decide (x8>27)) (Aq (decide (a0_0n*3<=List.length a0_0))<|some (Ay.mk [.sc (.int .i64 0),.sc (.int .u64 0),.sc (.int .i64 2)] [[.own 3 a0_0n (List.take (a0_0n*3) a0_0),.sc (.int .i64 a0_1),.lst false 1 a0_2n a0_2,.sc (.int .i64 x2)]])) (Aa (IntKind.wrap .i64 x7) fun x9=>Aa (IntKind.wrap .i64 (1+x9)) fun Cd=>A4 (decide (x8<24)) (Aa (IntKind.wrap .u64 x8) fun Bp=>Aq (decide (a0_0n*3<=List.length a0_0))<|some (Ay.mk [.sc (.int .i64 Cd),.sc (.int .u64 Bp),.sc (.int .i64 0)] [[.own 3 a0_0n (List.take (a0_0n*3) a0_0),.sc (.int .i64 a0_1),.lst false 1 a0_2n a0_2,.sc (.int .i64 x2)]])) (Aa (IntKind.wrap .u8 (x8-24)) fun C4=>Aq (decide (0<=C4))<|Aa (Fb .i64 1 C4) fun Da=>Aa (IntKind.wrap .i64 ((↑a0_2n:Int)-x2)) fun Cq=>A4 (decide (Cq<Da)) (Aq (decide (a0_0n*3<=List.length a0_0))<|some (Ay.mk [.sc (.int .i64 0),.sc (.int .u64 0),.sc (.int .i64 1)] [[.own 3 a0_0n (List.take (a0_0n*3) a0_0),.sc (.int .i64 a0_1),.lst false 1 a0_2n a0_2,.sc (.int .i64 x2)]])) (Aa (IntKind.wrap .i64 (x2+Da)) fun C9=>Aq (decide (0<=x2))<|Aq (decide (0<=C9))<|Aq (decide (Int.toNat x2<=Int.toNat C9)&&decide (Int.toNat C9<=a0_2n))<|Aa (Int.toNat C9-Int.toNat x2) fun Do=>Aa (List.take (Do*1) (List.drop (Int.toNat x2*1) a0_2)) fun Du=>G0 fu call a0_0n a0_0 a0_1 a0_2n a0_2 a0_3 (fu) Cd 0 Da Do Du ((↑Do:Int)) 0 (a0_0n) (a0_1) (a0_2n) (a0_2) x2 (a0_0)))))))))) (Ae C0 Tryz.prog fu d):=by kernel_rfl
abbrev P5:FuncId:=110
theorem Abc (fu d a0_0n:Nat)(a0_0:List PV)(a0_1:Int)(a0_2n:Nat)(a0_2:List PV)(a0_3:Int):Ae C0 Tryz.prog fu (d+1) P5 [.pbox [.own 3 a0_0n a0_0,.sc (.int .i64 a0_1),.lst false 1 a0_2n a0_2,.sc (.int .i64 a0_3)]]=(fun (call:Am)=>Aq (decide (a0_0n*3<=List.length a0_0))<|Ag (call 120 [.pbox [.own 3 a0_0n (List.take (a0_0n*3) a0_0),.sc (.int .i64 a0_1),.lst false 1 a0_2n a0_2,.sc (.int .i64 a0_3)]]) fun x1 x2=>Ab x1 fun x3 x4=>Af .i64 x3 fun x5=>Ab x4 fun x6 x7=>Af .u64 x6 fun x8=>Ab x7 fun x9 Cd=>Af .i64 x9 fun Bp=>Ac Cd<|Ab x2 fun C4 Da=>Ab C4 fun Cq C9=>Dk 3 Cq fun Do Du=>Ab C9 fun D5 D7=>Af .i64 D5 fun Eh=>Ab D7 fun Fy Ci=>Ih 1 Fy fun Fn Ds Bx=>Ab Ci fun Fc Ft=>Af .i64 Fc fun Bk=>Ac Ft<|Ac Da<|A4 (Bp != 0) (Aq (decide (Do*3<=List.length Du))<|some (Ay.mk [.agg [.sc (.int .i64 0),.sc (.int .u64 0),.sc (.string (ByteArray.mk #[]))],.sc (.int .i64 Bp)] [[.own 3 Do (List.take (Do*3) Du),.sc (.int .i64 Eh),.lst false 1 Ds Bx,.sc (.int .i64 Bk)]])) (Aq (decide (Do*3<=List.length Du))<|Ag (call 121 [.pbox [.own 3 Do (List.take (Do*3) Du),.sc (.int .i64 Eh)],.sc (.int .i64 x5)]) fun Cg Hg=>Ab Cg fun Gf Ie=>Af .i64 Gf fun H0=>Ac Ie<|Ab Hg fun Jn Gt=>Ab Jn fun Ix M5=>Dk 3 Ix fun F0 H5=>Ab M5 fun Rh R6=>Af .i64 Rh fun L6=>Ac R6<|Ac Gt<|A4 (H0 != 0) (Aq (decide (F0*3<=List.length H5))<|some (Ay.mk [.agg [.sc (.int .i64 0),.sc (.int .u64 0),.sc (.string (ByteArray.mk #[]))],.sc (.int .i64 H0)] [[.own 3 F0 (List.take (F0*3) H5),.sc (.int .i64 L6),.lst false 1 Ds Bx,.sc (.int .i64 Bk)]])) (A4 (x5==5) (A4 (decide (x8>512)) (Aq (decide (F0*3<=List.length H5))<|some (Ay.mk [.agg [.sc (.int .i64 0),.sc (.int .u64 0),.sc (.string (ByteArray.mk #[]))],.sc (.int .i64 8)] [[.own 3 F0 (List.take (F0*3) H5),.sc (.int .i64 L6),.lst false 1 Ds Bx,.sc (.int .i64 Bk)]])) (Aq (decide (F0*3<=List.length H5))<|Ag (call 122 [.pbox [.own 3 F0 (List.take (F0*3) H5),.sc (.int .i64 L6)],.agg [.sc (.int .i64 x5),.sc (.int .u64 x8),.sc (.string (ByteArray.mk #[]))]]) fun Rl Pu=>Ab Rl fun Lx Q6=>Af .i64 Lx fun Rj=>Ac Q6<|Ab Pu fun Oc Pw=>Ab Oc fun Sd Pq=>Dk 3 Sd fun Rx Lz=>Ab Pq fun Py Rr=>Af .i64 Py fun Ts=>Ac Rr<|Ac Pw<|A4 (Rj != 0) (Aq (decide (Rx*3<=List.length Lz))<|some (Ay.mk [.agg [.sc (.int .i64 0),.sc (.int .u64 0),.sc (.string (ByteArray.mk #[]))],.sc (.int .i64 Rj)] [[.own 3 Rx (List.take (Rx*3) Lz),.sc (.int .i64 Ts),.lst false 1 Ds Bx,.sc (.int .i64 Bk)]])) (Aq (decide (Rx*3<=List.length Lz))<|some (Ay.mk [.agg [.sc (.int .i64 x5),.sc (.int .u64 x8),.sc (.string (ByteArray.mk #[]))],.sc (.int .i64 0)] [[.own 3 Rx (List.take (Rx*3) Lz),.sc (.int .i64 Ts),.lst false 1 Ds Bx,.sc (.int .i64 Bk)]])))) (A4 (x5==6) (A4 (decide (x8>512)) (Aq (decide (F0*3<=List.length H5))<|some (Ay.mk [.agg [.sc (.int .i64 0),.sc (.int .u64 0),.sc (.string (ByteArray.mk #[]))],.sc (.int .i64 8)] [[.own 3 F0 (List.take (F0*3) H5),.sc (.int .i64 L6),.lst false 1 Ds Bx,.sc (.int .i64 Bk)]])) (Aq (decide (F0*3<=List.length H5))<|Ag (call 122 [.pbox [.own 3 F0 (List.take (F0*3) H5),.sc (.int .i64 L6)],.agg [.sc (.int .i64 x5),.sc (.int .u64 x8),.sc (.string (ByteArray.mk #[]))]]) fun Pi Q9=>Ab Pi fun S5 Uv=>Af .i64 S5 fun Oe=>Ac Uv<|Ab Q9 fun Ro V9=>Ab Ro fun Uq Q7=>Dk 3 Uq fun S6 S1=>Ab Q7 fun Ty Up=>Af .i64 Ty fun Us=>Ac Up<|Ac V9<|A4 (Oe != 0) (Aq (decide (S6*3<=List.length S1))<|some (Ay.mk [.agg [.sc (.int .i64 0),.sc (.int .u64 0),.sc (.string (ByteArray.mk #[]))],.sc (.int .i64 Oe)] [[.own 3 S6 (List.take (S6*3) S1),.sc (.int .i64 Us),.lst false 1 Ds Bx,.sc (.int .i64 Bk)]])) (Aq (decide (S6*3<=List.length S1))<|some (Ay.mk [.agg [.sc (.int .i64 x5),.sc (.int .u64 x8),.sc (.string (ByteArray.mk #[]))],.sc (.int .i64 0)] [[.own 3 S6 (List.take (S6*3) S1),.sc (.int .i64 Us),.lst false 1 Ds Bx,.sc (.int .i64 Bk)]])))) (A4 (x5==3) (A4 (decide (x8>1024)) (Aq (decide (F0*3<=List.length H5))<|some (Ay.mk [.agg [.sc (.int .i64 0),.sc (.int .u64 0),.sc (.string (ByteArray.mk #[]))],.sc (.int .i64 8)] [[.own 3 F0 (List.take (F0*3) H5),.sc (.int .i64 L6),.lst false 1 Ds Bx,.sc (.int .i64 Bk)]])) (Aa (IntKind.wrap .i64 ((↑Ds:Int)-Bk)) fun Q8=>Aa (IntKind.wrap .i64 x8) fun Ws=>A4 (decide (Q8<Ws)) (Aq (decide (F0*3<=List.length H5))<|some (Ay.mk [.agg [.sc (.int .i64 0),.sc (.int .u64 0),.sc (.string (ByteArray.mk #[]))],.sc (.int .i64 1)] [[.own 3 F0 (List.take (F0*3) H5),.sc (.int .i64 L6),.lst false 1 Ds Bx,.sc (.int .i64 Bk)]])) (Aa (IntKind.wrap .i64 x8) fun Wj=>Aa (IntKind.wrap .i64 (Bk+Wj)) fun Ur=>Aq (decide (0<=Bk))<|Aq (decide (0<=Ur))<|Aq (decide (Int.toNat Bk<=Int.toNat Ur)&&decide (Int.toNat Ur<=Ds))<|Aa (Int.toNat Ur-Int.toNat Bk) fun V1=>Aa (List.take (V1*1) (List.drop (Int.toNat Bk*1) Bx)) fun Wu=>Aq (decide (List.length Wu=V1))<|Ez (bytesOf Wu) fun V7=>Aa (IntKind.wrap .i64 x8) fun Wt=>Aa (IntKind.wrap .i64 (Bk+Wt)) fun Za=>Aq (decide (F0*3<=List.length H5))<|Ag (call 122 [.pbox [.own 3 F0 (List.take (F0*3) H5),.sc (.int .i64 L6)],.agg [.sc (.int .i64 x5),.sc (.int .u64 0),.sc (.string (ByteArray.mk (List.toArray V7)))]]) fun x80 x81=>Ab x80 fun x82 x83=>Af .i64 x82 fun Z9=>Ac x83<|Ab x81 fun x85 x86=>Ab x85 fun x87 Rm=>Dk 3 x87 fun S9 Vx=>Ab Rm fun x91 x92=>Af .i64 x91 fun x93=>Ac x92<|Ac x86<|A4 (Z9 != 0) (Aq (decide (S9*3<=List.length Vx))<|some (Ay.mk [.agg [.sc (.int .i64 0),.sc (.int .u64 0),.sc (.string (ByteArray.mk #[]))],.sc (.int .i64 Z9)] [[.own 3 S9 (List.take (S9*3) Vx),.sc (.int .i64 x93),.lst false 1 Ds Bx,.sc (.int .i64 Za)]])) (Aq (decide (S9*3<=List.length Vx))<|some (Ay.mk [.agg [.sc (.int .i64 x5),.sc (.int .u64 0),.sc (.string (ByteArray.mk (List.toArray V7)))],.sc (.int .i64 0)] [[.own 3 S9 (List.take (S9*3) Vx),.sc (.int .i64 x93),.lst false 1 Ds Bx,.sc (.int .i64 Za)]]))))) (A4 (x5==4) (A4 (decide (x8>1024)) (Aq (decide (F0*3<=List.length H5))<|some (Ay.mk [.agg [.sc (.int .i64 0),.sc (.int .u64 0),.sc (.string (ByteArray.mk #[]))],.sc (.int .i64 8)] [[.own 3 F0 (List.take (F0*3) H5),.sc (.int .i64 L6),.lst false 1 Ds Bx,.sc (.int .i64 Bk)]])) (Aa (IntKind.wrap .i64 ((↑Ds:Int)-Bk)) fun x94=>Aa (IntKind.wrap .i64 x8) fun x95=>A4 (decide (x94<x95)) (Aq (decide (F0*3<=List.length H5))<|some (Ay.mk [.agg [.sc (.int .i64 0),.sc (.int .u64 0),.sc (.string (ByteArray.mk #[]))],.sc (.int .i64 1)] [[.own 3 F0 (List.take (F0*3) H5),.sc (.int .i64 L6),.lst false 1 Ds Bx,.sc (.int .i64 Bk)]])) (Aa (IntKind.wrap .i64 x8) fun x96=>Aa (IntKind.wrap .i64 (Bk+x96)) fun x97=>Aq (decide (0<=Bk))<|Aq (decide (0<=x97))<|Aq (decide (Int.toNat Bk<=Int.toNat x97)&&decide (Int.toNat x97<=Ds))<|Aa (Int.toNat x97-Int.toNat Bk) fun x98=>Aa (List.take (x98*1) (List.drop (Int.toNat Bk*1) Bx)) fun x99=>Aq (decide (List.length x99=x98))<|Ez (bytesOf x99) fun Tt=>Aa (IntKind.wrap .i64 x8) fun Qd=>Aa (IntKind.wrap .i64 (Bk+Qd)) fun G5=>Aq (decide (F0*3<=List.length H5))<|Ag (call 122 [.pbox [.own 3 F0 (List.take (F0*3) H5),.sc (.int .i64 L6)],.agg [.sc (.int .i64 x5),.sc (.int .u64 0),.sc (.string (ByteArray.mk (List.toArray Tt)))]]) fun Jm S0=>Ab Jm fun Pn Oh=>Af .i64 Pn fun Kl=>Ac Oh<|Ab S0 fun Wd Xr=>Ab Wd fun Vu Wo=>Dk 3 Vu fun Ig Km=>Ab Wo fun Abb Aa3=>Af .i64 Abb fun Om=>Ac Aa3<|Ac Xr<|A4 (Kl != 0) (Aq (decide (Ig*3<=List.length Km))<|some (Ay.mk [.agg [.sc (.int .i64 0),.sc (.int .u64 0),.sc (.string (ByteArray.mk #[]))],.sc (.int .i64 Kl)] [[.own 3 Ig (List.take (Ig*3) Km),.sc (.int .i64 Om),.lst false 1 Ds Bx,.sc (.int .i64 G5)]])) (Aq (decide (Ig*3<=List.length Km))<|some (Ay.mk [.agg [.sc (.int .i64 x5),.sc (.int .u64 0),.sc (.string (ByteArray.mk (List.toArray Tt)))],.sc (.int .i64 0)] [[.own 3 Ig (List.take (Ig*3) Km),.sc (.int .i64 Om),.lst false 1 Ds Bx,.sc (.int .i64 G5)]]))))) (Aq (decide (F0*3<=List.length H5))<|Ag (call 122 [.pbox [.own 3 F0 (List.take (F0*3) H5),.sc (.int .i64 L6)],.agg [.sc (.int .i64 x5),.sc (.int .u64 x8),.sc (.string (ByteArray.mk #[]))]]) fun S2 Aba=>Ab S2 fun Zm Abj=>Af .i64 Zm fun Z7=>Ac Abj<|Ab Aba fun Zp Abu=>Ab Zp fun Aa8 Zk=>Dk 3 Aa8 fun Rc Ut=>Ab Zk fun Acc Abk=>Af .i64 Acc fun Zl=>Ac Abk<|Ac Abu<|A4 (Z7 != 0) (Aq (decide (Rc*3<=List.length Ut))<|some (Ay.mk [.agg [.sc (.int .i64 0),.sc (.int .u64 0),.sc (.string (ByteArray.mk #[]))],.sc (.int .i64 Z7)] [[.own 3 Rc (List.take (Rc*3) Ut),.sc (.int .i64 Zl),.lst false 1 Ds Bx,.sc (.int .i64 Bk)]])) (Aq (decide (Rc*3<=List.length Ut))<|some (Ay.mk [.agg [.sc (.int .i64 x5),.sc (.int .u64 x8),.sc (.string (ByteArray.mk #[]))],.sc (.int .i64 0)] [[.own 3 Rc (List.take (Rc*3) Ut),.sc (.int .i64 Zl),.lst false 1 Ds Bx,.sc (.int .i64 Bk)]]))))))))) (Ae C0 Tryz.prog fu d):=by kernel_rfl
abbrev Aah:FuncId:=86
noncomputable def Kr (fu:Nat)(call:Am)(a0n:Nat)(a0:List PV)(nn y0:Nat)(y1:List PV)(y2:Nat)(y3:Int)(y4:Nat)(y5:List PV)(y6:Int)(y7:List PV):Option Ay:=Db C0 Tryz.prog fu call 86 Tryz.f86 (Ch Tryz.f86) [.lst false 1 a0n a0] [.r,.r,.l,.l] nn ⟨lk [(2,(.view 2 3 0 y0)),(5,(.ptr 5 0))],Gn [(2,(.ar false y1)),(5,(.st [(.view 32 3 0 y2),(.sc (.int .i64 y3)),(.lst false 1 y4 y5),(.sc (.int .i64 y6))])),(32,(.ar false y7))]⟩
theorem Aeo (fu:Nat)(call:Am)(a0n:Nat)(a0:List PV)(nn y0:Nat)(y1:List PV)(y2:Nat)(y3:Int)(y4:Nat)(y5:List PV)(y6:Int)(y7:List PV):Kr fu call a0n a0 (nn+1) y0 y1 y2 y3 y4 y5 y6 y7=(Aq (decide (y2*3<=List.length y7))<|Ag (call 109 [.pbox [.own 3 y2 (List.take (y2*3) y7),.sc (.int .i64 y3)]]) fun x1 x2=>Ab x1 fun x3 x4=>Bz x3 fun x5=>Ac x4<|Ab x2 fun x6 x7=>Ab x6 fun x8 x9=>Dk 3 x8 fun Cd Bp=>Ab x9 fun C4 Da=>Af .i64 C4 fun Cq=>Ac Da<|Ac x7<|A4 (!x5) (Aq (decide (Cd*3<=List.length Bp))<|Ag (call 110 [.pbox [.own 3 Cd (List.take (Cd*3) Bp),.sc (.int .i64 Cq),.lst false 1 y4 y5,.sc (.int .i64 y6)]]) fun C9 Do=>Ab C9 fun Du D5=>Cu Du fun D7=>Ab D7 fun Eh Fy=>Af .i64 Eh fun Ci=>Ab Fy fun Fn Ds=>Af .u64 Fn fun Bx=>Ab Ds fun Fc Ft=>Cn Fc fun Bk=>Ac Ft<|Ab D5 fun Cg Hg=>Af .i64 Cg fun Gf=>Ac Hg<|Ab Do fun Ie H0=>Ab Ie fun Jn Gt=>Dk 3 Jn fun Ix M5=>Ab Gt fun F0 H5=>Af .i64 F0 fun Rh=>Ab H5 fun R6 L6=>Ih 1 R6 fun Rl Pu Lx=>Ab L6 fun Q6 Rj=>Af .i64 Q6 fun Oc=>Ac Rj<|Ac H0<|A4 (Gf != 0) (some (Ay.mk [.own 3 0 [],.sc (.int .i64 0),.sc (.int .i64 Gf)] [])) (Aq (decide (y0*3<=List.length y1)&&true&&decide ((y0+1)*32<=1099511627776)&&decide (y0+1<=1099511627776))<|Aa (y0+1) fun Pw=>Aa (List.take (y0*3) y1++[.sc (.int .i64 Ci),.sc (.int .u64 Bx),.sc (.string Bk)]) fun Sd=>Kr fu call a0n a0 (nn) Pw Sd Ix Rh Pu Lx Oc M5)) (Aq (decide (y0*3<=List.length y1))<|some (Ay.mk [.own 3 y0 (List.take (y0*3) y1),.sc (.int .i64 y6),.sc (.int .i64 0)] []))):=by kernel_rfl
theorem Al2 (fu d a0n:Nat)(a0:List PV):Ae C0 Tryz.prog fu (d+1) Aah [.lst false 1 a0n a0]=(fun (call:Am)=>Kr fu call a0n a0 (fu) 0 ([]) 0 0 (a0n) (a0) 0 ([])) (Ae C0 Tryz.prog fu d):=by kernel_rfl
end
section
structure Hd where
 k:Int
 n:Int
 e:Int
 at_:Nat
def Le (n:Int):Int:=if n<24 then 0 else if n<256 then 1 else if n<65536 then 2 else if n<4294967296 then 4 else 8
def szE (low:Int):Nat:=if low=24 then 1 else if low=25 then 2 else if low=26 then 4 else 8
def Tj (b:List Int)(at_:Nat)(x:Int):Hd:=
 if x=244 then ⟨7,0,0,at_+1⟩ else if x=245 then ⟨7,1,0,at_+1⟩ else if x=246 then ⟨8,0,0,at_+1⟩
 else if x / 32>5 then ⟨0,0,2,at_+1⟩ else if x % 32>27 then ⟨0,0,2,at_+1⟩
 else if x % 32<24 then ⟨1+x / 32,x % 32,0,at_+1⟩
 else if b.length-(at_+1)<szE (x % 32) then ⟨0,0,1,at_+1⟩
 else if Le (Zu ((b.drop (at_+1)).take (szE (x % 32))))<szE (x % 32) then ⟨0,0,2,at_+1+szE (x % 32)⟩
 else ⟨1+x / 32,Zu ((b.drop (at_+1)).take (szE (x % 32))),0,at_+1+szE (x % 32)⟩
def Bg (b:List Int)(at_:Nat):Hd:=match b[at_]? with|none=>⟨0,0,1,at_⟩|some x=>Tj b at_ x
theorem Bai {x:Int}(h:0<=x):Eg .u8 x 5=x / 32:=by
 unfold Eg;show x.fdiv (2 ^ (min (5:Int).toNat IntKind.u8.bits))=_;have h2:(2:Int) ^ (min (5:Int).toNat IntKind.u8.bits)=32:=by decide
 rw [h2,Int.fdiv_eq_ediv_of_nonneg _ (by omega)]
theorem A55 {x:Int}(h0:0<=x)(h1:x<=255):E9 .u8 x 31=x % 32:=by
 obtain ⟨n,rfl⟩:=Int.eq_ofNat_of_zero_le h0;have hn:n<256:=by omega
 have e1:(BitVec.ofInt 8 (n:Int)).toNat=n:=by
  rw [BitVec.toNat_ofInt];omega
 have e2:(BitVec.ofInt 8 (31:Int)).toNat=2 ^ 5-1:=by decide
 unfold E9;show IntKind.wrap .u8 ((BitVec.ofInt 8 (n:Int) &&& BitVec.ofInt 8 (31:Int)).toNat:Int)=_;rw [BitVec.toNat_and,e1,e2,Nat.and_two_pow_sub_one_eq_mod,F7 (by omega) (by omega)]
 omega
abbrev Ay0 (l:List G4)(cnt:Int)(b:List Int)(at_:Nat):List PV:=[.own 3 l.length (Fm l),.sc (.int .i64 cnt),.lst false 1 b.length (Ah .u8 b),.sc (.int .i64 at_)]
section
variable {fu d:Nat}
theorem A1m (n:Int):Ae C0 Tryz.prog fu (d+1) Ael [.sc (.int .u64 n)]=some ⟨[.sc (.int .i64 (Le n))],[]⟩:=by
 rw [Aog];unfold Le
 try unfold Aa
 repeat' first
  |((with_reducible first|apply At|apply Aj|apply As|apply Ai);· first|with_reducible rfl|(simp (disch:=first|with_reducible assumption|omega) only [Bm,A0]<;>with_reducible rfl))
  |((with_reducible first|apply Ar|apply Au);· first|with_reducible rfl|with_reducible assumption|omega|(simp (disch:=first|with_reducible assumption|omega) only [gT,Bm,A0]<;>omega))
  |(with_reducible apply Aw;· first|with_reducible rfl|with_reducible assumption|(simp (disch:=first|with_reducible assumption|omega) only [gF,Bm,A0]<;>omega))
  |(with_reducible refine A3f ?_ ?_<;>intro hb<;>try simp only [decide_eq_true_eq,decide_eq_false_iff_not,beq_iff_eq,beq_eq_false_iff_ne,bne_iff_ne,bne_eq_false_iff_eq,ne_eq,Bool.not_eq_true',Bool.not_eq_false',Bool.not_eq_true,Bool.not_eq_false] at hb)
  |(with_reducible refine Apf ?_ ?_)
 all_goals try simp (disch:=first|with_reducible assumption|omega) only [Bm,A0]
theorem Ai2 {a0n a2n:Nat}{a0 a2:List PV}{a1 a3 k cnt:Int}{l:List G4}{b:List Int}{off sz:Nat}{q:List Int}(hq:q.length=sz)(hb:b.length<=1000000)(ho:off+sz<=b.length):∀(r:List Int)(i nn:Nat)(v:Int),q.drop i=r->r.length<nn->i<=sz ->
    G0 fu (Ae C0 Tryz.prog fu (d+1)) a0n a0 a1 a2n a2 a3 nn k v (sz:Int) sz (Ah .u8 q) (sz:Int) (i:Int) l.length cnt b.length (Ah .u8 b) (off:Int) (Fm l) =
      (if Le (r.foldl Ev v)<sz then some ⟨[.sc (.int .i64 0),.sc (.int .u64 0),.sc (.int .i64 2)],[Ay0 l cnt b (off+sz)]⟩
       else some ⟨[.sc (.int .i64 k),.sc (.int .u64 (r.foldl Ev v)),.sc (.int .i64 0)],[Ay0 l cnt b (off+sz)]⟩)
  |_,_,0,_,_,h,_=>by omega
  |[],i,nn+1,v,hd,hn,hi=>by
    have:=drop_nil hd
    have sh:=A1m (fu:=fu) (d:=d) v
    have L:=Dl l
    have t:=D4 l
    have w:IntKind.wrap .i64 ((off:Int)+(sz:Int))=((off+sz:Nat):Int):=by rw [Ap (by omega) (by omega)];omega
    rw [Mi,Dw _ _ _ (by omega),List.foldl_nil]
    by_cases hs:Le v<sz
    · rw [Bm hs]
      simp (disch:=omega) only [B3,w,sh,L,t,Bj]
    · rw [A0 hs]
      simp (disch:=omega) only [B3,w,sh,L,t,Bj]
  |x::r,i,nn+1,v,hd,hn,hi=>by
    obtain ⟨h1,h2,h3⟩:=Ct hd
    simp only [Iw] at hn
    have g0:=Ps (k:=.u8) h2
    have w:IntKind.wrap .i64 ((i:Int)+1)=((i+1:Nat):Int):=by rw [Ap (by omega) (by omega)];omega
    have ih:=Ai2 (a0n:=a0n) (a2n:=a2n) (a0:=a0) (a2:=a2) (a1:=a1) (a3:=a3) (k:=k) (cnt:=cnt) (l:=l) hq hb ho r (i+1) nn (Ev v x) h3 (by omega) (by omega)
    rw [List.foldl_cons,←ih,Mi]
    simp (disch:=omega) only [B3,Hr,Bj,g0,w]
theorem A2n {l:List G4}{cnt:Int}{b:List Int}{at_:Nat}(hfu:1000<=fu)(hb:Hf b)(hl:b.length<=1000000):
  Ae C0 Tryz.prog fu (d+2) P2 [.pbox (Ay0 l cnt b at_)]=some ⟨[.sc (.int .i64 (Bg b at_).k),.sc (.int .u64 (Bg b at_).n),.sc (.int .i64 (Bg b at_).e)],[Ay0 l cnt b (Bg b at_).at_]⟩:=by
 refine (Ab4 fu (d+1) l.length (Fm l) cnt b.length (Ah .u8 b) (at_:Int)).trans ?_;have L:=Dl l;have t:=D4 l;have Lb:=Al .u8 b;have tb:=Gs .u8 b;unfold Bg;by_cases hlt:at_<b.length
 rotate_left
 ·have hg:b[at_]?=none:=List.getElem?_eq_none (by omega)
  rw [hg];simp (disch:=omega) only [B3,L,t,Lb,tb,Bj]
 have hg:b[at_]?=some b[at_]:=List.getElem?_eq_getElem hlt;have hB:=hb _ (List.getElem_mem hlt);rw [hg];generalize b[at_]=x at hg hB;have g0:=Ps (k:=.u8) hg;have w1:IntKind.wrap .i64 ((at_:Int)+1)=((at_+1:Nat):Int):=by rw [Ap (by omega) (by omega)];omega
 have s5:=Bai hB.1;have a31:=A55 hB.1 hB.2;unfold Tj;simp only;by_cases c1:x=244
 ·subst c1;have q:IntKind.wrap .u64 (IntKind.wrap .u8 ((244:Int)-244))=0:=by decide
  simp (disch:=omega) only [B3,Hr,Bw,Bj,g0,Int.reduceBEq,w1,L,t,Lb,tb,q]
 rw [A0 c1];have b1:(x==(244:Int))=false:=by simp [c1]
 by_cases c2:x=245
 ·subst c2;have q:IntKind.wrap .u64 (IntKind.wrap .u8 ((245:Int)-244))=1:=by decide
  simp (disch:=omega) only [B3,Hr,Bw,Bj,g0,Int.reduceBEq,w1,L,t,Lb,tb,q,if_true]
 rw [A0 c2];have b2:(x==(245:Int))=false:=by simp [c2]
 by_cases c3:x=246
 ·subst c3;simp (disch:=omega) only [B3,Hr,Bw,Bj,g0,Int.reduceBEq,w1,L,t,Lb,tb,if_true]
 rw [A0 c3];have b3:(x==(246:Int))=false:=by simp [c3]
 by_cases c4:x / 32>5
 ·rw [Bm c4];simp (disch:=omega) only [B3,Hr,Bw,Bj,g0,b1,b2,b3,s5,a31,w1,L,t,Lb,tb]
 rw [A0 c4];by_cases c5:x % 32>27
 ·rw [Bm c5];simp (disch:=omega) only [B3,Hr,Bw,Bj,g0,b1,b2,b3,s5,a31,w1,L,t,Lb,tb]
 rw [A0 c5];have wk1:IntKind.wrap .i64 (x / 32)=x / 32:=Ap (by omega) (by omega)
 have wk2:IntKind.wrap .i64 (1+x / 32)=1+x / 32:=Ap (by omega) (by omega)
 by_cases c6:x % 32<24
 ·have wn:IntKind.wrap .u64 (x % 32)=x % 32:=B6 (by omega) (by omega)
  rw [Bm c6];simp (disch:=omega) only [B3,Hr,Bw,Bj,g0,b1,b2,b3,s5,a31,w1,wk1,wk2,wn,L,t,Lb,tb]
 rw [A0 c6];have q1:IntKind.wrap .u8 (x % 32-24)=x % 32-24:=F7 (by omega) (by omega)
 have q2:Fb .i64 1 (x % 32-24)=(szE (x % 32):Int):=by
  have:x % 32=24∨x % 32=25∨x % 32=26∨x % 32=27:=by omega
  rcases this with h|h|h|h<;>rw [h]<;>decide
 have q3:szE (x % 32)<=8:=by
  unfold szE
  repeat' split
  all_goals omega
 generalize szE (x % 32)=sz at q2 q3 ⊢;have q4:IntKind.wrap .i64 ((b.length:Int)-((at_+1:Nat):Int))=((b.length-(at_+1):Nat):Int):=by rw [Ap (by omega) (by omega)];omega
 by_cases c7:b.length-(at_+1)<sz
 ·rw [Bm c7];simp (disch:=omega) only [B3,Hr,Bw,Bj,g0,b1,b2,b3,s5,a31,w1,wk1,wk2,q1,q2,q4,L,t,Lb,tb]
 rw [A0 c7];have q5:IntKind.wrap .i64 (((at_+1:Nat):Int)+(sz:Int))=((at_+1+sz:Nat):Int):=by rw [Ap (by omega) (by omega)];omega
 have q6:at_+1+sz-(at_+1)=sz:=by omega
 have lp:=Ai2 (fu:=fu) (d:=d) (a0n:=l.length) (a2n:=b.length) (a0:=Fm l) (a2:=Ah .u8 b) (a1:=cnt) (a3:=(at_:Int)) (k:=1+x / 32) (cnt:=cnt) (l:=l) (b:=b) (off:=at_+1) (sz:=sz) (q:=(b.drop (at_+1)).take sz) (by rw [List.length_take,List.length_drop];omega) hl (by omega) _ 0 fu 0 rfl (by rw [Cf,List.length_take];omega) (by omega)
 rw [Cf] at lp;have lp':=lp;unfold Zu;by_cases c8:Le (((b.drop (at_+1)).take sz).foldl Ev 0)<sz
 ·rw [Bm c8] at lp' ⊢;simp (disch:=omega) only [B3,Hr,Bw,Bj,g0,b1,b2,b3,s5,a31,w1,wk1,wk2,q1,q2,q4,q5,q6,Et,Dx,L,t,Lb,tb];exact lp'
 ·rw [A0 c8] at lp' ⊢;simp (disch:=omega) only [B3,Hr,Bw,Bj,g0,b1,b2,b3,s5,a31,w1,wk1,wk2,q1,q2,q4,q5,q6,Et,Dx,L,t,Lb,tb];exact lp'
end
end
section
structure Rd where
 x:It
 e:Int
 l:List G4
 cnt:Int
 at_:Nat
def it0:It:=⟨0,0,⟨#[]⟩⟩
def V5 (l:List G4)(cnt:Int)(x:It)(at_:Nat):Rd:=if (Ek l x).1=0 then ⟨x,0,(Ek l x).2,cnt+1,at_⟩ else ⟨it0,(Ek l x).1,(Ek l x).2,cnt,at_⟩
def Ao2 (l:List G4)(cnt:Int)(b:List Int)(h:Hd):Rd:=
 if h.e≠0 then ⟨it0,h.e,l,cnt,h.at_⟩
 else if J3 l cnt h.k≠0 then ⟨it0,J3 l cnt h.k,l,cnt,h.at_⟩
 else if h.k=5∨h.k=6 then (if h.n>512 then ⟨it0,8,l,cnt,h.at_⟩ else V5 l cnt ⟨h.k,h.n,⟨#[]⟩⟩ h.at_)
 else if h.k=3∨h.k=4 then (if h.n>1024 then ⟨it0,8,l,cnt,h.at_⟩ else if b.length-h.at_<h.n.toNat then ⟨it0,1,l,cnt,h.at_⟩
  else V5 l cnt ⟨h.k,0,Bl ((b.drop h.at_).take h.n.toNat)⟩ (h.at_+h.n.toNat))
 else V5 l cnt ⟨h.k,h.n,⟨#[]⟩⟩ h.at_
def F2 (l:List G4)(cnt:Int)(b:List Int)(at_:Nat):Rd:=Ao2 l cnt b (Bg b at_)
theorem Ags (a b:Int):0<=Ev a b∧Ev a b<=18446744073709551615:=Lw _
theorem W0:∀(l:List Int)(v:Int),0<=v->v<=18446744073709551615->0<=l.foldl Ev v∧l.foldl Ev v<=18446744073709551615
 |[],v,h0,h1=>⟨h0,h1⟩
 |x::l,v,h0,h1=>W0 l _ (Ags v x).1 (Ags v x).2
theorem P0 {b:List Int}{at_:Nat}(hb:Hf b)(ha:at_<=b.length):(Bg b at_).at_<=b.length∧((Bg b at_).e=0->1<=(Bg b at_).k∧(Bg b at_).k<=8∧0<=(Bg b at_).n∧(Bg b at_).n<=18446744073709551615∧at_<(Bg b at_).at_):=by
 unfold Bg;by_cases hlt:at_<b.length
 rotate_left
 ·have hg:b[at_]?=none:=List.getElem?_eq_none (by omega)
  rw [hg];exact ⟨ha,fun h=>by simp at h⟩
 have hg:b[at_]?=some b[at_]:=List.getElem?_eq_getElem hlt;have hB:=hb _ (List.getElem_mem hlt);rw [hg];generalize b[at_]=x at hB;have hd:=W0 ((b.drop (at_+1)).take (szE (x % 32))) 0 (by omega) (by omega)
 show (Tj b at_ x).at_<=b.length∧_;simp only [Tj];unfold Zu
 repeat' split
 all_goals refine ⟨by simp only;omega,fun h=>?_⟩
 all_goals first
  |(simp at h;done)
  |(simp only;omega)
section
variable {fu d:Nat}
theorem Az9 {l:List G4}{cnt:Int}{b:List Int}{at_:Nat}(hfu:1000<=fu)(hb:Hf b)(hl:b.length<=1000000)(ha:at_<=b.length)(hf:l.length<=900)(h0:0<=cnt)(h1:cnt<=1000000):
  Ae C0 Tryz.prog fu (d+4) P5 [.pbox (Ay0 l cnt b at_)]=some ⟨[.agg (F2 l cnt b at_).x.cells,.sc (.int .i64 (F2 l cnt b at_).e)],[Ay0 (F2 l cnt b at_).l (F2 l cnt b at_).cnt b (F2 l cnt b at_).at_]⟩:=by
 refine (Abc fu (d+3) l.length (Fm l) cnt b.length (Ah .u8 b) (at_:Int)).trans ?_;have hd:=A2n (fu:=fu) (d:=d+1) (l:=l) (cnt:=cnt) (at_:=at_) hfu hb hl;have hk:=P0 hb ha;unfold F2;generalize Bg b at_=h at hd hk ⊢;obtain ⟨k,n,e,a⟩:=h;obtain ⟨ka,hk⟩:=hk;simp only at hd ka hk;have L:=Dl l;have t:=D4 l;have ad:=Asa (fu:=fu) (d:=d+1) (l:=l) (by omega) cnt k
 unfold L7 at ad;unfold Ao2;by_cases he:e=0
 rotate_left
 ·simp only [ne_eq,he,not_false_eq_true,if_true];have he':(e != 0)=true:=by simp [he]
  try unfold Aa
  repeat first
   |((with_reducible first|apply At|apply Aj|apply As|apply A5|apply Cm|apply B9|apply Ai);· first|with_reducible rfl|(simp (disch:=omega) only [hd,he',L,t]<;>with_reducible rfl))
   |((with_reducible first|apply Ar|apply Au);· first|with_reducible rfl|omega|(simp (disch:=omega) only [gT,hd,he',L,t]<;>omega))
   |(with_reducible apply Aw;· first|with_reducible rfl|(simp (disch:=omega) only [gF,hd,he',L,t]<;>omega))
  try simp (disch:=omega) only [hd,he',L,t]
  all_goals rfl
 subst he;obtain ⟨k1,k8,n0,n1,_⟩:=hk rfl;obtain ⟨m,rfl⟩:=Int.eq_ofNat_of_zero_le n0;have e00:((0:Int) != 0)=false:=rfl;simp only [ne_eq,not_true_eq_false,if_false];by_cases hm:J3 l cnt k=0
 rotate_left
 ·simp only [hm,not_false_eq_true,if_true];have he':(J3 l cnt k != 0)=true:=by simp [hm]
  try unfold Aa
  repeat first
   |((with_reducible first|apply At|apply Aj|apply As|apply A5|apply Cm|apply B9|apply Ai);· first|with_reducible rfl|(simp (disch:=omega) only [hd,e00,ad,he',L,t]<;>with_reducible rfl))
   |((with_reducible first|apply Ar|apply Au);· first|with_reducible rfl|omega|(simp (disch:=omega) only [gT,hd,e00,ad,he',L,t]<;>omega))
   |(with_reducible apply Aw;· first|with_reducible rfl|(simp (disch:=omega) only [gF,hd,e00,ad,he',L,t]<;>omega))
  try simp (disch:=omega) only [hd,e00,ad,he',L,t]
  all_goals rfl
 rw [hm] at ad ⊢;simp only [not_true_eq_false,if_false,Hr];have ac1:=Amp (fu:=fu) (d:=d) (l:=l) (x:=⟨k,m,⟨#[]⟩⟩) (cnt:=cnt) hfu (by omega) h0 h1 ⟨k1,k8,n0,Nat.zero_le _⟩ (Nat.zero_le _)
 have LA:=Dl (Ek l ⟨k,m,⟨#[]⟩⟩).2;have tA:=D4 (Ek l ⟨k,m,⟨#[]⟩⟩).2;have B:=fun (hn:m<=1024)=>Amp (fu:=fu) (d:=d) (l:=l) (x:=⟨k,0,Bl ((b.drop a).take m)⟩) (cnt:=cnt) hfu (by omega) h0 h1 ⟨k1,k8,by simp,by rw [Er,List.length_take];omega⟩ (by rw [Er,List.length_take];omega)
 have LB:=Dl (Ek l ⟨k,0,Bl ((b.drop a).take m)⟩).2;have tB:=D4 (Ek l ⟨k,0,Bl ((b.drop a).take m)⟩).2;unfold V5;generalize Ek l ⟨k,m,⟨#[]⟩⟩=A at *
 obtain ⟨A1,A2⟩:=A;have eB:ByteArray.mk (List.toArray (((b.drop a).take m).map fun n=>n.toNat.toUInt8))=Bl ((b.drop a).take m):=rfl
 have bo:=Fk ((b.drop a).take m);have tk:List.take m (List.drop a (Ah .u8 b))=Ah .u8 ((b.drop a).take m):=by rw [Et,Dx]
 have lq:(Ah .u8 ((b.drop a).take m)).length=min m (b.length-a):=by rw [Al,List.length_take,List.length_drop]
 have Lb:=Al .u8 b;generalize Bl ((b.drop a).take m)=S at *
 generalize Ek l ⟨k,0,S⟩=B' at *
 obtain ⟨B1,B2⟩:=B';generalize (b.drop a).take m=q at *
 unfold L7 It.cells at ac1 B;simp only at ac1 B LA tA LB tB;have w1:IntKind.wrap .i64 ((b.length:Int)-(a:Int))=((b.length-a:Nat):Int):=by rw [Ap (by omega) (by omega)];omega
 have w2:m<=1024->IntKind.wrap .i64 (m:Int)=m:=fun h=>Ap (by omega) (by omega)
 have w3:m<=1024->IntKind.wrap .i64 ((a:Int)+(m:Int))=((a+m:Nat):Int):=fun h=>by rw [Ap (by omega) (by omega)];omega
 have w4:a+m-a=m:=by omega
 try unfold Aa
 repeat' first
  |((with_reducible first|apply At|apply Aj|apply As|apply A5|apply Cm|apply B9|apply Ai);· first|with_reducible rfl|(simp (disch:=first|with_reducible assumption|omega) only [hd,e00,ad,L,t,ac1,LA,tA,B,LB,tB,w1,w2,w3,w4,tk,bo,lq,eB,Hr,Bj,Bw]<;>with_reducible rfl))
  |((with_reducible first|apply Ar|apply Au);· first|with_reducible rfl|with_reducible assumption|omega|(simp (disch:=first|with_reducible assumption|omega) only [gT,hd,e00,ad,L,t,ac1,LA,tA,B,LB,tB,w1,w2,w3,w4,tk,bo,lq,eB,Hr,Bj,Bw]<;>omega))
  |(with_reducible apply Aw;· first|with_reducible rfl|with_reducible assumption|(simp (disch:=first|with_reducible assumption|omega) only [gF,hd,e00,ad,L,t,ac1,LA,tA,B,LB,tB,w1,w2,w3,w4,tk,bo,lq,eB,Hr,Bj,Bw]<;>omega))
  |(with_reducible refine A3f ?_ ?_<;>intro hb<;>try simp only [decide_eq_true_eq,decide_eq_false_iff_not,beq_iff_eq,beq_eq_false_iff_ne,bne_iff_ne,bne_eq_false_iff_eq,ne_eq,Bool.not_eq_true',Bool.not_eq_false',Bool.not_eq_true,Bool.not_eq_false] at hb)
  |(with_reducible refine Apf ?_ ?_)
 all_goals try simp (disch:=first|with_reducible assumption|omega) only [hd,e00,ad,L,t,ac1,LA,tA,B,LB,tB,w1,w2,w3,w4,tk,bo,lq,eB,Hr,Bj,Bw,Bm,A0]
 all_goals rfl
end
end
section
def Amh (l:List G4)(cnt:Int):Bool:=decide (cnt>0)&&((l.length:Int)==0)
def Kf:Nat->List G4->Int->List Int->Nat->List It->List It × Nat × Int
 |0,_,_,_,_,_=>([],0,2)
 |m+1,l,cnt,b,at_,its=>if Amh l cnt=true then (its,at_,0) else
  if (F2 l cnt b at_).e≠0 then ([],0,(F2 l cnt b at_).e) else Kf m (F2 l cnt b at_).l (F2 l cnt b at_).cnt b (F2 l cnt b at_).at_ (its++[(F2 l cnt b at_).x])
def Abz (r:List It × Nat × Int):List PV:=[.own 3 r.1.length (Bn r.1),.sc (.int .i64 r.2.1),.sc (.int .i64 r.2.2)]
theorem Azn (l:List G4):(Ae2 l).length<=l.length:=by
 unfold Ae2;rw [List.length_reverse];have:=(List.dropWhile_sublist (l:=l.reverse) fun f=>f.left==0).length_le
 rw [List.length_reverse] at this;exact this
theorem Am9 (l:List G4)(x:It):(F6 l x).length<=l.length+1:=by
 unfold F6;refine Nat.le_trans (Azn _) ?_;have:=Ajw l;unfold Anh
 repeat' split
 all_goals simp
 all_goals omega
theorem Atv (l:List G4)(k:List Int):(Jv l k).length=l.length:=by
 rcases Ny l with rfl|⟨l',f,rfl⟩
 ·rfl
 ·rw [Nq];simp
theorem Asi (l:List G4)(x:It):(Ek l x).2.length<=l.length+1:=by
 unfold Ek;have h1:=Am9 l x;have h2:=Am9 (Jv l (Br x)) x;rw [Atv] at h2
 repeat' split
 all_goals simp only
 all_goals omega
structure OkX (x:It):Prop where
 k1:1<=x.k
 k8:x.k<=8
 n0:0<=x.n
 n1:x.n<=18446744073709551615
 s1:x.s.size<=1024
theorem A3d {l:List G4}{cnt k:Int}(h:J3 l cnt k=0):cnt<512∧l.length<=8:=by
 unfold J3 at h
 repeat' split at h
 all_goals first
  |(cases h;done)
  |omega
theorem Ajf {l:List G4}{cnt:Int}{x:It}{at_:Nat}(hx:OkX x)(h:(V5 l cnt x at_).e=0):(V5 l cnt x at_).cnt=cnt+1∧(V5 l cnt x at_).l.length<=l.length+1∧(V5 l cnt x at_).at_=at_∧OkX (V5 l cnt x at_).x:=by
 have:=Asi l x;unfold V5 at h ⊢;by_cases hz:(Ek l x).1=0
 ·rw [Bm hz];exact ⟨rfl,this,rfl,hx⟩
 ·rw [A0 hz] at h;exact absurd h hz
theorem Amv {l:List G4}{cnt:Int}{b:List Int}{at_:Nat}(hb:Hf b)(ha:at_<=b.length)(h:(F2 l cnt b at_).e=0):
  cnt<512∧(F2 l cnt b at_).cnt=cnt+1∧(F2 l cnt b at_).l.length<=9∧at_<(F2 l cnt b at_).at_∧(F2 l cnt b at_).at_<=b.length∧OkX (F2 l cnt b at_).x:=by
 have hk:=P0 hb ha;unfold F2 at h ⊢;generalize Bg b at_=q at h hk ⊢;obtain ⟨k,n,e,a⟩:=q;obtain ⟨ka,hk⟩:=hk;unfold Ao2 at h ⊢;simp only at h hk ka ⊢;by_cases he:e=0
 rotate_left
 ·rw [Bm he] at h;exact absurd h he
 subst he;obtain ⟨k1,k8,n0,n1,hlt⟩:=hk rfl;rw [A0 (by simp)] at h ⊢
 by_cases hm:J3 l cnt k=0
 rotate_left
 ·rw [Bm hm] at h;exact absurd h hm
 obtain ⟨c1,c2⟩:=A3d hm;rw [A0 (by simp [hm])] at h ⊢
 have z:(ByteArray.mk #[]).size<=1024:=Nat.zero_le _;by_cases h56:k=5∨k=6
 ·rw [Bm h56] at h ⊢;by_cases hn:n>512
  ·rw [Bm hn] at h;exact absurd h (by simp)
  ·rw [A0 hn] at h ⊢;obtain ⟨p1,p2,p3,p4⟩:=Ajf ⟨k1,k8,n0,n1,z⟩ h;exact ⟨c1,p1,by omega,by omega,by omega,p4⟩
 ·rw [A0 h56] at h ⊢;by_cases h34:k=3∨k=4
  ·rw [Bm h34] at h ⊢;by_cases hn:n>1024
   ·rw [Bm hn] at h;exact absurd h (by simp)
   ·rw [A0 hn] at h ⊢;by_cases hr:b.length-a<n.toNat
    ·rw [Bm hr] at h;exact absurd h (by simp)
    ·rw [A0 hr] at h ⊢;obtain ⟨p1,p2,p3,p4⟩:=Ajf ⟨k1,k8,by simp,by simp,by rw [Er,List.length_take];omega⟩ h
     exact ⟨c1,p1,by omega,by omega,by omega,p4⟩
  ·rw [A0 h34] at h ⊢;obtain ⟨p1,p2,p3,p4⟩:=Ajf ⟨k1,k8,n0,n1,z⟩ h;exact ⟨c1,p1,by omega,by omega,by omega,p4⟩
theorem Aci {b:List Int}(hb:Hf b):∀(m:Nat)(l:List G4)(cnt:Int)(at_:Nat)(its:List It),at_<=b.length->(∀x∈its,OkX x)->(Kf m l cnt b at_ its).2.1<=b.length∧∀x∈(Kf m l cnt b at_ its).1,OkX x
 |0,l,cnt,at_,its,h,hi=>⟨by simp [Kf],by intro x hx;simp [Kf] at hx⟩
 |m+1,l,cnt,at_,its,h,hi=>by
  unfold Kf;by_cases hd:Amh l cnt=true
  ·rw [Bm hd];exact ⟨h,hi⟩
  ·rw [A0 hd];by_cases he:(F2 l cnt b at_).e=0
   ·rw [A0 (by simp [he])]
    obtain ⟨_,_,_,_,p,q⟩:=Amv hb h he;refine Aci hb m _ _ _ _ p ?_;intro x hx;rcases List.mem_append.1 hx with hx|hx
    ·exact hi x hx
    ·simp at hx;subst hx;exact q
   ·rw [Bm he];exact ⟨by simp,by intro x hx;simp at hx⟩
section
variable {fu d:Nat}
theorem Asm (hfu:1000<=fu){a0n:Nat}{a0:List PV}{b:List Int}(hb:Hf b)(hl:b.length<=1000000):∀(nn:Nat)(l:List G4)(cnt:Int)(at_:Nat)(its:List It),0<=cnt->cnt<=512->512-cnt<nn->l.length<=9->at_<=b.length->its.length=cnt.toNat ->
  Kr fu (Ae C0 Tryz.prog fu (d+4)) a0n a0 nn its.length (Bn its) l.length cnt b.length (Ah .u8 b) (at_:Int) (Fm l)=some ⟨Abz (Kf nn l cnt b at_ its),[]⟩
 |0,_,_,_,_,_,_,h,_,_,_=>by omega
 |nn+1,l,cnt,at_,its,h0,h1,hn,hf,ha,hi=>by
  have dn:=Ao3 (fu:=fu) (d:=d+3) l cnt;have ri:=Az9 (fu:=fu) (d:=d) (l:=l) (cnt:=cnt) (b:=b) (at_:=at_) hfu hb hl ha (by omega) h0 (by omega)
  have ok:=Amv (l:=l) (cnt:=cnt) hb ha;have L:=Dl l;have t:=D4 l;have LT:=Ej its;have tT:List.take (its.length*3) (Bn its)=Bn its:=Iv (by omega)
  have ih:=Asm hfu (a0n:=a0n) (a0:=a0) hb hl nn;rw [Aeo];unfold Kf;unfold L7 at dn;change _=some (Ay.mk [.sc (.bool (Amh l cnt))] _) at dn;generalize F2 l cnt b at_=r at ri ok ⊢;obtain ⟨x,e,l2,cnt2,at2⟩:=r;simp only at ri ok ⊢;cases hd:Amh l cnt
  ·rw [hd] at dn;rw [A0 (by simp)]
   by_cases he:e=0
   ·subst he;obtain ⟨p1,rfl,p3,p4,p5,p6⟩:=ok rfl;have q:=ih l2 (cnt+1) at2 (its++[x]) (by omega) (by omega) (by omega) p3 p5 (by simp;omega)
    rw [A0 (by simp),←q,Ad8,Hz]
    have e1:Bn [x]=x.cells:=by simp [Bn]
    rw [e1];obtain ⟨xk,xn,xs⟩:=x;unfold It.cells at ri ⊢;have e00:((0:Int) != 0)=false:=rfl
    try unfold Aa
    repeat first
     |((with_reducible first|apply At|apply Aj|apply As|apply Ax|apply Az|apply A5|apply Cm|apply Bb|apply Ai);· first|with_reducible rfl|(simp (disch:=omega) only [dn,ri,e00,L,t,LT,tT]<;>with_reducible rfl))
     |((with_reducible first|apply Ar|apply Au);· first|with_reducible rfl|omega|(simp (disch:=omega) only [gT,dn,ri,e00,L,t,LT,tT]<;>omega))
     |(with_reducible apply Aw;· first|with_reducible rfl|(simp (disch:=omega) only [gF,dn,ri,e00,L,t,LT,tT]<;>omega))
    try simp (disch:=omega) only [dn,ri,e00,L,t,LT,tT]
    all_goals rfl
   ·have he':(e != 0)=true:=by simp [he]
    rw [Bm he];obtain ⟨xk,xn,xs⟩:=x;unfold It.cells at ri
    try unfold Aa
    repeat first
     |((with_reducible first|apply At|apply Aj|apply As|apply Ax|apply Az|apply A5|apply Cm|apply Bb|apply Ai);· first|with_reducible rfl|(simp (disch:=omega) only [dn,ri,he',L,t,LT,tT]<;>with_reducible rfl))
     |((with_reducible first|apply Ar|apply Au);· first|with_reducible rfl|omega|(simp (disch:=omega) only [gT,dn,ri,he',L,t,LT,tT]<;>omega))
     |(with_reducible apply Aw;· first|with_reducible rfl|(simp (disch:=omega) only [gF,dn,ri,he',L,t,LT,tT]<;>omega))
    try simp (disch:=omega) only [dn,ri,he',L,t,LT,tT]
    all_goals rfl
  ·rw [hd] at dn;rw [Bm rfl]
   try unfold Aa
   repeat first
    |((with_reducible first|apply At|apply Aj|apply As|apply Ax|apply Az|apply A5|apply Cm|apply Bb|apply Ai);· first|with_reducible rfl|(simp (disch:=omega) only [dn,L,t,LT,tT]<;>with_reducible rfl))
    |((with_reducible first|apply Ar|apply Au);· first|with_reducible rfl|omega|(simp (disch:=omega) only [gT,dn,L,t,LT,tT]<;>omega))
    |(with_reducible apply Aw;· first|with_reducible rfl|(simp (disch:=omega) only [gF,dn,L,t,LT,tT]<;>omega))
   try simp (disch:=omega) only [dn,L,t,LT,tT]
   all_goals rfl
theorem Azg (hfu:1000<=fu){b:List Int}(hb:Hf b)(hl:b.length<=1000000):
  Ae C0 Tryz.prog fu (d+5) Aah [.lst false 1 b.length (Ah .u8 b)]=some ⟨Abz (Kf fu [] 0 b 0 []),[]⟩:=by
 rw [Al2];exact Asm hfu hb hl fu [] 0 0 [] (by omega) (by omega) (by omega) (by simp) (by omega) (by simp)
end
end
section
theorem A5k {n:Int}(h0:0<=n):(n<256->Zu (tb n 1)=n)∧(n<65536->Zu (tb n 2)=n)∧(n<4294967296->Zu (tb n 4)=n)∧(n<=18446744073709551615->Zu (tb n 8)=n):=by
 have st:∀(k:Nat) (D:Int),n<=18446744073709551615->k<8->(2:Int) ^ (56-8*k)=D->0<D->Ev (n / D / 256) (Dt n k)=n / D:=by
  intro k D h1 hk hD hp;rw [An2 k hk,hD];exact A6a (Int.ediv_nonneg h0 (Int.le_of_lt hp)) (Int.le_trans (Int.ediv_le_self _ h0) h1)
 refine ⟨fun h=>?_,fun h=>?_,fun h=>?_,fun h=>Yt h0 h⟩
 ·have s7:=st 7 1 (by omega) (by omega) (by decide) (by omega)
  rw [show n / 1 / 256=0 by omega,show n / 1=n by omega] at s7
  exact s7
 ·have s6:=st 6 256 (by omega) (by omega) (by decide) (by omega)
  have s7:=st 7 1 (by omega) (by omega) (by decide) (by omega)
  rw [show n / 256 / 256=0 by omega] at s6
  rw [show n / 1 / 256=n / 256 by omega,show n / 1=n by omega] at s7
  show Ev (Ev 0 (Dt n 6)) (Dt n 7)=n;rw [s6,s7]
 ·have s4:=st 4 16777216 (by omega) (by omega) (by decide) (by omega)
  have s5:=st 5 65536 (by omega) (by omega) (by decide) (by omega)
  have s6:=st 6 256 (by omega) (by omega) (by decide) (by omega)
  have s7:=st 7 1 (by omega) (by omega) (by decide) (by omega)
  rw [show n / 16777216 / 256=0 by omega] at s4
  rw [show n / 65536 / 256=n / 16777216 by omega] at s5
  rw [show n / 256 / 256=n / 65536 by omega] at s6
  rw [show n / 1 / 256=n / 256 by omega,show n / 1=n by omega] at s7
  show Ev (Ev (Ev (Ev 0 (Dt n 4)) (Dt n 5)) (Dt n 6)) (Dt n 7)=n;rw [s4,s5,s6,s7]
theorem Yv {b:List Int}{at_:Nat}{mj n low:Int}{k:Nat}{rest:List Int}(m0:0<=mj)(m5:mj<=5)(l0:24<=low)(l1:low<=27)(hk:szE low=k)(h:b.drop (at_+1)=tb n k++rest) (hd:Zu (tb n k)=n) (hs:¬(Le n<(k:Int))):
  Tj b at_ (32*mj+low)=⟨1+mj,n,0,at_+1+k⟩:=by
 have e1:(32*mj+low) / 32=mj:=by omega
 have e2:(32*mj+low) % 32=low:=by omega
 have e3:(b.drop (at_+1)).take k=tb n k:=by rw [h,List.take_left' (Ab5 n k)]
 have e4:k<=b.length-(at_+1):=by
  have:=congrArg List.length h;rw [List.length_drop,Hz,Ab5] at this;omega
 unfold Tj;rw [e1,e2,hk,e3,hd,A0 (by omega),A0 (by omega),A0 (by omega),A0 (by omega),A0 (by omega),A0 (by omega),A0 (by omega),A0 hs]
theorem Aap {b:List Int}{at_:Nat}{mj n:Int}{rest:List Int}(h:b.drop at_=Dj mj n++rest)(m0:0<=mj)(m5:mj<=5)(n0:0<=n)(n1:n<=18446744073709551615):
  Bg b at_=⟨1+mj,n,0,at_+(Dj mj n).length⟩:=by
 obtain ⟨d1,d2,d4,d8⟩:=A5k n0;unfold Bg;unfold Dj at h ⊢;by_cases c1:n<24
 ·rw [Bm c1] at h ⊢;obtain ⟨_,g,_⟩:=Ct h;rw [g];show Tj b at_ (32*mj+n)=_;unfold Tj;have e1:(32*mj+n) / 32=mj:=by omega
  have e2:(32*mj+n) % 32=n:=by omega
  rw [e1,e2,A0 (by omega),A0 (by omega),A0 (by omega),A0 (by omega),A0 (by omega),Bm c1]
  rfl
 rw [A0 c1] at h ⊢;by_cases c2:n<256
 ·rw [Bm c2] at h ⊢;obtain ⟨_,g,g2⟩:=Ct h;rw [g];have:=Yv (at_:=at_) m0 m5 (low:=24) (by omega) (by omega) (k:=1) (by decide) g2 (d1 c2) (by unfold Le;rw [A0 c1,Bm c2];omega)
  show Tj b at_ (32*mj+24)=_;rw [this,Iw,Ab5]
 rw [A0 c2] at h ⊢;by_cases c3:n<65536
 ·rw [Bm c3] at h ⊢;obtain ⟨_,g,g2⟩:=Ct h;rw [g];have:=Yv (at_:=at_) m0 m5 (low:=25) (by omega) (by omega) (k:=2) (by decide) g2 (d2 c3) (by unfold Le;rw [A0 c1,A0 c2,Bm c3];omega)
  show Tj b at_ (32*mj+25)=_;rw [this,Iw,Ab5]
 rw [A0 c3] at h ⊢;by_cases c4:n<4294967296
 ·rw [Bm c4] at h ⊢;obtain ⟨_,g,g2⟩:=Ct h;rw [g];have:=Yv (at_:=at_) m0 m5 (low:=26) (by omega) (by omega) (k:=4) (by decide) g2 (d4 c4) (by unfold Le;rw [A0 c1,A0 c2,A0 c3,Bm c4];omega)
  show Tj b at_ (32*mj+26)=_;rw [this,Iw,Ab5]
 ·rw [A0 c4] at h ⊢;obtain ⟨_,g,g2⟩:=Ct h;rw [g];have:=Yv (at_:=at_) m0 m5 (low:=27) (by omega) (by omega) (k:=8) (by decide) g2 (d8 n1) (by unfold Le;rw [A0 c1,A0 c2,A0 c3,A0 c4];omega)
  show Tj b at_ (32*mj+27)=_;rw [this,Iw,Ab5]
theorem Aod {s:ByteArray}(h:Aee s=true):s=⟨#[]⟩:=by
 unfold Aee at h;have:=eq_of_beq h;apply ByteArray.ext;exact Array.toList_inj.1 this
def nOf (x:It):Int:=if x.k=3∨x.k=4 then (x.s.size:Int) else x.n
theorem Abw {x:It}{b:List Int}{at_:Nat}{rest:List Int}(hsh:Gv x=true)(k1:1<=x.k)(k8:x.k<=8)(n0:0<=x.n)(n1:x.n<=18446744073709551615)(hs:x.s.size<=1024)(h:b.drop at_=Br x++rest):
  Bg b at_=⟨x.k,nOf x,0,at_+((Br x).length-x.s.size)⟩∧(x.k=3∨x.k=4->x.n=0∧b.drop (at_+((Br x).length-x.s.size))=Bv x.s++rest)∧(¬(x.k=3∨x.k=4)->x.s=⟨#[]⟩)∧x.s.size<=(Br x).length:=by
 obtain ⟨k,n,s⟩:=x;have z:(ByteArray.mk #[]).size=0:=rfl;simp only at k1 k8 n0 n1 hs ⊢;unfold Gv at hsh;simp only at hsh;have L:=C3 s;have E7:k=7->Br ⟨k,n,s⟩=[IntKind.wrap .u8 (244+IntKind.wrap .u8 n)]:=fun e=>by unfold Br;rw [Bm e]
 have E8:k=8->Br ⟨k,n,s⟩=[246]:=fun e=>by subst e;rfl
 have E3:k=3->Br ⟨k,n,s⟩=Dj 2 s.size++Bv s:=fun e=>by subst e;rfl
 have E4:k=4->Br ⟨k,n,s⟩=Dj 3 s.size++Bv s:=fun e=>by subst e;rfl
 have E0:k≠7->k≠8->k≠3->k≠4->Br ⟨k,n,s⟩=Dj (k-1) n:=fun a b c d=>by unfold Br;rw [A0 a,A0 b,A0 c,A0 d]
 have N34:k=3∨k=4->nOf ⟨k,n,s⟩=s.size:=fun e=>by unfold nOf;rw [Bm e]
 have N0:¬(k=3∨k=4)->nOf ⟨k,n,s⟩=n:=fun e=>by unfold nOf;rw [A0 e]
 by_cases c7:k=7
 ·subst c7;simp at hsh;obtain ⟨hn,hs⟩:=hsh;obtain rfl:=Aod hs;rw [E7 rfl] at h ⊢;rw [N0 (by omega)]
  obtain ⟨_,g,_⟩:=Ct h;refine ⟨?_,fun h=>by omega,fun _=>rfl,Nat.zero_le _⟩
  have:n=0∨n=1:=by omega
  unfold Bg;rw [g];rcases this with rfl|rfl
  ·rfl
  ·rfl
 by_cases c8:k=8
 ·subst c8;simp at hsh;obtain ⟨rfl,hs⟩:=hsh;obtain rfl:=Aod hs;rw [E8 rfl] at h ⊢;rw [N0 (by omega)]
  obtain ⟨_,g,_⟩:=Ct h;refine ⟨?_,fun h=>by omega,fun _=>rfl,Nat.zero_le _⟩
  unfold Bg;rw [g];rfl
 by_cases c3:k=3
 ·subst c3;simp at hsh;subst hsh;rw [E3 rfl] at h ⊢;rw [N34 (by omega)]
  rw [Zzv] at h;have q:=Aap h (by omega) (by omega) (by omega) (by omega)
  have e:(Dj 2 (s.size:Int)++Bv s).length-s.size=(Dj 2 (s.size:Int)).length:=by rw [Hz,L];omega
  rw [e];refine ⟨q,fun _=>⟨rfl,?_⟩,fun h=>by omega,by rw [Hz,L];omega⟩
  rw [←List.drop_drop,h,List.drop_left' rfl]
 by_cases c4:k=4
 ·subst c4;simp at hsh;subst hsh;rw [E4 rfl] at h ⊢;rw [N34 (by omega)]
  rw [Zzv] at h;have q:=Aap h (by omega) (by omega) (by omega) (by omega)
  have e:(Dj 3 (s.size:Int)++Bv s).length-s.size=(Dj 3 (s.size:Int)).length:=by rw [Hz,L];omega
  rw [e];refine ⟨q,fun _=>⟨rfl,?_⟩,fun h=>by omega,by rw [Hz,L];omega⟩
  rw [←List.drop_drop,h,List.drop_left' rfl]
 rw [A0 c3,A0 c4,A0 c8,A0 c7] at hsh;obtain rfl:=Aod hsh;rw [E0 c7 c8 c3 c4] at h ⊢;rw [N0 (by omega)]
 have q:=Aap h (by omega) (by omega) n0 n1
 refine ⟨?_,fun h=>by omega,fun _=>rfl,by rw [z];omega⟩
 rw [q,z,Nat.sub_zero]
 congr 1
 omega
theorem Aue {l:List G4}{cnt:Int}{x:It}{b:List Int}{at_:Nat}{rest:List Int}(g:A5z l cnt x)(n0:0<=x.n)(n1:x.n<=18446744073709551615)(h:b.drop at_=Br x++rest):
  F2 l cnt b at_=⟨x,0,F6 l x,cnt+1,at_+(Br x).length⟩:=by
 have k18:1<=x.k∧x.k<=8:=by
  have hm:=g.hm;unfold J3 at hm
  repeat' split at hm
  all_goals first
   |(cases hm;done)
   |omega
 obtain ⟨q1,q2,q3,q4⟩:=Abw g.hsh k18.1 k18.2 n0 n1 g.hs h
 have ac:∀a:Nat,V5 l cnt x a=⟨x,0,F6 l x,cnt+1,a⟩:=by
  intro a
  have:Ek l x=(0,F6 l x):=by
   unfold Ek;rw [A0,A0 (by simp [g.ha])]
   intro hh;have:=g.hv hh.1;exact absurd hh.2 (by simp [okS,this])
  unfold V5;rw [this];rfl
 have ln:b.length-(at_+((Br x).length-x.s.size))>=x.s.size:=by
  have:=congrArg List.length h;rw [List.length_drop,Hz] at this;omega
 unfold F2;rw [q1];unfold Ao2;simp only;rw [A0 (by simp),g.hm,A0 (by simp)]
 have hs:=g.hs;have hn:=g.hn;obtain ⟨k,n,s⟩:=x;simp only at *
 by_cases c34:k=3∨k=4
 ·obtain ⟨rfl,q2⟩:=q2 c34;have N:nOf ⟨k,0,s⟩=s.size:=by unfold nOf;rw [Bm c34]
  rw [N,A0 (by omega),Bm c34,A0 (by omega),Hr,A0 (by omega),q2,List.take_left' (C3 s),Pg,ac]
  congr 1
  omega
 ·obtain rfl:=q3 c34;have z:(ByteArray.mk #[]).size=0:=rfl;have N:nOf ⟨k,n,⟨#[]⟩⟩=n:=by unfold nOf;rw [A0 c34]
  rw [N,A0 c34,z,Nat.sub_zero];by_cases c56:k=5∨k=6
  ·rw [Bm c56,A0 (by omega),ac]
  ·rw [A0 c56,ac]
theorem Am0 {b:List Int}{rest:List Int}:∀(its:List It)(l:List G4)(cnt:Int)(at_ m:Nat)(acc:List It),P9 l cnt its->(∀x∈its,0<=x.n∧x.n<=18446744073709551615)->b.drop at_=Bc its++rest->its.length<m ->
  Kf m l cnt b at_ acc=(acc++its,at_+(Bc its).length,0)
 |[],l,cnt,at_,m,acc,hg,hn,h,hm=>by
  obtain ⟨rfl,hc⟩:=hg;obtain ⟨m,rfl⟩:∃k,m=k+1:=⟨m-1,by omega⟩
  unfold Kf;rw [Bm (by simp [Amh,hc])]
  simp [Bc]
 |x::its,l,cnt,at_,m,acc,hg,hn,h,hm=>by
  obtain ⟨g,hg⟩:=hg;obtain ⟨m,rfl⟩:∃k,m=k+1:=⟨m-1,by simp at hm;omega⟩
  have e:Bc (x::its)=Br x++Bc its:=by simp [Bc]
  rw [e,Zzv] at h;have r:=Aue g (hn x (by simp)).1 (hn x (by simp)).2 h
  have h':b.drop (at_+(Br x).length)=Bc its++rest:=by rw [←List.drop_drop,h,List.drop_left' rfl]
  have ih:=Am0 its (F6 l x) (cnt+1) (at_+(Br x).length) m (acc++[x]) hg (fun y hy=>hn y (List.mem_cons_of_mem _ hy)) h' (by simp at hm;omega)
  unfold Kf;have hd:Amh l cnt=false:=g.hd;rw [A0 (by simp [hd]),r]
  simp only;rw [A0 (by simp),ih,e]
  simp;omega
end
section
abbrev isU (x:Int):Prop:=0<=x∧x<=18446744073709551615
abbrev isW (l:List Int):Prop:=∀x∈l,isU x
theorem Aq3 (l:List Int)(i:Nat):isU (Je l i):=W0 _ 0 (by omega) (by omega)
theorem Ar4 (l:List Int):isW (E5 l):=by
 intro x hx;obtain ⟨k,_,rfl⟩:=List.mem_map.1 hx;exact Aq3 l k
theorem Vl:∀{ws:List Int}{i:Nat}{w:Int},isW ws->ws[i]?=some w->Je (A6 ws) i=w
 |[],i,w,_,h=>by simp at h
 |a::ws,0,w,hw,h=>by
  simp at h;subst h;have e:A6 (a::ws)=Ca a++A6 ws:=rfl;unfold Je;rw [Nat.mul_zero,Cf,e,List.take_left' (Cw a)];have:=hw a (by simp)
  exact Yt this.1 this.2
 |a::ws,i+1,w,hw,h=>by
  simp at h;have ih:=Vl (ws:=ws) (fun x hx=>hw x (List.mem_cons_of_mem _ hx)) h
  have e:A6 (a::ws)=Ca a++A6 ws:=rfl;unfold Je at ih ⊢;rw [show 8*(i+1)=(Ca a).length+8*i by rw [Cw];omega,e,←List.drop_drop,List.drop_left' rfl]
  exact ih
theorem Acp {ws:List Int}(hw:isW ws):E5 (A6 ws)=ws:=by
 have hl:(A6 ws).length / 8=ws.length:=by rw [C7];omega
 apply List.ext_getElem?;intro i;unfold E5;rw [hl];by_cases h:i<ws.length
 ·rw [List.getElem?_map,List.getElem?_range h,List.getElem?_eq_getElem h];simp only [Option.map_some];rw [Vl hw (List.getElem?_eq_getElem h)]
 ·rw [List.getElem?_eq_none (by simp;omega),List.getElem?_eq_none (by omega)]
theorem Anv {k:Ky}(hh:Dd k.h=false)(hr:isU k.root):Zj (Gl k)=some k:=by
 obtain ⟨h,r⟩:=k;have hb:=Ga hh;simp only at hb hr hh;have w:IntKind.wrap .u8 h=h:=F7 (by omega) (by omega)
 have w1:A6 [r]=Ca r:=by simp [A6]
 have:=Vl (ws:=[r]) (i:=0) (w:=r) (by intro x hx;simp at hx;subst hx;exact hr) rfl
 rw [w1] at this;unfold Zj Gl;simp only [w,List.getD_cons_zero,List.drop_succ_cons,Cf,this,Iw,Cw,hh,and_self,if_true]
theorem Aul {k:Ky}:Hf (Gl k):=by
 intro x hx;rcases List.mem_cons.1 hx with rfl|hx
 ·have:∀v:Int,0<=IntKind.wrap .u8 v∧IntKind.wrap .u8 v<=255:=by
   intro v;simp only [IntKind.wrap,IntKind.signed,IntKind.bits];simp;omega
  exact this _
 ·exact Y0 _ x hx
theorem Aeg {l:List Int}{k:Ky}(h:Zj l=some k):Dd k.h=false∧isU k.root:=by
 unfold Zj at h;split at h
 ·rename_i hh;cases h;exact ⟨hh.2,Aq3 _ _⟩
 ·cases h
structure Sg.ok (s:Sg):Prop where
 ch:isW s.chains
 pa:isW s.path
theorem A59 (s:Sg):Hf (Ly s):=by
 have w8:∀v:Int,0<=IntKind.wrap .u8 v∧IntKind.wrap .u8 v<=255:=by
  intro v;simp only [IntKind.wrap,IntKind.signed,IntKind.bits];simp;omega
 intro x hx;unfold Ly at hx;rcases List.mem_cons.1 hx with rfl|hx
 ·exact w8 _
 rcases List.mem_cons.1 hx with rfl|hx
 ·exact w8 _
 rcases List.mem_append.1 hx with hx|hx
 ·exact Tr _ x hx
 ·exact Tr _ x hx
theorem Ave {s:Sg}(hs:s.ok)(h1:Dd s.path.length=false)(h2:F4 s.leaf s.path.length=false)(h3:s.chains.length=18):sgD (Ly s)=some s:=by
 obtain ⟨leaf,ch,pa⟩:=s;obtain ⟨hc,hp⟩:=hs;simp only at h1 h2 h3 hc hp;have hb:=Ga h1;have ho:=Ato hb.1 hb.2 h2;have h16:=A7s hb.1 hb.2;have w1:IntKind.wrap .u8 leaf=leaf:=F7 (by omega) (by omega)
 have w2:IntKind.wrap .u8 (pa.length:Int)=pa.length:=F7 (by omega) (by omega)
 have lc:(A6 ch).length=144:=by rw [C7];omega
 have lp:(A6 pa).length=8*pa.length:=C7 pa
 have len:(Ly ⟨leaf,ch,pa⟩).length=2+144+8*pa.length:=by
  unfold Ly;simp only [Iw,Hz,lc,lp];omega
 have g0:(Ly ⟨leaf,ch,pa⟩).getD 0 0=leaf:=w1;have g1:(Ly ⟨leaf,ch,pa⟩).getD 1 0=pa.length:=w2;have d2:(Ly ⟨leaf,ch,pa⟩).drop 2=A6 ch++A6 pa:=rfl
 have d146:(Ly ⟨leaf,ch,pa⟩).drop 146=A6 pa:=by
  rw [show 146=2+144 from rfl,←List.drop_drop,d2,List.drop_left' lc]
 unfold sgD;rw [Bm ⟨by omega,by rw [g1];exact h1,by rw [g0,g1];exact h2,by rw [g1,len];omega⟩,g0,d2,d146,List.take_left' lc,Acp hc,Acp hp]
theorem Aie {l:List Int}{s:Sg}(h:sgD l=some s):s.ok∧s.path.length<=4∧s.chains.length=18:=by
 unfold sgD at h;split at h
 ·rename_i hh;cases h;have hb:=Ga hh.2.1;refine ⟨⟨Ar4 _,Ar4 _⟩,?_,?_⟩
  ·simp only [P7,List.length_drop];omega
  ·simp only [P7,List.length_take,List.length_drop];omega
 ·cases h
end
section
set_option maxRecDepth 100000
abbrev Qc:FuncId:=111
noncomputable def Fv (fu:Nat)(call:Am)(a0_0 a0_1:ByteArray)(a0_2 a0_3:Int)(a0_4 a0_5 a0_6:Int)(a0_7:Bool)(a0_8 a0_9 a0_10:Int)(a0_11n:Nat)(a0_11:List PV)(a0_12n:Nat)(a0_12:List PV)(nn:Nat)(y0 y1:ByteArray)(y2:Int)(y3 y4:ByteArray)(y5 y6:Int)(y7 y8 y9:Int)(y10:Bool)(Gc H4 Wq:Int)(y14:Nat)(y15:List PV)(y16:Nat)(y17:List PV):Option Ay:=Db C0 Tryz.prog fu call 111 Tryz.f111 (Ch Tryz.f111) [.agg [.sc (.string a0_0),.sc (.string a0_1),.sc (.int .u64 a0_2),.sc (.int .i64 a0_3),.sc (.int .u64 a0_4),.sc (.int .i64 a0_5),.sc (.int .i64 a0_6),.sc (.bool a0_7),.sc (.int .i64 a0_8),.sc (.int .u64 a0_9),.sc (.int .i64 a0_10),.lst false 1 a0_11n a0_11,.lst false 1 a0_12n a0_12]] [.r,.l,.r,.l] nn ⟨lk [(1,(.ptr 1 0)),(13,(.agg [(.sc (.string y0)),(.sc (.string y1))])),(14,(.sc (.int .i64 y2)))],Gn [(1,(.st [(.sc (.string y3)),(.sc (.string y4)),(.sc (.int .u64 y5)),(.sc (.int .i64 y6)),(.sc (.int .u64 y7)),(.sc (.int .i64 y8)),(.sc (.int .i64 y9)),(.sc (.bool y10)),(.sc (.int .i64 Gc)),(.sc (.int .u64 H4)),(.sc (.int .i64 Wq)),(.lst false 1 y14 y15),(.lst false 1 y16 y17)]))]⟩
theorem E1 (fu:Nat)(call:Am)(a0_0 a0_1:ByteArray)(a0_2 a0_3:Int)(a0_4 a0_5 a0_6:Int)(a0_7:Bool)(a0_8 a0_9 a0_10:Int)(a0_11n:Nat)(a0_11:List PV)(a0_12n:Nat)(a0_12:List PV)(nn:Nat)(y0 y1:ByteArray)(y2:Int)(y3 y4:ByteArray)(y5 y6:Int)(y7 y8 y9:Int)(y10:Bool)(Gc H4 Wq:Int)(y14:Nat)(y15:List PV)(y16:Nat)(y17:List PV):Fv fu call a0_0 a0_1 a0_2 a0_3 a0_4 a0_5 a0_6 a0_7 a0_8 a0_9 a0_10 a0_11n a0_11 a0_12n a0_12 (nn+1) y0 y1 y2 y3 y4 y5 y6 y7 y8 y9 y10 Gc H4 Wq y14 y15 y16 y17=(A4 (decide (y2<2)) (Aq (decide (0<=y2)&&decide (y2<2)&&true)<|Cn (List.getD [.sc (.string y0),.sc (.string y1)] (Int.toNat y2*1) .top) fun x1=>A4 (decide ((↑(ByteArray.size x1):Int)<1)) (some (Ay.mk [.own 1 0 [],.sc (.int .i64 9)] [])) (A4 (decide ((↑(ByteArray.size x1):Int)>32)) (some (Ay.mk [.own 1 0 [],.sc (.int .i64 9)] [])) (Aa (IntKind.wrap .i64 (y2+1)) fun x2=>Fv fu call a0_0 a0_1 a0_2 a0_3 a0_4 a0_5 a0_6 a0_7 a0_8 a0_9 a0_10 a0_11n a0_11 a0_12n a0_12 (nn) (y0) (y1) x2 (y3) (y4) (y5) (y6) (y7) (y8) (y9) (y10) (Gc) (H4) (Wq) (y14) (y15) (y16) (y17)))) (Ag (call 67 [.sc (.string y3)]) fun x3 x4=>Ac x4<|Ab x3 fun x5 x6=>Bz x5 fun x7=>Ac x6<|A4 (!x7) (some (Ay.mk [.own 1 0 [],.sc (.int .i64 6)] [])) (Ag (call 67 [.sc (.string y4)]) fun x8 x9=>Ac x9<|Ab x8 fun Cd Bp=>Bz Cd fun C4=>Ac Bp<|A4 (!C4) (some (Ay.mk [.own 1 0 [],.sc (.int .i64 6)] [])) (Ag (call 123 [.agg [.sc (.int .i64 y6),.sc (.int .u64 y7)]]) fun Da Cq=>Ac Cq<|Ab Da fun C9 Do=>Dk 1 C9 fun Du D5=>Ab Do fun D7 Eh=>Af .i64 D7 fun Fy=>Ac Eh<|A4 (Fy != 0) (some (Ay.mk [.own 1 0 [],.sc (.int .i64 Fy)] [])) (A4 (decide (y8<0)) (some (Ay.mk [.own 1 0 [],.sc (.int .i64 9)] [])) (A4 (decide (y8>y9)) (some (Ay.mk [.own 1 0 [],.sc (.int .i64 9)] [])) (A4 (decide (y9>1099511627776)) (some (Ay.mk [.own 1 0 [],.sc (.int .i64 9)] [])) (A4 (decide (Gc<0)) (some (Ay.mk [.own 1 0 [],.sc (.int .i64 9)] [])) (A4 (decide (Gc>2)) (some (Ay.mk [.own 1 0 [],.sc (.int .i64 9)] [])) (A4 (Gc != 0) (A4 (!y10) (some (Ay.mk [.own 1 0 [],.sc (.int .i64 4)] [])) (Ag (call 125 [.sc (.string y3)]) fun Ci Fn=>Ac Fn<|Ab Ci fun Ds Bx=>Dk 3 Ds fun Fc Ft=>Ac Bx<|Ag (call 125 [.sc (.string y4)]) fun Bk Cg=>Ac Cg<|Ab Bk fun Hg Gf=>Dk 3 Hg fun Ie H0=>Ac Gf<|Ag (call 126 [.sc (.int .u64 y5)]) fun Jn Gt=>Ac Gt<|Ab Jn fun Ix M5=>Dk 3 Ix fun F0 H5=>Ac M5<|Aq (decide (0+Du*1<=List.length D5))<|Ag (call 127 [.lst false 1 Du (List.take (Du*1) (List.drop 0 D5))]) fun Rh R6=>Ac R6<|Ab Rh fun L6 Rl=>Dk 3 L6 fun Pu Lx=>Ac Rl<|Aa (IntKind.wrap .u64 y8) fun Q6=>Ag (call 126 [.sc (.int .u64 Q6)]) fun Rj Oc=>Ac Oc<|Ab Rj fun Pw Sd=>Dk 3 Pw fun Pq Rx=>Ac Sd<|Aa (IntKind.wrap .u64 y9) fun Lz=>Ag (call 126 [.sc (.int .u64 Lz)]) fun Py Rr=>Ac Rr<|Ab Py fun Ts Pi=>Dk 3 Ts fun Q9 S5=>Ac Pi<|Ag (call 128 [.sc (.bool y10)]) fun Uv Oe=>Ac Oe<|Ab Uv fun Ro V9=>Dk 3 Ro fun Uq Q7=>Ac V9<|Aa (IntKind.wrap .u64 Gc) fun S6=>Ag (call 126 [.sc (.int .u64 S6)]) fun S1 Ty=>Ac Ty<|Ab S1 fun Up Us=>Dk 3 Up fun Q8 Ws=>Ac Us<|Ag (call 126 [.sc (.int .u64 H4)]) fun Wj Ur=>Ac Ur<|Ab Wj fun V1 Wu=>Dk 3 V1 fun V7 Wt=>Ac Wu<|Aq (decide (0+Fc*3<=List.length Ft))<|Aq (decide (0+Ie*3<=List.length H0))<|Aq (decide (0+F0*3<=List.length H5))<|Aq (decide (0+Pu*3<=List.length Lx))<|Aq (decide (0+Pq*3<=List.length Rx))<|Aq (decide (0+Q9*3<=List.length S5))<|Aq (decide (0+Uq*3<=List.length Q7))<|Aq (decide (0+Q8*3<=List.length Ws))<|Aq (decide (0+V7*3<=List.length Wt))<|Ag (call 124 [.lst false 1 9 [.lst false 3 Fc (List.take (Fc*3) (List.drop 0 Ft)),.lst false 3 Ie (List.take (Ie*3) (List.drop 0 H0)),.lst false 3 F0 (List.take (F0*3) (List.drop 0 H5)),.lst false 3 Pu (List.take (Pu*3) (List.drop 0 Lx)),.lst false 3 Pq (List.take (Pq*3) (List.drop 0 Rx)),.lst false 3 Q9 (List.take (Q9*3) (List.drop 0 S5)),.lst false 3 Uq (List.take (Uq*3) (List.drop 0 Q7)),.lst false 3 Q8 (List.take (Q8*3) (List.drop 0 Ws)),.lst false 3 V7 (List.take (V7*3) (List.drop 0 Wt))]]) fun Za x80=>Ac x80<|Ab Za fun x81 x82=>Dk 3 x81 fun x83 Z9=>Ab x82 fun x85 x86=>Af .i64 x85 fun x87=>Ac x86<|A4 (x87 != 0) (some (Ay.mk [.own 1 0 [],.sc (.int .i64 x87)] [])) (Aq (decide (0+x83*3<=List.length Z9))<|Ag (call 129 [.lst false 3 x83 (List.take (x83*3) (List.drop 0 Z9))]) fun Rm S9=>Ac S9<|Ab Rm fun Vx x91=>Dk 1 Vx fun x92 x93=>Ab x91 fun x94 x95=>Af .i64 x94 fun x96=>Ac x95<|Aq (decide (x92*1<=List.length x93))<|some (Ay.mk [.own 1 x92 (List.take (x92*1) x93),.sc (.int .i64 x96)] [])))) (Ag (call 125 [.sc (.string y3)]) fun x97 x98=>Ac x98<|Ab x97 fun x99 Tt=>Dk 3 x99 fun Qd G5=>Ac Tt<|Ag (call 125 [.sc (.string y4)]) fun Jm S0=>Ac S0<|Ab Jm fun Pn Oh=>Dk 3 Pn fun Kl Wd=>Ac Oh<|Ag (call 126 [.sc (.int .u64 y5)]) fun Xr Vu=>Ac Vu<|Ab Xr fun Wo Ig=>Dk 3 Wo fun Km Abb=>Ac Ig<|Aq (decide (0+Du*1<=List.length D5))<|Ag (call 127 [.lst false 1 Du (List.take (Du*1) (List.drop 0 D5))]) fun Aa3 Om=>Ac Om<|Ab Aa3 fun S2 Aba=>Dk 3 S2 fun Zm Abj=>Ac Aba<|Aa (IntKind.wrap .u64 y8) fun Z7=>Ag (call 126 [.sc (.int .u64 Z7)]) fun Zp Abu=>Ac Abu<|Ab Zp fun Aa8 Zk=>Dk 3 Aa8 fun Rc Ut=>Ac Zk<|Aa (IntKind.wrap .u64 y9) fun Acc=>Ag (call 126 [.sc (.int .u64 Acc)]) fun Abk Zl=>Ac Zl<|Ab Abk fun Afe Aaz=>Dk 3 Afe fun Ab3 Ac8=>Ac Aaz<|Ag (call 128 [.sc (.bool y10)]) fun Ae6 Ahu=>Ac Ahu<|Ab Ae6 fun Ahf Aex=>Dk 3 Ahf fun Z2 Ac6=>Ac Aex<|Aa (IntKind.wrap .u64 Gc) fun Abx=>Ag (call 126 [.sc (.int .u64 Abx)]) fun Adl Afa=>Ac Afa<|Ab Adl fun Abf Z6=>Dk 3 Abf fun Zt Ae1=>Ac Z6<|Ag (call 126 [.sc (.int .u64 H4)]) fun Aeu Alj=>Ac Alj<|Ab Aeu fun Al4 Aia=>Dk 3 Al4 fun Abh Aha=>Ac Aia<|Aq (decide (0+Qd*3<=List.length G5))<|Aq (decide (0+Kl*3<=List.length Wd))<|Aq (decide (0+Km*3<=List.length Abb))<|Aq (decide (0+Zm*3<=List.length Abj))<|Aq (decide (0+Rc*3<=List.length Ut))<|Aq (decide (0+Ab3*3<=List.length Ac8))<|Aq (decide (0+Z2*3<=List.length Ac6))<|Aq (decide (0+Zt*3<=List.length Ae1))<|Aq (decide (0+Abh*3<=List.length Aha))<|Ag (call 124 [.lst false 1 9 [.lst false 3 Qd (List.take (Qd*3) (List.drop 0 G5)),.lst false 3 Kl (List.take (Kl*3) (List.drop 0 Wd)),.lst false 3 Km (List.take (Km*3) (List.drop 0 Abb)),.lst false 3 Zm (List.take (Zm*3) (List.drop 0 Abj)),.lst false 3 Rc (List.take (Rc*3) (List.drop 0 Ut)),.lst false 3 Ab3 (List.take (Ab3*3) (List.drop 0 Ac8)),.lst false 3 Z2 (List.take (Z2*3) (List.drop 0 Ac6)),.lst false 3 Zt (List.take (Zt*3) (List.drop 0 Ae1)),.lst false 3 Abh (List.take (Abh*3) (List.drop 0 Aha))]]) fun Aff Ahb=>Ac Ahb<|Ab Aff fun Ahk Ahg=>Dk 3 Ahk fun Aht Ag9=>Ab Ahg fun Ajy Aio=>Af .i64 Ajy fun Ajg=>Ac Aio<|A4 (Ajg != 0) (some (Ay.mk [.own 1 0 [],.sc (.int .i64 Ajg)] [])) (Aq (decide (0+Aht*3<=List.length Ag9))<|Ag (call 129 [.lst false 3 Aht (List.take (Aht*3) (List.drop 0 Ag9))]) fun Ak4 Afr=>Ac Afr<|Ab Ak4 fun Aho Ajz=>Dk 1 Aho fun Afg Ahx=>Ab Ajz fun Afx Ae3=>Af .i64 Afx fun Ajr=>Ac Ae3<|Aq (decide (Afg*1<=List.length Ahx))<|some (Ay.mk [.own 1 Afg (List.take (Afg*1) Ahx),.sc (.int .i64 Ajr)] []))))))))))))):=by kernel_rfl
theorem Aat (fu d:Nat)(a0_0 a0_1:ByteArray)(a0_2 a0_3:Int)(a0_4 a0_5 a0_6:Int)(a0_7:Bool)(a0_8 a0_9 a0_10:Int)(a0_11n:Nat)(a0_11:List PV)(a0_12n:Nat)(a0_12:List PV):Ae C0 Tryz.prog fu (d+1) Qc [.agg [.sc (.string a0_0),.sc (.string a0_1),.sc (.int .u64 a0_2),.sc (.int .i64 a0_3),.sc (.int .u64 a0_4),.sc (.int .i64 a0_5),.sc (.int .i64 a0_6),.sc (.bool a0_7),.sc (.int .i64 a0_8),.sc (.int .u64 a0_9),.sc (.int .i64 a0_10),.lst false 1 a0_11n a0_11,.lst false 1 a0_12n a0_12]]=(fun (call:Am)=>Fv fu call a0_0 a0_1 a0_2 a0_3 a0_4 a0_5 a0_6 a0_7 a0_8 a0_9 a0_10 a0_11n a0_11 a0_12n a0_12 (fu) (a0_0) (a0_1) 0 (a0_0) (a0_1) (a0_2) (a0_3) (a0_4) (a0_5) (a0_6) (a0_7) (a0_8) (a0_9) (a0_10) (a0_11n) (a0_11) (a0_12n) (a0_12)) (Ae C0 Tryz.prog fu d):=by kernel_rfl
abbrev Qg:FuncId:=113
theorem Abi (fu d:Nat)(a0_0 a0_1:ByteArray)(a0_2 a0_3:Int)(a0_4 a0_5 a0_6:Int)(a0_7:Bool)(a0_8 a0_9 a0_10:Int)(a0_11n:Nat)(a0_11:List PV)(a0_12n:Nat)(a0_12:List PV):Ae C0 Tryz.prog fu (d+1) Qg [.agg [.sc (.string a0_0),.sc (.string a0_1),.sc (.int .u64 a0_2),.sc (.int .i64 a0_3),.sc (.int .u64 a0_4),.sc (.int .i64 a0_5),.sc (.int .i64 a0_6),.sc (.bool a0_7),.sc (.int .i64 a0_8),.sc (.int .u64 a0_9),.sc (.int .i64 a0_10),.lst false 1 a0_11n a0_11,.lst false 1 a0_12n a0_12]]=(fun (call:Am)=>Ag (call 111 [.agg [.sc (.string a0_0),.sc (.string a0_1),.sc (.int .u64 a0_2),.sc (.int .i64 a0_3),.sc (.int .u64 a0_4),.sc (.int .i64 a0_5),.sc (.int .i64 a0_6),.sc (.bool a0_7),.sc (.int .i64 a0_8),.sc (.int .u64 a0_9),.sc (.int .i64 a0_10),.lst false 1 a0_11n a0_11,.lst false 1 a0_12n a0_12]]) fun x1 x2=>Ac x2<|Ab x1 fun x3 x4=>Dk 1 x3 fun x5 x6=>Ab x4 fun x7 x8=>Af .i64 x7 fun x9=>Ac x8<|A4 (x9 != 0) (some (Ay.mk [.sc (.int .u64 0),.sc (.int .i64 x9)] [])) (Aq (decide (0+x5*1<=List.length x6))<|Ag (call 107 [.sc (.int .i64 14),.lst false 1 x5 (List.take (x5*1) (List.drop 0 x6))]) fun Cd Bp=>Ac Bp<|Ab Cd fun C4 Da=>Af .u64 C4 fun Cq=>Ac Da<|some (Ay.mk [.sc (.int .u64 Cq),.sc (.int .i64 0)] []))) (Ae C0 Tryz.prog fu d):=by kernel_rfl
abbrev Na:FuncId:=92
theorem Yg (fu d:Nat)(a0_0 a0_1:ByteArray)(a0_2 a0_3:Int)(a0_4 a0_5 a0_6:Int)(a0_7:Bool)(a0_8 a0_9 a0_10:Int)(a0_11n:Nat)(a0_11:List PV)(a0_12n:Nat)(a0_12:List PV)(a1_0 a1_1:Int):Ae C0 Tryz.prog fu (d+1) Na [.agg [.sc (.string a0_0),.sc (.string a0_1),.sc (.int .u64 a0_2),.sc (.int .i64 a0_3),.sc (.int .u64 a0_4),.sc (.int .i64 a0_5),.sc (.int .i64 a0_6),.sc (.bool a0_7),.sc (.int .i64 a0_8),.sc (.int .u64 a0_9),.sc (.int .i64 a0_10),.lst false 1 a0_11n a0_11,.lst false 1 a0_12n a0_12],.agg [.sc (.int .i64 a1_0),.sc (.int .u64 a1_1)]]=(fun (call:Am)=>Ag (call 113 [.agg [.sc (.string a0_0),.sc (.string a0_1),.sc (.int .u64 a0_2),.sc (.int .i64 a0_3),.sc (.int .u64 a0_4),.sc (.int .i64 a0_5),.sc (.int .i64 a0_6),.sc (.bool a0_7),.sc (.int .i64 a0_8),.sc (.int .u64 a0_9),.sc (.int .i64 a0_10),.lst false 1 a0_11n a0_11,.lst false 1 a0_12n a0_12]]) fun x1 x2=>Ac x2<|Ab x1 fun x3 x4=>Af .u64 x3 fun x5=>Ab x4 fun x6 x7=>Af .i64 x6 fun x8=>Ac x7<|A4 (x8 != 0) (some (Ay.mk [.sc (.int .i64 x8)] [])) (Ag (call 56 [.agg [.sc (.int .i64 a1_0),.sc (.int .u64 a1_1)],.sc (.int .u64 x5),.agg [.sc (.int .i64 a0_10),.lst false 1 a0_11n a0_11,.lst false 1 a0_12n a0_12]]) fun x9 Cd=>Ac Cd<|Ab x9 fun Bp C4=>Af .i64 Bp fun Da=>Ac C4<|some (Ay.mk [.sc (.int .i64 Da)] []))) (Ae C0 Tryz.prog fu d):=by kernel_rfl
abbrev Nc:FuncId:=89
theorem Xp (fu d:Nat)(a0_0 a0_1:ByteArray)(a0_2 a0_3:Int)(a0_4 a0_5 a0_6:Int)(a0_7:Bool)(a0_8 a0_9 a0_10:Int)(a0_11n:Nat)(a0_11:List PV)(a0_12n:Nat)(a0_12:List PV):Ae C0 Tryz.prog fu (d+1) Nc [.agg [.sc (.string a0_0),.sc (.string a0_1),.sc (.int .u64 a0_2),.sc (.int .i64 a0_3),.sc (.int .u64 a0_4),.sc (.int .i64 a0_5),.sc (.int .i64 a0_6),.sc (.bool a0_7),.sc (.int .i64 a0_8),.sc (.int .u64 a0_9),.sc (.int .i64 a0_10),.lst false 1 a0_11n a0_11,.lst false 1 a0_12n a0_12]]=(fun (call:Am)=>Ag (call 111 [.agg [.sc (.string a0_0),.sc (.string a0_1),.sc (.int .u64 a0_2),.sc (.int .i64 a0_3),.sc (.int .u64 a0_4),.sc (.int .i64 a0_5),.sc (.int .i64 a0_6),.sc (.bool a0_7),.sc (.int .i64 a0_8),.sc (.int .u64 a0_9),.sc (.int .i64 a0_10),.lst false 1 a0_11n a0_11,.lst false 1 a0_12n a0_12]]) fun x1 x2=>Ac x2<|Ab x1 fun x3 x4=>Dk 1 x3 fun x5 x6=>Ab x4 fun x7 x8=>Af .i64 x7 fun x9=>Ac x8<|A4 (x9 != 0) (some (Ay.mk [.own 1 0 [],.sc (.int .i64 x9)] [])) (Ag (call 112 [.agg [.sc (.int .i64 a0_10),.lst false 1 a0_11n a0_11,.lst false 1 a0_12n a0_12]]) fun Cd Bp=>Ac Bp<|Ab Cd fun C4 Da=>Dk 1 C4 fun Cq C9=>Ab Da fun Do Du=>Af .i64 Do fun D5=>Ac Du<|A4 (D5 != 0) (some (Ay.mk [.own 1 0 [],.sc (.int .i64 D5)] [])) (Aq (decide (0+Cq*1<=List.length C9))<|Aq (decide (x5*1<=List.length x6)&&decide (List.length (List.take (Cq*1) (List.drop 0 C9))=Cq*1)&&decide ((x5+Cq)*1<=1099511627776)&&decide (x5+Cq<=1099511627776))<|Aa (x5+Cq) fun D7=>Aa (List.take (x5*1) x6++List.take (Cq*1) (List.drop 0 C9)) fun Eh=>Aq (decide (D7*1<=List.length Eh))<|some (Ay.mk [.own 1 D7 (List.take (D7*1) Eh),.sc (.int .i64 0)] [])))) (Ae C0 Tryz.prog fu d):=by kernel_rfl
abbrev Nn:FuncId:=87
noncomputable def H3 (fu:Nat)(call:Am)(a0n:Nat)(a0:List PV)(nn y0:Nat)(y1:List PV):Option Ay:=Db C0 Tryz.prog fu call 87 Tryz.f87 (Ch Tryz.f87) [.lst false 3 a0n a0] [] nn ⟨lk [(0,(.lst false 3 y0 y1))],Gn []⟩
noncomputable def Ml (fu:Nat)(call:Am)(a0n:Nat)(a0:List PV)(nn y0:Nat)(y1 y2:List PV):Option Ay:=Db C0 Tryz.prog fu call 87 Tryz.f87 (Ch Tryz.f87) [.lst false 3 a0n a0] [.r] nn ⟨lk [(0,(.lst false 3 y0 y1)),(3,(.ptr 3 0))],Gn [(3,(.ar false y2))]⟩
noncomputable def Gb (fu:Nat)(call:Am)(a0n:Nat)(a0:List PV)(nn y0:Nat)(y1:List PV)(y2 y3:Int)(y4:List PV):Option Ay:=Db C0 Tryz.prog fu call 87 Tryz.f87 (Ch Tryz.f87) [.lst false 3 a0n a0] [.r,.r,.r,.l,.r,.l] nn ⟨lk [(3,(.ptr 3 0)),(10,(.lst false 3 y0 y1)),(11,(.sc (.int .i64 y2))),(12,(.sc (.int .i64 y3)))],Gn [(3,(.ar false y4))]⟩
theorem Tp (fu:Nat)(call:Am)(a0n:Nat)(a0:List PV)(nn:Nat)(hnn:0<nn)(y0:Nat)(y1:List PV):H3 fu call a0n a0 nn y0 y1=(Ml fu call a0n a0 (fu) (y0) (y1) ([.sc (.int .i64 5),.sc (.int .i64 4),.sc (.int .i64 4),.sc (.int .i64 1),.sc (.int .i64 3),.sc (.int .i64 1),.sc (.int .i64 1),.sc (.int .i64 7),.sc (.int .i64 1),.sc (.int .i64 1)])):=by cases nn with|zero=>exact absurd hnn (Nat.lt_irrefl 0)|succ nn=>kernel_rfl
theorem Ud (fu:Nat)(call:Am)(a0n:Nat)(a0:List PV)(nn:Nat)(hnn:0<nn)(y0:Nat)(y1 y2:List PV):Ml fu call a0n a0 nn y0 y1 y2=(A4 ((↑y0:Int) != 10) (some (Ay.mk [.sc (.bool false)] [])) (Gb fu call a0n a0 (fu) (y0) (y1) ((↑y0:Int)) 0 (y2))):=by cases nn with|zero=>exact absurd hnn (Nat.lt_irrefl 0)|succ nn=>kernel_rfl
theorem Kb (fu:Nat)(call:Am)(a0n:Nat)(a0:List PV)(nn y0:Nat)(y1:List PV)(y2 y3:Int)(y4:List PV):Gb fu call a0n a0 (nn+1) y0 y1 y2 y3 y4=(A4 (decide (y3<y2)) (Aq (decide (0<=y3)&&decide (y3<(↑y0:Int)))<|Af .i64 (List.getD y1 (Int.toNat y3*3) .top) fun x1=>Af .u64 (List.getD y1 (Int.toNat y3*3+1) .top) fun x2=>Cn (List.getD y1 (Int.toNat y3*3+1+1) .top) fun x3=>Aq (decide (0<=y3)&&decide (y3<10))<|Af .i64 (List.getD y4 (0+Int.toNat y3*1) .top) fun x4=>A4 (x1 != x4) (some (Ay.mk [.sc (.bool false)] [])) (Aa (IntKind.wrap .i64 (y3+1)) fun x5=>Gb fu call a0n a0 (nn) (y0) (y1) (y2) x5 (y4))) (some (Ay.mk [.sc (.bool true)] []))):=by kernel_rfl
theorem X7 (fu d a0n:Nat)(a0:List PV):Ae C0 Tryz.prog fu (d+1) Nn [.lst false 3 a0n a0]=(fun (call:Am)=>H3 fu call a0n a0 (fu) (a0n) (a0)) (Ae C0 Tryz.prog fu d):=by kernel_rfl
abbrev Im:FuncId:=57
theorem Xj (fu d a0n:Nat)(a0:List PV):Ae C0 Tryz.prog fu (d+1) Im [.lst false 1 a0n a0]=(fun (call:Am)=>A4 (decide ((↑a0n:Int)>512)) (some (Ay.mk [.agg [.sc (.string (ByteArray.mk #[])),.sc (.string (ByteArray.mk #[])),.sc (.int .u64 0),.sc (.int .i64 0),.sc (.int .u64 0),.sc (.int .i64 0),.sc (.int .i64 0),.sc (.bool false),.sc (.int .i64 0),.sc (.int .u64 0),.sc (.int .i64 0),.lst false 1 0 [],.lst false 1 0 []],.sc (.int .i64 8)] [])) (Ag (call 86 [.lst false 1 a0n a0]) fun x1 x2=>Ac x2<|Ab x1 fun x3 x4=>Dk 3 x3 fun x5 x6=>Ab x4 fun x7 x8=>Af .i64 x7 fun x9=>Ab x8 fun Cd Bp=>Af .i64 Cd fun C4=>Ac Bp<|A4 (C4 != 0) (some (Ay.mk [.agg [.sc (.string (ByteArray.mk #[])),.sc (.string (ByteArray.mk #[])),.sc (.int .u64 0),.sc (.int .i64 0),.sc (.int .u64 0),.sc (.int .i64 0),.sc (.int .i64 0),.sc (.bool false),.sc (.int .i64 0),.sc (.int .u64 0),.sc (.int .i64 0),.lst false 1 0 [],.lst false 1 0 []],.sc (.int .i64 2)] [])) (Aq (decide (0+x5*3<=List.length x6))<|Ag (call 87 [.lst false 3 x5 (List.take (x5*3) (List.drop 0 x6))]) fun Da Cq=>Ac Cq<|Ab Da fun C9 Do=>Bz C9 fun Du=>Ac Do<|A4 (!Du) (some (Ay.mk [.agg [.sc (.string (ByteArray.mk #[])),.sc (.string (ByteArray.mk #[])),.sc (.int .u64 0),.sc (.int .i64 0),.sc (.int .u64 0),.sc (.int .i64 0),.sc (.int .i64 0),.sc (.bool false),.sc (.int .i64 0),.sc (.int .u64 0),.sc (.int .i64 0),.lst false 1 0 [],.lst false 1 0 []],.sc (.int .i64 2)] [])) (Aq (decide (4<(↑x5:Int)))<|Cn (List.getD x6 14 .top) fun D5=>Aq (decide (ByteArray.size D5<=1099511627776))<|Aq (decide (0+ByteArray.size D5*1<=List.length (Co D5)))<|Ag (call 88 [.lst false 1 (ByteArray.size D5) (List.take (ByteArray.size D5*1) (List.drop 0 (Co D5)))]) fun D7 Eh=>Ac Eh<|Ab D7 fun Fy Ci=>Cu Fy fun Fn=>Ab Fn fun Ds Bx=>Af .i64 Ds fun Fc=>Ab Bx fun Ft Bk=>Af .u64 Ft fun Cg=>Ac Bk<|Ab Ci fun Hg Gf=>Af .i64 Hg fun Ie=>Ac Gf<|A4 (Ie != 0) (some (Ay.mk [.agg [.sc (.string (ByteArray.mk #[])),.sc (.string (ByteArray.mk #[])),.sc (.int .u64 0),.sc (.int .i64 0),.sc (.int .u64 0),.sc (.int .i64 0),.sc (.int .i64 0),.sc (.bool false),.sc (.int .i64 0),.sc (.int .u64 0),.sc (.int .i64 0),.lst false 1 0 [],.lst false 1 0 []],.sc (.int .i64 2)] [])) (Aq (decide (0<=x9))<|Aq (decide (Int.toNat x9<=a0n)&&decide (a0n<=a0n))<|Aa (a0n-Int.toNat x9) fun H0=>Aa (List.take (H0*1) (List.drop (Int.toNat x9*1) a0)) fun Jn=>Ag (call 55 [.lst false 1 H0 Jn]) fun Gt Ix=>Ac Ix<|Ab Gt fun M5 F0=>Cu M5 fun H5=>Ab H5 fun Rh R6=>Af .i64 Rh fun L6=>Ab R6 fun Rl Pu=>Dk 1 Rl fun Lx Q6=>Ab Pu fun Rj Oc=>Dk 1 Rj fun Pw Sd=>Ac Oc<|Ab F0 fun Pq Rx=>Af .i64 Pq fun Lz=>Ac Rx<|A4 (Lz != 0) (some (Ay.mk [.agg [.sc (.string (ByteArray.mk #[])),.sc (.string (ByteArray.mk #[])),.sc (.int .u64 0),.sc (.int .i64 0),.sc (.int .u64 0),.sc (.int .i64 0),.sc (.int .i64 0),.sc (.bool false),.sc (.int .i64 0),.sc (.int .u64 0),.sc (.int .i64 0),.lst false 1 0 [],.lst false 1 0 []],.sc (.int .i64 2)] [])) (Aq (decide (1<(↑x5:Int)))<|Cn (List.getD x6 5 .top) fun Py=>Aq (decide (2<(↑x5:Int)))<|Cn (List.getD x6 8 .top) fun Rr=>Aq (decide (3<(↑x5:Int)))<|Af .u64 (List.getD x6 10 .top) fun Ts=>Aq (decide (5<(↑x5:Int)))<|Af .u64 (List.getD x6 16 .top) fun Pi=>Aa (IntKind.wrap .i64 Pi) fun Q9=>Aq (decide (6<(↑x5:Int)))<|Af .u64 (List.getD x6 19 .top) fun S5=>Aa (IntKind.wrap .i64 S5) fun Uv=>Aq (decide (7<(↑x5:Int)))<|Af .u64 (List.getD x6 22 .top) fun Oe=>Aq (decide (8<(↑x5:Int)))<|Af .u64 (List.getD x6 25 .top) fun Ro=>Aa (IntKind.wrap .i64 Ro) fun V9=>Aq (decide (9<(↑x5:Int)))<|Af .u64 (List.getD x6 28 .top) fun Uq=>Aq (decide (0+Lx*1<=List.length Q6))<|Aq (decide (0+Pw*1<=List.length Sd))<|Ag (call 89 [.agg [.sc (.string Py),.sc (.string Rr),.sc (.int .u64 Ts),.sc (.int .i64 Fc),.sc (.int .u64 Cg),.sc (.int .i64 Q9),.sc (.int .i64 Uv),.sc (.bool (Oe==1)),.sc (.int .i64 V9),.sc (.int .u64 Uq),.sc (.int .i64 L6),.lst false 1 Lx (List.take (Lx*1) (List.drop 0 Q6)),.lst false 1 Pw (List.take (Pw*1) (List.drop 0 Sd))]]) fun Q7 S6=>Ac S6<|Ab Q7 fun S1 Ty=>Dk 1 S1 fun Up Us=>Ab Ty fun Q8 Ws=>Af .i64 Q8 fun Wj=>Ac Ws<|A4 (Wj != 0) (some (Ay.mk [.agg [.sc (.string (ByteArray.mk #[])),.sc (.string (ByteArray.mk #[])),.sc (.int .u64 0),.sc (.int .i64 0),.sc (.int .u64 0),.sc (.int .i64 0),.sc (.int .i64 0),.sc (.bool false),.sc (.int .i64 0),.sc (.int .u64 0),.sc (.int .i64 0),.lst false 1 0 [],.lst false 1 0 []],.sc (.int .i64 2)] [])) (Aq (decide (0+Up*1<=List.length Us))<|Ag (call 90 [.lst false 1 Up (List.take (Up*1) (List.drop 0 Us)),.lst false 1 a0n a0]) fun Ur V1=>Ac V1<|Ab Ur fun Wu V7=>Bz Wu fun Wt=>Ac V7<|A4 (!Wt) (some (Ay.mk [.agg [.sc (.string (ByteArray.mk #[])),.sc (.string (ByteArray.mk #[])),.sc (.int .u64 0),.sc (.int .i64 0),.sc (.int .u64 0),.sc (.int .i64 0),.sc (.int .i64 0),.sc (.bool false),.sc (.int .i64 0),.sc (.int .u64 0),.sc (.int .i64 0),.lst false 1 0 [],.lst false 1 0 []],.sc (.int .i64 2)] [])) (Aq (decide (0+Lx*1<=List.length Q6))<|Aq (decide (0+Pw*1<=List.length Sd))<|some (Ay.mk [.agg [.sc (.string Py),.sc (.string Rr),.sc (.int .u64 Ts),.sc (.int .i64 Fc),.sc (.int .u64 Cg),.sc (.int .i64 Q9),.sc (.int .i64 Uv),.sc (.bool (Oe==1)),.sc (.int .i64 V9),.sc (.int .u64 Uq),.sc (.int .i64 L6),.lst false 1 Lx (List.take (Lx*1) (List.drop 0 Q6)),.lst false 1 Pw (List.take (Pw*1) (List.drop 0 Sd))],.sc (.int .i64 0)] []))))))))) (Ae C0 Tryz.prog fu d):=by kernel_rfl
abbrev Kh:FuncId:=91
noncomputable def C2 (fu:Nat)(call:Am)(a0_0 a0_1:ByteArray)(a0_2 a0_3:Int)(a0_4 a0_5 a0_6:Int)(a0_7:Bool)(a0_8 a0_9 a0_10:Int)(a0_11n:Nat)(a0_11:List PV)(a0_12n:Nat)(a0_12:List PV)(a1:Int)(a2n:Nat)(a2:List PV)(a3:Int)(nn:Nat)(y0:Int)(y1:Nat)(y2:List PV)(y3 y4:Int)(y5 y6:ByteArray)(y7 y8:Int)(y9 y10 Gc:Int)(H4:Bool)(Wq y14 y15:Int)(y16:Nat)(y17:List PV)(y18:Nat)(y19:List PV):Option Ay:=Db C0 Tryz.prog fu call 91 Tryz.f91 (Ch Tryz.f91) [.agg [.sc (.string a0_0),.sc (.string a0_1),.sc (.int .u64 a0_2),.sc (.int .i64 a0_3),.sc (.int .u64 a0_4),.sc (.int .i64 a0_5),.sc (.int .i64 a0_6),.sc (.bool a0_7),.sc (.int .i64 a0_8),.sc (.int .u64 a0_9),.sc (.int .i64 a0_10),.lst false 1 a0_11n a0_11,.lst false 1 a0_12n a0_12],.sc (.int .i64 a1),.lst false 3 a2n a2,.sc (.int .i64 a3)] [.r,.r,.r,.r,.l,.r,.l] nn ⟨lk [(3,(.sc (.int .i64 y0))),(4,(.ptr 4 0)),(45,(.lst false 3 y1 y2)),(46,(.sc (.int .i64 y3))),(47,(.sc (.int .i64 y4)))],Gn [(4,(.st [(.sc (.string y5)),(.sc (.string y6)),(.sc (.int .u64 y7)),(.sc (.int .i64 y8)),(.sc (.int .u64 y9)),(.sc (.int .i64 y10)),(.sc (.int .i64 Gc)),(.sc (.bool H4)),(.sc (.int .i64 Wq)),(.sc (.int .u64 y14)),(.sc (.int .i64 y15)),(.lst false 1 y16 y17),(.lst false 1 y18 y19)]))]⟩
theorem Il (fu:Nat)(call:Am)(a0_0 a0_1:ByteArray)(a0_2 a0_3:Int)(a0_4 a0_5 a0_6:Int)(a0_7:Bool)(a0_8 a0_9 a0_10:Int)(a0_11n:Nat)(a0_11:List PV)(a0_12n:Nat)(a0_12:List PV)(a1:Int)(a2n:Nat)(a2:List PV)(a3:Int)(nn:Nat)(y0:Int)(y1:Nat)(y2:List PV)(y3 y4:Int)(y5 y6:ByteArray)(y7 y8:Int)(y9 y10 Gc:Int)(H4:Bool)(Wq y14 y15:Int)(y16:Nat)(y17:List PV)(y18:Nat)(y19:List PV):C2 fu call a0_0 a0_1 a0_2 a0_3 a0_4 a0_5 a0_6 a0_7 a0_8 a0_9 a0_10 a0_11n a0_11 a0_12n a0_12 a1 a2n a2 a3 (nn+1) y0 y1 y2 y3 y4 y5 y6 y7 y8 y9 y10 Gc H4 Wq y14 y15 y16 y17 y18 y19=(A4 (decide (y4<y3)) (Aq (decide (0<=y4)&&decide (y4<(↑y1:Int)))<|Cn (List.getD y2 (Int.toNat y4*3) .top) fun Bp=>Af .u64 (List.getD y2 (Int.toNat y4*3+1) .top) fun C4=>Af .i64 (List.getD y2 (Int.toNat y4*3+1+1) .top) fun Da=>A4 (Array.toList (ByteArray.data Bp)==Array.toList (ByteArray.data y6)) (A4 (C4==y7) (A4 (decide (Da<=y0)) (some (Ay.mk [.sc (.int .i64 39)] [])) (Aa (IntKind.wrap .i64 (y4+1)) fun Cq=>C2 fu call a0_0 a0_1 a0_2 a0_3 a0_4 a0_5 a0_6 a0_7 a0_8 a0_9 a0_10 a0_11n a0_11 a0_12n a0_12 a1 a2n a2 a3 (nn) (y0) (y1) (y2) (y3) Cq (y5) (y6) (y7) (y8) (y9) (y10) (Gc) (H4) (Wq) (y14) (y15) (y16) (y17) (y18) (y19))) (Aa (IntKind.wrap .i64 (y4+1)) fun C9=>C2 fu call a0_0 a0_1 a0_2 a0_3 a0_4 a0_5 a0_6 a0_7 a0_8 a0_9 a0_10 a0_11n a0_11 a0_12n a0_12 a1 a2n a2 a3 (nn) (y0) (y1) (y2) (y3) C9 (y5) (y6) (y7) (y8) (y9) (y10) (Gc) (H4) (Wq) (y14) (y15) (y16) (y17) (y18) (y19))) (Aa (IntKind.wrap .i64 (y4+1)) fun Do=>C2 fu call a0_0 a0_1 a0_2 a0_3 a0_4 a0_5 a0_6 a0_7 a0_8 a0_9 a0_10 a0_11n a0_11 a0_12n a0_12 a1 a2n a2 a3 (nn) (y0) (y1) (y2) (y3) Do (y5) (y6) (y7) (y8) (y9) (y10) (Gc) (H4) (Wq) (y14) (y15) (y16) (y17) (y18) (y19))) (some (Ay.mk [.sc (.int .i64 0)] []))):=by kernel_rfl
theorem Uk (fu d:Nat)(a0_0 a0_1:ByteArray)(a0_2 a0_3:Int)(a0_4 a0_5 a0_6:Int)(a0_7:Bool)(a0_8 a0_9 a0_10:Int)(a0_11n:Nat)(a0_11:List PV)(a0_12n:Nat)(a0_12:List PV)(a1:Int)(a2n:Nat)(a2:List PV)(a3:Int):Ae C0 Tryz.prog fu (d+1) Kh [.agg [.sc (.string a0_0),.sc (.string a0_1),.sc (.int .u64 a0_2),.sc (.int .i64 a0_3),.sc (.int .u64 a0_4),.sc (.int .i64 a0_5),.sc (.int .i64 a0_6),.sc (.bool a0_7),.sc (.int .i64 a0_8),.sc (.int .u64 a0_9),.sc (.int .i64 a0_10),.lst false 1 a0_11n a0_11,.lst false 1 a0_12n a0_12],.sc (.int .i64 a1),.lst false 3 a2n a2,.sc (.int .i64 a3)]=(fun (call:Am)=>Ag (call 111 [.agg [.sc (.string a0_0),.sc (.string a0_1),.sc (.int .u64 a0_2),.sc (.int .i64 a0_3),.sc (.int .u64 a0_4),.sc (.int .i64 a0_5),.sc (.int .i64 a0_6),.sc (.bool a0_7),.sc (.int .i64 a0_8),.sc (.int .u64 a0_9),.sc (.int .i64 a0_10),.lst false 1 a0_11n a0_11,.lst false 1 a0_12n a0_12]]) fun x1 x2=>Ac x2<|Ab x1 fun x3 x4=>Dk 1 x3 fun x5 x6=>Ab x4 fun x7 x8=>Af .i64 x7 fun x9=>Ac x8<|A4 (x9 != 0) (some (Ay.mk [.sc (.int .i64 x9)] [])) (A4 (decide (a3<a0_5)) (some (Ay.mk [.sc (.int .i64 38)] [])) (A4 (decide (a3>a0_6)) (some (Ay.mk [.sc (.int .i64 38)] [])) (A4 (decide (a1>0)) (A4 (!a0_7) (some (Ay.mk [.sc (.int .i64 38)] [])) (Aa (IntKind.wrap .i64 (a1-1)) fun Cd=>A4 (decide (a0_8<Cd)) (some (Ay.mk [.sc (.int .i64 38)] [])) (C2 fu call a0_0 a0_1 a0_2 a0_3 a0_4 a0_5 a0_6 a0_7 a0_8 a0_9 a0_10 a0_11n a0_11 a0_12n a0_12 a1 a2n a2 a3 (fu) (a3) (a2n) (a2) ((↑a2n:Int)) 0 (a0_0) (a0_1) (a0_2) (a0_3) (a0_4) (a0_5) (a0_6) (a0_7) (a0_8) (a0_9) (a0_10) (a0_11n) (a0_11) (a0_12n) (a0_12)))) (C2 fu call a0_0 a0_1 a0_2 a0_3 a0_4 a0_5 a0_6 a0_7 a0_8 a0_9 a0_10 a0_11n a0_11 a0_12n a0_12 a1 a2n a2 a3 (fu) (a3) (a2n) (a2) ((↑a2n:Int)) 0 (a0_0) (a0_1) (a0_2) (a0_3) (a0_4) (a0_5) (a0_6) (a0_7) (a0_8) (a0_9) (a0_10) (a0_11n) (a0_11) (a0_12n) (a0_12)))))) (Ae C0 Tryz.prog fu d):=by kernel_rfl
abbrev Qh:FuncId:=58
noncomputable def G2 (fu:Nat)(call:Am)(a0n:Nat)(a0:List PV)(a1n:Nat)(a1:List PV)(a2n:Nat)(a2:List PV)(a3:Int)(nn y0:Nat)(y1:List PV)(y2:Nat)(y3:List PV)(y4:Nat)(y5:List PV)(y6:Int)(y7:Nat)(y8:List PV)(y9 y10:Int):Option Ay:=Db C0 Tryz.prog fu call 58 Tryz.f58 (Ch Tryz.f58) [.lst false 13 a0n a0,.lst false 3 a1n a1,.lst false 3 a2n a2,.sc (.int .i64 a3)] [.r,.r,.r,.l,.r,.l] nn ⟨lk [(0,(.lst false 13 y0 y1)),(1,(.lst false 3 y2 y3)),(2,(.lst false 3 y4 y5)),(3,(.sc (.int .i64 y6))),(31,(.lst false 13 y7 y8)),(32,(.sc (.int .i64 y9))),(33,(.sc (.int .i64 y10)))],Gn []⟩
noncomputable def Es (fu:Nat)(call:Am)(a0n:Nat)(a0:List PV)(a1n:Nat)(a1:List PV)(a2n:Nat)(a2:List PV)(a3:Int)(nn y0:Nat)(y1:List PV)(y2 y3:Int)(y4 y5:ByteArray)(y6 y7:Int)(y8 y9 y10:Int)(Gc:Bool)(H4 Wq y14:Int)(y15:Nat)(y16:List PV)(y17:Nat)(y18:List PV):Option Ay:=Db C0 Tryz.prog fu call 58 Tryz.f58 (Ch Tryz.f58) [.lst false 13 a0n a0,.lst false 3 a1n a1,.lst false 3 a2n a2,.sc (.int .i64 a3)] [.r,.r,.r,.r,.r,.l,.r,.l] nn ⟨lk [(14,(.ptr 14 0)),(78,(.lst false 3 y0 y1)),(79,(.sc (.int .i64 y2))),(80,(.sc (.int .i64 y3)))],Gn [(14,(.st [(.sc (.string y4)),(.sc (.string y5)),(.sc (.int .u64 y6)),(.sc (.int .i64 y7)),(.sc (.int .u64 y8)),(.sc (.int .i64 y9)),(.sc (.int .i64 y10)),(.sc (.bool Gc)),(.sc (.int .i64 H4)),(.sc (.int .u64 Wq)),(.sc (.int .i64 y14)),(.lst false 1 y15 y16),(.lst false 1 y17 y18)]))]⟩
theorem Ma (fu:Nat)(call:Am)(a0n:Nat)(a0:List PV)(a1n:Nat)(a1:List PV)(a2n:Nat)(a2:List PV)(a3:Int)(nn y0:Nat)(y1:List PV)(y2:Nat)(y3:List PV)(y4:Nat)(y5:List PV)(y6:Int)(y7:Nat)(y8:List PV)(y9 y10:Int):G2 fu call a0n a0 a1n a1 a2n a2 a3 (nn+1) y0 y1 y2 y3 y4 y5 y6 y7 y8 y9 y10=(A4 (decide (y10<y9)) (Aq (decide (0<=y10)&&decide (y10<(↑y7:Int)))<|Cn (List.getD y8 (Int.toNat y10*13) .top) fun x1=>Cn (List.getD y8 (Int.toNat y10*13+1) .top) fun x2=>Af .u64 (List.getD y8 (Int.toNat y10*13+1+1) .top) fun x3=>Af .i64 (List.getD y8 (Int.toNat y10*13+1+1+1) .top) fun x4=>Af .u64 (List.getD y8 (Int.toNat y10*13+1+1+1+1) .top) fun x5=>Af .i64 (List.getD y8 (Int.toNat y10*13+1+1+1+1+1) .top) fun x6=>Af .i64 (List.getD y8 (Int.toNat y10*13+1+1+1+1+1+1) .top) fun x7=>Bz (List.getD y8 (Int.toNat y10*13+1+1+1+1+1+1+1) .top) fun x8=>Af .i64 (List.getD y8 (Int.toNat y10*13+1+1+1+1+1+1+1+1) .top) fun x9=>Af .u64 (List.getD y8 (Int.toNat y10*13+1+1+1+1+1+1+1+1+1) .top) fun Cd=>Af .i64 (List.getD y8 (Int.toNat y10*13+1+1+1+1+1+1+1+1+1+1) .top) fun Bp=>Ih 1 (List.getD y8 (Int.toNat y10*13+1+1+1+1+1+1+1+1+1+1+1) .top) fun C4 Da Cq=>Ih 1 (List.getD y8 (Int.toNat y10*13+1+1+1+1+1+1+1+1+1+1+1+1) .top) fun C9 Do Du=>Ag (call 91 [.agg [.sc (.string x1),.sc (.string x2),.sc (.int .u64 x3),.sc (.int .i64 x4),.sc (.int .u64 x5),.sc (.int .i64 x6),.sc (.int .i64 x7),.sc (.bool x8),.sc (.int .i64 x9),.sc (.int .u64 Cd),.sc (.int .i64 Bp),.lst false 1 Da Cq,.lst false 1 Do Du],.sc (.int .i64 y10),.lst false 3 y4 y5,.sc (.int .i64 y6)]) fun D5 D7=>Ac D7<|Ab D5 fun Eh Fy=>Af .i64 Eh fun Ci=>Ac Fy<|A4 (Ci != 0) (some (Ay.mk [.sc (.int .i64 0),.sc (.int .i64 Ci)] [])) (Aa (IntKind.wrap .i64 ((↑y0:Int)-1)) fun Fn=>A4 (y10==Fn) (Aa (IntKind.wrap .i64 ((↑y0:Int)-1)) fun Ds=>Aq (decide (0<=Ds)&&decide (Ds<(↑y0:Int)))<|Cn (List.getD y1 (Int.toNat Ds*13) .top) fun Bx=>Cn (List.getD y1 (Int.toNat Ds*13+1) .top) fun Fc=>Af .u64 (List.getD y1 (Int.toNat Ds*13+1+1) .top) fun Ft=>Af .i64 (List.getD y1 (Int.toNat Ds*13+1+1+1) .top) fun Bk=>Af .u64 (List.getD y1 (Int.toNat Ds*13+1+1+1+1) .top) fun Cg=>Af .i64 (List.getD y1 (Int.toNat Ds*13+1+1+1+1+1) .top) fun Hg=>Af .i64 (List.getD y1 (Int.toNat Ds*13+1+1+1+1+1+1) .top) fun Gf=>Bz (List.getD y1 (Int.toNat Ds*13+1+1+1+1+1+1+1) .top) fun Ie=>Af .i64 (List.getD y1 (Int.toNat Ds*13+1+1+1+1+1+1+1+1) .top) fun H0=>Af .u64 (List.getD y1 (Int.toNat Ds*13+1+1+1+1+1+1+1+1+1) .top) fun Jn=>Af .i64 (List.getD y1 (Int.toNat Ds*13+1+1+1+1+1+1+1+1+1+1) .top) fun Gt=>Ih 1 (List.getD y1 (Int.toNat Ds*13+1+1+1+1+1+1+1+1+1+1+1) .top) fun Ix M5 F0=>Ih 1 (List.getD y1 (Int.toNat Ds*13+1+1+1+1+1+1+1+1+1+1+1+1) .top) fun H5 Rh R6=>Es fu call a0n a0 a1n a1 a2n a2 a3 (fu) (y2) (y3) ((↑y2:Int)) 0 Bx Fc Ft Bk Cg Hg Gf Ie H0 Jn Gt M5 F0 Rh R6) (Aa (IntKind.wrap .i64 (y10+1)) fun L6=>Aq (decide (0<=L6)&&decide (L6<(↑y0:Int)))<|Cn (List.getD y1 (Int.toNat L6*13+0) .top) fun Rl=>A4 (!Array.toList (ByteArray.data x2)==Array.toList (ByteArray.data Rl)) (some (Ay.mk [.sc (.int .i64 0),.sc (.int .i64 38)] [])) (Aa (IntKind.wrap .i64 (y10+1)) fun Pu=>Aq (decide (0<=Pu)&&decide (Pu<(↑y0:Int)))<|Af .i64 (List.getD y1 (Int.toNat Pu*13+3) .top) fun Lx=>Af .u64 (List.getD y1 (Int.toNat Pu*13+3+1) .top) fun Q6=>Ag (call 92 [.agg [.sc (.string x1),.sc (.string x2),.sc (.int .u64 x3),.sc (.int .i64 x4),.sc (.int .u64 x5),.sc (.int .i64 x6),.sc (.int .i64 x7),.sc (.bool x8),.sc (.int .i64 x9),.sc (.int .u64 Cd),.sc (.int .i64 Bp),.lst false 1 Da Cq,.lst false 1 Do Du],.agg [.sc (.int .i64 Lx),.sc (.int .u64 Q6)]]) fun Rj Oc=>Ac Oc<|Ab Rj fun Pw Sd=>Af .i64 Pw fun Pq=>Ac Sd<|A4 (Pq != 0) (some (Ay.mk [.sc (.int .i64 0),.sc (.int .i64 Pq)] [])) (Aa (IntKind.wrap .i64 (y10+1)) fun Rx=>G2 fu call a0n a0 a1n a1 a2n a2 a3 (nn) (y0) (y1) (y2) (y3) (y4) (y5) (y6) (y7) (y8) (y9) Rx))))) (Aa (IntKind.wrap .i64 ((↑y0:Int)-1)) fun Lz=>Aq (decide (0<=Lz)&&decide (Lz<(↑y0:Int)))<|Cn (List.getD y1 (Int.toNat Lz*13) .top) fun Py=>Cn (List.getD y1 (Int.toNat Lz*13+1) .top) fun Rr=>Af .u64 (List.getD y1 (Int.toNat Lz*13+1+1) .top) fun Ts=>Af .i64 (List.getD y1 (Int.toNat Lz*13+1+1+1) .top) fun Pi=>Af .u64 (List.getD y1 (Int.toNat Lz*13+1+1+1+1) .top) fun Q9=>Af .i64 (List.getD y1 (Int.toNat Lz*13+1+1+1+1+1) .top) fun S5=>Af .i64 (List.getD y1 (Int.toNat Lz*13+1+1+1+1+1+1) .top) fun Uv=>Bz (List.getD y1 (Int.toNat Lz*13+1+1+1+1+1+1+1) .top) fun Oe=>Af .i64 (List.getD y1 (Int.toNat Lz*13+1+1+1+1+1+1+1+1) .top) fun Ro=>Af .u64 (List.getD y1 (Int.toNat Lz*13+1+1+1+1+1+1+1+1+1) .top) fun V9=>Af .i64 (List.getD y1 (Int.toNat Lz*13+1+1+1+1+1+1+1+1+1+1) .top) fun Uq=>Ih 1 (List.getD y1 (Int.toNat Lz*13+1+1+1+1+1+1+1+1+1+1+1) .top) fun Q7 S6 S1=>Ih 1 (List.getD y1 (Int.toNat Lz*13+1+1+1+1+1+1+1+1+1+1+1+1) .top) fun Ty Up Us=>Es fu call a0n a0 a1n a1 a2n a2 a3 (fu) (y2) (y3) ((↑y2:Int)) 0 Py Rr Ts Pi Q9 S5 Uv Oe Ro V9 Uq S6 S1 Up Us)):=by kernel_rfl
theorem Mq (fu:Nat)(call:Am)(a0n:Nat)(a0:List PV)(a1n:Nat)(a1:List PV)(a2n:Nat)(a2:List PV)(a3:Int)(nn y0:Nat)(y1:List PV)(y2 y3:Int)(y4 y5:ByteArray)(y6 y7:Int)(y8 y9 y10:Int)(Gc:Bool)(H4 Wq y14:Int)(y15:Nat)(y16:List PV)(y17:Nat)(y18:List PV):Es fu call a0n a0 a1n a1 a2n a2 a3 (nn+1) y0 y1 y2 y3 y4 y5 y6 y7 y8 y9 y10 Gc H4 Wq y14 y15 y16 y17 y18=(A4 (decide (y3<y2)) (Aq (decide (0<=y3)&&decide (y3<(↑y0:Int)))<|Cn (List.getD y1 (Int.toNat y3*3) .top) fun Q8=>Af .i64 (List.getD y1 (Int.toNat y3*3+1) .top) fun Ws=>Af .u64 (List.getD y1 (Int.toNat y3*3+1+1) .top) fun Wj=>A4 (Array.toList (ByteArray.data Q8)==Array.toList (ByteArray.data y5)) (Ag (call 92 [.agg [.sc (.string y4),.sc (.string y5),.sc (.int .u64 y6),.sc (.int .i64 y7),.sc (.int .u64 y8),.sc (.int .i64 y9),.sc (.int .i64 y10),.sc (.bool Gc),.sc (.int .i64 H4),.sc (.int .u64 Wq),.sc (.int .i64 y14),.lst false 1 y15 y16,.lst false 1 y17 y18],.agg [.sc (.int .i64 Ws),.sc (.int .u64 Wj)]]) fun Ur V1=>Ac V1<|Ab Ur fun Wu V7=>Af .i64 Wu fun Wt=>Ac V7<|A4 (Wt==0) (some (Ay.mk [.sc (.int .i64 y3),.sc (.int .i64 0)] [])) (Aa (IntKind.wrap .i64 (y3+1)) fun Za=>Es fu call a0n a0 a1n a1 a2n a2 a3 (nn) (y0) (y1) (y2) Za (y4) (y5) (y6) (y7) (y8) (y9) (y10) (Gc) (H4) (Wq) (y14) (y15) (y16) (y17) (y18))) (Aa (IntKind.wrap .i64 (y3+1)) fun x80=>Es fu call a0n a0 a1n a1 a2n a2 a3 (nn) (y0) (y1) (y2) x80 (y4) (y5) (y6) (y7) (y8) (y9) (y10) (Gc) (H4) (Wq) (y14) (y15) (y16) (y17) (y18))) (some (Ay.mk [.sc (.int .i64 0),.sc (.int .i64 38)] []))):=by kernel_rfl
theorem Aca (fu d a0n:Nat)(a0:List PV)(a1n:Nat)(a1:List PV)(a2n:Nat)(a2:List PV)(a3:Int):Ae C0 Tryz.prog fu (d+1) Qh [.lst false 13 a0n a0,.lst false 3 a1n a1,.lst false 3 a2n a2,.sc (.int .i64 a3)]=(fun (call:Am)=>A4 (decide (a3<0)) (some (Ay.mk [.sc (.int .i64 0),.sc (.int .i64 9)] [])) (A4 (decide (a3>1099511627776)) (some (Ay.mk [.sc (.int .i64 0),.sc (.int .i64 9)] [])) (A4 (decide ((↑a0n:Int)<1)) (some (Ay.mk [.sc (.int .i64 0),.sc (.int .i64 38)] [])) (A4 (decide ((↑a0n:Int)>3)) (some (Ay.mk [.sc (.int .i64 0),.sc (.int .i64 38)] [])) (G2 fu call a0n a0 a1n a1 a2n a2 a3 (fu) (a0n) (a0) (a1n) (a1) (a2n) (a2) (a3) (a0n) (a0) ((↑a0n:Int)) 0))))) (Ae C0 Tryz.prog fu d):=by kernel_rfl
abbrev Aam:FuncId:=90
theorem Alm (fu d a0n:Nat)(a0:List PV)(a1n:Nat)(a1:List PV):Ae C0 Tryz.prog fu (d+1) Aam [.lst false 1 a0n a0,.lst false 1 a1n a1]=(fun (call:Am)=>Aq (decide (List.length a0=a0n))<|Ez (bytesOf a0) fun x1=>Aq (decide (List.length a1=a1n))<|Ez (bytesOf a1) fun x2=>some (Ay.mk [.sc (.bool (Array.toList (ByteArray.data (ByteArray.mk (List.toArray x1)))==Array.toList (ByteArray.data (ByteArray.mk (List.toArray x2)))))] [])) (Ae C0 Tryz.prog fu d):=by kernel_rfl
end
section
theorem Aql {c:Ce}{e:Int}(h:Bf c=e)(he:e≠0):Gx c=[.own 1 0 [],.sc (.int .i64 e)]:=by
 unfold Gx;rw [h,A0 he]
theorem Ff {c:Ce}{e:Int}(h:Bf c=e)(he:e≠0):some (Ay.mk [.own 1 0 [],.sc (.int .i64 e)] [])=some (Ay.mk (Gx c) []):=by
 rw [Aql h he]
def Kx (c:Ce):List It:=[⟨4,0,c.subj⟩,⟨4,0,c.iss⟩,⟨1,c.serial,Cy⟩,⟨3,0,Bl (Gl c.key)⟩,⟨1,c.fr,Cy⟩,⟨1,c.un,Cy⟩,⟨7,(if c.auth=true then 1 else 0),Cy⟩,⟨1,c.path,Cy⟩,⟨1,c.model,Cy⟩]
theorem Yi {c:Ce}(hw:c.wf)(h:Bf c=0):∀x∈Kx c,Aox x:=by
 unfold Bf at h;have kl:(Bl (Gl c.key)).size=9:=by rw [Er];rfl
 have ns:Cy.size=0:=rfl;have hs:=hw.ser;have hm:=hw.mod;have es:Aee Cy=true:=rfl;by_cases e1:c.subj.size<1∨32<c.subj.size
 ·rw [Bm e1] at h;cases h
 rw [A0 e1] at h;by_cases e2:c.iss.size<1∨32<c.iss.size
 ·rw [Bm e2] at h;cases h
 rw [A0 e2] at h;by_cases e3:okS c.subj=false
 ·rw [Bm e3] at h;cases h
 rw [A0 e3] at h;by_cases e4:okS c.iss=false
 ·rw [Bm e4] at h;cases h
 rw [A0 e4] at h
 repeat' (split at h;· cases h)
 rw [Bool.not_eq_false] at e3 e4;intro x hx;simp only [Kx,List.mem_cons,List.not_mem_nil,or_false] at hx;rcases hx with rfl|rfl|rfl|rfl|rfl|rfl|rfl|rfl|rfl
 ·exact ⟨by simp,by simp only;omega,fun _=>e3,by simp [Gv],by simp⟩
 ·exact ⟨by simp,by simp only;omega,fun _=>e4,by simp [Gv],by simp⟩
 ·exact ⟨by simp,by simp only [ns];omega,fun h=>by simp at h,by simp [Gv,es],hs⟩
 ·exact ⟨by simp,by simp only [kl];omega,fun h=>by simp at h,by simp [Gv],by simp⟩
 ·exact ⟨by simp,by simp only [ns];omega,fun h=>by simp at h,by simp [Gv,es],by simp only;omega⟩
 ·exact ⟨by simp,by simp only [ns];omega,fun h=>by simp at h,by simp [Gv,es],by simp only;omega⟩
 ·exact ⟨by simp,by simp only [ns];omega,fun h=>by simp at h,by simp [Gv,es];split<;>omega,by simp only;split<;>omega⟩
 ·exact ⟨by simp,by simp only [ns];omega,fun h=>by simp at h,by simp [Gv,es],by simp only;omega⟩
 ·exact ⟨by simp,by simp only [ns];omega,fun h=>by simp at h,by simp [Gv,es],hm⟩
theorem Aaq {c:Ce}(hw:c.wf)(h:Bf c=0):P9 [] 0 (Ba c):=Ay1 (r:=Kx c) (by simp [Kx]) (by simp [Kx]) (Yi hw h)
section
variable {fu d:Nat}
theorem Are (s:ByteArray):Ae C0 Tryz.prog fu (d+1) Age [.sc (.string s)]=some ⟨[.own 3 1 (Bn [⟨4,0,s⟩])],[]⟩:=by rw [Ask];rfl
theorem Yd (n:Int):Ae C0 Tryz.prog fu (d+1) Agw [.sc (.int .u64 n)]=some ⟨[.own 3 1 (Bn [⟨1,n,Cy⟩])],[]⟩:=by rw [Aqy];rfl
theorem A1f (b:Bool):Ae C0 Tryz.prog fu (d+1) Agl [.sc (.bool b)]=some ⟨[.own 3 1 (Bn [⟨7,(if b=true then 1 else 0),Cy⟩])],[]⟩:=by rw [Ar5];cases b<;>rfl
theorem Ayj (l:List Int):Ae C0 Tryz.prog fu (d+1) Aem [.lst false 1 l.length (Ah .u8 l)]=some ⟨[.own 3 1 (Bn [⟨3,0,Bl l⟩])],[]⟩:=by
 rw [Aoq];have L:=Al .u8 l;have bo:=Fk l;simp (disch:=omega) only [B3,L,bo];rfl
theorem Aux (hfu:1000<=fu){c:Ce}(hw:c.wf)(hs1:c.subj.size<=9223372036854775807)(hs2:c.iss.size<=9223372036854775807)(e1:¬(c.subj.size<1∨32<c.subj.size)) (e2:¬(c.iss.size<1∨32<c.iss.size)) (nn:Nat):
  Fv fu (Ae C0 Tryz.prog fu (d+6)) c.subj c.iss c.serial c.key.h c.key.root c.fr c.un c.auth c.path c.model c.sig.leaf c.sig.chains.length (Ah .u64 c.sig.chains) c.sig.path.length (Ah .u64 c.sig.path) (nn+1) c.subj c.iss 2 c.subj c.iss c.serial c.key.h c.key.root c.fr c.un c.auth c.path c.model c.sig.leaf c.sig.chains.length (Ah .u64 c.sig.chains) c.sig.path.length (Ah .u64 c.sig.path)=some ⟨Gx c,[]⟩:=by
 have v1:=Kv (fu:=fu) (d:=d+5) c.subj hs1;have v2:=Kv (fu:=fu) (d:=d+5) c.iss hs2;have ek:=Axv (fu:=fu) (d:=d+4) hfu c.key;simp only [Ky.cells] at ek;have e90:((9:Int) != 0)=true:=rfl;have e00:((0:Int) != 0)=false:=rfl;rw [E1,Dw _ _ _ (by omega)]
 cases e3:okS c.subj
 ·have hb:Bf c=6:=by unfold Bf;rw [A0 e1,A0 e2,Bm e3]
  rw [e3] at v1;rw [←Ff hb (by omega)]
  try unfold Aa
  repeat first
   |((with_reducible first|apply At|apply Aj|apply As|apply Ax|apply Az|apply A5|apply B9|apply Ai);· first|with_reducible rfl|(simp (disch:=omega) only [v1,Bs,B4]<;>with_reducible rfl))
   |((with_reducible first|apply Ar|apply Au);· first|with_reducible rfl|omega|(simp (disch:=omega) only [gT,v1,Bs,B4]<;>omega))
   |(with_reducible apply Aw;· first|with_reducible rfl|(simp (disch:=omega) only [gF,v1,Bs,B4]<;>omega))
  try simp (disch:=omega) only [v1,Bs,B4]
 rw [e3] at v1;cases e4:okS c.iss
 ·have hb:Bf c=6:=by unfold Bf;rw [A0 e1,A0 e2,A0 (by simp [e3]),Bm e4]
  rw [e4] at v2;rw [←Ff hb (by omega)]
  try unfold Aa
  repeat first
   |((with_reducible first|apply At|apply Aj|apply As|apply Ax|apply Az|apply A5|apply B9|apply Ai);· first|with_reducible rfl|(simp (disch:=omega) only [v1,v2,Bs,B4]<;>with_reducible rfl))
   |((with_reducible first|apply Ar|apply Au);· first|with_reducible rfl|omega|(simp (disch:=omega) only [gT,v1,v2,Bs,B4]<;>omega))
   |(with_reducible apply Aw;· first|with_reducible rfl|(simp (disch:=omega) only [gF,v1,v2,Bs,B4]<;>omega))
  try simp (disch:=omega) only [v1,v2,Bs,B4]
 rw [e4] at v2;cases e5:Dd c.key.h
 rotate_left
 ·have hb:Bf c=9:=by unfold Bf;rw [A0 e1,A0 e2,A0 (by simp [e3]),A0 (by simp [e4]),Bm e5]
  rw [e5,Bm rfl] at ek;rw [←Ff hb (by omega)]
  try unfold Aa
  repeat first
   |((with_reducible first|apply At|apply Aj|apply As|apply Ax|apply Az|apply A5|apply B9|apply Ai);· first|with_reducible rfl|(simp (disch:=omega) only [v1,v2,ek,e90,Bs,B4]<;>with_reducible rfl))
   |((with_reducible first|apply Ar|apply Au);· first|with_reducible rfl|omega|(simp (disch:=omega) only [gT,v1,v2,ek,e90,Bs,B4]<;>omega))
   |(with_reducible apply Aw;· first|with_reducible rfl|(simp (disch:=omega) only [gF,v1,v2,ek,e90,Bs,B4]<;>omega))
  try simp (disch:=omega) only [v1,v2,ek,e90,Bs,B4]
 rw [e5,A0 (by simp)] at ek
 have B0:Bf c=if c.fr<0 then 9 else if c.un<c.fr then 9 else if c.un>1099511627776 then 9 else if c.path<0∨2<c.path then 9 else if c.path≠0∧c.auth=false then 4 else 0:=by
  unfold Bf;rw [A0 e1,A0 e2,A0 (by simp [e3]),A0 (by simp [e4]),A0 (by simp [e5])]
 by_cases e6:c.fr<0
 ·have hb:Bf c=9:=by rw [B0,Bm e6]
  rw [←Ff hb (by omega)]
  try unfold Aa
  repeat first
   |((with_reducible first|apply At|apply Aj|apply As|apply Ax|apply Az|apply A5|apply B9|apply Ai);· first|with_reducible rfl|(simp (disch:=omega) only [v1,v2,ek,e00,Bs,B4]<;>with_reducible rfl))
   |((with_reducible first|apply Ar|apply Au);· first|with_reducible rfl|omega|(simp (disch:=omega) only [gT,v1,v2,ek,e00,Bs,B4]<;>omega))
   |(with_reducible apply Aw;· first|with_reducible rfl|(simp (disch:=omega) only [gF,v1,v2,ek,e00,Bs,B4]<;>omega))
  try simp (disch:=omega) only [v1,v2,ek,e00,Bs,B4]
 by_cases e7:c.un<c.fr
 ·have hb:Bf c=9:=by rw [B0,A0 e6,Bm e7]
  rw [←Ff hb (by omega)]
  try unfold Aa
  repeat first
   |((with_reducible first|apply At|apply Aj|apply As|apply Ax|apply Az|apply A5|apply B9|apply Ai);· first|with_reducible rfl|(simp (disch:=omega) only [v1,v2,ek,e00,Bs,B4]<;>with_reducible rfl))
   |((with_reducible first|apply Ar|apply Au);· first|with_reducible rfl|omega|(simp (disch:=omega) only [gT,v1,v2,ek,e00,Bs,B4]<;>omega))
   |(with_reducible apply Aw;· first|with_reducible rfl|(simp (disch:=omega) only [gF,v1,v2,ek,e00,Bs,B4]<;>omega))
  try simp (disch:=omega) only [v1,v2,ek,e00,Bs,B4]
 by_cases e8:c.un>1099511627776
 ·have hb:Bf c=9:=by rw [B0,A0 e6,A0 e7,Bm e8]
  rw [←Ff hb (by omega)]
  try unfold Aa
  repeat first
   |((with_reducible first|apply At|apply Aj|apply As|apply Ax|apply Az|apply A5|apply B9|apply Ai);· first|with_reducible rfl|(simp (disch:=omega) only [v1,v2,ek,e00,Bs,B4]<;>with_reducible rfl))
   |((with_reducible first|apply Ar|apply Au);· first|with_reducible rfl|omega|(simp (disch:=omega) only [gT,v1,v2,ek,e00,Bs,B4]<;>omega))
   |(with_reducible apply Aw;· first|with_reducible rfl|(simp (disch:=omega) only [gF,v1,v2,ek,e00,Bs,B4]<;>omega))
  try simp (disch:=omega) only [v1,v2,ek,e00,Bs,B4]
 by_cases e9:c.path<0∨2<c.path
 ·have hb:Bf c=9:=by rw [B0,A0 e6,A0 e7,A0 e8,Bm e9]
  rw [←Ff hb (by omega)]
  by_cases e9':c.path<0
  ·skip
   try unfold Aa
   repeat first
    |((with_reducible first|apply At|apply Aj|apply As|apply Ax|apply Az|apply A5|apply B9|apply Ai);· first|with_reducible rfl|(simp (disch:=omega) only [v1,v2,ek,e00,Bs,B4]<;>with_reducible rfl))
    |((with_reducible first|apply Ar|apply Au);· first|with_reducible rfl|omega|(simp (disch:=omega) only [gT,v1,v2,ek,e00,Bs,B4]<;>omega))
    |(with_reducible apply Aw;· first|with_reducible rfl|(simp (disch:=omega) only [gF,v1,v2,ek,e00,Bs,B4]<;>omega))
   try simp (disch:=omega) only [v1,v2,ek,e00,Bs,B4]
  ·skip
   try unfold Aa
   repeat first
    |((with_reducible first|apply At|apply Aj|apply As|apply Ax|apply Az|apply A5|apply B9|apply Ai);· first|with_reducible rfl|(simp (disch:=omega) only [v1,v2,ek,e00,Bs,B4]<;>with_reducible rfl))
    |((with_reducible first|apply Ar|apply Au);· first|with_reducible rfl|omega|(simp (disch:=omega) only [gT,v1,v2,ek,e00,Bs,B4]<;>omega))
    |(with_reducible apply Aw;· first|with_reducible rfl|(simp (disch:=omega) only [gF,v1,v2,ek,e00,Bs,B4]<;>omega))
   try simp (disch:=omega) only [v1,v2,ek,e00,Bs,B4]
 by_cases e10:c.path≠0∧c.auth=false
 ·have hb:Bf c=4:=by rw [B0,A0 e6,A0 e7,A0 e8,A0 e9,Bm e10]
  have ea:=e10.2;have ep:(c.path != 0)=true:=by simp [e10.1]
  rw [←Ff hb (by omega)]
  try unfold Aa
  repeat first
   |((with_reducible first|apply At|apply Aj|apply As|apply Ax|apply Az|apply A5|apply B9|apply Ai);· first|with_reducible rfl|(simp (disch:=omega) only [v1,v2,ek,e00,ep,ea,Bs,B4]<;>with_reducible rfl))
   |((with_reducible first|apply Ar|apply Au);· first|with_reducible rfl|omega|(simp (disch:=omega) only [gT,v1,v2,ek,e00,ep,ea,Bs,B4]<;>omega))
   |(with_reducible apply Aw;· first|with_reducible rfl|(simp (disch:=omega) only [gF,v1,v2,ek,e00,ep,ea,Bs,B4]<;>omega))
  try simp (disch:=omega) only [v1,v2,ek,e00,ep,ea,Bs,B4]
 have hz:Bf c=0:=by rw [B0,A0 e6,A0 e7,A0 e8,A0 e9,A0 e10]
 have hfl:=Yi hw hz
 have ar:=Atf (fu:=fu) (d:=d) hfu (vs:=(Kx c).map fun x=>[x]) (by
  intro v hv;obtain ⟨x,hx,rfl⟩:=List.mem_map.1 hv;exact ⟨Ayo (hfl x hx),by simp⟩) (by simp [Kx]) (Aaq hw hz) (by simp [Kx])
 have en:=Ar1 (fu:=fu) (d:=d+1) hfu (l:=Ba c) (by simp [Ba]) (by simp [Ba];omega) (Aaq hw hz) (fun x hx=>(Acb hw hz x hx).1) (Nat.le_trans (Ir hz) (by omega))
 have ar':Ae C0 Tryz.prog fu (d+6) Vk [.lst false 1 9 [.lst false 3 1 (Bn [⟨4,0,c.subj⟩]),.lst false 3 1 (Bn [⟨4,0,c.iss⟩]),.lst false 3 1 (Bn [⟨1,c.serial,Cy⟩]),.lst false 3 1 (Bn [⟨3,0,Bl (Gl c.key)⟩]),.lst false 3 1 (Bn [⟨1,c.fr,Cy⟩]),.lst false 3 1 (Bn [⟨1,c.un,Cy⟩]),.lst false 3 1 (Bn [⟨7,(if c.auth=true then 1 else 0),Cy⟩]),.lst false 3 1 (Bn [⟨1,c.path,Cy⟩]),.lst false 3 1 (Bn [⟨1,c.model,Cy⟩])]]=some ⟨[.own 3 10 (Bn (Ba c)),.sc (.int .i64 0)],[]⟩:=ar
 have en':Ae C0 Tryz.prog fu (d+1+5) Sw [.lst false 3 10 (Bn (Ba c))]=some ⟨[.own 1 (Bc (Ba c)).length (Ah .u8 (Bc (Ba c))),.sc (.int .i64 0)],[]⟩:=en;clear ar en hfl;have t1:=Are (fu:=fu) (d:=d+5) c.subj;have t2:=Are (fu:=fu) (d:=d+5) c.iss;have u1:=Yd (fu:=fu) (d:=d+5) c.serial;have u2:=Yd (fu:=fu) (d:=d+5) c.fr;have u3:=Yd (fu:=fu) (d:=d+5) c.un;have u4:=Yd (fu:=fu) (d:=d+5) c.path;have u5:=Yd (fu:=fu) (d:=d+5) c.model;have bo:=A1f (fu:=fu) (d:=d+5) c.auth;have by_:=Ayj (fu:=fu) (d:=d+5) (Gl c.key);have k9:(Gl c.key).length=9:=rfl;rw [k9] at by_;have L9:=Al .u8 (Gl c.key);rw [k9] at L9;have tk9:List.take 9 (Ah .u8 (Gl c.key))=Ah .u8 (Gl c.key):=Iv (by omega)
 have wf:IntKind.wrap .u64 c.fr=c.fr:=B6 (by omega) (by omega)
 have wu:IntKind.wrap .u64 c.un=c.un:=B6 (by omega) (by omega)
 have wp:IntKind.wrap .u64 c.path=c.path:=B6 (by omega) (by omega)
 have R:Gx c=[.own 1 (Bc (Ba c)).length (Ah .u8 (Bc (Ba c))),.sc (.int .i64 0)]:=by unfold Gx;rw [hz,Bm rfl]
 have LB:=Al .u8 (Bc (Ba c));have tB:=Gs .u8 (Bc (Ba c));rw [R];generalize Bc (Ba c)=W at en' LB tB ⊢;have LI:(Bn (Ba c)).length=30:=rfl;have tI:List.take 30 (Bn (Ba c))=Bn (Ba c):=rfl;generalize Bn (Ba c)=I at ar' en' LI tI;have K:∀x:It,List.take 3 (Bn [x])=Bn [x]:=fun _=>rfl
 have N:∀x:It,(Bn [x]).length=3:=fun _=>rfl
 have K1:=K ⟨4,0,c.subj⟩;have K2:=K ⟨4,0,c.iss⟩;have K3:=K ⟨1,c.serial,Cy⟩;have K4:=K ⟨3,0,Bl (Gl c.key)⟩;have K5:=K ⟨1,c.fr,Cy⟩;have K6:=K ⟨1,c.un,Cy⟩;have K7:=K ⟨7,(if c.auth=true then 1 else 0),Cy⟩
 have K8:=K ⟨1,c.path,Cy⟩;have K9:=K ⟨1,c.model,Cy⟩;have N1:=N ⟨4,0,c.subj⟩;have N2:=N ⟨4,0,c.iss⟩;have N3:=N ⟨1,c.serial,Cy⟩;have N4:=N ⟨3,0,Bl (Gl c.key)⟩;have N5:=N ⟨1,c.fr,Cy⟩;have N6:=N ⟨1,c.un,Cy⟩;have N7:=N ⟨7,(if c.auth=true then 1 else 0),Cy⟩
 have N8:=N ⟨1,c.path,Cy⟩;have N9:=N ⟨1,c.model,Cy⟩;generalize Bn [⟨4,0,c.subj⟩]=T1 at *
 generalize Bn [⟨4,0,c.iss⟩]=T2 at *
 generalize Bn [⟨1,c.serial,Cy⟩]=T3 at *
 generalize Bn [⟨3,0,Bl (Gl c.key)⟩]=T4 at *
 generalize Bn [⟨1,c.fr,Cy⟩]=T5 at *
 generalize Bn [⟨1,c.un,Cy⟩]=T6 at *
 generalize Bn [⟨7,(if c.auth=true then 1 else 0),Cy⟩]=T7 at *
 generalize Bn [⟨1,c.path,Cy⟩]=T8 at *
 generalize Bn [⟨1,c.model,Cy⟩]=T9 at *
 generalize Ah .u8 (Gl c.key)=KB at *
 by_cases ep:c.path=0
 ·have ep':(c.path != 0)=false:=by simp [ep]
  try unfold Aa
  repeat first
   |((with_reducible first|apply At|apply Aj|apply As|apply Ax|apply Az|apply A5|apply B9|apply Ai);· first|with_reducible rfl|(simp (disch:=omega) only [v1,v2,ek,e00,ep',t1,t2,u1,u2,u3,u4,u5,bo,by_,wf,wu,wp,L9,tk9,K1,K2,K3,K4,K5,K6,K7,K8,K9,N1,N2,N3,N4,N5,N6,N7,N8,N9,Bw,Nat.one_mul,Bj,Nat.reduceMul,Cf,ar',LI,tI,en',LB,tB,Bs,B4]<;>with_reducible rfl))
   |((with_reducible first|apply Ar|apply Au);· first|with_reducible rfl|omega|(simp (disch:=omega) only [gT,v1,v2,ek,e00,ep',t1,t2,u1,u2,u3,u4,u5,bo,by_,wf,wu,wp,L9,tk9,K1,K2,K3,K4,K5,K6,K7,K8,K9,N1,N2,N3,N4,N5,N6,N7,N8,N9,Bw,Nat.one_mul,Bj,Nat.reduceMul,Cf,ar',LI,tI,en',LB,tB,Bs,B4]<;>omega))
   |(with_reducible apply Aw;· first|with_reducible rfl|(simp (disch:=omega) only [gF,v1,v2,ek,e00,ep',t1,t2,u1,u2,u3,u4,u5,bo,by_,wf,wu,wp,L9,tk9,K1,K2,K3,K4,K5,K6,K7,K8,K9,N1,N2,N3,N4,N5,N6,N7,N8,N9,Bw,Nat.one_mul,Bj,Nat.reduceMul,Cf,ar',LI,tI,en',LB,tB,Bs,B4]<;>omega))
  try simp (disch:=omega) only [v1,v2,ek,e00,ep',t1,t2,u1,u2,u3,u4,u5,bo,by_,wf,wu,wp,L9,tk9,K1,K2,K3,K4,K5,K6,K7,K8,K9,N1,N2,N3,N4,N5,N6,N7,N8,N9,Bw,Nat.one_mul,Bj,Nat.reduceMul,Cf,ar',LI,tI,en',LB,tB,Bs,B4]
 ·have ea:c.auth=true:=by
   cases h:c.auth
   ·exact absurd ⟨ep,h⟩ e10
   ·rfl
  have ep':(c.path != 0)=true:=by simp [ep]
  rw [ea] at bo
  try unfold Aa
  repeat first
   |((with_reducible first|apply At|apply Aj|apply As|apply Ax|apply Az|apply A5|apply B9|apply Ai);· first|with_reducible rfl|(simp (disch:=omega) only [v1,v2,ek,e00,ep',ea,t1,t2,u1,u2,u3,u4,u5,bo,by_,wf,wu,wp,L9,tk9,K1,K2,K3,K4,K5,K6,K7,K8,K9,N1,N2,N3,N4,N5,N6,N7,N8,N9,Bw,Nat.one_mul,Bj,Nat.reduceMul,Cf,ar',LI,tI,en',LB,tB,Bs,B4]<;>with_reducible rfl))
   |((with_reducible first|apply Ar|apply Au);· first|with_reducible rfl|omega|(simp (disch:=omega) only [gT,v1,v2,ek,e00,ep',ea,t1,t2,u1,u2,u3,u4,u5,bo,by_,wf,wu,wp,L9,tk9,K1,K2,K3,K4,K5,K6,K7,K8,K9,N1,N2,N3,N4,N5,N6,N7,N8,N9,Bw,Nat.one_mul,Bj,Nat.reduceMul,Cf,ar',LI,tI,en',LB,tB,Bs,B4]<;>omega))
   |(with_reducible apply Aw;· first|with_reducible rfl|(simp (disch:=omega) only [gF,v1,v2,ek,e00,ep',ea,t1,t2,u1,u2,u3,u4,u5,bo,by_,wf,wu,wp,L9,tk9,K1,K2,K3,K4,K5,K6,K7,K8,K9,N1,N2,N3,N4,N5,N6,N7,N8,N9,Bw,Nat.one_mul,Bj,Nat.reduceMul,Cf,ar',LI,tI,en',LB,tB,Bs,B4]<;>omega))
  try simp (disch:=omega) only [v1,v2,ek,e00,ep',ea,t1,t2,u1,u2,u3,u4,u5,bo,by_,wf,wu,wp,L9,tk9,K1,K2,K3,K4,K5,K6,K7,K8,K9,N1,N2,N3,N4,N5,N6,N7,N8,N9,Bw,Nat.one_mul,Bj,Nat.reduceMul,Cf,ar',LI,tI,en',LB,tB,Bs,B4]
theorem Atn (hfu:1000<=fu){c:Ce}(hw:c.wf)(hs1:c.subj.size<=9223372036854775807)(hs2:c.iss.size<=9223372036854775807)(nn:Nat)(hn:3<=nn):
  Fv fu (Ae C0 Tryz.prog fu (d+6)) c.subj c.iss c.serial c.key.h c.key.root c.fr c.un c.auth c.path c.model c.sig.leaf c.sig.chains.length (Ah .u64 c.sig.chains) c.sig.path.length (Ah .u64 c.sig.path) nn c.subj c.iss 0 c.subj c.iss c.serial c.key.h c.key.root c.fr c.un c.auth c.path c.model c.sig.leaf c.sig.chains.length (Ah .u64 c.sig.chains) c.sig.path.length (Ah .u64 c.sig.path)=some ⟨Gx c,[]⟩:=by
 obtain ⟨m,rfl⟩:∃m,nn=m+1+1+1:=⟨nn-3,by omega⟩
 have g0:List.getD [PV.sc (Value.string c.subj),PV.sc (Value.string c.iss)] (Int.toNat (0:Int)*1) PV.top=.sc (.string c.subj):=rfl;have g1:List.getD [PV.sc (Value.string c.subj),PV.sc (Value.string c.iss)] (Int.toNat (1:Int)*1) PV.top=.sc (.string c.iss):=rfl;have i1:IntKind.wrap .i64 ((0:Int)+1)=1:=rfl;have i2:IntKind.wrap .i64 ((1:Int)+1)=2:=rfl;by_cases e1:c.subj.size<1∨32<c.subj.size
 ·have hb:Bf c=9:=by unfold Bf;rw [Bm e1]
  rw [←Ff hb (by omega),E1]
  by_cases e1':c.subj.size<1
  ·skip
   try unfold Aa
   repeat first
    |((with_reducible first|apply At|apply Aj|apply As|apply Ax|apply Az|apply A5|apply B9|apply Ai);· first|with_reducible rfl|(simp (disch:=omega) only [g0]<;>with_reducible rfl))
    |((with_reducible first|apply Ar|apply Au);· first|with_reducible rfl|omega|(simp (disch:=omega) only [gT,g0]<;>omega))
    |(with_reducible apply Aw;· first|with_reducible rfl|(simp (disch:=omega) only [gF,g0]<;>omega))
   try simp (disch:=omega) only [g0]
  ·skip
   try unfold Aa
   repeat first
    |((with_reducible first|apply At|apply Aj|apply As|apply Ax|apply Az|apply A5|apply B9|apply Ai);· first|with_reducible rfl|(simp (disch:=omega) only [g0]<;>with_reducible rfl))
    |((with_reducible first|apply Ar|apply Au);· first|with_reducible rfl|omega|(simp (disch:=omega) only [gT,g0]<;>omega))
    |(with_reducible apply Aw;· first|with_reducible rfl|(simp (disch:=omega) only [gF,g0]<;>omega))
   try simp (disch:=omega) only [g0]
 rw [E1];by_cases e2:c.iss.size<1∨32<c.iss.size
 ·have hb:Bf c=9:=by unfold Bf;rw [A0 e1,Bm e2]
  rw [←Ff hb (by omega)]
  try unfold Aa
  repeat first
   |((with_reducible first|apply At|apply Aj|apply As|apply Ax|apply Az|apply A5|apply B9|apply Ai);· first|with_reducible rfl|(simp (disch:=omega) only [g0,i1]<;>with_reducible rfl))
   |((with_reducible first|apply Ar|apply Au);· first|with_reducible rfl|omega|(simp (disch:=omega) only [gT,g0,i1]<;>omega))
   |(with_reducible apply Aw;· first|with_reducible rfl|(simp (disch:=omega) only [gF,g0,i1]<;>omega))
  try simp (disch:=omega) only [g0,i1]
  rw [E1];by_cases e2':c.iss.size<1
  ·skip
   try unfold Aa
   repeat first
    |((with_reducible first|apply At|apply Aj|apply As|apply Ax|apply Az|apply A5|apply B9|apply Ai);· first|with_reducible rfl|(simp (disch:=omega) only [g1]<;>with_reducible rfl))
    |((with_reducible first|apply Ar|apply Au);· first|with_reducible rfl|omega|(simp (disch:=omega) only [gT,g1]<;>omega))
    |(with_reducible apply Aw;· first|with_reducible rfl|(simp (disch:=omega) only [gF,g1]<;>omega))
   try simp (disch:=omega) only [g1]
  ·skip
   try unfold Aa
   repeat first
    |((with_reducible first|apply At|apply Aj|apply As|apply Ax|apply Az|apply A5|apply B9|apply Ai);· first|with_reducible rfl|(simp (disch:=omega) only [g1]<;>with_reducible rfl))
    |((with_reducible first|apply Ar|apply Au);· first|with_reducible rfl|omega|(simp (disch:=omega) only [gT,g1]<;>omega))
    |(with_reducible apply Aw;· first|with_reducible rfl|(simp (disch:=omega) only [gF,g1]<;>omega))
   try simp (disch:=omega) only [g1]
 try unfold Aa
 repeat first
  |((with_reducible first|apply At|apply Aj|apply As|apply Ax|apply Az|apply A5|apply B9|apply Ai);· first|with_reducible rfl|(simp (disch:=omega) only [g0,i1]<;>with_reducible rfl))
  |((with_reducible first|apply Ar|apply Au);· first|with_reducible rfl|omega|(simp (disch:=omega) only [gT,g0,i1]<;>omega))
  |(with_reducible apply Aw;· first|with_reducible rfl|(simp (disch:=omega) only [gF,g0,i1]<;>omega))
 try simp (disch:=omega) only [g0,i1]
 rw [E1]
 try unfold Aa
 repeat first
  |((with_reducible first|apply At|apply Aj|apply As|apply Ax|apply Az|apply A5|apply B9|apply Ai);· first|with_reducible rfl|(simp (disch:=omega) only [g1,i2]<;>with_reducible rfl))
  |((with_reducible first|apply Ar|apply Au);· first|with_reducible rfl|omega|(simp (disch:=omega) only [gT,g1,i2]<;>omega))
  |(with_reducible apply Aw;· first|with_reducible rfl|(simp (disch:=omega) only [gF,g1,i2]<;>omega))
 try simp (disch:=omega) only [g1,i2]
 exact Aux hfu hw hs1 hs2 e1 e2 m
theorem Ak3 (hfu:1000<=fu){c:Ce}(hw:c.wf)(hs1:c.subj.size<=9223372036854775807)(hs2:c.iss.size<=9223372036854775807):Ae C0 Tryz.prog fu (d+7) Qc [.agg c.cells]=some ⟨Gx c,[]⟩:=
 (Aat fu (d+6) c.subj c.iss c.serial c.key.h c.key.root c.fr c.un c.auth c.path c.model c.sig.leaf c.sig.chains.length (Ah .u64 c.sig.chains) c.sig.path.length (Ah .u64 c.sig.path)).trans (Atn hfu hw hs1 hs2 fu (by omega))
end
end
section
def Aot (c:Ce):List PV:=if Bf c=0 then [.sc (.int .u64 (Q0 c)),.sc (.int .i64 0)] else [.sc (.int .u64 0),.sc (.int .i64 (Bf c))]
section
variable {fu d:Nat} {c:Ce}
theorem A02 (hfu:1000<=fu)(hw:c.wf)(hs1:c.subj.size<=9223372036854775807)(hs2:c.iss.size<=9223372036854775807):Ae C0 Tryz.prog fu (d+8) Qg [.agg c.cells]=some ⟨Aot c,[]⟩:=by
 refine (Abi fu (d+7) c.subj c.iss c.serial c.key.h c.key.root c.fr c.un c.auth c.path c.model c.sig.leaf c.sig.chains.length (Ah .u64 c.sig.chains) c.sig.path.length (Ah .u64 c.sig.path)).trans ?_;have bq:=Ak3 (fu:=fu) (d:=d) hfu hw hs1 hs2;simp only [Ce.cells] at bq;unfold Gx at bq;unfold Aot;by_cases h0:Bf c=0
 ·have lb:=Ir h0;rw [Bm h0] at bq;rw [Bm h0];have e00:((0:Int) != 0)=false:=rfl;have hh:=Av1 (fu:=fu) (d:=d+2) (Yo hw h0) (by omega) (by omega) (by omega) 14
  have eW:D8 14 (Bc (Ba c))=Q0 c:=rfl;rw [eW] at hh;have L1:=Al .u8 (Bc (Ba c));have t1:=Gs .u8 (Bc (Ba c));generalize (Bc (Ba c)).length=n1 at *
  generalize Ah .u8 (Bc (Ba c))=c1 at *
  try unfold Aa
  repeat first
   |((with_reducible first|apply At|apply Aj|apply As|apply A5|apply Ai);· first|with_reducible rfl|(simp (disch:=omega) only [bq,e00,Bj,Bw,Cf,L1,t1,hh]<;>with_reducible rfl))
   |((with_reducible first|apply Ar|apply Au);· first|with_reducible rfl|omega|(simp (disch:=omega) only [gT,bq,e00,Bj,Bw,Cf,L1,t1,hh]<;>omega))
   |(with_reducible apply Aw;· first|with_reducible rfl|(simp (disch:=omega) only [gF,bq,e00,Bj,Bw,Cf,L1,t1,hh]<;>omega))
  try simp (disch:=omega) only [bq,e00,Bj,Bw,Cf,L1,t1,hh]
  all_goals rfl
 ·have hne:(Bf c != 0)=true:=by simp [h0]
  rw [A0 h0] at bq;rw [A0 h0]
  try unfold Aa
  repeat first
   |((with_reducible first|apply At|apply Aj|apply As|apply A5|apply Ai);· first|with_reducible rfl|(simp (disch:=omega) only [bq,hne]<;>with_reducible rfl))
   |((with_reducible first|apply Ar|apply Au);· first|with_reducible rfl|omega|(simp (disch:=omega) only [gT,bq,hne]<;>omega))
   |(with_reducible apply Aw;· first|with_reducible rfl|(simp (disch:=omega) only [gF,bq,hne]<;>omega))
  try simp (disch:=omega) only [bq,hne]
  all_goals rfl
theorem Arn (hfu:1000<=fu)(hw:c.wf)(hs1:c.subj.size<=9223372036854775807)(hs2:c.iss.size<=9223372036854775807)(k:Ky):Ae C0 Tryz.prog fu (d+9) Na [.agg c.cells,.agg k.cells]=some ⟨[.sc (.int .i64 (Ok c k))],[]⟩:=by
 refine (Yg fu (d+8) c.subj c.iss c.serial c.key.h c.key.root c.fr c.un c.auth c.path c.model c.sig.leaf c.sig.chains.length (Ah .u64 c.sig.chains) c.sig.path.length (Ah .u64 c.sig.path) k.h k.root).trans ?_;have bq:=A02 (fu:=fu) (d:=d) hfu hw hs1 hs2;simp only [Ce.cells] at bq;unfold Aot at bq;unfold Ok;by_cases h0:Bf c=0
 ·rw [Bm h0] at bq;rw [Bm h0];have e00:((0:Int) != 0)=false:=rfl;have vr:=Af1 (fu:=fu) (d:=d) hfu k (Q0 c) c.sig;simp only [Ky.cells,Sg.cells] at vr
  try unfold Aa
  repeat first
   |((with_reducible first|apply At|apply Aj|apply As|apply A5|apply Ai);· first|with_reducible rfl|(simp (disch:=omega) only [bq,e00,vr]<;>with_reducible rfl))
   |((with_reducible first|apply Ar|apply Au);· first|with_reducible rfl|omega|(simp (disch:=omega) only [gT,bq,e00,vr]<;>omega))
   |(with_reducible apply Aw;· first|with_reducible rfl|(simp (disch:=omega) only [gF,bq,e00,vr]<;>omega))
  try simp (disch:=omega) only [bq,e00,vr]
  all_goals rfl
 ·have hne:(Bf c != 0)=true:=by simp [h0]
  rw [A0 h0] at bq;rw [A0 h0]
  try unfold Aa
  repeat first
   |((with_reducible first|apply At|apply Aj|apply As|apply A5|apply Ai);· first|with_reducible rfl|(simp (disch:=omega) only [bq,hne]<;>with_reducible rfl))
   |((with_reducible first|apply Ar|apply Au);· first|with_reducible rfl|omega|(simp (disch:=omega) only [gT,bq,hne]<;>omega))
   |(with_reducible apply Aw;· first|with_reducible rfl|(simp (disch:=omega) only [gF,bq,hne]<;>omega))
  try simp (disch:=omega) only [bq,hne]
  all_goals rfl
theorem A5j (hfu:1000<=fu)(hw:c.wf)(hs1:c.subj.size<=9223372036854775807)(hs2:c.iss.size<=9223372036854775807)(hp:c.sig.path.length<=1000000000)(hf:c.sig.path.length<fu):Ae C0 Tryz.prog fu (d+8) Nc [.agg c.cells]=some ⟨Abp c,[]⟩:=by
 refine (Xp fu (d+7) c.subj c.iss c.serial c.key.h c.key.root c.fr c.un c.auth c.path c.model c.sig.leaf c.sig.chains.length (Ah .u64 c.sig.chains) c.sig.path.length (Ah .u64 c.sig.path)).trans ?_;have bq:=Ak3 (fu:=fu) (d:=d) hfu hw hs1 hs2;simp only [Ce.cells] at bq;have es:=Ay9 (fu:=fu) (d:=d+5) hfu c.sig hp hf;simp only [Sg.cells] at es;unfold Gx at bq;unfold Abp Dp;by_cases h0:Bf c=0
 ·have lb:=Ir h0;rw [Bm h0] at bq;rw [Bm h0];have L1:=Al .u8 (Bc (Ba c));have t1:=Gs .u8 (Bc (Ba c));have e00:((0:Int) != 0)=false:=rfl;have e90:((9:Int) != 0)=true:=rfl;have e40:((4:Int) != 0)=true:=rfl;unfold Aev;by_cases g1:Dd c.sig.path.length=true
  ·rw [Bm g1] at es;rw [Bm g1,A0 (by omega)]
   try unfold Aa
   repeat first
    |((with_reducible first|apply At|apply Aj|apply As|apply A5|apply Ai);· first|with_reducible rfl|(simp (disch:=omega) only [bq,es,e00,e90]<;>with_reducible rfl))
    |((with_reducible first|apply Ar|apply Au);· first|with_reducible rfl|omega|(simp (disch:=omega) only [gT,bq,es,e00,e90]<;>omega))
    |(with_reducible apply Aw;· first|with_reducible rfl|(simp (disch:=omega) only [gF,bq,es,e00,e90]<;>omega))
   try simp (disch:=omega) only [bq,es,e00,e90]
   all_goals rfl
  rw [A0 g1] at es;rw [A0 g1];by_cases g2:F4 c.sig.leaf c.sig.path.length=true
  ·rw [Bm g2] at es;rw [Bm g2,A0 (by omega)]
   try unfold Aa
   repeat first
    |((with_reducible first|apply At|apply Aj|apply As|apply A5|apply Ai);· first|with_reducible rfl|(simp (disch:=omega) only [bq,es,e00,e90]<;>with_reducible rfl))
    |((with_reducible first|apply Ar|apply Au);· first|with_reducible rfl|omega|(simp (disch:=omega) only [gT,bq,es,e00,e90]<;>omega))
    |(with_reducible apply Aw;· first|with_reducible rfl|(simp (disch:=omega) only [gF,bq,es,e00,e90]<;>omega))
   try simp (disch:=omega) only [bq,es,e00,e90]
   all_goals rfl
  rw [A0 g2] at es;rw [A0 g2];by_cases g3:c.sig.chains.length≠18
  ·rw [Bm g3] at es;rw [Bm g3,A0 (by omega)]
   try unfold Aa
   repeat first
    |((with_reducible first|apply At|apply Aj|apply As|apply A5|apply Ai);· first|with_reducible rfl|(simp (disch:=omega) only [bq,es,e00,e40]<;>with_reducible rfl))
    |((with_reducible first|apply Ar|apply Au);· first|with_reducible rfl|omega|(simp (disch:=omega) only [gT,bq,es,e00,e40]<;>omega))
    |(with_reducible apply Aw;· first|with_reducible rfl|(simp (disch:=omega) only [gF,bq,es,e00,e40]<;>omega))
   try simp (disch:=omega) only [bq,es,e00,e40]
   all_goals rfl
  rw [A0 g3] at es;rw [A0 g3,Bm rfl];have hb4:=Ga (h:=c.sig.path.length) (by simpa using g1)
  have ls:(Ly c.sig).length=2+8*c.sig.chains.length+8*c.sig.path.length:=by
   unfold Ly;simp only [Iw,Hz,C7];omega
  have L2:=Al .u8 (Ly c.sig);have t2:=Gs .u8 (Ly c.sig)
  have ea:Ah .u8 (Bc (Ba c))++Ah .u8 (Ly c.sig)=Ah .u8 (El c):=by
   unfold El;rw [Ah,Ah,Ah,List.flatMap_append]
  have le:(El c).length=(Bc (Ba c)).length+(Ly c.sig).length:=by unfold El;rw [Hz]
  have L3:=Al .u8 (El c);have t3:List.take ((Bc (Ba c)).length+(Ly c.sig).length) (Ah .u8 (El c))=Ah .u8 (El c):=Iv (by omega)
  rw [le] at L3 ⊢;generalize (Bc (Ba c)).length=n1 at *
  generalize (Ly c.sig).length=n2 at *
  generalize Ah .u8 (Bc (Ba c))=c1 at *
  generalize Ah .u8 (Ly c.sig)=c2 at *
  try unfold Aa
  repeat first
   |((with_reducible first|apply At|apply Aj|apply As|apply A5|apply Ai);· first|with_reducible rfl|(simp (disch:=omega) only [bq,es,e00,Bj,Bw,Cf,L1,t1,L2,t2,ea,L3,t3]<;>with_reducible rfl))
   |((with_reducible first|apply Ar|apply Au);· first|with_reducible rfl|omega|(simp (disch:=omega) only [gT,bq,es,e00,Bj,Bw,Cf,L1,t1,L2,t2,ea,L3,t3]<;>omega))
   |(with_reducible apply Aw;· first|with_reducible rfl|(simp (disch:=omega) only [gF,bq,es,e00,Bj,Bw,Cf,L1,t1,L2,t2,ea,L3,t3]<;>omega))
  try simp (disch:=omega) only [bq,es,e00,Bj,Bw,Cf,L1,t1,L2,t2,ea,L3,t3]
  all_goals rfl
 ·have hne:(Bf c != 0)=true:=by simp [h0]
  rw [A0 h0] at bq;rw [A0 h0,A0 h0]
  try unfold Aa
  repeat first
   |((with_reducible first|apply At|apply Aj|apply As|apply A5|apply Ai);· first|with_reducible rfl|(simp (disch:=omega) only [bq,hne]<;>with_reducible rfl))
   |((with_reducible first|apply Ar|apply Au);· first|with_reducible rfl|omega|(simp (disch:=omega) only [gT,bq,hne]<;>omega))
   |(with_reducible apply Aw;· first|with_reducible rfl|(simp (disch:=omega) only [gF,bq,hne]<;>omega))
  try simp (disch:=omega) only [bq,hne]
  all_goals rfl
end
end
section
theorem aci {its:List It}{i:Nat}{x:It}(h:its[i]?=some x):(Bn its).getD (i*3) .top=.sc (.int .i64 x.k)∧(Bn its).getD (i*3+1) .top=.sc (.int .u64 x.n)∧(Bn its).getD (i*3+2) .top=.sc (.string x.s):=
 ⟨Ep It.cells_len h (j:=0) (by omega),Ep It.cells_len h (j:=1) (by omega),Ep It.cells_len h (j:=2) (by omega)⟩
def Oi:List Int:=[5,4,4,1,3,1,1,7,1,1]
def Uz (its:List It):Bool:=its.map (·.k)==Oi
section
variable {fu d:Nat}
theorem Ag6 {call:Am}{a0n:Nat}{a0:List PV}{its:List It}(h10:its.length=10):∀(r:List It)(rk:List Int)(i nn:Nat),its.drop i=r->Oi.drop i=rk->r.length<nn->i<=10 ->
  Gb fu call a0n a0 nn its.length (Bn its) (its.length:Int) (i:Int) (Ah .i64 Oi)=some ⟨[.sc (.bool (r.map (·.k)==rk))],[]⟩
 |_,_,_,0,_,_,h,_=>by omega
 |[],rk,i,nn+1,h,hk,hn,hi=>by
  have:=drop_nil h;obtain rfl:i=10:=by omega
  subst hk;rw [Kb,Dw _ _ _ (by omega)]
  rfl
 |x::r,rk,i,nn+1,h,hk,hn,hi=>by
  obtain ⟨h1,h2,h3⟩:=Ct h;simp only [Iw] at hn;obtain ⟨k,hk1⟩:∃k,Oi[i]?=some k:=⟨_,List.getElem?_eq_getElem (by show i<10;omega)⟩
  have hk2:rk=k::Oi.drop (i+1):=by
   rw [←hk,List.drop_eq_getElem_cons (by show i<10;omega)]
   congr 1
   rw [List.getElem?_eq_getElem (by show i<10;omega)] at hk1
   injection hk1
  subst hk2;have w:IntKind.wrap .i64 ((i:Int)+1)=((i+1:Nat):Int):=by rw [Ap (by omega) (by omega)];omega
  obtain ⟨c0,c1,c2⟩:=aci h2;have ck:=Ps (k:=.i64) hk1;have ih:=Ag6 (call:=call) (a0n:=a0n) (a0:=a0) h10 r _ (i+1) nn h3 rfl (by omega) (by omega)
  rw [Kb,Zzw];by_cases e:x.k=k
  ·have b0:(x.k != k)=false:=by simp [e]
   have e1:(x.k::List.map (·.k) r==k::Oi.drop (i+1))=(List.map (·.k) r==Oi.drop (i+1)):=by simp [e]
   rw [e1,←ih];simp (disch:=omega) only [B3,Hr,Bj,Bw,c0,c1,c2,ck,b0,w]
  ·have b0:(x.k != k)=true:=by simp [e]
   have e1:(x.k::List.map (·.k) r==k::Oi.drop (i+1))=false:=by simp [e]
   rw [e1];simp (disch:=omega) only [B3,Hr,Bj,Bw,c0,c1,c2,ck,b0,w]
theorem Axt (hfu:1000<=fu)(its:List It):Ae C0 Tryz.prog fu (d+1) Nn [.lst false 3 its.length (Bn its)]=some ⟨[.sc (.bool (Uz its))],[]⟩:=by
 rw [X7];show H3 _ _ _ _ _ _ _=_;rw [Tp (hnn:=by omega),Ud (hnn:=by omega)]
 by_cases h:its.length=10
 ·have b0:((its.length:Int) != 10)=false:=by simp;omega
  rw [b0,Akn];exact Ag6 (call:=Ae C0 Tryz.prog fu d) h its Oi 0 fu rfl rfl (by omega) (by omega)
 ·have b0:((its.length:Int) != 10)=true:=by simp;omega
  have e:Uz its=false:=by
   unfold Uz;cases q:(its.map (·.k)==Oi)
   ·rfl
   ·have:=congrArg List.length (eq_of_beq q);simp [Oi] at this;omega
  rw [b0,Auc,e]
theorem Au0 {a b:List Int}(ha:Hf a)(hb:Hf b)(h:(a.map fun n=>n.toNat.toUInt8)=(b.map fun n=>n.toNat.toUInt8)):a=b:=by
 have e:Bl a=Bl b:=by unfold Bl;rw [h]
 rw [←Ks ha,←Ks hb,e]
theorem Bad {a b:List Int}(ha:Hf a)(hb:Hf b):(Array.toList (ByteArray.data (ByteArray.mk (List.toArray (a.map fun n=>n.toNat.toUInt8))))==Array.toList (ByteArray.data (ByteArray.mk (List.toArray (b.map fun n=>n.toNat.toUInt8)))))=decide (a=b):=by
 by_cases h:a=b
 ·subst h;simp
 ·have:(List.map (fun n=>n.toNat.toUInt8) a)≠(List.map (fun n=>n.toNat.toUInt8) b):=fun e=>h (Au0 ha hb e)
  simp only [h,decide_false]
  simpa using this
theorem Alr {a b:List Int}(ha:Hf a)(hb:Hf b):Ae C0 Tryz.prog fu (d+1) Aam [.lst false 1 a.length (Ah .u8 a),.lst false 1 b.length (Ah .u8 b)]=some ⟨[.sc (.bool (decide (a=b)))],[]⟩:=by
 rw [Alm];have La:=Al .u8 a;have Lb:=Al .u8 b;have ba:=Fk a;have bb:=Fk b;have q:=Bad ha hb;simp (disch:=omega) only [B3,La,Lb,ba,bb,q]
end
structure Ce.ok (c:Ce):Prop where
 ser:isU c.serial
 mod:isU c.model
 root:isU c.key.root
 sg:c.sig.ok
theorem Ce.ok.wf {c:Ce}(h:c.ok):c.wf:=⟨h.ser.1,h.mod.1⟩
def Gq (x1 x2 x3 x5 x6 x7 x8 x9:It)(k:Ky)(s:Sg):Ce:=⟨x1.s,x2.s,x3.n,k,IntKind.wrap .i64 x5.n,IntKind.wrap .i64 x6.n,x7.n==1,IntKind.wrap .i64 x8.n,x9.n,s⟩
def Aml (b:List Int):Option Ce:=
 if (Kf 1000 [] 0 b 0 []).2.2≠0 then none else
 match (Kf 1000 [] 0 b 0 []).1 with
 |[_,x1,x2,x3,x4,x5,x6,x7,x8,x9]=>(match Zj (Bv x4.s),sgD (b.drop (Kf 1000 [] 0 b 0 []).2.1) with|some k,some s=>some (Gq x1 x2 x3 x5 x6 x7 x8 x9 k s)|_,_=>none)
 |_=>none
def Ku (b:List Int):Ce × Int:=
 if b.length>512 then (Zy,8) else match Aml b with|some c=>if Dp c=0∧El c=b∧c.serial<=18446744073709551615∧c.model<=18446744073709551615 then (c,0) else (Zy,2)|none=>(Zy,2)
theorem Lm {c:Ce}(h:Dp c=0):Bf c=0∧Dd c.key.h=false∧Dd c.sig.path.length=false∧F4 c.sig.leaf c.sig.path.length=false∧c.sig.chains.length=18∧0<=c.fr∧c.fr<=c.un∧c.un<=1099511627776∧0<=c.path∧c.path<=2:=by
 unfold Dp at h;by_cases h0:Bf c=0
 rotate_left
 ·rw [A0 h0] at h;exact absurd h h0
 rw [Bm h0] at h;unfold Aev at h;have hb:=h0;unfold Bf at hb
 repeat' (split at h;· cases h)
 repeat' (split at hb;· cases hb)
 refine ⟨h0,by simp_all,by simp_all,by simp_all,by omega,by omega,by omega,by omega,by omega,by omega⟩
theorem Aqz {c:Ce}(hc:c.ok)(h:Dp c=0){m:Nat}(hm:10<m):Kf m [] 0 (El c) 0 []=(Ba c,(Bc (Ba c)).length,0):=by
 obtain ⟨h0,h1,h2,h3,h4,h5,h6,h7,h8,h9⟩:=Lm h
 have r:=Am0 (b:=El c) (rest:=Ly c.sig) (Ba c) [] 0 0 m [] (Aaq hc.wf h0) (by
  intro x hx;have u1:=hc.ser;have u2:=hc.mod;simp only [Ba,List.mem_cons,List.not_mem_nil,or_false] at hx;rcases hx with rfl|rfl|rfl|rfl|rfl|rfl|rfl|rfl|rfl|rfl
  all_goals simp only
  all_goals try split
  all_goals omega) rfl (by simpa [Ba] using hm)
 simpa using r
theorem Ab7 {c:Ce}(h:Dp c=0):Gq ⟨4,0,c.subj⟩ ⟨4,0,c.iss⟩ ⟨1,c.serial,Cy⟩ ⟨1,c.fr,Cy⟩ ⟨1,c.un,Cy⟩ ⟨7,(if c.auth=true then 1 else 0),Cy⟩ ⟨1,c.path,Cy⟩ ⟨1,c.model,Cy⟩ c.key c.sig=c:=by
 obtain ⟨h0,h1,h2,h3,h4,h5,h6,h7,h8,h9⟩:=Lm h;obtain ⟨subj,iss,serial,key,fr,un,auth,path,model,sig⟩:=c;simp only at *
 unfold Gq;simp only;rw [Ap (by omega) (by omega),Ap (by omega) (by omega),Ap (by omega) (by omega)]
 cases auth<;>rfl
theorem Adk {c:Ce}(h:Dp c=0):(El c).length<=400:=by
 obtain ⟨h0,h1,h2,h3,h4,h5,h6,h7,h8,h9⟩:=Lm h;have:=Ir h0;have hb:=Ga h2;unfold El Ly;simp only [Hz,Iw,C7];omega
theorem At2 {c:Ce}(hw:c.wf)(h:Dp c=0):Hf (El c):=by
 intro x hx;rcases List.mem_append.1 hx with hx|hx
 ·exact Yo hw (Lm h).1 x hx
 ·exact A59 _ x hx
theorem Auz {c:Ce}(hc:c.ok)(h:Dp c=0):Zj (Bv (Bl (Gl c.key)))=some c.key:=by
 rw [Ks Aul];exact Anv (Lm h).2.1 hc.root
theorem A2q {c:Ce}(hc:c.ok)(h:Dp c=0):sgD ((El c).drop (Bc (Ba c)).length)=some c.sig:=by
 obtain ⟨h0,h1,h2,h3,h4,h5,h6,h7,h8,h9⟩:=Lm h;unfold El;rw [List.drop_left' rfl];exact Ave hc.sg h2 h3 h4
theorem Aiy {c:Ce}(hc:c.ok)(h:Dp c=0):Ku (El c)=(c,0):=by
 have r:=Aqz hc h (m:=1000) (by omega)
 have k:=Auz hc h;have s:=A2q hc h;have cs:=Ab7 h;have l:=Adk h;have u1:=hc.ser;have u2:=hc.mod
 have:Aml (El c)=some c:=by
  unfold Aml;rw [r];simp only [Ba];simp only [Ba] at s;rw [A0 (by simp),k,s]
  simp only [cs]
 unfold Ku;rw [A0 (by omega),this]
 simp only;rw [Bm ⟨h,by trivial,u1.2,u2.2⟩]
theorem Wy {x1 x2 x3 x5 x6 x7 x8 x9:It}{k:Ky}{s:Sg}(h3:OkX x3)(h9:OkX x9)(hk:isU k.root)(hs:s.ok):(Gq x1 x2 x3 x5 x6 x7 x8 x9 k s).ok:=⟨⟨h3.n0,h3.n1⟩,⟨h9.n0,h9.n1⟩,hk,hs⟩
theorem Ass {b:List Int}(hb:Hf b){c:Ce}(h:Aml b=some c):c.ok:=by
 have ok:=(Aci hb 1000 [] 0 0 [] (by omega) (by simp)).2
 unfold Aml at h;split at h
 ·cases h
 ·split at h
  ·rename_i e;rw [e] at ok;split at h
   ·rename_i hk hs;cases h;exact Wy (ok _ (by simp)) (ok _ (by simp)) (Aeg hk).2 (Aie hs).1
   ·cases h
  ·cases h
theorem An3 {b:List Int}(hB:Hf b)(hl:b.length<=512)(hn:∀c:Ce,c.ok->Dp c=0->El c≠b):Ku b=(Zy,2):=by
 unfold Ku;rw [A0 (by omega)]
 cases h:Aml b with
 |none=>rfl
 |some c=>
  simp only;rw [A0];intro ⟨h1,h2,_⟩;exact hn c (Ass hB h) h1 h2
theorem A43 {b:List Int}(hB:Hf b):(Ku b).1.ok∧((Ku b).2=0->Dp (Ku b).1=0∧El (Ku b).1=b):=by
 have z:Zy.ok:=⟨⟨by decide,by decide⟩,⟨by decide,by decide⟩,⟨by decide,by decide⟩,⟨(by intro x hx;cases hx),(by intro x hx;cases hx)⟩⟩
 unfold Ku;split
 ·exact ⟨z,fun h=>by simp at h⟩
 ·split
  ·rename_i c hc;split
   ·rename_i h;exact ⟨Ass hB hc,fun _=>⟨h.1,h.2.1⟩⟩
   ·exact ⟨z,fun h=>by simp at h⟩
  ·exact ⟨z,fun h=>by simp at h⟩
end
section
def Awt (b:List Int)(used:Nat):List It->Ce × Int
 |[_,x1,x2,x3,x4,x5,x6,x7,x8,x9]=>(match Zj (Bv x4.s),sgD (b.drop used) with
  |some k,some s=>if Dp (Gq x1 x2 x3 x5 x6 x7 x8 x9 k s)=0∧El (Gq x1 x2 x3 x5 x6 x7 x8 x9 k s)=b then (Gq x1 x2 x3 x5 x6 x7 x8 x9 k s,0) else (Zy,2)
  |_,_=>(Zy,2))
 |_=>(Zy,2)
def Af7 (b:List Int)(r:List It × Nat × Int):Ce × Int:=
 if b.length>512 then (Zy,8) else if r.2.2≠0 then (Zy,2) else if Uz r.1=false then (Zy,2) else Awt b r.2.1 r.1
theorem Arj {its:List It}(h:Uz its=true):its.length=10:=by
 have:=congrArg List.length (eq_of_beq h)
 simpa [Oi] using this
theorem Aqq {its:List It}(h:its.length=10):∃x0 x1 x2 x3 x4 x5 x6 x7 x8 x9,its=[x0,x1,x2,x3,x4,x5,x6,x7,x8,x9]:=by
 match its,h with
 |[x0,x1,x2,x3,x4,x5,x6,x7,x8,x9],_=>exact ⟨x0,x1,x2,x3,x4,x5,x6,x7,x8,x9,rfl⟩
theorem A2t {c:Ce}(hc:c.ok)(h:Dp c=0):Awt (El c) (Bc (Ba c)).length (Ba c)=(c,0):=by
 have k:=Auz hc h;have s:=A2q hc h;have cs:=Ab7 h
 have e:Awt (El c) (Bc (Ba c)).length (Ba c)=(match Zj (Bv (Bl (Gl c.key))),sgD ((El c).drop (Bc (Ba c)).length) with
  |some k,some s=>if Dp (Gq ⟨4,0,c.subj⟩ ⟨4,0,c.iss⟩ ⟨1,c.serial,Cy⟩ ⟨1,c.fr,Cy⟩ ⟨1,c.un,Cy⟩ ⟨7,(if c.auth=true then 1 else 0),Cy⟩ ⟨1,c.path,Cy⟩ ⟨1,c.model,Cy⟩ k s)=0∧El (Gq ⟨4,0,c.subj⟩ ⟨4,0,c.iss⟩ ⟨1,c.serial,Cy⟩ ⟨1,c.fr,Cy⟩ ⟨1,c.un,Cy⟩ ⟨7,(if c.auth=true then 1 else 0),Cy⟩ ⟨1,c.path,Cy⟩ ⟨1,c.model,Cy⟩ k s)=El c then (Gq ⟨4,0,c.subj⟩ ⟨4,0,c.iss⟩ ⟨1,c.serial,Cy⟩ ⟨1,c.fr,Cy⟩ ⟨1,c.un,Cy⟩ ⟨7,(if c.auth=true then 1 else 0),Cy⟩ ⟨1,c.path,Cy⟩ ⟨1,c.model,Cy⟩ k s,0) else (Zy,2)
  |_,_=>(Zy,2)):=rfl
 rw [e,k,s];simp only [cs];rw [Bm ⟨h,by trivial⟩]
theorem Ax7 {b:List Int}{used:Nat}{its:List It}(hx:∀x∈its,OkX x)(hn:∀c:Ce,c.ok->Dp c=0->El c≠b):Awt b used its=(Zy,2):=by
 unfold Awt;split
 ·split
  ·rename_i hk hs;rw [A0];intro ⟨h1,h2⟩;exact hn _ (Wy (hx _ (by simp)) (hx _ (by simp)) (Aeg hk).2 (Aie hs).1) h1 h2
  ·rfl
 ·rfl
theorem Ays (c:Ce):Uz (Ba c)=true:=rfl
theorem A05 {b:List Int}(hb:Hf b){r:List It × Nat × Int}(hx:∀x∈r.1,OkX x)(hc:∀c:Ce,c.ok->Dp c=0->El c=b->r=(Ba c,(Bc (Ba c)).length,0)):Af7 b r=Ku b:=by
 by_cases h5:b.length>512
 ·unfold Af7 Ku;rw [Bm h5,Bm h5]
 by_cases hex:∃c:Ce,c.ok∧Dp c=0∧El c=b
 ·obtain ⟨c,c1,c2,c3⟩:=hex;have e:=hc c c1 c2 c3;subst c3;rw [Aiy c1 c2,e];unfold Af7;rw [A0 h5,A0 (by simp),A0 (by simp [Ays])]
  exact A2t c1 c2
 ·have hn:∀c:Ce,c.ok->Dp c=0->El c≠b:=fun c h1 h2 h3=>hex ⟨c,h1,h2,h3⟩
  rw [An3 hb (by omega) hn]
  unfold Af7;rw [A0 h5,Ax7 hx hn];split
  ·rfl
  ·split<;>rfl
section
variable {fu d:Nat}
theorem Ayy (hfu:1000<=fu){b:List Int}(hb:Hf b)(hl:b.length<=1000000):
  Ae C0 Tryz.prog fu (d+9) Im [.lst false 1 b.length (Ah .u8 b)]=some ⟨[.agg (Af7 b (Kf fu [] 0 b 0 [])).1.cells,.sc (.int .i64 (Af7 b (Kf fu [] 0 b 0 [])).2)],[]⟩:=by
 refine (Xj fu (d+8) b.length (Ah .u8 b)).trans ?_;have dec:=Azg (fu:=fu) (d:=d+3) hfu hb hl;obtain ⟨hat,hox⟩:=Aci hb fu [] 0 0 [] (by omega) (by simp)
 generalize Kf fu [] 0 b 0 []=r at dec hat hox ⊢;obtain ⟨its,used,e⟩:=r;simp only at hat hox;unfold Abz at dec;simp only at dec;unfold Af7;simp only;by_cases h5:b.length>512
 ·rw [Bm h5]
  try unfold Aa
  repeat first
   |((with_reducible first|apply At|apply Aj|apply As|apply Ax|apply Az|apply A5|apply Bb|apply Ai);· first|with_reducible rfl|(simp (disch:=omega) only [Bj]<;>with_reducible rfl))
   |((with_reducible first|apply Ar|apply Au);· first|with_reducible rfl|omega|(simp (disch:=omega) only [gT,Bj]<;>omega))
   |(with_reducible apply Aw;· first|with_reducible rfl|(simp (disch:=omega) only [gF,Bj]<;>omega))
  try simp (disch:=omega) only [Bj]
  all_goals rfl
 rw [A0 h5];by_cases he:e=0
 rotate_left
 ·rw [Bm he];have he':(e != 0)=true:=by simp [he]
  try unfold Aa
  repeat first
   |((with_reducible first|apply At|apply Aj|apply As|apply Ax|apply Az|apply A5|apply Bb|apply Ai);· first|with_reducible rfl|(simp (disch:=omega) only [dec,he']<;>with_reducible rfl))
   |((with_reducible first|apply Ar|apply Au);· first|with_reducible rfl|omega|(simp (disch:=omega) only [gT,dec,he']<;>omega))
   |(with_reducible apply Aw;· first|with_reducible rfl|(simp (disch:=omega) only [gF,dec,he']<;>omega))
  try simp (disch:=omega) only [dec,he']
  all_goals rfl
 rw [A0 (by simp [he])]
 subst he;have e00:((0:Int) != 0)=false:=rfl;have e20:((2:Int) != 0)=true:=rfl;have ib:=Axt (fu:=fu) (d:=d+7) hfu its;have LT:=Ej its;have tT:List.take (its.length*3) (Bn its)=Bn its:=Iv (by omega)
 cases hib:Uz its
 ·rw [hib] at ib;rw [Bm rfl]
  try unfold Aa
  repeat first
   |((with_reducible first|apply At|apply Aj|apply As|apply Ax|apply Az|apply A5|apply Bb|apply Ai);· first|with_reducible rfl|(simp (disch:=omega) only [dec,e00,Cf,Bw,LT,tT,ib,Bs,B4]<;>with_reducible rfl))
   |((with_reducible first|apply Ar|apply Au);· first|with_reducible rfl|omega|(simp (disch:=omega) only [gT,dec,e00,Cf,Bw,LT,tT,ib,Bs,B4]<;>omega))
   |(with_reducible apply Aw;· first|with_reducible rfl|(simp (disch:=omega) only [gF,dec,e00,Cf,Bw,LT,tT,ib,Bs,B4]<;>omega))
  try simp (disch:=omega) only [dec,e00,Cf,Bw,LT,tT,ib,Bs,B4]
  all_goals rfl
 rw [hib] at ib;rw [A0 (by simp)]
 have h10:=Arj hib;obtain ⟨x0,x1,x2,x3,x4,x5,x6,x7,x8,x9,rfl⟩:=Aqq h10;clear hib;have o1:=hox x1 (by simp)
 have o2:=hox x2 (by simp)
 have o3:=hox x3 (by simp)
 have o4:=hox x4 (by simp)
 have o9:=hox x9 (by simp)
 clear hox;have g14:List.getD (Bn [x0,x1,x2,x3,x4,x5,x6,x7,x8,x9]) 14 .top=.sc (.string x4.s):=rfl;have g5:List.getD (Bn [x0,x1,x2,x3,x4,x5,x6,x7,x8,x9]) 5 .top=.sc (.string x1.s):=rfl;have g8:List.getD (Bn [x0,x1,x2,x3,x4,x5,x6,x7,x8,x9]) 8 .top=.sc (.string x2.s):=rfl;have g10:List.getD (Bn [x0,x1,x2,x3,x4,x5,x6,x7,x8,x9]) 10 .top=.sc (.int .u64 x3.n):=rfl;have g16:List.getD (Bn [x0,x1,x2,x3,x4,x5,x6,x7,x8,x9]) 16 .top=.sc (.int .u64 x5.n):=rfl;have g19:List.getD (Bn [x0,x1,x2,x3,x4,x5,x6,x7,x8,x9]) 19 .top=.sc (.int .u64 x6.n):=rfl;have g22:List.getD (Bn [x0,x1,x2,x3,x4,x5,x6,x7,x8,x9]) 22 .top=.sc (.int .u64 x7.n):=rfl;have g25:List.getD (Bn [x0,x1,x2,x3,x4,x5,x6,x7,x8,x9]) 25 .top=.sc (.int .u64 x8.n):=rfl;have g28:List.getD (Bn [x0,x1,x2,x3,x4,x5,x6,x7,x8,x9]) 28 .top=.sc (.int .u64 x9.n):=rfl;have ln:[x0,x1,x2,x3,x4,x5,x6,x7,x8,x9].length=10:=rfl
 rw [ln] at dec ib LT tT;generalize Bn [x0,x1,x2,x3,x4,x5,x6,x7,x8,x9]=T at *
 clear h10;have hs4:=o4.s1;have L4:(Co x4.s).length=x4.s.size:=by rw [Fh,Al,C3]
 have t4:List.take x4.s.size (Co x4.s)=Ah .u8 (Bv x4.s):=by rw [Fh,Iv (by rw [Al,C3];omega)]
 have dk:=Azc (fu:=fu) (d:=d+6) hfu (Q5 x4.s);rw [C3] at dk;unfold Awt;simp only;cases hk:Zj (Bv x4.s) with
 |none=>
  rw [hk] at dk;simp only [Abl,Ky.cells] at dk
  try unfold Aa
  repeat first
   |((with_reducible first|apply At|apply Aj|apply As|apply Ax|apply Az|apply A5|apply Bb|apply Ai);· first|with_reducible rfl|(simp (disch:=omega) only [dec,e00,e20,Cf,Bw,Bj,Nat.reduceMul,LT,tT,ib,g14,L4,t4,dk,Bs,B4]<;>with_reducible rfl))
   |((with_reducible first|apply Ar|apply Au);· first|with_reducible rfl|omega|(simp (disch:=omega) only [gT,dec,e00,e20,Cf,Bw,Bj,Nat.reduceMul,LT,tT,ib,g14,L4,t4,dk,Bs,B4]<;>omega))
   |(with_reducible apply Aw;· first|with_reducible rfl|(simp (disch:=omega) only [gF,dec,e00,e20,Cf,Bw,Bj,Nat.reduceMul,LT,tT,ib,g14,L4,t4,dk,Bs,B4]<;>omega))
  try simp (disch:=omega) only [dec,e00,e20,Cf,Bw,Bj,Nat.reduceMul,LT,tT,ib,g14,L4,t4,dk,Bs,B4]
  all_goals rfl
 |some k=>
  rw [hk] at dk;simp only [Abl,Ky.cells] at dk;obtain ⟨k1,k2⟩:=Aeg hk;have ds:=Afs (fu:=fu) (d:=d+6) hfu (l:=b.drop used) (fun x hx=>hb x (List.mem_of_mem_drop hx))
  rw [List.length_drop] at ds;have tb:List.take (b.length-used) (List.drop used (Ah .u8 b))=Ah .u8 (b.drop used):=by rw [Et,Iv (by rw [Al,List.length_drop];omega)]
  have nu:Int.toNat (used:Int)=used:=Hr used;cases hs:sgD (b.drop used) with
  |none=>
   rw [hs] at ds;simp only [Xe,Sg.owned] at ds
   try unfold Aa
   repeat first
    |((with_reducible first|apply At|apply Aj|apply As|apply Ax|apply Az|apply A5|apply Bb|apply Ai);· first|with_reducible rfl|(simp (disch:=omega) only [dec,e00,e20,Cf,Bw,Bj,Nat.reduceMul,LT,tT,ib,g14,L4,t4,dk,nu,tb,ds,Bs,B4]<;>with_reducible rfl))
    |((with_reducible first|apply Ar|apply Au);· first|with_reducible rfl|omega|(simp (disch:=omega) only [gT,dec,e00,e20,Cf,Bw,Bj,Nat.reduceMul,LT,tT,ib,g14,L4,t4,dk,nu,tb,ds,Bs,B4]<;>omega))
    |(with_reducible apply Aw;· first|with_reducible rfl|(simp (disch:=omega) only [gF,dec,e00,e20,Cf,Bw,Bj,Nat.reduceMul,LT,tT,ib,g14,L4,t4,dk,nu,tb,ds,Bs,B4]<;>omega))
   try simp (disch:=omega) only [dec,e00,e20,Cf,Bw,Bj,Nat.reduceMul,LT,tT,ib,g14,L4,t4,dk,nu,tb,ds,Bs,B4]
   all_goals rfl
  |some s=>
   rw [hs] at ds;simp only [Xe,Sg.owned] at ds;obtain ⟨s1,s2,s3⟩:=Aie hs;have cok:(Gq x1 x2 x3 x5 x6 x7 x8 x9 k s).ok:=Wy o3 o9 k2 s1;have en:=A5j (fu:=fu) (d:=d) (c:=Gq x1 x2 x3 x5 x6 x7 x8 x9 k s) hfu cok.wf (Nat.le_trans o1.s1 (by omega)) (Nat.le_trans o2.s1 (by omega)) (Nat.le_trans s2 (by omega)) (Nat.lt_of_le_of_lt s2 (by omega))
   have ec:(Gq x1 x2 x3 x5 x6 x7 x8 x9 k s).cells=[.sc (.string x1.s),.sc (.string x2.s),.sc (.int .u64 x3.n),.sc (.int .i64 k.h),.sc (.int .u64 k.root),.sc (.int .i64 (IntKind.wrap .i64 x5.n)),.sc (.int .i64 (IntKind.wrap .i64 x6.n)),.sc (.bool (x7.n==1)),.sc (.int .i64 (IntKind.wrap .i64 x8.n)),.sc (.int .u64 x9.n),.sc (.int .i64 s.leaf),.lst false 1 s.chains.length (Ah .u64 s.chains),.lst false 1 s.path.length (Ah .u64 s.path)]:=rfl;have eB:=fun h=>At2 (c:=Gq x1 x2 x3 x5 x6 x7 x8 x9 k s) cok.wf h
   have eL:=fun h=>Adk (c:=Gq x1 x2 x3 x5 x6 x7 x8 x9 k s) h
   have Lc:=Al .u64 s.chains;have Lp:=Al .u64 s.path;have tc:=Gs .u64 s.chains;have tp:=Gs .u64 s.path;simp only;generalize Gq x1 x2 x3 x5 x6 x7 x8 x9 k s=c at *
   rw [ec] at en;unfold Abp at en;by_cases hz:Dp c=0
   rotate_left
   ·have hz':(Dp c != 0)=true:=by simp [hz]
    rw [A0 hz] at en;rw [A0 (fun h=>hz h.1)]
    try unfold Aa
    repeat first
     |((with_reducible first|apply At|apply Aj|apply As|apply Ax|apply Az|apply A5|apply Bb|apply Ai);· first|with_reducible rfl|(simp (disch:=omega) only [dec,e00,e20,Cf,Bw,Bj,Nat.reduceMul,LT,tT,ib,g14,L4,t4,dk,nu,tb,ds,g5,g8,g10,g16,g19,g22,g25,g28,Lc,Lp,tc,tp,en,hz',Bs,B4]<;>with_reducible rfl))
     |((with_reducible first|apply Ar|apply Au);· first|with_reducible rfl|omega|(simp (disch:=omega) only [gT,dec,e00,e20,Cf,Bw,Bj,Nat.reduceMul,LT,tT,ib,g14,L4,t4,dk,nu,tb,ds,g5,g8,g10,g16,g19,g22,g25,g28,Lc,Lp,tc,tp,en,hz',Bs,B4]<;>omega))
     |(with_reducible apply Aw;· first|with_reducible rfl|(simp (disch:=omega) only [gF,dec,e00,e20,Cf,Bw,Bj,Nat.reduceMul,LT,tT,ib,g14,L4,t4,dk,nu,tb,ds,g5,g8,g10,g16,g19,g22,g25,g28,Lc,Lp,tc,tp,en,hz',Bs,B4]<;>omega))
    try simp (disch:=omega) only [dec,e00,e20,Cf,Bw,Bj,Nat.reduceMul,LT,tT,ib,g14,L4,t4,dk,nu,tb,ds,g5,g8,g10,g16,g19,g22,g25,g28,Lc,Lp,tc,tp,en,hz',Bs,B4]
    all_goals rfl
   rw [Bm hz] at en;have be:=Alr (fu:=fu) (d:=d+7) (eB hz) hb;have LE:=Al .u8 (El c);have tE:=Gs .u8 (El c);by_cases hq:El c=b
   ·rw [Bm ⟨hz,hq⟩];simp only [hq,decide_true] at be en LE tE;simp only [ec]
    try unfold Aa
    repeat first
     |((with_reducible first|apply At|apply Aj|apply As|apply Ax|apply Az|apply A5|apply Bb|apply Ai);· first|with_reducible rfl|(simp (disch:=omega) only [dec,e00,e20,Cf,Bw,Bj,Nat.reduceMul,LT,tT,ib,g14,L4,t4,dk,nu,tb,ds,g5,g8,g10,g16,g19,g22,g25,g28,Lc,Lp,tc,tp,en,LE,tE,be,Bs,B4]<;>with_reducible rfl))
     |((with_reducible first|apply Ar|apply Au);· first|with_reducible rfl|omega|(simp (disch:=omega) only [gT,dec,e00,e20,Cf,Bw,Bj,Nat.reduceMul,LT,tT,ib,g14,L4,t4,dk,nu,tb,ds,g5,g8,g10,g16,g19,g22,g25,g28,Lc,Lp,tc,tp,en,LE,tE,be,Bs,B4]<;>omega))
     |(with_reducible apply Aw;· first|with_reducible rfl|(simp (disch:=omega) only [gF,dec,e00,e20,Cf,Bw,Bj,Nat.reduceMul,LT,tT,ib,g14,L4,t4,dk,nu,tb,ds,g5,g8,g10,g16,g19,g22,g25,g28,Lc,Lp,tc,tp,en,LE,tE,be,Bs,B4]<;>omega))
    try simp (disch:=omega) only [dec,e00,e20,Cf,Bw,Bj,Nat.reduceMul,LT,tT,ib,g14,L4,t4,dk,nu,tb,ds,g5,g8,g10,g16,g19,g22,g25,g28,Lc,Lp,tc,tp,en,LE,tE,be,Bs,B4]
    all_goals rfl
   ·rw [A0 (fun h=>hq h.2)]
    simp only [hq,decide_false] at be
    try unfold Aa
    repeat first
     |((with_reducible first|apply At|apply Aj|apply As|apply Ax|apply Az|apply A5|apply Bb|apply Ai);· first|with_reducible rfl|(simp (disch:=omega) only [dec,e00,e20,Cf,Bw,Bj,Nat.reduceMul,LT,tT,ib,g14,L4,t4,dk,nu,tb,ds,g5,g8,g10,g16,g19,g22,g25,g28,Lc,Lp,tc,tp,en,LE,tE,be,Bs,B4]<;>with_reducible rfl))
     |((with_reducible first|apply Ar|apply Au);· first|with_reducible rfl|omega|(simp (disch:=omega) only [gT,dec,e00,e20,Cf,Bw,Bj,Nat.reduceMul,LT,tT,ib,g14,L4,t4,dk,nu,tb,ds,g5,g8,g10,g16,g19,g22,g25,g28,Lc,Lp,tc,tp,en,LE,tE,be,Bs,B4]<;>omega))
     |(with_reducible apply Aw;· first|with_reducible rfl|(simp (disch:=omega) only [gF,dec,e00,e20,Cf,Bw,Bj,Nat.reduceMul,LT,tT,ib,g14,L4,t4,dk,nu,tb,ds,g5,g8,g10,g16,g19,g22,g25,g28,Lc,Lp,tc,tp,en,LE,tE,be,Bs,B4]<;>omega))
    try simp (disch:=omega) only [dec,e00,e20,Cf,Bw,Bj,Nat.reduceMul,LT,tT,ib,g14,L4,t4,dk,nu,tb,ds,g5,g8,g10,g16,g19,g22,g25,g28,Lc,Lp,tc,tp,en,LE,tE,be,Bs,B4]
    all_goals rfl
theorem A4v (hfu:1000<=fu){b:List Int}(hb:Hf b)(hl:b.length<=1000000):
  Ae C0 Tryz.prog fu (d+9) Im [.lst false 1 b.length (Ah .u8 b)]=some ⟨[.agg (Ku b).1.cells,.sc (.int .i64 (Ku b).2)],[]⟩:=by
 have e:Af7 b (Kf fu [] 0 b 0 [])=Ku b:=A05 hb (Aci hb fu [] 0 0 [] (by omega) (by simp)).2 (fun c c1 c2 c3=>by subst c3;exact Aqz c1 c2 (by omega))
 rw [←e];exact Ayy hfu hb hl
end
end
section
abbrev S8 (s:ByteArray)(at_:Nat)(o:List It):List PV:=[.sc (.string s),.sc (.int .i64 at_),.own 3 o.length (Bn o)]
theorem Arb {s:ByteArray}{i:Nat}{x:Int}(h:(Bv s)[i]?=some x):∃u:UInt8,s.data.toList[i]?=some u∧x=(u.toNat:Int):=by
 unfold Bv at h;rw [List.getElem?_map] at h;cases hu:s.data.toList[i]? with
 |none=>rw [hu] at h;cases h
 |some u=>rw [hu] at h;injection h with h;exact ⟨u,rfl,h.symm⟩
theorem strB_getElem? {s:ByteArray}{i:Nat}(h:i<(Bv s).length):∃x,(Bv s)[i]?=some x:=⟨_,List.getElem?_eq_getElem h⟩
def Vb (b:List Int)(at_:Nat):Nat:=if (Bg b at_).e=0 then (Bg b at_).at_ else at_
def A91:List PV:=[PV.sc (Value.int IntKind.u64 (0:Int)),PV.sc (Value.int IntKind.u64 (24:Int)),PV.sc (Value.int IntKind.u64 (256:Int)),PV.sc (Value.int IntKind.u64 (0:Int)),PV.sc (Value.int IntKind.u64 (65536:Int)),PV.sc (Value.int IntKind.u64 (0:Int)),PV.sc (Value.int IntKind.u64 (0:Int)),PV.sc (Value.int IntKind.u64 (0:Int)),PV.sc (Value.int IntKind.u64 (4294967296:Int))]
def Aud (sz:Nat):Int:=if sz=0 then 0 else if sz=1 then 24 else if sz=2 then 256 else if sz=4 then 65536 else 4294967296
theorem Amz {sz:Nat}(h:sz=1∨sz=2∨sz=4∨sz=8)(n:Int):(n<Aud sz)↔Le n<(sz:Int):=by
 unfold Aud Le;rcases h with rfl|rfl|rfl|rfl
 all_goals simp
 all_goals repeat' split
 all_goals omega
section
variable {fu d:Nat}
theorem Abt {call:Am}{a0_0:ByteArray}{a0_1:Int}{a0_2n:Nat}{a0_2:List PV}{s:ByteArray}{at_:Nat}{o:List It}{k y8 y9:Int}{y10:ByteArray}{sz:Nat}(hsz:sz=0∨sz=1∨sz=2∨sz=4∨sz=8)(hk:0<=k∧k<=5)(hl:s.size<=1000000)(ha:at_+1+sz<=s.size)(ho:o.length<=1000000):
    ∀(r:List Int) (i nn:Nat) (v:Int),(((Bv s).drop (at_+1)).take sz).drop i=r->r.length<nn->i<=sz ->
    C5 fu call a0_0 a0_1 a0_2n a0_2 nn k (sz:Int) v (i:Int) s (at_:Int) o.length (Bn o) y8 y9 y10 =
      (if r.foldl Ev v<Aud sz then some ⟨[.agg [.sc (.int .i64 0),.sc (.int .u64 0),.sc (.string Cy)],.sc (.int .i64 2)],[S8 s at_ o]⟩
       else some ⟨[.agg [.sc (.int .i64 (1+k)),.sc (.int .u64 (r.foldl Ev v)),.sc (.string Cy)],.sc (.int .i64 0)],[S8 s (at_+1+sz) o]⟩)
  |_,_,0,_,_,h,_=>by omega
  |[],i,nn+1,v,hd,hn,hi=>by
    have:=drop_nil hd
    have hs:=C3 s
    rw [List.length_take,List.length_drop] at this
    have L:=Ej o
    have t:List.take (o.length*3) (Bn o)=Bn o:=Iv (by omega)
    have w1:IntKind.wrap .i64 ((1:Int)+(sz:Int))=1+sz:=Ap (by omega) (by omega)
    have w2:IntKind.wrap .i64 ((at_:Int)+(1+sz))=((at_+1+sz:Nat):Int):=by rw [Ap (by omega) (by omega)];omega
    have g:∀q:List PV,q=A91->q.getD (0+Int.toNat (sz:Int)*1) .top=.sc (.int .u64 (Aud sz)):=by
      intro q hq
      subst hq
      rcases hsz with rfl|rfl|rfl|rfl|rfl<;>rfl
    have gl:=g _ rfl
    have gk:∀q:List PV,q=[PV.sc (Value.int IntKind.i64 (1:Int)),PV.sc (Value.int IntKind.i64 (2:Int)),PV.sc (Value.int IntKind.i64 (3:Int)),PV.sc (Value.int IntKind.i64 (4:Int)),PV.sc (Value.int IntKind.i64 (5:Int)),PV.sc (Value.int IntKind.i64 (6:Int))]->q.getD (0+Int.toNat k*1) .top=.sc (.int .i64 (1+k)):=by
      intro q hq
      subst hq
      have:k=0∨k=1∨k=2∨k=3∨k=4∨k=5:=by omega
      rcases this with rfl|rfl|rfl|rfl|rfl|rfl<;>rfl
    have gk':=gk _ rfl
    unfold A91 at gl
    rw [Ht,Dw _ _ _ (by omega),List.foldl_nil]
    by_cases hs:v<Aud sz
    · rw [Bm hs]
      try unfold Aa
      repeat first
        |((with_reducible first|apply At|apply Aj|apply As|apply B9|apply Ai);· first|with_reducible rfl|(simp (disch:=omega) only [L,t,w1,w2,gl,gk']<;>with_reducible rfl))
        |((with_reducible first|apply Ar|apply Au);· first|with_reducible rfl|omega|(simp (disch:=omega) only [gT,L,t,w1,w2,gl,gk']<;>omega))
        |(with_reducible apply Aw;· first|with_reducible rfl|(simp (disch:=omega) only [gF,L,t,w1,w2,gl,gk']<;>omega))
      try simp (disch:=omega) only [L,t,w1,w2,gl,gk']
      all_goals rfl
    · rw [A0 hs]
      try unfold Aa
      repeat first
        |((with_reducible first|apply At|apply Aj|apply As|apply B9|apply Ai);· first|with_reducible rfl|(simp (disch:=omega) only [L,t,w1,w2,gl,gk']<;>with_reducible rfl))
        |((with_reducible first|apply Ar|apply Au);· first|with_reducible rfl|omega|(simp (disch:=omega) only [gT,L,t,w1,w2,gl,gk']<;>omega))
        |(with_reducible apply Aw;· first|with_reducible rfl|(simp (disch:=omega) only [gF,L,t,w1,w2,gl,gk']<;>omega))
      try simp (disch:=omega) only [L,t,w1,w2,gl,gk']
      all_goals rfl
  |x::r,i,nn+1,v,hd,hn,hi=>by
    obtain ⟨h1,h2,h3⟩:=Ct hd
    simp only [Iw] at hn
    rw [List.length_take,List.length_drop] at h1
    have h2':(Bv s)[at_+1+i]?=some x:=by
      rw [List.getElem?_take_of_lt (by omega),List.getElem?_drop] at h2
      exact h2
    obtain ⟨u,hu,rfl⟩:=Arb h2'
    have w1:IntKind.wrap .i64 ((at_:Int)+1)=((at_+1:Nat):Int):=by rw [Ap (by omega) (by omega)];omega
    have w2:IntKind.wrap .i64 (((at_+1:Nat):Int)+(i:Int))=((at_+1+i:Nat):Int):=by rw [Ap (by omega) (by omega)];omega
    have w3:IntKind.wrap .i64 ((i:Int)+1)=((i+1:Nat):Int):=by rw [Ap (by omega) (by omega)];omega
    have ih:=Abt (call:=call) (a0_0:=a0_0) (a0_1:=a0_1) (a0_2n:=a0_2n) (a0_2:=a0_2) (s:=s) (at_:=at_) (o:=o) (k:=k) (y8:=y8) (y9:=y9) (y10:=y10) hsz hk hl ha ho r (i+1) nn (Ev v u.toNat) h3 (by omega) (by omega)
    have nt:Int.toNat ((at_+1+i:Nat):Int)=at_+1+i:=Hr _
    rw [List.foldl_cons,←ih,Ht]
    try unfold Aa
    repeat first
      |((with_reducible first|apply At|apply Aj|apply As|apply B9|apply Ai);· first|with_reducible rfl|(simp (disch:=omega) only [w1,w2,w3,nt,hu]<;>with_reducible rfl))
      |((with_reducible first|apply Ar|apply Au);· first|with_reducible rfl|omega|(simp (disch:=omega) only [gT,w1,w2,w3,nt,hu]<;>omega))
      |(with_reducible apply Aw;· first|with_reducible rfl|(simp (disch:=omega) only [gF,w1,w2,w3,nt,hu]<;>omega))
    try simp (disch:=omega) only [w1,w2,w3,nt,hu]
    all_goals rfl
theorem Axh (hfu:1000<=fu){s:ByteArray}{at_:Nat}{o:List It}(hl:s.size<=1000000)(ho:o.length<=1000000):
  Ae C0 Tryz.prog fu (d+1) I8 [.pbox (S8 s at_ o)]=some ⟨[.agg [.sc (.int .i64 (Bg (Bv s) at_).k),.sc (.int .u64 (Bg (Bv s) at_).n),.sc (.string Cy)],.sc (.int .i64 (Bg (Bv s) at_).e)],[S8 s (Vb (Bv s) at_) o]⟩:=by
 refine (Ri fu d s (at_:Int) o.length (Bn o)).trans ?_;have hs:=C3 s;have L:=Ej o;have t:List.take (o.length*3) (Bn o)=Bn o:=Iv (by omega)
 unfold Vb Bg;by_cases hlt:at_<(Bv s).length
 rotate_left
 ·have hg:(Bv s)[at_]?=none:=List.getElem?_eq_none (by omega)
  rw [hg]
  try unfold Aa
  repeat first
   |((with_reducible first|apply At|apply Aj|apply As|apply B9|apply Ai);· first|with_reducible rfl|(simp (disch:=omega) only [L,t]<;>with_reducible rfl))
   |((with_reducible first|apply Ar|apply Au);· first|with_reducible rfl|omega|(simp (disch:=omega) only [gT,L,t]<;>omega))
   |(with_reducible apply Aw;· first|with_reducible rfl|(simp (disch:=omega) only [gF,L,t]<;>omega))
  try simp (disch:=omega) only [L,t]
  all_goals rfl
 obtain ⟨x,hg⟩:=strB_getElem? hlt;have hB:=Q5 s _ (List.mem_of_getElem? hg);obtain ⟨u,hu,hxu⟩:=Arb hg;rw [hg];have nt:Int.toNat (at_:Int)=at_:=Hr _;have w1:IntKind.wrap .i64 ((at_:Int)+1)=((at_+1:Nat):Int):=by rw [Ap (by omega) (by omega)];omega
 have s5:=Bai hB.1;have a31:=A55 hB.1 hB.2;rw [hxu] at s5 a31 hB ⊢;show A4 _ _ _=_;rw [Dw _ _ _ (by omega),Yu _ _ (by omega),nt,hu,Auf]
 clear hxu hu hg;generalize ((u.toNat:Nat):Int)=y at s5 a31 hB ⊢;unfold Tj;simp only;have e20:((2:Int)=0)=False:=by simp
 have e10:((1:Int)=0)=False:=by simp
 by_cases c1:y=244
 ·subst c1;have q:IntKind.wrap .u64 (IntKind.wrap .u8 ((244:Int)-244))=0:=by decide
  simp (disch:=omega) only [B3,Int.reduceBEq,w1,L,t,q]
 rw [A0 c1];have b1:(y==(244:Int))=false:=by simp [c1]
 by_cases c2:y=245
 ·subst c2;have q:IntKind.wrap .u64 (IntKind.wrap .u8 ((245:Int)-244))=1:=by decide
  simp (disch:=omega) only [B3,Int.reduceBEq,w1,L,t,q,if_true]
 rw [A0 c2];have b2:(y==(245:Int))=false:=by simp [c2]
 by_cases c3:y=246
 ·subst c3;simp (disch:=omega) only [B3,Int.reduceBEq,w1,L,t,if_true]
 rw [A0 c3];have b3:(y==(246:Int))=false:=by simp [c3]
 have wk1:IntKind.wrap .i64 (y / 32)=y / 32:=Ap (by omega) (by omega)
 have wk2:IntKind.wrap .i64 (y % 32)=y % 32:=Ap (by omega) (by omega)
 by_cases c4:y / 32>5
 ·rw [Bm c4];simp (disch:=omega) only [B3,b1,b2,b3,s5,a31,wk1,wk2,L,t,e20]
 rw [A0 c4];by_cases c5:y % 32>27
 ·rw [Bm c5];simp (disch:=omega) only [B3,b1,b2,b3,s5,a31,wk1,wk2,L,t,e20]
 rw [A0 c5];have w6:IntKind.wrap .i64 ((s.size:Int)-(at_:Int))=((s.size-at_:Nat):Int):=by rw [Ap (by omega) (by omega)];omega
 have w7:IntKind.wrap .i64 (((s.size-at_:Nat):Int)-1)=((s.size-(at_+1):Nat):Int):=by rw [Ap (by omega) (by omega)];omega
 have wu:IntKind.wrap .u64 (y % 32)=y % 32:=B6 (by omega) (by omega)
 by_cases c6:y % 32<24
 ·have lp:=Abt (fu:=fu) (call:=Ae C0 Tryz.prog fu d) (a0_0:=s) (a0_1:=(at_:Int)) (a0_2n:=o.length) (a0_2:=Bn o) (s:=s) (at_:=at_) (o:=o) (k:=y / 32) (y8:=0) (y9:=0) (y10:=Cy) (sz:=0) (.inl rfl) (by omega) hl (by omega) ho [] 0 fu (y % 32) rfl (by simp;omega) (by omega)
  have e0:¬(y % 32<Aud 0):=by unfold Aud;simp;omega
  rw [List.foldl_nil,A0 e0] at lp;rw [Bm c6];simp (disch:=omega) only [B3,b1,b2,b3,s5,a31,wk1,wk2,w6,w7,wu];exact lp
 rw [A0 c6];have q1:IntKind.wrap .i64 (y % 32-24)=y % 32-24:=Ap (by omega) (by omega)
 have q1':IntKind.wrap .u64 (y % 32-24)=y % 32-24:=B6 (by omega) (by omega)
 have q2:Fb .i64 1 (y % 32-24)=(szE (y % 32):Int):=by
  have:y % 32=24∨y % 32=25∨y % 32=26∨y % 32=27:=by omega
  rcases this with h|h|h|h<;>rw [h]<;>decide
 have q3:szE (y % 32)=1∨szE (y % 32)=2∨szE (y % 32)=4∨szE (y % 32)=8:=by
  unfold szE
  repeat' split
  all_goals omega
 generalize szE (y % 32)=sz at q2 q3 ⊢;rw [hs];by_cases c7:s.size-(at_+1)<sz
 ·rw [Bm c7];simp (disch:=omega) only [B3,b1,b2,b3,s5,a31,wk1,wk2,w6,w7,wu,q1,q1',q2,L,t,e10]
 rw [A0 c7];have lp:=Abt (fu:=fu) (call:=Ae C0 Tryz.prog fu d) (a0_0:=s) (a0_1:=(at_:Int)) (a0_2n:=o.length) (a0_2:=Bn o) (s:=s) (at_:=at_) (o:=o) (k:=y / 32) (y8:=0) (y9:=0) (y10:=Cy) (sz:=sz) (by omega) (by omega) hl (by omega) ho _ 0 fu 0 rfl (by rw [Cf,List.length_take];omega) (by omega)
 rw [Cf] at lp;unfold Zu;by_cases c8:Le ((((Bv s).drop (at_+1)).take sz).foldl Ev 0)<sz
 ·rw [Bm ((Amz q3 _).2 c8)] at lp;rw [Bm c8];simp (disch:=omega) only [B3,b1,b2,b3,s5,a31,wk1,wk2,w6,w7,wu,q1,q1',q2,e20];exact lp
 ·rw [A0 (fun h=>c8 ((Amz q3 _).1 h))] at lp
  rw [A0 c8];simp (disch:=omega) only [B3,b1,b2,b3,s5,a31,wk1,wk2,w6,w7,wu,q1,q1',q2];exact lp
end
end
end Go.Proofs.YtgfgmbpmghgbkaaGreatDoor.Pv
