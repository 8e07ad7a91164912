/-
  The proof of AttestationAny, part 5 (texts GnJ Cb2 Ce1 Ce2 Cb3 Cb4 Cb5 Cb6 Cb7 Cb8 Cb9 CbA CbB GnH CbC CbD CbE CbF Ke6 GnG Ce3 Ce4 Ce5 Ce6).
-/
import Derived.Test.YtgfgmbpmghgbkaaGreatDoorAD
import Derived.Test.YtgfgmbpmghgbkaaGreatDoorRows
set_option linter.unusedSimpArgs false
set_option linter.unusedVariables false
namespace Go.Proofs.YtgfgmbpmghgbkaaGreatDoor.Pv
section
set_option maxRecDepth 100000
abbrev Nl:FuncId:=59
theorem Xm (fu d:Nat)(a0 a1 a2:Int):Ae C0 Tryz.prog fu (d+1) Nl [.sc (.int .i64 a0),.sc (.int .i64 a1),.sc (.int .i64 a2)]=(fun (call:Aq)=>A4 (decide (a0>=a1)) (some (A0.mk [.sc (.bool (decide (a0<=a2)))] [])) (some (A0.mk [.sc (.bool false)] []))) (Ae C0 Tryz.prog fu d):=by kernel_rfl
abbrev Oq:FuncId:=42
theorem Zb (fu d:Nat)(a0:Int):Ae C0 Tryz.prog fu (d+1) Oq [.sc (.int .i64 a0)]=(fun (call:Aq)=>Aa (IntKind.wrap .u64 a0) fun x1=>some (A0.mk [.agg [.sc (.int .i64 5),.sc (.int .u64 x1),.sc (.string (ByteArray.mk #[]))]] [])) (Ae C0 Tryz.prog fu d):=by kernel_rfl
abbrev P8:FuncId:=70
theorem Aa9 (fu d:Nat)(a0:ByteArray):Ae C0 Tryz.prog fu (d+1) P8 [.sc (.string a0)]=(fun (call:Aq)=>some (A0.mk [.agg [.sc (.int .i64 4),.sc (.int .u64 0),.sc (.string a0)]] [])) (Ae C0 Tryz.prog fu d):=by kernel_rfl
abbrev M9:FuncId:=71
theorem Xn (fu d:Nat)(a0:Int):Ae C0 Tryz.prog fu (d+1) M9 [.sc (.int .u64 a0)]=(fun (call:Aq)=>some (A0.mk [.agg [.sc (.int .i64 1),.sc (.int .u64 a0),.sc (.string (ByteArray.mk #[]))]] [])) (Ae C0 Tryz.prog fu d):=by kernel_rfl
abbrev Qd:FuncId:=72
theorem Aag (fu d a0n:Nat)(a0:List PV):Ae C0 Tryz.prog fu (d+1) Qd [.lst false 1 a0n a0]=(fun (call:Aq)=>Ay (decide (List.length a0=a0n))<|Fe (bytesOf a0) fun x1=>some (A0.mk [.agg [.sc (.int .i64 3),.sc (.int .u64 0),.sc (.string (ByteArray.mk (List.toArray x1)))]] [])) (Ae C0 Tryz.prog fu d):=by kernel_rfl
abbrev L8:FuncId:=73
theorem V4 (fu d:Nat)(a0:Bool):Ae C0 Tryz.prog fu (d+1) L8 [.sc (.bool a0)]=(fun (call:Aq)=>A4 (a0) (some (A0.mk [.agg [.sc (.int .i64 7),.sc (.int .u64 1),.sc (.string (ByteArray.mk #[]))]] [])) (some (A0.mk [.agg [.sc (.int .i64 7),.sc (.int .u64 0),.sc (.string (ByteArray.mk #[]))]] []))) (Ae C0 Tryz.prog fu d):=by kernel_rfl
abbrev Oj:FuncId:=69
noncomputable def Gl (fu:Nat)(call:Aq)(a0n:Nat)(a0:List PV)(nn y0:Nat)(y1:List PV)(y2:Nat)(y3:Int)(y4:List PV):Option A0:=Cw C0 Tryz.prog fu call 69 Tryz.f69 (B5 Tryz.f69) [.lst false 3 a0n a0] [.r,.r,.l,.r,.l] nn ⟨lk [(0,(.lst false 3 y0 y1)),(3,(.view 3 1 0 y2)),(4,(.sc (.int .i64 y3)))],Gf [(3,(.ar false y4))]⟩
theorem Lg (fu:Nat)(call:Aq)(a0n:Nat)(a0:List PV)(nn y0:Nat)(y1:List PV)(y2:Nat)(y3:Int)(y4:List PV):Gl fu call a0n a0 (nn+1) y0 y1 y2 y3 y4=(A4 (decide (y3<(↑y0:Int))) (Ay (decide (0<=y3)&&decide (y3<(↑y0:Int)))<|Af .i64 (List.getD y1 (Int.toNat y3*3) .top) fun x1=>Af .u64 (List.getD y1 (Int.toNat y3*3+1) .top) fun x2=>Cn (List.getD y1 (Int.toNat y3*3+1+1) .top) fun x3=>Aj (call 97 [.agg [.sc (.int .i64 x1),.sc (.int .u64 x2),.sc (.string x3)]]) fun x4 x5=>Ac x5<|Ab x4 fun x6 x7=>Cn x6 fun x8=>Ac x7<|Ay (decide (y2*1<=List.length y4)&&decide (List.length (Ct x8)=ByteArray.size x8*1)&&decide ((y2+ByteArray.size x8)*1<=1099511627776)&&decide (y2+ByteArray.size x8<=1099511627776))<|Aa (y2+ByteArray.size x8) fun x9=>Aa (List.take (y2*1) y4++Ct x8) fun Cj=>Aa (IntKind.wrap .i64 (y3+1)) fun Bp=>Gl fu call a0n a0 (nn) (y0) (y1) x9 Bp Cj) (Ay (decide (y2*1<=List.length y4))<|some (A0.mk [.own 1 y2 (List.take (y2*1) y4)] []))):=by kernel_rfl
theorem Zh (fu d a0n:Nat)(a0:List PV):Ae C0 Tryz.prog fu (d+1) Oj [.lst false 3 a0n a0]=(fun (call:Aq)=>Gl fu call a0n a0 (fu) (a0n) (a0) 0 0 ([])) (Ae C0 Tryz.prog fu d):=by kernel_rfl
abbrev Py:FuncId:=45
theorem Aa1 (fu d:Nat)(a0_0 a0_1:ByteArray)(a0_2 a0_3:Int)(a0_4 a0_5 a0_6:Int)(a0_7:Bool)(a0_8 a0_9 a0_10:Int)(a0_11n:Nat)(a0_11:List PV)(a0_12n:Nat)(a0_12:List PV):Ae C0 Tryz.prog fu (d+1) Py [.agg [.sc (.string a0_0),.sc (.string a0_1),.sc (.int .u64 a0_2),.sc (.int .i64 a0_3),.sc (.int .u64 a0_4),.sc (.int .i64 a0_5),.sc (.int .i64 a0_6),.sc (.bool a0_7),.sc (.int .i64 a0_8),.sc (.int .u64 a0_9),.sc (.int .i64 a0_10),.lst false 1 a0_11n a0_11,.lst false 1 a0_12n a0_12]]=(fun (call:Aq)=>Aj (call 59 [.sc (.int .i64 (↑(ByteArray.size a0_0):Int)),.sc (.int .i64 1),.sc (.int .i64 32)]) fun x1 x2=>Ac x2<|Ab x1 fun x3 x4=>Bw x3 fun x5=>Ac x4<|A4 (!x5) (some (A0.mk [.own 1 0 [],.sc (.int .i64 9)] [])) (Aj (call 59 [.sc (.int .i64 (↑(ByteArray.size a0_1):Int)),.sc (.int .i64 1),.sc (.int .i64 32)]) fun x6 x7=>Ac x7<|Ab x6 fun x8 x9=>Bw x8 fun Cj=>Ac x9<|A4 (!Cj) (some (A0.mk [.own 1 0 [],.sc (.int .i64 9)] [])) (Aj (call 67 [.sc (.string a0_0)]) fun Bp Cz=>Ac Cz<|Ab Bp fun C9 Cq=>Bw C9 fun C8=>Ac Cq<|A4 (!C8) (some (A0.mk [.own 1 0 [],.sc (.int .i64 6)] [])) (Aj (call 67 [.sc (.string a0_1)]) fun Dh Dt=>Ac Dt<|Ab Dh fun D6 D1=>Bw D6 fun Ee=>Ac D1<|A4 (!Ee) (some (A0.mk [.own 1 0 [],.sc (.int .i64 6)] [])) (Aj (call 68 [.agg [.sc (.int .i64 a0_3),.sc (.int .u64 a0_4)]]) fun Fq Cl=>Ac Cl<|Ab Fq fun Fy Dn=>Dp 1 Fy fun B3 Ew=>Ab Dn fun F4 Bm=>Af .i64 F4 fun Ci=>Ac Bm<|A4 (Ci != 0) (some (A0.mk [.own 1 0 [],.sc (.int .i64 Ci)] [])) (A4 (decide (a0_5<0)) (some (A0.mk [.own 1 0 [],.sc (.int .i64 9)] [])) (A4 (decide (a0_6<a0_5)) (some (A0.mk [.own 1 0 [],.sc (.int .i64 9)] [])) (A4 (decide (a0_6>1099511627776)) (some (A0.mk [.own 1 0 [],.sc (.int .i64 9)] [])) (Aj (call 59 [.sc (.int .i64 a0_8),.sc (.int .i64 0),.sc (.int .i64 2)]) fun Gx G2=>Ac G2<|Ab Gx fun Ib Hz=>Bw Ib fun I4=>Ac Hz<|A4 (!I4) (some (A0.mk [.own 1 0 [],.sc (.int .i64 9)] [])) (A4 (a0_8 != 0) (A4 (!a0_7) (some (A0.mk [.own 1 0 [],.sc (.int .i64 4)] [])) (Aj (call 42 [.sc (.int .i64 9)]) fun G8 I5=>Ac I5<|Ab G8 fun Ls F5=>C3 Ls fun Il=>Ab Il fun Pc Qi=>Af .i64 Pc fun Ke=>Ab Qi fun Kf Ph=>Af .u64 Kf fun Mw=>Ab Ph fun Pi Ps=>Cn Pi fun Qx=>Ac Ps<|Ac F5<|Aj (call 70 [.sc (.string a0_0)]) fun Pd Qk=>Ac Qk<|Ab Pd fun Q3 Q4=>C3 Q3 fun Kx=>Ab Kx fun Sk Qw=>Af .i64 Sk fun Sx=>Ab Qw fun Ow Qu=>Af .u64 Ow fun R5=>Ab Qu fun S3 Qm=>Cn S3 fun Tw=>Ac Qm<|Ac Q4<|Aj (call 70 [.sc (.string a0_1)]) fun Vs Sy=>Ac Sy<|Ab Vs fun Su Sf=>C3 Su fun Sa=>Ab Sa fun Wo Tf=>Af .i64 Wo fun Td=>Ab Tf fun Th Vh=>Af .u64 Th fun Uh=>Ab Vh fun Tc So=>Cn Tc fun Vr=>Ac So<|Ac Sf<|Aj (call 71 [.sc (.int .u64 a0_2)]) fun Uk V2=>Ac V2<|Ab Uk fun Xu Xa=>C3 Xu fun x81=>Ab x81 fun X3 X4=>Af .i64 X3 fun Xo=>Ab X4 fun x85 x86=>Af .u64 x85 fun x87=>Ab x86 fun Ro Uf=>Cn Ro fun Uo=>Ac Uf<|Ac Xa<|Ay (decide (0+B3*1<=List.length Ew))<|Aj (call 72 [.lst false 1 B3 (List.take (B3*1) (List.drop 0 Ew))]) fun x91 x92=>Ac x92<|Ab x91 fun x93 x94=>C3 x93 fun x95=>Ab x95 fun x96 x97=>Af .i64 x96 fun x98=>Ab x97 fun x99 Xq=>Af .u64 x99 fun Tu=>Ab Xq fun H9 Lt=>Cn H9 fun Zr=>Ac Lt<|Ac x94<|Aa (IntKind.wrap .u64 a0_5) fun Uc=>Aj (call 71 [.sc (.int .u64 Uc)]) fun Ry Mz=>Ac Mz<|Ab Ry fun Aaj Acz=>C3 Aaj fun Zs=>Ab Zs fun Aay Ji=>Af .i64 Aay fun Mt=>Ab Ji fun Afu Afb=>Af .u64 Afu fun Qg=>Ab Afb fun Wb Agv=>Cn Wb fun Acu=>Ac Agv<|Ac Acz<|Aa (IntKind.wrap .u64 a0_6) fun Agu=>Aj (call 71 [.sc (.int .u64 Agu)]) fun Ad8 Agj=>Ac Agj<|Ab Ad8 fun Afw Afh=>C3 Afw fun Ad7=>Ab Ad7 fun Vg Zc=>Af .i64 Vg fun Af4=>Ab Zc fun Aft Abs=>Af .u64 Aft fun Aiv=>Ab Abs fun Af6 Ad3=>Cn Af6 fun Ah7=>Ac Ad3<|Ac Afh<|Aj (call 73 [.sc (.bool a0_7)]) fun Aji Aj5=>Ac Aj5<|Ab Aji fun Amd All=>C3 Amd fun Afe=>Ab Afe fun Ah8 Agm=>Af .i64 Ah8 fun Ah5=>Ab Agm fun Aix Agl=>Af .u64 Aix fun Aee=>Ab Agl fun Ada Ahy=>Cn Ada fun Ala=>Ac Ahy<|Ac All<|Aa (IntKind.wrap .u64 a0_8) fun Aro=>Aj (call 71 [.sc (.int .u64 Aro)]) fun Apj Aqg=>Ac Aqg<|Ab Apj fun Afm Akh=>C3 Afm fun Aln=>Ab Aln fun Alw Apt=>Af .i64 Alw fun Al4=>Ab Apt fun Amo Amv=>Af .u64 Amo fun Aq1=>Ab Amv fun Ao5 Ame=>Cn Ao5 fun Ape=>Ac Ame<|Ac Akh<|Aj (call 71 [.sc (.int .u64 a0_9)]) fun Alf Amn=>Ac Amn<|Ab Alf fun Apk Akw=>C3 Apk fun Amt=>Ab Amt fun Akc Ajs=>Af .i64 Akc fun Aqz=>Ab Ajs fun Aus Aqs=>Af .u64 Aus fun As4=>Ab Aqs fun Amw Atd=>Cn Amw fun Axy=>Ac Atd<|Ac Akw<|Aj (call 69 [.lst false 3 10 [.sc (.int .i64 Ke),.sc (.int .u64 Mw),.sc (.string Qx),.sc (.int .i64 Sx),.sc (.int .u64 R5),.sc (.string Tw),.sc (.int .i64 Td),.sc (.int .u64 Uh),.sc (.string Vr),.sc (.int .i64 Xo),.sc (.int .u64 x87),.sc (.string Uo),.sc (.int .i64 x98),.sc (.int .u64 Tu),.sc (.string Zr),.sc (.int .i64 Mt),.sc (.int .u64 Qg),.sc (.string Acu),.sc (.int .i64 Af4),.sc (.int .u64 Aiv),.sc (.string Ah7),.sc (.int .i64 Ah5),.sc (.int .u64 Aee),.sc (.string Ala),.sc (.int .i64 Al4),.sc (.int .u64 Aq1),.sc (.string Ape),.sc (.int .i64 Aqz),.sc (.int .u64 As4),.sc (.string Axy)]]) fun Ask Auf=>Ac Auf<|Ab Ask fun A07 Akn=>Dp 1 A07 fun Ab9 Av2=>Ac Akn<|Ay (decide (Ab9*1<=List.length Av2))<|some (A0.mk [.own 1 Ab9 (List.take (Ab9*1) Av2),.sc (.int .i64 0)] []))) (Aj (call 42 [.sc (.int .i64 9)]) fun A1w A01=>Ac A01<|Ab A1w fun A49 A1o=>C3 A49 fun A3i=>Ab A3i fun A05 A34=>Af .i64 A05 fun Av6=>Ab A34 fun Ayl A7c=>Af .u64 Ayl fun A8f=>Ab A7c fun A8c A4k=>Cn A8c fun A8g=>Ac A4k<|Ac A1o<|Aj (call 70 [.sc (.string a0_0)]) fun A78 A7n=>Ac A7n<|Ab A78 fun A8e A54=>C3 A8e fun A7l=>Ab A7l fun A65 A5f=>Af .i64 A65 fun A7p=>Ab A5f fun A79 Ayi=>Af .u64 A79 fun A2w=>Ab Ayi fun A8d A68=>Cn A8d fun A61=>Ac A68<|Ac A54<|Aj (call 70 [.sc (.string a0_1)]) fun A7x A7r=>Ac A7r<|Ab A7x fun A60 A4n=>C3 A60 fun A70=>Ab A70 fun A6z A69=>Af .i64 A6z fun A72=>Ab A69 fun A4v A7t=>Af .u64 A4v fun A75=>Ab A7t fun A5k A74=>Cn A5k fun A7d=>Ac A74<|Ac A4n<|Aj (call 71 [.sc (.int .u64 a0_2)]) fun Azr A4c=>Ac A4c<|Ab Azr fun A7o A94=>C3 A7o fun Bbn=>Ab Bbn fun Bcn A9r=>Af .i64 Bcn fun Bar=>Ab A9r fun A97 Bas=>Af .u64 A97 fun Bcl=>Ab Bas fun Bbu Bb9=>Cn Bbu fun Ba7=>Ac Bb9<|Ac A94<|Ay (decide (0+B3*1<=List.length Ew))<|Aj (call 72 [.lst false 1 B3 (List.take (B3*1) (List.drop 0 Ew))]) fun A98 Ba0=>Ac Ba0<|Ab A98 fun Bba A9s=>C3 Bba fun Bcc=>Ab Bcc fun A9j Bay=>Af .i64 A9j fun Ba8=>Ab Bay fun Ba6 A92=>Af .u64 Ba6 fun Ba5=>Ab A92 fun Bbi A9g=>Cn Bbi fun A9v=>Ac A9g<|Ac A9s<|Aa (IntKind.wrap .u64 a0_5) fun Bbl=>Aj (call 71 [.sc (.int .u64 Bbl)]) fun Bb7 Bbd=>Ac Bbd<|Ab Bb7 fun Bcg Ba1=>C3 Bcg fun A9x=>Ab A9x fun A9y Bak=>Af .i64 A9y fun Ba3=>Ab Bak fun A9z Bca=>Af .u64 A9z fun A9p=>Ab Bca fun Bad Bbo=>Cn Bad fun Bco=>Ac Bbo<|Ac Ba1<|Aa (IntKind.wrap .u64 a0_6) fun Bbp=>Aj (call 71 [.sc (.int .u64 Bbp)]) fun Bbk Baq=>Ac Baq<|Ab Bbk fun Bbe Baa=>C3 Bbe fun Bap=>Ab Bap fun A95 A99=>Af .i64 A95 fun Bal=>Ab A99 fun Bao Baj=>Af .u64 Bao fun Bbg=>Ab Baj fun A9l A96=>Cn A9l fun Bbs=>Ac A96<|Ac Baa<|Aj (call 73 [.sc (.bool a0_7)]) fun Bab Bbx=>Ac Bbx<|Ab Bab fun Bau Bby=>C3 Bau fun Bcb=>Ab Bcb fun A91 Bcd=>Af .i64 A91 fun Bci=>Ab Bcd fun Bbt Bam=>Af .u64 Bbt fun A9t=>Ab Bam fun Bbc Ba9=>Cn Bbc fun Bai=>Ac Ba9<|Ac Bby<|Aa (IntKind.wrap .u64 a0_8) fun Bce=>Aj (call 71 [.sc (.int .u64 Bce)]) fun A9k Ba4=>Ac Ba4<|Ab A9k fun Bbr Bax=>C3 Bbr fun Bbw=>Ab Bbw fun Bat Baz=>Af .i64 Bat fun Bcf=>Ab Baz fun Bbh Bah=>Af .u64 Bbh fun Bcj=>Ab Bah fun Bb1 A9u=>Cn Bb1 fun Bb2=>Ac A9u<|Ac Bax<|Aj (call 71 [.sc (.int .u64 a0_9)]) fun Baw Bb8=>Ac Bb8<|Ab Baw fun Ba2 Bck=>C3 Ba2 fun Bcm=>Ab Bcm fun Bbj Bbq=>Af .i64 Bbj fun Bae=>Ab Bbq fun Bav A9w=>Af .u64 Bav fun A9m=>Ab A9w fun Bch A9q=>Cn Bch fun Bb5=>Ac A9q<|Ac Bck<|Aj (call 69 [.lst false 3 10 [.sc (.int .i64 Av6),.sc (.int .u64 A8f),.sc (.string A8g),.sc (.int .i64 A7p),.sc (.int .u64 A2w),.sc (.string A61),.sc (.int .i64 A72),.sc (.int .u64 A75),.sc (.string A7d),.sc (.int .i64 Bar),.sc (.int .u64 Bcl),.sc (.string Ba7),.sc (.int .i64 Ba8),.sc (.int .u64 Ba5),.sc (.string A9v),.sc (.int .i64 Ba3),.sc (.int .u64 A9p),.sc (.string Bco),.sc (.int .i64 Bal),.sc (.int .u64 Bbg),.sc (.string Bbs),.sc (.int .i64 Bci),.sc (.int .u64 A9t),.sc (.string Bai),.sc (.int .i64 Bcf),.sc (.int .u64 Bcj),.sc (.string Bb2),.sc (.int .i64 Bae),.sc (.int .u64 A9m),.sc (.string Bb5)]]) fun Bbf Bb0=>Ac Bb0<|Ab Bbf fun A90 Bac=>Dp 1 A90 fun A7k A82=>Ac Bac<|Ay (decide (A7k*1<=List.length A82))<|some (A0.mk [.own 1 A7k (List.take (A7k*1) A82),.sc (.int .i64 0)] [])))))))))))) (Ae C0 Tryz.prog fu d):=by kernel_rfl
abbrev Px:FuncId:=78
theorem Aap (fu d:Nat)(a0_0 a0_1:ByteArray)(a0_2 a0_3:Int)(a0_4 a0_5 a0_6:Int)(a0_7:Bool)(a0_8 a0_9 a0_10:Int)(a0_11n:Nat)(a0_11:List PV)(a0_12n:Nat)(a0_12:List PV)(a1 a2 a3:Int):Ae C0 Tryz.prog fu (d+1) Px [.agg [.sc (.string a0_0),.sc (.string a0_1),.sc (.int .u64 a0_2),.sc (.int .i64 a0_3),.sc (.int .u64 a0_4),.sc (.int .i64 a0_5),.sc (.int .i64 a0_6),.sc (.bool a0_7),.sc (.int .i64 a0_8),.sc (.int .u64 a0_9),.sc (.int .i64 a0_10),.lst false 1 a0_11n a0_11,.lst false 1 a0_12n a0_12],.sc (.int .u64 a1),.sc (.int .i64 a2),.sc (.int .i64 a3)]=(fun (call:Aq)=>Aj (call 45 [.agg [.sc (.string a0_0),.sc (.string a0_1),.sc (.int .u64 a0_2),.sc (.int .i64 a0_3),.sc (.int .u64 a0_4),.sc (.int .i64 a0_5),.sc (.int .i64 a0_6),.sc (.bool a0_7),.sc (.int .i64 a0_8),.sc (.int .u64 a0_9),.sc (.int .i64 a0_10),.lst false 1 a0_11n a0_11,.lst false 1 a0_12n a0_12]]) fun x1 x2=>Ac x2<|Ab x1 fun x3 x4=>Dp 1 x3 fun x5 x6=>Ab x4 fun x7 x8=>Af .i64 x7 fun x9=>Ac x8<|A4 (x9 != 0) (some (A0.mk [.agg [.sc (.string (ByteArray.mk #[])),.sc (.string (ByteArray.mk #[])),.sc (.int .u64 0),.sc (.int .i64 0),.sc (.int .u64 0),.sc (.int .i64 0),.sc (.int .i64 0),.sc (.bool false),.sc (.int .i64 0),.sc (.int .u64 0),.sc (.int .i64 0),.lst false 1 0 [],.lst false 1 0 []],.sc (.int .i64 x9)] [])) (Ay (decide (0+x5*1<=List.length x6))<|Aj (call 46 [.sc (.int .i64 14),.lst false 1 x5 (List.take (x5*1) (List.drop 0 x6))]) fun Cj Bp=>Ac Bp<|Ab Cj fun Cz C9=>Af .u64 Cz fun Cq=>Ac C9<|Aj (call 17 [.sc (.int .u64 a1),.sc (.int .i64 a2),.sc (.int .i64 a3),.sc (.int .u64 Cq)]) fun C8 Dh=>Ac Dh<|Ab C8 fun Dt D6=>C3 Dt fun D1=>Ab D1 fun Ee Fq=>Af .i64 Ee fun Cl=>Ab Fq fun Fy Dn=>Dp 1 Fy fun B3 Ew=>Ab Dn fun F4 Bm=>Dp 1 F4 fun Ci Gx=>Ac Bm<|Ab D6 fun G2 Ib=>Af .i64 G2 fun Hz=>Ac Ib<|A4 (Hz != 0) (some (A0.mk [.agg [.sc (.string (ByteArray.mk #[])),.sc (.string (ByteArray.mk #[])),.sc (.int .u64 0),.sc (.int .i64 0),.sc (.int .u64 0),.sc (.int .i64 0),.sc (.int .i64 0),.sc (.bool false),.sc (.int .i64 0),.sc (.int .u64 0),.sc (.int .i64 0),.lst false 1 0 [],.lst false 1 0 []],.sc (.int .i64 Hz)] [])) (Ay (decide (0+B3*1<=List.length Ew))<|Ay (decide (0+Ci*1<=List.length Gx))<|some (A0.mk [.agg [.sc (.string a0_0),.sc (.string a0_1),.sc (.int .u64 a0_2),.sc (.int .i64 a0_3),.sc (.int .u64 a0_4),.sc (.int .i64 a0_5),.sc (.int .i64 a0_6),.sc (.bool a0_7),.sc (.int .i64 a0_8),.sc (.int .u64 a0_9),.sc (.int .i64 Cl),.lst false 1 B3 (List.take (B3*1) (List.drop 0 Ew)),.lst false 1 Ci (List.take (Ci*1) (List.drop 0 Gx))],.sc (.int .i64 0)] [])))) (Ae C0 Tryz.prog fu d):=by kernel_rfl
abbrev Nd:FuncId:=22
theorem Xp (fu d:Nat)(a0_0 a0_1:ByteArray)(a0_2 a0_3:Int)(a0_4 a0_5 a0_6:Int)(a0_7:Bool)(a0_8 a0_9 a0_10:Int)(a0_11n:Nat)(a0_11:List PV)(a0_12n:Nat)(a0_12:List PV)(a1_0 a1_1:Int):Ae C0 Tryz.prog fu (d+1) Nd [.agg [.sc (.string a0_0),.sc (.string a0_1),.sc (.int .u64 a0_2),.sc (.int .i64 a0_3),.sc (.int .u64 a0_4),.sc (.int .i64 a0_5),.sc (.int .i64 a0_6),.sc (.bool a0_7),.sc (.int .i64 a0_8),.sc (.int .u64 a0_9),.sc (.int .i64 a0_10),.lst false 1 a0_11n a0_11,.lst false 1 a0_12n a0_12],.agg [.sc (.int .i64 a1_0),.sc (.int .u64 a1_1)]]=(fun (call:Aq)=>Aj (call 45 [.agg [.sc (.string a0_0),.sc (.string a0_1),.sc (.int .u64 a0_2),.sc (.int .i64 a0_3),.sc (.int .u64 a0_4),.sc (.int .i64 a0_5),.sc (.int .i64 a0_6),.sc (.bool a0_7),.sc (.int .i64 a0_8),.sc (.int .u64 a0_9),.sc (.int .i64 a0_10),.lst false 1 a0_11n a0_11,.lst false 1 a0_12n a0_12]]) fun x1 x2=>Ac x2<|Ab x1 fun x3 x4=>Dp 1 x3 fun x5 x6=>Ab x4 fun x7 x8=>Af .i64 x7 fun x9=>Ac x8<|A4 (x9 != 0) (some (A0.mk [.sc (.int .i64 x9)] [])) (Ay (decide (0+x5*1<=List.length x6))<|Aj (call 46 [.sc (.int .i64 14),.lst false 1 x5 (List.take (x5*1) (List.drop 0 x6))]) fun Cj Bp=>Ac Bp<|Ab Cj fun Cz C9=>Af .u64 Cz fun Cq=>Ac C9<|Aj (call 19 [.agg [.sc (.int .i64 a1_0),.sc (.int .u64 a1_1)],.sc (.int .u64 Cq),.agg [.sc (.int .i64 a0_10),.lst false 1 a0_11n a0_11,.lst false 1 a0_12n a0_12]]) fun C8 Dh=>Ac Dh<|Ab C8 fun Dt D6=>Af .i64 Dt fun D1=>Ac D6<|some (A0.mk [.sc (.int .i64 D1)] []))) (Ae C0 Tryz.prog fu d):=by kernel_rfl
abbrev Na:FuncId:=44
theorem Xi (fu d:Nat)(a0_0 a0_1:ByteArray)(a0_2 a0_3:Int)(a0_4 a0_5 a0_6:Int)(a0_7:Bool)(a0_8 a0_9 a0_10:Int)(a0_11n:Nat)(a0_11:List PV)(a0_12n:Nat)(a0_12:List PV):Ae C0 Tryz.prog fu (d+1) Na [.agg [.sc (.string a0_0),.sc (.string a0_1),.sc (.int .u64 a0_2),.sc (.int .i64 a0_3),.sc (.int .u64 a0_4),.sc (.int .i64 a0_5),.sc (.int .i64 a0_6),.sc (.bool a0_7),.sc (.int .i64 a0_8),.sc (.int .u64 a0_9),.sc (.int .i64 a0_10),.lst false 1 a0_11n a0_11,.lst false 1 a0_12n a0_12]]=(fun (call:Aq)=>Aj (call 45 [.agg [.sc (.string a0_0),.sc (.string a0_1),.sc (.int .u64 a0_2),.sc (.int .i64 a0_3),.sc (.int .u64 a0_4),.sc (.int .i64 a0_5),.sc (.int .i64 a0_6),.sc (.bool a0_7),.sc (.int .i64 a0_8),.sc (.int .u64 a0_9),.sc (.int .i64 a0_10),.lst false 1 a0_11n a0_11,.lst false 1 a0_12n a0_12]]) fun x1 x2=>Ac x2<|Ab x1 fun x3 x4=>Dp 1 x3 fun x5 x6=>Ab x4 fun x7 x8=>Af .i64 x7 fun x9=>Ac x8<|A4 (x9 != 0) (some (A0.mk [.own 1 0 [],.sc (.int .i64 x9)] [])) (Aj (call 18 [.agg [.sc (.int .i64 a0_10),.lst false 1 a0_11n a0_11,.lst false 1 a0_12n a0_12]]) fun Cj Bp=>Ac Bp<|Ab Cj fun Cz C9=>Dp 1 Cz fun Cq C8=>Ab C9 fun Dh Dt=>Af .i64 Dh fun D6=>Ac Dt<|A4 (D6 != 0) (some (A0.mk [.own 1 0 [],.sc (.int .i64 D6)] [])) (Ay (decide (0+Cq*1<=List.length C8))<|Ay (decide (x5*1<=List.length x6)&&decide (List.length (List.take (Cq*1) (List.drop 0 C8))=Cq*1)&&decide ((x5+Cq)*1<=1099511627776)&&decide (x5+Cq<=1099511627776))<|Aa (x5+Cq) fun D1=>Aa (List.take (x5*1) x6++List.take (Cq*1) (List.drop 0 C8)) fun Ee=>Ay (decide (D1*1<=List.length Ee))<|some (A0.mk [.own 1 D1 (List.take (D1*1) Ee),.sc (.int .i64 0)] [])))) (Ae C0 Tryz.prog fu d):=by kernel_rfl
abbrev Is:FuncId:=21
theorem Xr (fu d a0n:Nat)(a0:List PV):Ae C0 Tryz.prog fu (d+1) Is [.lst false 1 a0n a0]=(fun (call:Aq)=>A4 (decide ((↑a0n:Int)>512)) (some (A0.mk [.agg [.sc (.string (ByteArray.mk #[])),.sc (.string (ByteArray.mk #[])),.sc (.int .u64 0),.sc (.int .i64 0),.sc (.int .u64 0),.sc (.int .i64 0),.sc (.int .i64 0),.sc (.bool false),.sc (.int .i64 0),.sc (.int .u64 0),.sc (.int .i64 0),.lst false 1 0 [],.lst false 1 0 []],.sc (.int .i64 8)] [])) (Aj (call 41 [.lst false 1 a0n a0]) fun x1 x2=>Ac x2<|Ab x1 fun x3 x4=>Dp 3 x3 fun x5 x6=>Ab x4 fun x7 x8=>Af .i64 x7 fun x9=>Ab x8 fun Cj Bp=>Af .i64 Cj fun Cz=>Ac Bp<|A4 (Cz != 0) (some (A0.mk [.agg [.sc (.string (ByteArray.mk #[])),.sc (.string (ByteArray.mk #[])),.sc (.int .u64 0),.sc (.int .i64 0),.sc (.int .u64 0),.sc (.int .i64 0),.sc (.int .i64 0),.sc (.bool false),.sc (.int .i64 0),.sc (.int .u64 0),.sc (.int .i64 0),.lst false 1 0 [],.lst false 1 0 []],.sc (.int .i64 2)] [])) (A4 ((↑x5:Int) != 10) (some (A0.mk [.agg [.sc (.string (ByteArray.mk #[])),.sc (.string (ByteArray.mk #[])),.sc (.int .u64 0),.sc (.int .i64 0),.sc (.int .u64 0),.sc (.int .i64 0),.sc (.int .i64 0),.sc (.bool false),.sc (.int .i64 0),.sc (.int .u64 0),.sc (.int .i64 0),.lst false 1 0 [],.lst false 1 0 []],.sc (.int .i64 2)] [])) (Ay (decide (0<(↑x5:Int)))<|Af .i64 (List.getD x6 0 .top) fun C9=>Af .u64 (List.getD x6 1 .top) fun Cq=>Cn (List.getD x6 2 .top) fun C8=>Aj (call 42 [.sc (.int .i64 9)]) fun Dh Dt=>Ac Dt<|Ab Dh fun D6 D1=>C3 D6 fun Ee=>Ab Ee fun Fq Cl=>Af .i64 Fq fun Fy=>Ab Cl fun Dn B3=>Af .u64 Dn fun Ew=>Ab B3 fun F4 Bm=>Cn F4 fun Ci=>Ac Bm<|Ac D1<|A4 (!(C9==Fy&&(Cq==Ew&&(C8==Ci&&true)))) (some (A0.mk [.agg [.sc (.string (ByteArray.mk #[])),.sc (.string (ByteArray.mk #[])),.sc (.int .u64 0),.sc (.int .i64 0),.sc (.int .u64 0),.sc (.int .i64 0),.sc (.int .i64 0),.sc (.bool false),.sc (.int .i64 0),.sc (.int .u64 0),.sc (.int .i64 0),.lst false 1 0 [],.lst false 1 0 []],.sc (.int .i64 2)] [])) (Ay (decide (4<(↑x5:Int)))<|Cn (List.getD x6 14 .top) fun Gx=>Ay (decide (ByteArray.size Gx<=1099511627776))<|Ay (decide (0+ByteArray.size Gx*1<=List.length (Ct Gx)))<|Aj (call 43 [.lst false 1 (ByteArray.size Gx) (List.take (ByteArray.size Gx*1) (List.drop 0 (Ct Gx)))]) fun G2 Ib=>Ac Ib<|Ab G2 fun Hz I4=>C3 Hz fun G8=>Ab G8 fun I5 Ls=>Af .i64 I5 fun F5=>Ab Ls fun Il Pc=>Af .u64 Il fun Qi=>Ac Pc<|Ab I4 fun Ke Kf=>Af .i64 Ke fun Ph=>Ac Kf<|A4 (Ph != 0) (some (A0.mk [.agg [.sc (.string (ByteArray.mk #[])),.sc (.string (ByteArray.mk #[])),.sc (.int .u64 0),.sc (.int .i64 0),.sc (.int .u64 0),.sc (.int .i64 0),.sc (.int .i64 0),.sc (.bool false),.sc (.int .i64 0),.sc (.int .u64 0),.sc (.int .i64 0),.lst false 1 0 [],.lst false 1 0 []],.sc (.int .i64 2)] [])) (Ay (decide (0<=x9))<|Ay (decide (Int.toNat x9<=a0n)&&decide (a0n<=a0n))<|Aa (a0n-Int.toNat x9) fun Mw=>Aa (List.take (Mw*1) (List.drop (Int.toNat x9*1) a0)) fun Pi=>Aj (call 32 [.lst false 1 Mw Pi]) fun Ps Qx=>Ac Qx<|Ab Ps fun Pd Qk=>C3 Pd fun Q3=>Ab Q3 fun Q4 Kx=>Af .i64 Q4 fun Sk=>Ab Kx fun Qw Sx=>Dp 1 Qw fun Ow Qu=>Ab Sx fun R5 S3=>Dp 1 R5 fun Qm Tw=>Ac S3<|Ab Qk fun Vs Sy=>Af .i64 Vs fun Su=>Ac Sy<|A4 (Su != 0) (some (A0.mk [.agg [.sc (.string (ByteArray.mk #[])),.sc (.string (ByteArray.mk #[])),.sc (.int .u64 0),.sc (.int .i64 0),.sc (.int .u64 0),.sc (.int .i64 0),.sc (.int .i64 0),.sc (.bool false),.sc (.int .i64 0),.sc (.int .u64 0),.sc (.int .i64 0),.lst false 1 0 [],.lst false 1 0 []],.sc (.int .i64 2)] [])) (Ay (decide (5<(↑x5:Int)))<|Af .u64 (List.getD x6 16 .top) fun Sf=>A4 (decide (Sf>1099511627776)) (some (A0.mk [.agg [.sc (.string (ByteArray.mk #[])),.sc (.string (ByteArray.mk #[])),.sc (.int .u64 0),.sc (.int .i64 0),.sc (.int .u64 0),.sc (.int .i64 0),.sc (.int .i64 0),.sc (.bool false),.sc (.int .i64 0),.sc (.int .u64 0),.sc (.int .i64 0),.lst false 1 0 [],.lst false 1 0 []],.sc (.int .i64 2)] [])) (Ay (decide (6<(↑x5:Int)))<|Af .u64 (List.getD x6 19 .top) fun Sa=>A4 (decide (Sa>1099511627776)) (some (A0.mk [.agg [.sc (.string (ByteArray.mk #[])),.sc (.string (ByteArray.mk #[])),.sc (.int .u64 0),.sc (.int .i64 0),.sc (.int .u64 0),.sc (.int .i64 0),.sc (.int .i64 0),.sc (.bool false),.sc (.int .i64 0),.sc (.int .u64 0),.sc (.int .i64 0),.lst false 1 0 [],.lst false 1 0 []],.sc (.int .i64 2)] [])) (Ay (decide (8<(↑x5:Int)))<|Af .u64 (List.getD x6 25 .top) fun Wo=>A4 (decide (Wo>2)) (some (A0.mk [.agg [.sc (.string (ByteArray.mk #[])),.sc (.string (ByteArray.mk #[])),.sc (.int .u64 0),.sc (.int .i64 0),.sc (.int .u64 0),.sc (.int .i64 0),.sc (.int .i64 0),.sc (.bool false),.sc (.int .i64 0),.sc (.int .u64 0),.sc (.int .i64 0),.lst false 1 0 [],.lst false 1 0 []],.sc (.int .i64 2)] [])) (Ay (decide (1<(↑x5:Int)))<|Cn (List.getD x6 5 .top) fun Tf=>Ay (decide (2<(↑x5:Int)))<|Cn (List.getD x6 8 .top) fun Td=>Ay (decide (3<(↑x5:Int)))<|Af .u64 (List.getD x6 10 .top) fun Th=>Ay (decide (5<(↑x5:Int)))<|Af .u64 (List.getD x6 16 .top) fun Vh=>Aa (IntKind.wrap .i64 Vh) fun Uh=>Ay (decide (6<(↑x5:Int)))<|Af .u64 (List.getD x6 19 .top) fun Tc=>Aa (IntKind.wrap .i64 Tc) fun So=>Ay (decide (7<(↑x5:Int)))<|Af .u64 (List.getD x6 22 .top) fun Vr=>Ay (decide (8<(↑x5:Int)))<|Af .u64 (List.getD x6 25 .top) fun Uk=>Aa (IntKind.wrap .i64 Uk) fun V2=>Ay (decide (9<(↑x5:Int)))<|Af .u64 (List.getD x6 28 .top) fun Xu=>Ay (decide (0+Ow*1<=List.length Qu))<|Ay (decide (0+Qm*1<=List.length Tw))<|Aj (call 44 [.agg [.sc (.string Tf),.sc (.string Td),.sc (.int .u64 Th),.sc (.int .i64 F5),.sc (.int .u64 Qi),.sc (.int .i64 Uh),.sc (.int .i64 So),.sc (.bool (Vr==1)),.sc (.int .i64 V2),.sc (.int .u64 Xu),.sc (.int .i64 Sk),.lst false 1 Ow (List.take (Ow*1) (List.drop 0 Qu)),.lst false 1 Qm (List.take (Qm*1) (List.drop 0 Tw))]]) fun Xa x81=>Ac x81<|Ab Xa fun X3 X4=>Dp 1 X3 fun Xo x85=>Ab X4 fun x86 x87=>Af .i64 x86 fun Ro=>Ac x87<|A4 (Ro != 0) (some (A0.mk [.agg [.sc (.string (ByteArray.mk #[])),.sc (.string (ByteArray.mk #[])),.sc (.int .u64 0),.sc (.int .i64 0),.sc (.int .u64 0),.sc (.int .i64 0),.sc (.int .i64 0),.sc (.bool false),.sc (.int .i64 0),.sc (.int .u64 0),.sc (.int .i64 0),.lst false 1 0 [],.lst false 1 0 []],.sc (.int .i64 2)] [])) (Ay (decide (0+Xo*1<=List.length x85))<|Ay (decide (List.length (List.take (Xo*1) (List.drop 0 x85))=Xo))<|Fe (bytesOf (List.take (Xo*1) (List.drop 0 x85))) fun Uf=>Ay (decide (List.length a0=a0n))<|Fe (bytesOf a0) fun Uo=>A4 (!Array.toList (ByteArray.data (ByteArray.mk (List.toArray Uf)))==Array.toList (ByteArray.data (ByteArray.mk (List.toArray Uo)))) (some (A0.mk [.agg [.sc (.string (ByteArray.mk #[])),.sc (.string (ByteArray.mk #[])),.sc (.int .u64 0),.sc (.int .i64 0),.sc (.int .u64 0),.sc (.int .i64 0),.sc (.int .i64 0),.sc (.bool false),.sc (.int .i64 0),.sc (.int .u64 0),.sc (.int .i64 0),.lst false 1 0 [],.lst false 1 0 []],.sc (.int .i64 2)] [])) (Ay (decide (0+Ow*1<=List.length Qu))<|Ay (decide (0+Qm*1<=List.length Tw))<|some (A0.mk [.agg [.sc (.string Tf),.sc (.string Td),.sc (.int .u64 Th),.sc (.int .i64 F5),.sc (.int .u64 Qi),.sc (.int .i64 Uh),.sc (.int .i64 So),.sc (.bool (Vr==1)),.sc (.int .i64 V2),.sc (.int .u64 Xu),.sc (.int .i64 Sk),.lst false 1 Ow (List.take (Ow*1) (List.drop 0 Qu)),.lst false 1 Qm (List.take (Qm*1) (List.drop 0 Tw))],.sc (.int .i64 0)] []))))))))))))) (Ae C0 Tryz.prog fu d):=by kernel_rfl
abbrev Nb:FuncId:=93
noncomputable def E2 (fu:Nat)(call:Aq)(a0_0 a0_1:ByteArray)(a0_2 a0_3:Int)(a0_4 a0_5 a0_6:Int)(a0_7:Bool)(a0_8 a0_9 a0_10:Int)(a0_11n:Nat)(a0_11:List PV)(a0_12n:Nat)(a0_12:List PV)(a1n:Nat)(a1:List PV)(nn y0:Nat)(y1:List PV)(y2:Int)(y3 y4:ByteArray)(y5 y6:Int)(y7 y8 y9:Int)(y10:Bool)(Eb Ev Hf:Int)(Ik:Nat)(Iq:List PV)(Iv:Nat)(I3:List PV):Option A0:=Cw C0 Tryz.prog fu call 93 Tryz.f93 (B5 Tryz.f93) [.agg [.sc (.string a0_0),.sc (.string a0_1),.sc (.int .u64 a0_2),.sc (.int .i64 a0_3),.sc (.int .u64 a0_4),.sc (.int .i64 a0_5),.sc (.int .i64 a0_6),.sc (.bool a0_7),.sc (.int .i64 a0_8),.sc (.int .u64 a0_9),.sc (.int .i64 a0_10),.lst false 1 a0_11n a0_11,.lst false 1 a0_12n a0_12],.lst false 3 a1n a1] [.r,.l,.r,.l] nn ⟨lk [(1,(.lst false 3 y0 y1)),(2,(.ptr 2 0)),(5,(.sc (.int .i64 y2)))],Gf [(2,(.st [(.sc (.string y3)),(.sc (.string y4)),(.sc (.int .u64 y5)),(.sc (.int .i64 y6)),(.sc (.int .u64 y7)),(.sc (.int .i64 y8)),(.sc (.int .i64 y9)),(.sc (.bool y10)),(.sc (.int .i64 Eb)),(.sc (.int .u64 Ev)),(.sc (.int .i64 Hf)),(.lst false 1 Ik Iq),(.lst false 1 Iv I3)]))]⟩
theorem Kb (fu:Nat)(call:Aq)(a0_0 a0_1:ByteArray)(a0_2 a0_3:Int)(a0_4 a0_5 a0_6:Int)(a0_7:Bool)(a0_8 a0_9 a0_10:Int)(a0_11n:Nat)(a0_11:List PV)(a0_12n:Nat)(a0_12:List PV)(a1n:Nat)(a1:List PV)(nn y0:Nat)(y1:List PV)(y2:Int)(y3 y4:ByteArray)(y5 y6:Int)(y7 y8 y9:Int)(y10:Bool)(Eb Ev Hf:Int)(Ik:Nat)(Iq:List PV)(Iv:Nat)(I3:List PV):E2 fu call a0_0 a0_1 a0_2 a0_3 a0_4 a0_5 a0_6 a0_7 a0_8 a0_9 a0_10 a0_11n a0_11 a0_12n a0_12 a1n a1 (nn+1) y0 y1 y2 y3 y4 y5 y6 y7 y8 y9 y10 Eb Ev Hf Ik Iq Iv I3=(A4 (decide (y2<(↑y0:Int))) (Ay (decide (0<=y2)&&decide (y2<(↑y0:Int)))<|Cn (List.getD y1 (Int.toNat y2*3+0) .top) fun x1=>A4 (Array.toList (ByteArray.data x1)==Array.toList (ByteArray.data y4)) (Ay (decide (0<=y2)&&decide (y2<(↑y0:Int)))<|Af .i64 (List.getD y1 (Int.toNat y2*3+1) .top) fun x2=>Af .u64 (List.getD y1 (Int.toNat y2*3+1+1) .top) fun x3=>Aj (call 22 [.agg [.sc (.string y3),.sc (.string y4),.sc (.int .u64 y5),.sc (.int .i64 y6),.sc (.int .u64 y7),.sc (.int .i64 y8),.sc (.int .i64 y9),.sc (.bool y10),.sc (.int .i64 Eb),.sc (.int .u64 Ev),.sc (.int .i64 Hf),.lst false 1 Ik Iq,.lst false 1 Iv I3],.agg [.sc (.int .i64 x2),.sc (.int .u64 x3)]]) fun x4 x5=>Ac x5<|Ab x4 fun x6 x7=>Af .i64 x6 fun x8=>Ac x7<|A4 (x8==0) (some (A0.mk [.sc (.int .i64 y2)] [])) (Aa (IntKind.wrap .i64 (y2+1)) fun x9=>E2 fu call a0_0 a0_1 a0_2 a0_3 a0_4 a0_5 a0_6 a0_7 a0_8 a0_9 a0_10 a0_11n a0_11 a0_12n a0_12 a1n a1 (nn) (y0) (y1) x9 (y3) (y4) (y5) (y6) (y7) (y8) (y9) (y10) (Eb) (Ev) (Hf) (Ik) (Iq) (Iv) (I3))) (Aa (IntKind.wrap .i64 (y2+1)) fun Cj=>E2 fu call a0_0 a0_1 a0_2 a0_3 a0_4 a0_5 a0_6 a0_7 a0_8 a0_9 a0_10 a0_11n a0_11 a0_12n a0_12 a1n a1 (nn) (y0) (y1) Cj (y3) (y4) (y5) (y6) (y7) (y8) (y9) (y10) (Eb) (Ev) (Hf) (Ik) (Iq) (Iv) (I3))) (some (A0.mk [.sc (.int .i64 (-1))] []))):=by kernel_rfl
theorem Xh (fu d:Nat)(a0_0 a0_1:ByteArray)(a0_2 a0_3:Int)(a0_4 a0_5 a0_6:Int)(a0_7:Bool)(a0_8 a0_9 a0_10:Int)(a0_11n:Nat)(a0_11:List PV)(a0_12n:Nat)(a0_12:List PV)(a1n:Nat)(a1:List PV):Ae C0 Tryz.prog fu (d+1) Nb [.agg [.sc (.string a0_0),.sc (.string a0_1),.sc (.int .u64 a0_2),.sc (.int .i64 a0_3),.sc (.int .u64 a0_4),.sc (.int .i64 a0_5),.sc (.int .i64 a0_6),.sc (.bool a0_7),.sc (.int .i64 a0_8),.sc (.int .u64 a0_9),.sc (.int .i64 a0_10),.lst false 1 a0_11n a0_11,.lst false 1 a0_12n a0_12],.lst false 3 a1n a1]=(fun (call:Aq)=>E2 fu call a0_0 a0_1 a0_2 a0_3 a0_4 a0_5 a0_6 a0_7 a0_8 a0_9 a0_10 a0_11n a0_11 a0_12n a0_12 a1n a1 (fu) (a1n) (a1) 0 (a0_0) (a0_1) (a0_2) (a0_3) (a0_4) (a0_5) (a0_6) (a0_7) (a0_8) (a0_9) (a0_10) (a0_11n) (a0_11) (a0_12n) (a0_12)) (Ae C0 Tryz.prog fu d):=by kernel_rfl
abbrev P6:FuncId:=60
noncomputable def Ep (fu:Nat)(call:Aq)(a0n:Nat)(a0:List PV)(a1n:Nat)(a1:List PV)(a2n:Nat)(a2:List PV)(a3:Int)(nn y0:Nat)(y1:List PV)(y2:Nat)(y3:List PV)(y4:Nat)(y5:List PV)(y6 y7:Int):Option A0:=Cw C0 Tryz.prog fu call 60 Tryz.f60 (B5 Tryz.f60) [.lst false 13 a0n a0,.lst false 3 a1n a1,.lst false 3 a2n a2,.sc (.int .i64 a3)] [.r,.r,.r,.l,.r,.l] nn ⟨lk [(0,(.lst false 13 y0 y1)),(1,(.lst false 3 y2 y3)),(2,(.lst false 3 y4 y5)),(3,(.sc (.int .i64 y6))),(10,(.sc (.int .i64 y7)))],Gf []⟩
noncomputable def Gz (fu:Nat)(call:Aq)(a0n:Nat)(a0:List PV)(a1n:Nat)(a1:List PV)(a2n:Nat)(a2:List PV)(a3:Int)(m0 nn y0:Nat)(y1:List PV)(y2:Nat)(y3:List PV)(y4:Nat)(y5:List PV)(y6 y7:Int)(y8 y9:ByteArray)(y10 Eb:Int)(Ev Hf Ik:Int)(Iq:Bool)(Iv I3 J0:Int)(Sh:Nat)(Ws:List PV)(P0:Nat)(V3:List PV):Option A0:=Cw C0 Tryz.prog fu call 60 Tryz.f60 (B5 Tryz.f60) [.lst false 13 a0n a0,.lst false 3 a1n a1,.lst false 3 a2n a2,.sc (.int .i64 a3)] [.r,.r,.r,.l,.r,.l,.i m0,.r,.l,.l,.r,.r] nn ⟨lk [(0,(.lst false 13 y0 y1)),(1,(.lst false 3 y2 y3)),(2,(.lst false 3 y4 y5)),(3,(.sc (.int .i64 y6))),(10,(.sc (.int .i64 y7))),(11,(.ptr 11 0))],Gf [(11,(.st [(.sc (.string y8)),(.sc (.string y9)),(.sc (.int .u64 y10)),(.sc (.int .i64 Eb)),(.sc (.int .u64 Ev)),(.sc (.int .i64 Hf)),(.sc (.int .i64 Ik)),(.sc (.bool Iq)),(.sc (.int .i64 Iv)),(.sc (.int .u64 I3)),(.sc (.int .i64 J0)),(.lst false 1 Sh Ws),(.lst false 1 P0 V3)]))]⟩
noncomputable def Dk (fu:Nat)(call:Aq)(a0n:Nat)(a0:List PV)(a1n:Nat)(a1:List PV)(a2n:Nat)(a2:List PV)(a3:Int)(m0 nn y0:Nat)(y1:List PV)(y2:Nat)(y3:List PV)(y4:Nat)(y5:List PV)(y6 y7 y8:Int)(y9 y10:ByteArray)(Eb Ev:Int)(Hf Ik Iq:Int)(Iv:Bool)(I3 J0 Sh:Int)(Ws:Nat)(P0:List PV)(V3:Nat)(y23:List PV):Option A0:=Cw C0 Tryz.prog fu call 60 Tryz.f60 (B5 Tryz.f60) [.lst false 13 a0n a0,.lst false 3 a1n a1,.lst false 3 a2n a2,.sc (.int .i64 a3)] [.r,.r,.r,.l,.r,.l,.i m0,.r,.l,.l,.r,.r,.r,.l,.r,.l] nn ⟨lk [(0,(.lst false 13 y0 y1)),(1,(.lst false 3 y2 y3)),(2,(.lst false 3 y4 y5)),(3,(.sc (.int .i64 y6))),(10,(.sc (.int .i64 y7))),(11,(.ptr 11 0)),(14,(.sc (.int .i64 y8)))],Gf [(11,(.st [(.sc (.string y9)),(.sc (.string y10)),(.sc (.int .u64 Eb)),(.sc (.int .i64 Ev)),(.sc (.int .u64 Hf)),(.sc (.int .i64 Ik)),(.sc (.int .i64 Iq)),(.sc (.bool Iv)),(.sc (.int .i64 I3)),(.sc (.int .u64 J0)),(.sc (.int .i64 Sh)),(.lst false 1 Ws P0),(.lst false 1 V3 y23)]))]⟩
theorem Ia (fu:Nat)(call:Aq)(a0n:Nat)(a0:List PV)(a1n:Nat)(a1:List PV)(a2n:Nat)(a2:List PV)(a3:Int)(nn y0:Nat)(y1:List PV)(y2:Nat)(y3:List PV)(y4:Nat)(y5:List PV)(y6 y7:Int):Ep fu call a0n a0 a1n a1 a2n a2 a3 (nn+1) y0 y1 y2 y3 y4 y5 y6 y7=(A4 (decide (y7<(↑y0:Int))) (Ay (decide (0<=y7)&&decide (y7<(↑y0:Int)))<|Cn (List.getD y1 (Int.toNat y7*13) .top) fun Bp=>Cn (List.getD y1 (Int.toNat y7*13+1) .top) fun Cz=>Af .u64 (List.getD y1 (Int.toNat y7*13+1+1) .top) fun C9=>Af .i64 (List.getD y1 (Int.toNat y7*13+1+1+1) .top) fun Cq=>Af .u64 (List.getD y1 (Int.toNat y7*13+1+1+1+1) .top) fun C8=>Af .i64 (List.getD y1 (Int.toNat y7*13+1+1+1+1+1) .top) fun Dh=>Af .i64 (List.getD y1 (Int.toNat y7*13+1+1+1+1+1+1) .top) fun Dt=>Bw (List.getD y1 (Int.toNat y7*13+1+1+1+1+1+1+1) .top) fun D6=>Af .i64 (List.getD y1 (Int.toNat y7*13+1+1+1+1+1+1+1+1) .top) fun D1=>Af .u64 (List.getD y1 (Int.toNat y7*13+1+1+1+1+1+1+1+1+1) .top) fun Ee=>Af .i64 (List.getD y1 (Int.toNat y7*13+1+1+1+1+1+1+1+1+1+1) .top) fun Fq=>Iz 1 (List.getD y1 (Int.toNat y7*13+1+1+1+1+1+1+1+1+1+1+1) .top) fun Cl Fy Dn=>Iz 1 (List.getD y1 (Int.toNat y7*13+1+1+1+1+1+1+1+1+1+1+1+1) .top) fun B3 Ew F4=>Aj (call 45 [.agg [.sc (.string Bp),.sc (.string Cz),.sc (.int .u64 C9),.sc (.int .i64 Cq),.sc (.int .u64 C8),.sc (.int .i64 Dh),.sc (.int .i64 Dt),.sc (.bool D6),.sc (.int .i64 D1),.sc (.int .u64 Ee),.sc (.int .i64 Fq),.lst false 1 Fy Dn,.lst false 1 Ew F4]]) fun Bm Ci=>Ac Ci<|Ab Bm fun Gx G2=>Dp 1 Gx fun Ib Hz=>Ab G2 fun I4 G8=>Af .i64 I4 fun I5=>Ac G8<|A4 (I5 != 0) (some (A0.mk [.sc (.int .i64 0),.sc (.int .i64 I5)] [])) (Aj (call 59 [.sc (.int .i64 y6),.sc (.int .i64 Dh),.sc (.int .i64 Dt)]) fun Ls F5=>Ac F5<|Ab Ls fun Il Pc=>Bw Il fun Qi=>Ac Pc<|A4 (!Qi) (some (A0.mk [.sc (.int .i64 0),.sc (.int .i64 38)] [])) (A4 (decide (y7>0)) (A4 (!D6) (some (A0.mk [.sc (.int .i64 0),.sc (.int .i64 38)] [])) (Aa (IntKind.wrap .i64 (y7-1)) fun Ke=>A4 (decide (D1<Ke)) (some (A0.mk [.sc (.int .i64 0),.sc (.int .i64 38)] [])) (Gz fu call a0n a0 a1n a1 a2n a2 a3 nn (fu) (y0) (y1) (y2) (y3) (y4) (y5) (y6) (y7) Bp Cz C9 Cq C8 Dh Dt D6 D1 Ee Fq Fy Dn Ew F4))) (Gz fu call a0n a0 a1n a1 a2n a2 a3 nn (fu) (y0) (y1) (y2) (y3) (y4) (y5) (y6) (y7) Bp Cz C9 Cq C8 Dh Dt D6 D1 Ee Fq Fy Dn Ew F4)))) (Aa (IntKind.wrap .i64 ((↑y0:Int)-1)) fun Kf=>Ay (decide (0<=Kf)&&decide (Kf<(↑y0:Int)))<|Cn (List.getD y1 (Int.toNat Kf*13) .top) fun Ph=>Cn (List.getD y1 (Int.toNat Kf*13+1) .top) fun Mw=>Af .u64 (List.getD y1 (Int.toNat Kf*13+1+1) .top) fun Pi=>Af .i64 (List.getD y1 (Int.toNat Kf*13+1+1+1) .top) fun Ps=>Af .u64 (List.getD y1 (Int.toNat Kf*13+1+1+1+1) .top) fun Qx=>Af .i64 (List.getD y1 (Int.toNat Kf*13+1+1+1+1+1) .top) fun Pd=>Af .i64 (List.getD y1 (Int.toNat Kf*13+1+1+1+1+1+1) .top) fun Qk=>Bw (List.getD y1 (Int.toNat Kf*13+1+1+1+1+1+1+1) .top) fun Q3=>Af .i64 (List.getD y1 (Int.toNat Kf*13+1+1+1+1+1+1+1+1) .top) fun Q4=>Af .u64 (List.getD y1 (Int.toNat Kf*13+1+1+1+1+1+1+1+1+1) .top) fun Kx=>Af .i64 (List.getD y1 (Int.toNat Kf*13+1+1+1+1+1+1+1+1+1+1) .top) fun Sk=>Iz 1 (List.getD y1 (Int.toNat Kf*13+1+1+1+1+1+1+1+1+1+1+1) .top) fun Qw Sx Ow=>Iz 1 (List.getD y1 (Int.toNat Kf*13+1+1+1+1+1+1+1+1+1+1+1+1) .top) fun Qu R5 S3=>Aj (call 93 [.agg [.sc (.string Ph),.sc (.string Mw),.sc (.int .u64 Pi),.sc (.int .i64 Ps),.sc (.int .u64 Qx),.sc (.int .i64 Pd),.sc (.int .i64 Qk),.sc (.bool Q3),.sc (.int .i64 Q4),.sc (.int .u64 Kx),.sc (.int .i64 Sk),.lst false 1 Sx Ow,.lst false 1 R5 S3],.lst false 3 y2 y3]) fun Qm Tw=>Ac Tw<|Ab Qm fun Vs Sy=>Af .i64 Vs fun Su=>Ac Sy<|A4 (decide (Su<0)) (some (A0.mk [.sc (.int .i64 0),.sc (.int .i64 38)] [])) (some (A0.mk [.sc (.int .i64 Su),.sc (.int .i64 0)] [])))):=by kernel_rfl
theorem Wm (fu:Nat)(call:Aq)(a0n:Nat)(a0:List PV)(a1n:Nat)(a1:List PV)(a2n:Nat)(a2:List PV)(a3:Int)(m0 nn:Nat)(hnn:0<nn)(y0:Nat)(y1:List PV)(y2:Nat)(y3:List PV)(y4:Nat)(y5:List PV)(y6 y7:Int)(y8 y9:ByteArray)(y10 Eb:Int)(Ev Hf Ik:Int)(Iq:Bool)(Iv I3 J0:Int)(Sh:Nat)(Ws:List PV)(P0:Nat)(V3:List PV):Gz fu call a0n a0 a1n a1 a2n a2 a3 m0 nn y0 y1 y2 y3 y4 y5 y6 y7 y8 y9 y10 Eb Ev Hf Ik Iq Iv I3 J0 Sh Ws P0 V3=(Dk fu call a0n a0 a1n a1 a2n a2 a3 m0 (fu) (y0) (y1) (y2) (y3) (y4) (y5) (y6) (y7) 0 (y8) (y9) (y10) (Eb) (Ev) (Hf) (Ik) (Iq) (Iv) (I3) (J0) (Sh) (Ws) (P0) (V3)):=by cases nn with|zero=>exact absurd hnn (Nat.lt_irrefl 0)|succ nn=>kernel_rfl
theorem H8 (fu:Nat)(call:Aq)(a0n:Nat)(a0:List PV)(a1n:Nat)(a1:List PV)(a2n:Nat)(a2:List PV)(a3:Int)(m0 nn y0:Nat)(y1:List PV)(y2:Nat)(y3:List PV)(y4:Nat)(y5:List PV)(y6 y7 y8:Int)(y9 y10:ByteArray)(Eb Ev:Int)(Hf Ik Iq:Int)(Iv:Bool)(I3 J0 Sh:Int)(Ws:Nat)(P0:List PV)(V3:Nat)(y23:List PV):Dk fu call a0n a0 a1n a1 a2n a2 a3 m0 (nn+1) y0 y1 y2 y3 y4 y5 y6 y7 y8 y9 y10 Eb Ev Hf Ik Iq Iv I3 J0 Sh Ws P0 V3 y23=(A4 (decide (y8<(↑y4:Int))) (Ay (decide (0<=y8)&&decide (y8<(↑y4:Int)))<|Cn (List.getD y5 (Int.toNat y8*3+0) .top) fun Sf=>A4 (Array.toList (ByteArray.data Sf)==Array.toList (ByteArray.data y10)) (Ay (decide (0<=y8)&&decide (y8<(↑y4:Int)))<|Af .u64 (List.getD y5 (Int.toNat y8*3+1) .top) fun Sa=>A4 (Sa==Eb) (Ay (decide (0<=y8)&&decide (y8<(↑y4:Int)))<|Af .i64 (List.getD y5 (Int.toNat y8*3+2) .top) fun Wo=>A4 (decide (Wo<=y6)) (some (A0.mk [.sc (.int .i64 0),.sc (.int .i64 39)] [])) (Aa (IntKind.wrap .i64 (y8+1)) fun Tf=>Dk fu call a0n a0 a1n a1 a2n a2 a3 m0 (nn) (y0) (y1) (y2) (y3) (y4) (y5) (y6) (y7) Tf (y9) (y10) (Eb) (Ev) (Hf) (Ik) (Iq) (Iv) (I3) (J0) (Sh) (Ws) (P0) (V3) (y23))) (Aa (IntKind.wrap .i64 (y8+1)) fun Td=>Dk fu call a0n a0 a1n a1 a2n a2 a3 m0 (nn) (y0) (y1) (y2) (y3) (y4) (y5) (y6) (y7) Td (y9) (y10) (Eb) (Ev) (Hf) (Ik) (Iq) (Iv) (I3) (J0) (Sh) (Ws) (P0) (V3) (y23))) (Aa (IntKind.wrap .i64 (y8+1)) fun Th=>Dk fu call a0n a0 a1n a1 a2n a2 a3 m0 (nn) (y0) (y1) (y2) (y3) (y4) (y5) (y6) (y7) Th (y9) (y10) (Eb) (Ev) (Hf) (Ik) (Iq) (Iv) (I3) (J0) (Sh) (Ws) (P0) (V3) (y23))) (Aa (IntKind.wrap .i64 (y7+1)) fun Vh=>A4 (decide (Vh<(↑y0:Int))) (Aa (IntKind.wrap .i64 (y7+1)) fun Uh=>Ay (decide (0<=Uh)&&decide (Uh<(↑y0:Int)))<|Cn (List.getD y1 (Int.toNat Uh*13+0) .top) fun Tc=>A4 (!Array.toList (ByteArray.data y10)==Array.toList (ByteArray.data Tc)) (some (A0.mk [.sc (.int .i64 0),.sc (.int .i64 38)] [])) (Aa (IntKind.wrap .i64 (y7+1)) fun So=>Ay (decide (0<=So)&&decide (So<(↑y0:Int)))<|Af .i64 (List.getD y1 (Int.toNat So*13+3) .top) fun Vr=>Af .u64 (List.getD y1 (Int.toNat So*13+3+1) .top) fun Uk=>Aj (call 22 [.agg [.sc (.string y9),.sc (.string y10),.sc (.int .u64 Eb),.sc (.int .i64 Ev),.sc (.int .u64 Hf),.sc (.int .i64 Ik),.sc (.int .i64 Iq),.sc (.bool Iv),.sc (.int .i64 I3),.sc (.int .u64 J0),.sc (.int .i64 Sh),.lst false 1 Ws P0,.lst false 1 V3 y23],.agg [.sc (.int .i64 Vr),.sc (.int .u64 Uk)]]) fun V2 Xu=>Ac Xu<|Ab V2 fun Xa x81=>Af .i64 Xa fun X3=>Ac x81<|A4 (X3 != 0) (some (A0.mk [.sc (.int .i64 0),.sc (.int .i64 X3)] [])) (Aa (IntKind.wrap .i64 (y7+1)) fun X4=>Ep fu call a0n a0 a1n a1 a2n a2 a3 (m0) (y0) (y1) (y2) (y3) (y4) (y5) (y6) X4))) (Aa (IntKind.wrap .i64 (y7+1)) fun Xo=>Ep fu call a0n a0 a1n a1 a2n a2 a3 (m0) (y0) (y1) (y2) (y3) (y4) (y5) (y6) Xo))):=by kernel_rfl
theorem Aak (fu d a0n:Nat)(a0:List PV)(a1n:Nat)(a1:List PV)(a2n:Nat)(a2:List PV)(a3:Int):Ae C0 Tryz.prog fu (d+1) P6 [.lst false 13 a0n a0,.lst false 3 a1n a1,.lst false 3 a2n a2,.sc (.int .i64 a3)]=(fun (call:Aq)=>Aj (call 59 [.sc (.int .i64 a3),.sc (.int .i64 0),.sc (.int .i64 1099511627776)]) fun x1 x2=>Ac x2<|Ab x1 fun x3 x4=>Bw x3 fun x5=>Ac x4<|A4 (!x5) (some (A0.mk [.sc (.int .i64 0),.sc (.int .i64 9)] [])) (Aj (call 59 [.sc (.int .i64 (↑a0n:Int)),.sc (.int .i64 1),.sc (.int .i64 3)]) fun x6 x7=>Ac x7<|Ab x6 fun x8 x9=>Bw x8 fun Cj=>Ac x9<|A4 (!Cj) (some (A0.mk [.sc (.int .i64 0),.sc (.int .i64 38)] [])) (Ep fu call a0n a0 a1n a1 a2n a2 a3 (fu) (a0n) (a0) (a1n) (a1) (a2n) (a2) (a3) 0))) (Ae C0 Tryz.prog fu d):=by kernel_rfl
end
section
def Uq (x:It):List Int:=
 if x.k=7 then [IntKind.wrap .u8 (244+IntKind.wrap .u8 x.n)] else if x.k=8 then [246] else if x.k=3 then Dq 2 x.s.size else if x.k=4 then Dq 3 x.s.size else Dq (x.k-1) x.n
def It.dat (x:It):Prop:=x.k=3∨x.k=4∨Bz x.s=[]
theorem Azp {x:It}(h:x.dat):Bv x=Uq x++Bz x.s:=by
 unfold Bv Uq;by_cases c7:x.k=7
 ·rcases h with h|h|h
  ·omega
  ·omega
  ·simp [c7,h]
 ·by_cases c8:x.k=8
  ·rcases h with h|h|h
   ·omega
   ·omega
   ·simp [c8,h]
  ·by_cases c3:x.k=3
   ·simp [c3]
   ·by_cases c4:x.k=4
    ·simp [c4]
    ·rcases h with h|h|h
     ·omega
     ·omega
     ·simp [c7,c8,c3,c4,h]
theorem A0c (x:It):(Uq x).length<=9:=by
 have h2:=Io 2 x.s.size;have h3:=Io 3 x.s.size;have h4:=Io (x.k-1) x.n;unfold Uq
 repeat' split
 all_goals try simp only [H0,X2]
 all_goals omega
theorem A16 (v:Int):El .u64 v 0=v:=by
 show v.fdiv (2 ^ (min (0:Int).toNat IntKind.u64.bits))=v;have:(2:Int) ^ (min (0:Int).toNat IntKind.u64.bits)=1:=by decide
 rw [this,Int.fdiv_one]
theorem tb1 (v:Int):tb v 1=[IntKind.wrap .u8 v]:=by
 show [IntKind.wrap .u8 (El .u64 v (56-8*((7:Nat):Int)))]=_;rw [show (56:Int)-8*((7:Nat):Int)=0 by omega,A16]
theorem tb2 (v:Int):tb v 2=[IntKind.wrap .u8 (El .u64 v 8),IntKind.wrap .u8 v]:=by
 show [IntKind.wrap .u8 (El .u64 v (56-8*((6:Nat):Int))),IntKind.wrap .u8 (El .u64 v (56-8*((7:Nat):Int)))]=_;rw [show (56:Int)-8*((7:Nat):Int)=0 by omega,show (56:Int)-8*((6:Nat):Int)=8 by omega,A16]
theorem tb4 (v:Int):tb v 4=[IntKind.wrap .u8 (El .u64 v 24),IntKind.wrap .u8 (El .u64 v 16),IntKind.wrap .u8 (El .u64 v 8),IntKind.wrap .u8 v]:=by
 show [IntKind.wrap .u8 (El .u64 v (56-8*((4:Nat):Int))),IntKind.wrap .u8 (El .u64 v (56-8*((5:Nat):Int))),IntKind.wrap .u8 (El .u64 v (56-8*((6:Nat):Int))),IntKind.wrap .u8 (El .u64 v (56-8*((7:Nat):Int)))]=_;rw [show (56:Int)-8*((7:Nat):Int)=0 by omega,show (56:Int)-8*((6:Nat):Int)=8 by omega,show (56:Int)-8*((5:Nat):Int)=16 by omega,show (56:Int)-8*((4:Nat):Int)=24 by omega,A16]
theorem tb8 (v:Int):tb v 8=Cg v:=rfl
section
variable {fu d:Nat}
theorem A37 (hfu:1000<=fu){k n:Int}{s:ByteArray}{nn:Nat}(hn:0<nn){mj v:Int}(h0:0<=mj)(h1:mj<=5)(hv:0<=v):
  Du fu (Ae C0 Tryz.prog fu (d+1)) k n s nn v (32*mj)=some ⟨[.own 1 (Dq mj v).length (Ai .u8 (Dq mj v))],[]⟩:=by
 rw [Xk (hnn:=hn)];have w24:IntKind.wrap .u8 (32*mj+24)=32*mj+24:=Gm (by omega) (by omega)
 have w25:IntKind.wrap .u8 (32*mj+25)=32*mj+25:=Gm (by omega) (by omega)
 have w26:IntKind.wrap .u8 (32*mj+26)=32*mj+26:=Gm (by omega) (by omega)
 have w27:IntKind.wrap .u8 (32*mj+27)=32*mj+27:=Gm (by omega) (by omega)
 unfold Dq;by_cases c1:v<24
 ·have wn:IntKind.wrap .u8 v=v:=Gm (by omega) (by omega)
  have ws:IntKind.wrap .u8 (32*mj+v)=32*mj+v:=Gm (by omega) (by omega)
  rw [Bk c1];simp (disch:=omega) only [B6,wn,ws];rfl
 ·by_cases c2:v<256
  ·rw [A3 c1,Bk c2,tb1];simp (disch:=omega) only [B6,w24];rfl
  ·by_cases c3:v<65536
   ·rw [A3 c1,A3 c2,Bk c3,tb2];simp (disch:=omega) only [B6,w25];rfl
   ·by_cases c4:v<4294967296
    ·rw [A3 c1,A3 c2,A3 c3,Bk c4,tb4];simp (disch:=omega) only [B6,w26];rfl
    ·have wd:=Avm (fu:=fu) (d:=d) hfu v;have L:=As .u8 (Cg v);rw [Cy] at L;have t8:List.take 8 (Ai .u8 (Cg v))=Ai .u8 (Cg v):=I2 (by omega)
     have eC:[PV.sc (.int .u8 (32*mj+27))]++Ai .u8 (Cg v)=Ai .u8 ((32*mj+27)::Cg v):=rfl;have L9:(Ai .u8 ((32*mj+27)::Cg v)).length=9:=by rw [As,H0,Cy]
     have t9:List.take 9 (Ai .u8 ((32*mj+27)::Cg v))=Ai .u8 ((32*mj+27)::Cg v):=I2 (by omega)
     rw [A3 c1,A3 c2,A3 c3,A3 c4,tb8,H0,Cy];simp (disch:=omega) only [B6,w27,wd,Bl,B4,Cm,L,t8,eC,Nat.reduceAdd,L9,t9]
theorem A3o (hfu:1000<=fu){x:It}(hx:x.ok):Ae C0 Tryz.prog fu (d+2) Q5 [.agg x.cells]=some ⟨[.own 1 (Uq x).length (Ai .u8 (Uq x))],[]⟩:=by
 obtain ⟨k,n,s⟩:=x;obtain ⟨k1,k8,n0,s0⟩:=hx;simp only at k1 k8 n0 s0;refine (Aby fu (d+1) k n s).trans ?_;have wsz:IntKind.wrap .u64 (s.size:Int)=s.size:=B7 (by omega) (by omega)
 have J:=fun (mj v:Int) (h0:0<=mj) (h1:mj<=5) (hv:0<=v)=>A37 (fu:=fu) (d:=d) hfu (k:=k) (n:=n) (s:=s) (nn:=fu) (by omega) h0 h1 hv
 have j0:=J 0 n (by omega) (by omega) n0
 have j1:=J 1 n (by omega) (by omega) n0
 have j2:=J 2 s.size (by omega) (by omega) (by omega)
 have j3:=J 3 s.size (by omega) (by omega) (by omega)
 have j4:=J 4 n (by omega) (by omega) n0
 have j5:=J 5 n (by omega) (by omega) n0
 rw [show (32:Int)*0=0 by omega] at j0
 rw [show (32:Int)*1=32 by omega] at j1
 rw [show (32:Int)*2=64 by omega] at j2
 rw [show (32:Int)*3=96 by omega] at j3
 rw [show (32:Int)*4=128 by omega] at j4
 rw [show (32:Int)*5=160 by omega] at j5
 unfold Uq;simp only;have:k=1∨k=2∨k=3∨k=4∨k=5∨k=6∨k=7∨k=8:=by omega
 rcases this with rfl|rfl|rfl|rfl|rfl|rfl|rfl|rfl
 ·simp only [B6,Fm,Int.reduceEq,if_true,if_false,Int.reduceSub,j0]
 ·simp only [B6,Fm,Int.reduceEq,if_true,if_false,Int.reduceSub,j1]
 ·simp only [B6,Fm,Int.reduceEq,if_true,if_false,Int.reduceSub,wsz,j2]
 ·simp only [B6,Fm,Int.reduceEq,if_true,if_false,Int.reduceSub,wsz,j3]
 ·simp only [B6,Fm,Int.reduceEq,if_true,if_false,Int.reduceSub,j4]
 ·simp only [B6,Fm,Int.reduceEq,if_true,if_false,Int.reduceSub,j5]
 ·simp only [B6,Fm,Int.reduceEq,if_true,if_false];rfl
 ·simp only [B6,Fm,Int.reduceEq,if_true,if_false];rfl
theorem Z1 (hfu:1000<=fu){x:It}(hx:x.ok)(hd:x.dat):Ae C0 Tryz.prog fu (d+3) Pu [.agg x.cells]=some ⟨[.sc (.string (Bo (Bv x)))],[]⟩:=by
 refine (Aba fu (d+2) x.k x.n x.s).trans ?_;have hr:=A3o (fu:=fu) (d:=d) hfu hx;have L:=As .u8 (Uq x);have l9:=A0c x;have bo:=Fu (Uq x);have eA:ByteArray.mk (List.map (fun n:Int=>n.toNat.toUInt8) (Uq x)).toArray=Bo (Uq x):=rfl
 have sz:=Ey (Uq x);have s0:=hx.s0;have ap:Bo (Uq x)++x.s=Bo (Bv x):=by rw [Ar1,Azp hd]
 simp only [It.cells] at hr;simp (disch:=omega) only [B6,hr,Bl,B4,Cm,G4,L,bo,eA,sz,ap]
def Bq (its:List It):List PV:=its.flatMap It.cells
theorem It.cells_len (x:It):x.cells.length=3:=rfl
def Bc (its:List It):List Int:=its.flatMap Bv
theorem Ahw {a0n:Nat}{a0:List PV}{its:List It}(hk:∀x∈its,x.ok∧x.dat)(hl:its.length<=1000)(hfu:1000<=fu):∀(r:List It)(i nn:Nat)(b:List Int),its.drop i=r->r.length<nn->b.length+500010*r.length<=1000000000 ->
  Gl fu (Ae C0 Tryz.prog fu (d+3)) a0n a0 nn its.length (Bq its) b.length i (Ai .u8 b)=some ⟨[.own 1 (b++Bc r).length (Ai .u8 (b++Bc r))],[]⟩
 |_,_,0,_,_,h,_=>by omega
 |[],i,nn+1,b,h,hn,hb=>by
  have:=drop_nil h;have L:=As .u8 b;rw [Lg,Dj _ _ _ (by omega)]
  simp (disch:=omega) only [B6,Bl,G4,L];simp [Bc]
 |x::r,i,nn+1,b,h,hn,hb=>by
  obtain ⟨h1,h2,h3⟩:=Ca h;simp only [H0] at hn hb;obtain ⟨ok,dt⟩:=hk x (List.mem_of_getElem? h2);have hil:=Ho x;have hs0:=ok.s0;have g0:(Bq its).getD (i*3) .top=.sc (.int .i64 x.k):=D3 It.cells_len h2 (j:=0) (by omega)
  have g1:(Bq its).getD (i*3+1) .top=.sc (.int .u64 x.n):=D3 It.cells_len h2 (j:=1) (by omega)
  have g2:(Bq its).getD (i*3+1+1) .top=.sc (.string x.s):=D3 It.cells_len h2 (j:=2) (by omega)
  have by_:=Z1 (fu:=fu) (d:=d) hfu ok dt;simp only [It.cells] at by_;have ih:=Ahw (a0n:=a0n) (a0:=a0) hk hl hfu r (i+1) nn (b++Bv x) h3 (by omega) (by rw [Ic];omega)
  have w:IntKind.wrap .i64 ((i:Int)+1)=((i+1:Nat):Int):=by rw [Au (by omega) (by omega)];omega
  have L:=As .u8 b;have hB:=Axt ok.k1 ok.k8 ok.n0;have sc:Ct (Bo (Bv x))=Ai .u8 (Bv x):=by rw [Fp,Lx hB]
  have sz:=Ey (Bv x);have Li:=As .u8 (Bv x);have ea:Ai .u8 b++Ai .u8 (Bv x)=Ai .u8 (b++Bv x):=by rw [Ai,Ai,Ai,List.flatMap_append]
  have ei:Bc (x::r)=Bv x++Bc r:=rfl;rw [ei,←Zzv,←ih,Lg];simp (disch:=omega) only [B6,G6,g0,g1,g2,by_,sc,sz,Li,Bl,G4,L,ea,w,Ic]
theorem Aza {its:List It}(hk:∀x∈its,x.ok∧x.dat)(hl:its.length<=900)(hfu:1000<=fu):Ae C0 Tryz.prog fu (d+4) Oj [.lst false 3 its.length (Bq its)]=some ⟨[.own 1 (Bc its).length (Ai .u8 (Bc its))],[]⟩:=by
 rw [Zh];exact Ahw (fu:=fu) (d:=d) (a0n:=its.length) (a0:=Bq its) hk (by omega) hfu its 0 fu [] rfl (by omega) (by simp;omega)
end
end
section
structure Ce where
 subj:ByteArray
 iss:ByteArray
 serial:Int
 key:Ky
 fr:Int
 un:Int
 auth:Bool
 path:Int
 model:Int
 sig:Sg
def Ce.cells (c:Ce):List PV:=[.sc (.string c.subj),.sc (.string c.iss),.sc (.int .u64 c.serial),.sc (.int .i64 c.key.h),.sc (.int .u64 c.key.root),.sc (.int .i64 c.fr),.sc (.int .i64 c.un),.sc (.bool c.auth),.sc (.int .i64 c.path),.sc (.int .u64 c.model),.sc (.int .i64 c.sig.leaf),.lst false 1 c.sig.chains.length (Ai .u64 c.sig.chains),.lst false 1 c.sig.path.length (Ai .u64 c.sig.path)]
abbrev okS (s:ByteArray):Bool:=Lib.validD s.data.toList
abbrev C2:ByteArray:=⟨#[]⟩
def Be (c:Ce):Int:=
 if c.subj.size<1∨32<c.subj.size then 9 else if c.iss.size<1∨32<c.iss.size then 9 else if okS c.subj=false then 6 else if okS c.iss=false then 6 else
 if Df c.key.h=true then 9 else if c.fr<0 then 9 else if c.un<c.fr then 9 else if c.un>1099511627776 then 9 else if c.path<0∨2<c.path then 9 else if c.path≠0∧c.auth=false then 4 else 0
def Bb (c:Ce):List It:=[⟨5,9,C2⟩,⟨4,0,c.subj⟩,⟨4,0,c.iss⟩,⟨1,c.serial,C2⟩,⟨3,0,Bo (G3 c.key)⟩,⟨1,c.fr,C2⟩,⟨1,c.un,C2⟩,⟨7,(if c.auth=true then 1 else 0),C2⟩,⟨1,c.path,C2⟩,⟨1,c.model,C2⟩]
structure Ce.wf (c:Ce):Prop where
 ser:0<=c.serial
 mod:0<=c.model
def Gr (c:Ce):List PV:=if Be c=0 then [.own 1 (Bc (Bb c)).length (Ai .u8 (Bc (Bb c))),.sc (.int .i64 0)] else [.own 1 0 [],.sc (.int .i64 (Be c))]
theorem Abr {c:Ce}(hw:c.wf)(h:Be c=0):∀x∈Bb c,x.ok∧x.dat:=by
 unfold Be at h;have kl:(Bo (G3 c.key)).size=9:=by rw [Ey];rfl
 have ns:C2.size=0:=rfl;have hs:=hw.ser;have hm:=hw.mod
 repeat' (split at h;· cases h)
 intro x hx;simp only [Bb,List.mem_cons,List.not_mem_nil,or_false] at hx;rcases hx with rfl|rfl|rfl|rfl|rfl|rfl|rfl|rfl|rfl|rfl
 ·exact ⟨⟨by simp,by simp,by simp,by simp [ns]⟩,.inr (.inr rfl)⟩
 ·exact ⟨⟨by simp,by simp,by simp,by simp only;omega⟩,.inr (.inl rfl)⟩
 ·exact ⟨⟨by simp,by simp,by simp,by simp only;omega⟩,.inr (.inl rfl)⟩
 ·exact ⟨⟨by simp,by simp,hs,by simp [ns]⟩,.inr (.inr rfl)⟩
 ·exact ⟨⟨by simp,by simp,by simp,by simp only [kl];omega⟩,.inl rfl⟩
 ·exact ⟨⟨by simp,by simp,by simp only;omega,by simp [ns]⟩,.inr (.inr rfl)⟩
 ·exact ⟨⟨by simp,by simp,by simp only;omega,by simp [ns]⟩,.inr (.inr rfl)⟩
 ·exact ⟨⟨by simp,by simp,by simp only;split<;>omega,by simp [ns]⟩,.inr (.inr rfl)⟩
 ·exact ⟨⟨by simp,by simp,by simp only;omega,by simp [ns]⟩,.inr (.inr rfl)⟩
 ·exact ⟨⟨by simp,by simp,hm,by simp [ns]⟩,.inr (.inr rfl)⟩
section
variable {fu d:Nat}
theorem Lw (s:ByteArray)(h:s.size<=9223372036854775807):Ae C0 Tryz.prog fu (d+1) 67 [.sc (.string s)]=some ⟨[.sc (.bool (okS s))],[]⟩:=by
 show Akb [.sc (.string s)]=_;unfold Akb;simp [h]
theorem Nu (n lo hi:Int):Ae C0 Tryz.prog fu (d+1) Nl [.sc (.int .i64 n),.sc (.int .i64 lo),.sc (.int .i64 hi)]=some ⟨[.sc (.bool (decide (lo<=n)&&decide (n<=hi)))],[]⟩:=by
 rw [Xm];by_cases h:lo<=n
 ·simp (disch:=omega) only [B6,h,decide_true,Zzm]
 ·simp (disch:=omega) only [B6,h,decide_false,Bool.false_and]
theorem Ang (n:Int)(h0:0<=n)(h1:n<=1000):Ae C0 Tryz.prog fu (d+1) Oq [.sc (.int .i64 n)]=some ⟨[.agg [.sc (.int .i64 5),.sc (.int .u64 n),.sc (.string C2)]],[]⟩:=by
 rw [Zb];have w:IntKind.wrap .u64 n=n:=B7 (by omega) (by omega)
 simp only [B6,w]
theorem Ar3 (s:ByteArray):Ae C0 Tryz.prog fu (d+1) P8 [.sc (.string s)]=some ⟨[.agg [.sc (.int .i64 4),.sc (.int .u64 0),.sc (.string s)]],[]⟩:=by
 rw [Aa9]
theorem Awb (n:Int):Ae C0 Tryz.prog fu (d+1) M9 [.sc (.int .u64 n)]=some ⟨[.agg [.sc (.int .i64 1),.sc (.int .u64 n),.sc (.string C2)]],[]⟩:=by
 rw [Xn]
theorem A0t (l:List Int):Ae C0 Tryz.prog fu (d+1) Qd [.lst false 1 l.length (Ai .u8 l)]=some ⟨[.agg [.sc (.int .i64 3),.sc (.int .u64 0),.sc (.string (Bo l))]],[]⟩:=by
 rw [Aag];have L:=As .u8 l;have bo:=Fu l;simp (disch:=omega) only [B6,L,bo];rfl
theorem Atu (b:Bool):Ae C0 Tryz.prog fu (d+1) L8 [.sc (.bool b)]=some ⟨[.agg [.sc (.int .i64 7),.sc (.int .u64 (if b=true then 1 else 0)),.sc (.string C2)]],[]⟩:=by
 rw [V4];cases b<;>rfl
theorem Aef (hfu:1000<=fu){c:Ce}(hw:c.wf)(hs1:c.subj.size<=9223372036854775807)(hs2:c.iss.size<=9223372036854775807):Ae C0 Tryz.prog fu (d+5) Py [.agg c.cells]=some ⟨Gr c,[]⟩:=by
 refine (Aa1 fu (d+4) c.subj c.iss c.serial c.key.h c.key.root c.fr c.un c.auth c.path c.model c.sig.leaf c.sig.chains.length (Ai .u64 c.sig.chains) c.sig.path.length (Ai .u64 c.sig.path)).trans ?_;have n1:=Nu (fu:=fu) (d:=d+3) c.subj.size 1 32;have n2:=Nu (fu:=fu) (d:=d+3) c.iss.size 1 32;have n3:=Nu (fu:=fu) (d:=d+3) c.path 0 2;have v1:=Lw (fu:=fu) (d:=d+3) c.subj hs1;have v2:=Lw (fu:=fu) (d:=d+3) c.iss hs2;have ek:=Ac3 (fu:=fu) (d:=d+2) hfu c.key;have e90:((9:Int) != 0)=true:=rfl;have e00:((0:Int) != 0)=false:=rfl;simp only [Ky.cells] at ek;unfold Gr;by_cases e1:c.subj.size<1∨32<c.subj.size
 ·have hb:Be c=9:=by unfold Be;rw [Bk e1]
  have:(decide ((1:Int)<=c.subj.size)&&decide ((c.subj.size:Int)<=32))=false:=by simp;omega
  rw [this] at n1;rw [hb,A3 (by omega)]
  try unfold Aa
  repeat first
   |((with_reducible first|apply Ap|apply Ag|apply Am|apply Ar|apply Ax|apply Az|apply A6|apply Cf|apply Ah);· first|with_reducible rfl|(simp (disch:=omega) only [n1,Int.reduceEq,Bn,Br]<;>with_reducible rfl))
   |((with_reducible first|apply Ao|apply Ak);· first|with_reducible rfl|omega|(simp (disch:=omega) only [gT,n1,Int.reduceEq,Bn,Br]<;>omega))
   |(with_reducible apply Al;· first|with_reducible rfl|(simp (disch:=omega) only [gF,n1,Int.reduceEq,Bn,Br]<;>omega))
  try simp (disch:=omega) only [n1,Int.reduceEq,Bn,Br]
  all_goals rfl
 have q1:(decide ((1:Int)<=c.subj.size)&&decide ((c.subj.size:Int)<=32))=true:=by simp;omega
 rw [q1] at n1;by_cases e2:c.iss.size<1∨32<c.iss.size
 ·have hb:Be c=9:=by unfold Be;rw [A3 e1,Bk e2]
  have:(decide ((1:Int)<=c.iss.size)&&decide ((c.iss.size:Int)<=32))=false:=by simp;omega
  rw [this] at n2;rw [hb,A3 (by omega)]
  try unfold Aa
  repeat first
   |((with_reducible first|apply Ap|apply Ag|apply Am|apply Ar|apply Ax|apply Az|apply A6|apply Cf|apply Ah);· first|with_reducible rfl|(simp (disch:=omega) only [n1,n2,Int.reduceEq,Bn,Br]<;>with_reducible rfl))
   |((with_reducible first|apply Ao|apply Ak);· first|with_reducible rfl|omega|(simp (disch:=omega) only [gT,n1,n2,Int.reduceEq,Bn,Br]<;>omega))
   |(with_reducible apply Al;· first|with_reducible rfl|(simp (disch:=omega) only [gF,n1,n2,Int.reduceEq,Bn,Br]<;>omega))
  try simp (disch:=omega) only [n1,n2,Int.reduceEq,Bn,Br]
  all_goals rfl
 have q2:(decide ((1:Int)<=c.iss.size)&&decide ((c.iss.size:Int)<=32))=true:=by simp;omega
 rw [q2] at n2;cases e3:okS c.subj
 ·have hb:Be c=6:=by unfold Be;rw [A3 e1,A3 e2,Bk e3]
  rw [e3] at v1;rw [hb,A3 (by omega)]
  try unfold Aa
  repeat first
   |((with_reducible first|apply Ap|apply Ag|apply Am|apply Ar|apply Ax|apply Az|apply A6|apply Cf|apply Ah);· first|with_reducible rfl|(simp (disch:=omega) only [n1,n2,v1,Int.reduceEq,Bn,Br]<;>with_reducible rfl))
   |((with_reducible first|apply Ao|apply Ak);· first|with_reducible rfl|omega|(simp (disch:=omega) only [gT,n1,n2,v1,Int.reduceEq,Bn,Br]<;>omega))
   |(with_reducible apply Al;· first|with_reducible rfl|(simp (disch:=omega) only [gF,n1,n2,v1,Int.reduceEq,Bn,Br]<;>omega))
  try simp (disch:=omega) only [n1,n2,v1,Int.reduceEq,Bn,Br]
  all_goals rfl
 rw [e3] at v1;cases e4:okS c.iss
 ·have hb:Be c=6:=by unfold Be;rw [A3 e1,A3 e2,A3 (by simp [e3]),Bk e4]
  rw [e4] at v2;rw [hb,A3 (by omega)]
  try unfold Aa
  repeat first
   |((with_reducible first|apply Ap|apply Ag|apply Am|apply Ar|apply Ax|apply Az|apply A6|apply Cf|apply Ah);· first|with_reducible rfl|(simp (disch:=omega) only [n1,n2,v1,v2,Int.reduceEq,Bn,Br]<;>with_reducible rfl))
   |((with_reducible first|apply Ao|apply Ak);· first|with_reducible rfl|omega|(simp (disch:=omega) only [gT,n1,n2,v1,v2,Int.reduceEq,Bn,Br]<;>omega))
   |(with_reducible apply Al;· first|with_reducible rfl|(simp (disch:=omega) only [gF,n1,n2,v1,v2,Int.reduceEq,Bn,Br]<;>omega))
  try simp (disch:=omega) only [n1,n2,v1,v2,Int.reduceEq,Bn,Br]
  all_goals rfl
 rw [e4] at v2;cases e5:Df c.key.h
 rotate_left
 ·have hb:Be c=9:=by unfold Be;rw [A3 e1,A3 e2,A3 (by simp [e3]),A3 (by simp [e4]),Bk e5]
  rw [e5,Bk rfl] at ek;rw [hb,A3 (by omega)]
  try unfold Aa
  repeat first
   |((with_reducible first|apply Ap|apply Ag|apply Am|apply Ar|apply Ax|apply Az|apply A6|apply Cf|apply Ah);· first|with_reducible rfl|(simp (disch:=omega) only [n1,n2,v1,v2,ek,e90,e00,Int.reduceEq,Bn,Br]<;>with_reducible rfl))
   |((with_reducible first|apply Ao|apply Ak);· first|with_reducible rfl|omega|(simp (disch:=omega) only [gT,n1,n2,v1,v2,ek,e90,e00,Int.reduceEq,Bn,Br]<;>omega))
   |(with_reducible apply Al;· first|with_reducible rfl|(simp (disch:=omega) only [gF,n1,n2,v1,v2,ek,e90,e00,Int.reduceEq,Bn,Br]<;>omega))
  try simp (disch:=omega) only [n1,n2,v1,v2,ek,e90,e00,Int.reduceEq,Bn,Br]
  all_goals rfl
 rw [e5,A3 (by simp)] at ek
 have B0:Be c=if c.fr<0 then 9 else if c.un<c.fr then 9 else if c.un>1099511627776 then 9 else if c.path<0∨2<c.path then 9 else if c.path≠0∧c.auth=false then 4 else 0:=by
  unfold Be;rw [A3 e1,A3 e2,A3 (by simp [e3]),A3 (by simp [e4]),A3 (by simp [e5])]
 by_cases e6:c.fr<0
 ·have hb:Be c=9:=by rw [B0,Bk e6]
  rw [hb,A3 (by omega)]
  try unfold Aa
  repeat first
   |((with_reducible first|apply Ap|apply Ag|apply Am|apply Ar|apply Ax|apply Az|apply A6|apply Cf|apply Ah);· first|with_reducible rfl|(simp (disch:=omega) only [n1,n2,v1,v2,ek,e90,e00,Int.reduceEq,Bn,Br]<;>with_reducible rfl))
   |((with_reducible first|apply Ao|apply Ak);· first|with_reducible rfl|omega|(simp (disch:=omega) only [gT,n1,n2,v1,v2,ek,e90,e00,Int.reduceEq,Bn,Br]<;>omega))
   |(with_reducible apply Al;· first|with_reducible rfl|(simp (disch:=omega) only [gF,n1,n2,v1,v2,ek,e90,e00,Int.reduceEq,Bn,Br]<;>omega))
  try simp (disch:=omega) only [n1,n2,v1,v2,ek,e90,e00,Int.reduceEq,Bn,Br]
  all_goals rfl
 by_cases e7:c.un<c.fr
 ·have hb:Be c=9:=by rw [B0,A3 e6,Bk e7]
  rw [hb,A3 (by omega)]
  try unfold Aa
  repeat first
   |((with_reducible first|apply Ap|apply Ag|apply Am|apply Ar|apply Ax|apply Az|apply A6|apply Cf|apply Ah);· first|with_reducible rfl|(simp (disch:=omega) only [n1,n2,v1,v2,ek,e90,e00,Int.reduceEq,Bn,Br]<;>with_reducible rfl))
   |((with_reducible first|apply Ao|apply Ak);· first|with_reducible rfl|omega|(simp (disch:=omega) only [gT,n1,n2,v1,v2,ek,e90,e00,Int.reduceEq,Bn,Br]<;>omega))
   |(with_reducible apply Al;· first|with_reducible rfl|(simp (disch:=omega) only [gF,n1,n2,v1,v2,ek,e90,e00,Int.reduceEq,Bn,Br]<;>omega))
  try simp (disch:=omega) only [n1,n2,v1,v2,ek,e90,e00,Int.reduceEq,Bn,Br]
  all_goals rfl
 by_cases e8:c.un>1099511627776
 ·have hb:Be c=9:=by rw [B0,A3 e6,A3 e7,Bk e8]
  rw [hb,A3 (by omega)]
  try unfold Aa
  repeat first
   |((with_reducible first|apply Ap|apply Ag|apply Am|apply Ar|apply Ax|apply Az|apply A6|apply Cf|apply Ah);· first|with_reducible rfl|(simp (disch:=omega) only [n1,n2,v1,v2,ek,e90,e00,Int.reduceEq,Bn,Br]<;>with_reducible rfl))
   |((with_reducible first|apply Ao|apply Ak);· first|with_reducible rfl|omega|(simp (disch:=omega) only [gT,n1,n2,v1,v2,ek,e90,e00,Int.reduceEq,Bn,Br]<;>omega))
   |(with_reducible apply Al;· first|with_reducible rfl|(simp (disch:=omega) only [gF,n1,n2,v1,v2,ek,e90,e00,Int.reduceEq,Bn,Br]<;>omega))
  try simp (disch:=omega) only [n1,n2,v1,v2,ek,e90,e00,Int.reduceEq,Bn,Br]
  all_goals rfl
 by_cases e9:c.path<0∨2<c.path
 ·have hb:Be c=9:=by rw [B0,A3 e6,A3 e7,A3 e8,Bk e9]
  have:(decide ((0:Int)<=c.path)&&decide (c.path<=2))=false:=by simp;omega
  rw [this] at n3;rw [hb,A3 (by omega)]
  try unfold Aa
  repeat first
   |((with_reducible first|apply Ap|apply Ag|apply Am|apply Ar|apply Ax|apply Az|apply A6|apply Cf|apply Ah);· first|with_reducible rfl|(simp (disch:=omega) only [n1,n2,v1,v2,ek,e90,e00,n3,Int.reduceEq,Bn,Br]<;>with_reducible rfl))
   |((with_reducible first|apply Ao|apply Ak);· first|with_reducible rfl|omega|(simp (disch:=omega) only [gT,n1,n2,v1,v2,ek,e90,e00,n3,Int.reduceEq,Bn,Br]<;>omega))
   |(with_reducible apply Al;· first|with_reducible rfl|(simp (disch:=omega) only [gF,n1,n2,v1,v2,ek,e90,e00,n3,Int.reduceEq,Bn,Br]<;>omega))
  try simp (disch:=omega) only [n1,n2,v1,v2,ek,e90,e00,n3,Int.reduceEq,Bn,Br]
  all_goals rfl
 have q9:(decide ((0:Int)<=c.path)&&decide (c.path<=2))=true:=by simp;omega
 rw [q9] at n3;by_cases e10:c.path≠0∧c.auth=false
 ·have hb:Be c=4:=by rw [B0,A3 e6,A3 e7,A3 e8,A3 e9,Bk e10]
  have ea:=e10.2;have ep:(c.path != 0)=true:=by simp [e10.1]
  rw [hb,A3 (by omega)]
  try unfold Aa
  repeat first
   |((with_reducible first|apply Ap|apply Ag|apply Am|apply Ar|apply Ax|apply Az|apply A6|apply Cf|apply Ah);· first|with_reducible rfl|(simp (disch:=omega) only [n1,n2,v1,v2,ek,e90,e00,n3,ep,ea,Int.reduceEq,Bn,Br]<;>with_reducible rfl))
   |((with_reducible first|apply Ao|apply Ak);· first|with_reducible rfl|omega|(simp (disch:=omega) only [gT,n1,n2,v1,v2,ek,e90,e00,n3,ep,ea,Int.reduceEq,Bn,Br]<;>omega))
   |(with_reducible apply Al;· first|with_reducible rfl|(simp (disch:=omega) only [gF,n1,n2,v1,v2,ek,e90,e00,n3,ep,ea,Int.reduceEq,Bn,Br]<;>omega))
  try simp (disch:=omega) only [n1,n2,v1,v2,ek,e90,e00,n3,ep,ea,Int.reduceEq,Bn,Br]
  all_goals rfl
 have hb:Be c=0:=by rw [B0,A3 e6,A3 e7,A3 e8,A3 e9,A3 e10]
 rw [hb,Bk rfl];have a0:=Ang (fu:=fu) (d:=d+3) 9 (by omega) (by omega)
 have t1:=Ar3 (fu:=fu) (d:=d+3) c.subj;have t2:=Ar3 (fu:=fu) (d:=d+3) c.iss;have nu:=fun n=>Awb (fu:=fu) (d:=d+3) n
 have da:=A0t (fu:=fu) (d:=d+3) (G3 c.key);have k9:(G3 c.key).length=9:=rfl;rw [k9] at da;have bo:=Atu (fu:=fu) (d:=d+3) c.auth;have wf:IntKind.wrap .u64 c.fr=c.fr:=B7 (by omega) (by omega)
 have wu:IntKind.wrap .u64 c.un=c.un:=B7 (by omega) (by omega)
 have wp:IntKind.wrap .u64 c.path=c.path:=B7 (by omega) (by omega)
 have bi:=Aza (fu:=fu) (d:=d) (Abr hw hb) (by simp [Bb]) hfu
 have L9:=As .u8 (G3 c.key);rw [k9] at L9;have tk9:List.take 9 (Ai .u8 (G3 c.key))=Ai .u8 (G3 c.key):=I2 (by omega)
 have LB:=As .u8 (Bc (Bb c));have tB:=G4 .u8 (Bc (Bb c));generalize Bc (Bb c)=W at bi LB tB ⊢;simp only [Bb,Bq,List.flatMap_cons,List.flatMap_nil,It.cells,List.cons_append,Zzq,List.append_nil,H0,X2,B4,Nat.reduceAdd] at bi;have w0:IntKind.wrap .u64 (0:Int)=0:=rfl;by_cases ep:c.path=0
 ·rw [ep] at bi n3
  try unfold Aa
  repeat first
   |((with_reducible first|apply Ap|apply Ag|apply Am|apply Ar|apply Ax|apply Az|apply A6|apply Cf|apply Ah);· first|with_reducible rfl|(simp (disch:=omega) only [n1,n2,v1,v2,ek,e90,e00,n3,ep,w0,a0,t1,t2,nu,Bl,B4,Cm,L9,tk9,da,wf,wu,bo,bi,LB,tB,Int.reduceEq,Bn,Br]<;>with_reducible rfl))
   |((with_reducible first|apply Ao|apply Ak);· first|with_reducible rfl|omega|(simp (disch:=omega) only [gT,n1,n2,v1,v2,ek,e90,e00,n3,ep,w0,a0,t1,t2,nu,Bl,B4,Cm,L9,tk9,da,wf,wu,bo,bi,LB,tB,Int.reduceEq,Bn,Br]<;>omega))
   |(with_reducible apply Al;· first|with_reducible rfl|(simp (disch:=omega) only [gF,n1,n2,v1,v2,ek,e90,e00,n3,ep,w0,a0,t1,t2,nu,Bl,B4,Cm,L9,tk9,da,wf,wu,bo,bi,LB,tB,Int.reduceEq,Bn,Br]<;>omega))
  try simp (disch:=omega) only [n1,n2,v1,v2,ek,e90,e00,n3,ep,w0,a0,t1,t2,nu,Bl,B4,Cm,L9,tk9,da,wf,wu,bo,bi,LB,tB,Int.reduceEq,Bn,Br]
  all_goals rfl
 ·have ea:c.auth=true:=by
   cases h:c.auth
   ·exact absurd ⟨ep,h⟩ e10
   ·rfl
  rw [ea,Bk rfl] at bo bi;have ep:(c.path != 0)=true:=by simp [ep]
  try unfold Aa
  repeat first
   |((with_reducible first|apply Ap|apply Ag|apply Am|apply Ar|apply Ax|apply Az|apply A6|apply Cf|apply Ah);· first|with_reducible rfl|(simp (disch:=omega) only [n1,n2,v1,v2,ek,e90,e00,n3,ep,ea,a0,t1,t2,nu,Bl,B4,Cm,L9,tk9,da,wf,wu,wp,bo,bi,LB,tB,Int.reduceEq,Bn,Br]<;>with_reducible rfl))
   |((with_reducible first|apply Ao|apply Ak);· first|with_reducible rfl|omega|(simp (disch:=omega) only [gT,n1,n2,v1,v2,ek,e90,e00,n3,ep,ea,a0,t1,t2,nu,Bl,B4,Cm,L9,tk9,da,wf,wu,wp,bo,bi,LB,tB,Int.reduceEq,Bn,Br]<;>omega))
   |(with_reducible apply Al;· first|with_reducible rfl|(simp (disch:=omega) only [gF,n1,n2,v1,v2,ek,e90,e00,n3,ep,ea,a0,t1,t2,nu,Bl,B4,Cm,L9,tk9,da,wf,wu,wp,bo,bi,LB,tB,Int.reduceEq,Bn,Br]<;>omega))
  try simp (disch:=omega) only [n1,n2,v1,v2,ek,e90,e00,n3,ep,ea,a0,t1,t2,nu,Bl,B4,Cm,L9,tk9,da,wf,wu,wp,bo,bi,LB,tB,Int.reduceEq,Bn,Br]
  all_goals rfl
end
end
section
def Af5 (s:Sg):Int:=if Df s.path.length=true then 9 else if Ga s.leaf s.path.length=true then 9 else if s.chains.length≠18 then 4 else 0
def Dv (c:Ce):Int:=if Be c=0 then Af5 c.sig else Be c
def Es (c:Ce):List Int:=Bc (Bb c)++Mv c.sig
def Ab1 (c:Ce):List PV:=if Dv c=0 then [.own 1 (Es c).length (Ai .u8 (Es c)),.sc (.int .i64 0)] else [.own 1 0 [],.sc (.int .i64 (Dv c))]
def Rj (c:Ce):Int:=Et 14 (Bc (Bb c))
def Ns (c:Ce)(k:Ky):Int:=if Be c=0 then Jj k (Rj c) c.sig else Be c
def ce0:Ce:=⟨C2,C2,0,⟨0,0⟩,0,0,false,0,0,⟨0,[],[]⟩⟩
def Ar0 (c:Ce)(seed h leaf:Int):Ce × Int:=
 if Be c=0 then (match Amp seed h leaf (Rj c) with|some s=>({ c with sig:=s },0)|none=>(ce0,9)) else (ce0,Be c)
theorem Jb {c:Ce}(h:Be c=0):(Bc (Bb c)).length<=200:=by
 have k9:(Bo (G3 c.key)).size=9:=by rw [Ey];rfl
 have ns:C2.size=0:=rfl;unfold Be at h
 have hs:c.subj.size<=32∧c.iss.size<=32:=by
  split at h
  ·cases h
  ·split at h
   ·cases h
   ·omega
 have e:Bc (Bb c)=Bv ⟨5,9,C2⟩++(Bv ⟨4,0,c.subj⟩++(Bv ⟨4,0,c.iss⟩++(Bv ⟨1,c.serial,C2⟩++(Bv ⟨3,0,Bo (G3 c.key)⟩++(Bv ⟨1,c.fr,C2⟩++(Bv ⟨1,c.un,C2⟩++(Bv ⟨7,(if c.auth=true then 1 else 0),C2⟩++(Bv ⟨1,c.path,C2⟩++(Bv ⟨1,c.model,C2⟩++[]))))))))):=rfl
 rw [e];simp only [Ic,X2];have i1:=Ho ⟨5,9,C2⟩;have i2:=Ho ⟨4,0,c.subj⟩;have i3:=Ho ⟨4,0,c.iss⟩;have i4:=Ho ⟨1,c.serial,C2⟩;have i5:=Ho ⟨3,0,Bo (G3 c.key)⟩;have i6:=Ho ⟨1,c.fr,C2⟩;have i7:=Ho ⟨1,c.un,C2⟩;have i8:=Ho ⟨7,(if c.auth=true then 1 else 0),C2⟩
 have i9:=Ho ⟨1,c.path,C2⟩;have i0:=Ho ⟨1,c.model,C2⟩;simp only [ns,k9] at i1 i2 i3 i4 i5 i6 i7 i8 i9 i0;omega
theorem Z4 {c:Ce}(hw:c.wf)(h:Be c=0):Gn (Bc (Bb c)):=by
 intro y hy;obtain ⟨x,hx,hy⟩:=List.mem_flatMap.1 hy;have:=(Abr hw h x hx).1;exact Axt this.k1 this.k8 this.n0 y hy
theorem A0a {seed h leaf m:Int}{s:Sg}(e:Amp seed h leaf m=some s):s.chains.length=18∧s.path.length<=4:=by
 unfold Amp at e;split at e
 ·cases e
 ·rename_i hh;split at e
  ·cases e
  ·cases e;have:=Gi (by simpa using hh)
   simp [Aa2];omega
section
variable {fu d:Nat} {c:Ce}
theorem Awq (hfu:1000<=fu)(hw:c.wf)(hs1:c.subj.size<=9223372036854775807)(hs2:c.iss.size<=9223372036854775807)(hp:c.sig.path.length<=1000000000):Ae C0 Tryz.prog fu (d+6) Na [.agg c.cells]=some ⟨Ab1 c,[]⟩:=by
 refine (Xi fu (d+5) c.subj c.iss c.serial c.key.h c.key.root c.fr c.un c.auth c.path c.model c.sig.leaf c.sig.chains.length (Ai .u64 c.sig.chains) c.sig.path.length (Ai .u64 c.sig.path)).trans ?_;have bq:=Aef (fu:=fu) (d:=d) hfu hw hs1 hs2;simp only [Ce.cells] at bq;have es:=Acr (fu:=fu) (d:=d+3) hfu c.sig hp;simp only [Sg.cells] at es;unfold Gr at bq;unfold Ab1 Dv;by_cases h0:Be c=0
 ·have lb:=Jb h0;rw [Bk h0] at bq;rw [Bk h0];have L1:=As .u8 (Bc (Bb c));have t1:=G4 .u8 (Bc (Bb c));have e00:((0:Int) != 0)=false:=rfl;have e90:((9:Int) != 0)=true:=rfl;have e40:((4:Int) != 0)=true:=rfl;unfold Af5;by_cases g1:Df c.sig.path.length=true
  ·rw [Bk g1] at es;rw [Bk g1,A3 (by omega)]
   try unfold Aa
   repeat first
    |((with_reducible first|apply Ap|apply Ag|apply Am|apply Az|apply A6|apply Ah);· first|with_reducible rfl|(simp (disch:=omega) only [bq,es,e00,e90]<;>with_reducible rfl))
    |((with_reducible first|apply Ao|apply Ak);· first|with_reducible rfl|omega|(simp (disch:=omega) only [gT,bq,es,e00,e90]<;>omega))
    |(with_reducible apply Al;· first|with_reducible rfl|(simp (disch:=omega) only [gF,bq,es,e00,e90]<;>omega))
   try simp (disch:=omega) only [bq,es,e00,e90]
   all_goals rfl
  rw [A3 g1] at es;rw [A3 g1];by_cases g2:Ga c.sig.leaf c.sig.path.length=true
  ·rw [Bk g2] at es;rw [Bk g2,A3 (by omega)]
   try unfold Aa
   repeat first
    |((with_reducible first|apply Ap|apply Ag|apply Am|apply Az|apply A6|apply Ah);· first|with_reducible rfl|(simp (disch:=omega) only [bq,es,e00,e90]<;>with_reducible rfl))
    |((with_reducible first|apply Ao|apply Ak);· first|with_reducible rfl|omega|(simp (disch:=omega) only [gT,bq,es,e00,e90]<;>omega))
    |(with_reducible apply Al;· first|with_reducible rfl|(simp (disch:=omega) only [gF,bq,es,e00,e90]<;>omega))
   try simp (disch:=omega) only [bq,es,e00,e90]
   all_goals rfl
  rw [A3 g2] at es;rw [A3 g2];by_cases g3:c.sig.chains.length≠18
  ·rw [Bk g3] at es;rw [Bk g3,A3 (by omega)]
   try unfold Aa
   repeat first
    |((with_reducible first|apply Ap|apply Ag|apply Am|apply Az|apply A6|apply Ah);· first|with_reducible rfl|(simp (disch:=omega) only [bq,es,e00,e40]<;>with_reducible rfl))
    |((with_reducible first|apply Ao|apply Ak);· first|with_reducible rfl|omega|(simp (disch:=omega) only [gT,bq,es,e00,e40]<;>omega))
    |(with_reducible apply Al;· first|with_reducible rfl|(simp (disch:=omega) only [gF,bq,es,e00,e40]<;>omega))
   try simp (disch:=omega) only [bq,es,e00,e40]
   all_goals rfl
  rw [A3 g3] at es;rw [A3 g3,Bk rfl];have hb4:=Gi (h:=c.sig.path.length) (by simpa using g1)
  have ls:(Mv c.sig).length=2+8*c.sig.chains.length+8*c.sig.path.length:=by
   unfold Mv;simp only [H0,Ic,Db];omega
  have L2:=As .u8 (Mv c.sig);have t2:=G4 .u8 (Mv c.sig)
  have ea:Ai .u8 (Bc (Bb c))++Ai .u8 (Mv c.sig)=Ai .u8 (Es c):=by
   unfold Es;rw [Ai,Ai,Ai,List.flatMap_append]
  have le:(Es c).length=(Bc (Bb c)).length+(Mv c.sig).length:=by unfold Es;rw [Ic]
  have L3:=As .u8 (Es c);have t3:List.take ((Bc (Bb c)).length+(Mv c.sig).length) (Ai .u8 (Es c))=Ai .u8 (Es c):=I2 (by omega)
  rw [le] at L3 ⊢;generalize (Bc (Bb c)).length=n1 at *
  generalize (Mv c.sig).length=n2 at *
  generalize Ai .u8 (Bc (Bb c))=c1 at *
  generalize Ai .u8 (Mv c.sig)=c2 at *
  try unfold Aa
  repeat first
   |((with_reducible first|apply Ap|apply Ag|apply Am|apply Az|apply A6|apply Ah);· first|with_reducible rfl|(simp (disch:=omega) only [bq,es,e00,Bl,B4,Cm,L1,t1,L2,t2,ea,L3,t3]<;>with_reducible rfl))
   |((with_reducible first|apply Ao|apply Ak);· first|with_reducible rfl|omega|(simp (disch:=omega) only [gT,bq,es,e00,Bl,B4,Cm,L1,t1,L2,t2,ea,L3,t3]<;>omega))
   |(with_reducible apply Al;· first|with_reducible rfl|(simp (disch:=omega) only [gF,bq,es,e00,Bl,B4,Cm,L1,t1,L2,t2,ea,L3,t3]<;>omega))
  try simp (disch:=omega) only [bq,es,e00,Bl,B4,Cm,L1,t1,L2,t2,ea,L3,t3]
  all_goals rfl
 ·have hne:(Be c != 0)=true:=by simp [h0]
  rw [A3 h0] at bq;rw [A3 h0,A3 h0]
  try unfold Aa
  repeat first
   |((with_reducible first|apply Ap|apply Ag|apply Am|apply Az|apply A6|apply Ah);· first|with_reducible rfl|(simp (disch:=omega) only [bq,hne]<;>with_reducible rfl))
   |((with_reducible first|apply Ao|apply Ak);· first|with_reducible rfl|omega|(simp (disch:=omega) only [gT,bq,hne]<;>omega))
   |(with_reducible apply Al;· first|with_reducible rfl|(simp (disch:=omega) only [gF,bq,hne]<;>omega))
  try simp (disch:=omega) only [bq,hne]
  all_goals rfl
theorem Ary (hfu:1000<=fu)(hw:c.wf)(hs1:c.subj.size<=9223372036854775807)(hs2:c.iss.size<=9223372036854775807)(k:Ky):Ae C0 Tryz.prog fu (d+8) Nd [.agg c.cells,.agg k.cells]=some ⟨[.sc (.int .i64 (Ns c k))],[]⟩:=by
 refine (Xp fu (d+7) c.subj c.iss c.serial c.key.h c.key.root c.fr c.un c.auth c.path c.model c.sig.leaf c.sig.chains.length (Ai .u64 c.sig.chains) c.sig.path.length (Ai .u64 c.sig.path) k.h k.root).trans ?_;have bq:=Aef (fu:=fu) (d:=d+2) hfu hw hs1 hs2;simp only [Ce.cells] at bq;unfold Gr at bq;unfold Ns;by_cases h0:Be c=0
 ·have lb:=Jb h0;rw [Bk h0] at bq;rw [Bk h0];have e00:((0:Int) != 0)=false:=rfl;have hh:=Uv (fu:=fu) (d:=d+3) (Z4 hw h0) (by omega) (by omega) (by omega) 14
  have vr:=Acl (fu:=fu) (d:=d) hfu k (Rj c) c.sig;simp only [Ky.cells,Sg.cells] at vr;have eW:Et 14 (Bc (Bb c))=Rj c:=rfl;rw [eW] at hh;have L1:=As .u8 (Bc (Bb c));have t1:=G4 .u8 (Bc (Bb c));generalize (Bc (Bb c)).length=n1 at *
  generalize Ai .u8 (Bc (Bb c))=c1 at *
  try unfold Aa
  repeat first
   |((with_reducible first|apply Ap|apply Ag|apply Am|apply Az|apply A6|apply Ah);· first|with_reducible rfl|(simp (disch:=omega) only [bq,e00,Bl,B4,Cm,L1,t1,hh,vr]<;>with_reducible rfl))
   |((with_reducible first|apply Ao|apply Ak);· first|with_reducible rfl|omega|(simp (disch:=omega) only [gT,bq,e00,Bl,B4,Cm,L1,t1,hh,vr]<;>omega))
   |(with_reducible apply Al;· first|with_reducible rfl|(simp (disch:=omega) only [gF,bq,e00,Bl,B4,Cm,L1,t1,hh,vr]<;>omega))
  try simp (disch:=omega) only [bq,e00,Bl,B4,Cm,L1,t1,hh,vr]
  all_goals rfl
 ·have hne:(Be c != 0)=true:=by simp [h0]
  rw [A3 h0] at bq;rw [A3 h0]
  try unfold Aa
  repeat first
   |((with_reducible first|apply Ap|apply Ag|apply Am|apply Az|apply A6|apply Ah);· first|with_reducible rfl|(simp (disch:=omega) only [bq,hne]<;>with_reducible rfl))
   |((with_reducible first|apply Ao|apply Ak);· first|with_reducible rfl|omega|(simp (disch:=omega) only [gT,bq,hne]<;>omega))
   |(with_reducible apply Al;· first|with_reducible rfl|(simp (disch:=omega) only [gF,bq,hne]<;>omega))
  try simp (disch:=omega) only [bq,hne]
  all_goals rfl
theorem Ayj (hfu:1000<=fu)(hw:c.wf)(hs1:c.subj.size<=9223372036854775807)(hs2:c.iss.size<=9223372036854775807)(seed h leaf:Int):Ae C0 Tryz.prog fu (d+13) Px [.agg c.cells,.sc (.int .u64 seed),.sc (.int .i64 h),.sc (.int .i64 leaf)]=some ⟨[.agg (Ar0 c seed h leaf).1.cells,.sc (.int .i64 (Ar0 c seed h leaf).2)],[]⟩:=by
 refine (Aap fu (d+12) c.subj c.iss c.serial c.key.h c.key.root c.fr c.un c.auth c.path c.model c.sig.leaf c.sig.chains.length (Ai .u64 c.sig.chains) c.sig.path.length (Ai .u64 c.sig.path) seed h leaf).trans ?_;have bq:=Aef (fu:=fu) (d:=d+7) hfu hw hs1 hs2;simp only [Ce.cells] at bq;unfold Gr at bq;unfold Ar0;by_cases h0:Be c=0
 ·have lb:=Jb h0;rw [Bk h0] at bq;rw [Bk h0];have e00:((0:Int) != 0)=false:=rfl;have e90:((9:Int) != 0)=true:=rfl;have hh:=Uv (fu:=fu) (d:=d+8) (Z4 hw h0) (by omega) (by omega) (by omega) 14
  have sg:=Ajh (fu:=fu) (d:=d) hfu seed h leaf (Rj c);have eW:Et 14 (Bc (Bb c))=Rj c:=rfl;rw [eW] at hh;have L1:=As .u8 (Bc (Bb c));have t1:=G4 .u8 (Bc (Bb c));generalize (Bc (Bb c)).length=n1 at *
  generalize Ai .u8 (Bc (Bb c))=c1 at *
  cases hs:Amp seed h leaf (Rj c) with
  |none=>
   rw [hs] at sg;simp only [Aed,Sg.owned,X2] at sg
   try unfold Aa
   repeat first
    |((with_reducible first|apply Ap|apply Ag|apply Am|apply Az|apply A6|apply Ah);· first|with_reducible rfl|(simp (disch:=omega) only [bq,e00,e90,Bl,B4,Cm,L1,t1,hh,sg]<;>with_reducible rfl))
    |((with_reducible first|apply Ao|apply Ak);· first|with_reducible rfl|omega|(simp (disch:=omega) only [gT,bq,e00,e90,Bl,B4,Cm,L1,t1,hh,sg]<;>omega))
    |(with_reducible apply Al;· first|with_reducible rfl|(simp (disch:=omega) only [gF,bq,e00,e90,Bl,B4,Cm,L1,t1,hh,sg]<;>omega))
   try simp (disch:=omega) only [bq,e00,e90,Bl,B4,Cm,L1,t1,hh,sg]
   all_goals rfl
  |some s=>
   rw [hs] at sg;simp only [Aed,Sg.owned] at sg;have hl:=A0a hs;have La:=As .u64 s.chains;have Lb:=As .u64 s.path;have ta:=G4 .u64 s.chains;have tb:=G4 .u64 s.path
   try unfold Aa
   repeat first
    |((with_reducible first|apply Ap|apply Ag|apply Am|apply Az|apply A6|apply Ah);· first|with_reducible rfl|(simp (disch:=omega) only [bq,e00,Bl,B4,Cm,L1,t1,hh,sg,La,Lb,ta,tb]<;>with_reducible rfl))
    |((with_reducible first|apply Ao|apply Ak);· first|with_reducible rfl|omega|(simp (disch:=omega) only [gT,bq,e00,Bl,B4,Cm,L1,t1,hh,sg,La,Lb,ta,tb]<;>omega))
    |(with_reducible apply Al;· first|with_reducible rfl|(simp (disch:=omega) only [gF,bq,e00,Bl,B4,Cm,L1,t1,hh,sg,La,Lb,ta,tb]<;>omega))
   try simp (disch:=omega) only [bq,e00,Bl,B4,Cm,L1,t1,hh,sg,La,Lb,ta,tb]
   all_goals rfl
 ·have hne:(Be c != 0)=true:=by simp [h0]
  rw [A3 h0] at bq;rw [A3 h0]
  try unfold Aa
  repeat first
   |((with_reducible first|apply Ap|apply Ag|apply Am|apply Az|apply A6|apply Ah);· first|with_reducible rfl|(simp (disch:=omega) only [bq,hne]<;>with_reducible rfl))
   |((with_reducible first|apply Ao|apply Ak);· first|with_reducible rfl|omega|(simp (disch:=omega) only [gT,bq,hne]<;>omega))
   |(with_reducible apply Al;· first|with_reducible rfl|(simp (disch:=omega) only [gF,bq,hne]<;>omega))
  try simp (disch:=omega) only [bq,hne]
  all_goals rfl
end
end
section
structure Hs where
 p:Bool
 left:Int
 last:List Int
def Hs.cells (f:Hs):List PV:=[.sc (.bool f.p),.sc (.int .i64 f.left),.lst false 1 f.last.length (Ai .u8 f.last)]
def Ft (l:List Hs):List PV:=l.flatMap Hs.cells
theorem Hs.cells_len (f:Hs):f.cells.length=3:=rfl
theorem Ds (l:List Hs):(Ft l).length=l.length*3:=Ald Hs.cells_len l
theorem D9 (l:List Hs):List.take (l.length*3) (Ft l)=Ft l:=I2 (by rw [Ds];omega)
def Ug (l:List Hs):Bool:=match l.getLast? with|some f=>f.p&&(Int.tmod f.left 2==0)|none=>false
def Kt (l:List Hs)(cnt k:Int):Int:=
 if cnt>=512 then 8 else if k<1 then 3 else if k>8 then 3 else if Ug l=true∧k≠1∧k≠2∧k≠4 then 3 else if (l.length:Int)>8 then 5 else 0
abbrev Mx (l:List Hs)(cnt:Int):List PV:=[.own 3 l.length (Ft l),.sc (.int .i64 cnt)]
section
variable {fu d:Nat}
theorem Apx (l:List Hs)(cnt:Int):Ae C0 Tryz.prog fu (d+1) U7 [.pbox (Mx l cnt)]=some ⟨[.sc (.bool (decide (cnt>0)&&((l.length:Int)==0)))],[Mx l cnt]⟩:=by
 rw [Af0];have L:=Ds l;have t:=D9 l;by_cases h:cnt>0
 ·simp (disch:=omega) only [B6,h,decide_true,Zzm,L,t]
 ·simp (disch:=omega) only [B6,h,decide_false,Bool.false_and,L,t]
theorem Ajq {l:List Hs}(hl:l.length<=1000000)(cnt:Int):Ae C0 Tryz.prog fu (d+1) S7 [.pbox (Mx l cnt)]=some ⟨[.sc (.bool (Ug l))],[Mx l cnt]⟩:=by
 rw [Ac6];have L:=Ds l;have t:=D9 l;unfold Ug;rcases List.eq_nil_or_concat l with rfl|⟨l',f,rfl⟩
 ·have e0:¬(((([]:List Hs).length:Nat):Int)>0):=by simp
  simp (disch:=first|assumption|omega) only [B6,L,t]
  first|done|rfl
 ·have hn:(l'.concat f).length=l'.length+1:=by simp
  have hx:(l'.concat f)[l'.length]?=some f:=by simp
  have gl:(l'.concat f).getLast?=some f:=by simp
  have w:IntKind.wrap .i64 (((l'.concat f).length:Int)-1)=(l'.length:Int):=by rw [Au (by omega) (by omega)];omega
  have g0:(Ft (l'.concat f)).getD (l'.length*3) .top=.sc (.bool f.p):=D3 Hs.cells_len hx (j:=0) (by omega)
  have g1:(Ft (l'.concat f)).getD (l'.length*3+1) .top=.sc (.int .i64 f.left):=D3 Hs.cells_len hx (j:=1) (by omega)
  rw [gl];cases hp:f.p
  ·rw [hp] at g0;simp (disch:=omega) only [B6,w,G6,B4,Lu,g0,L,t,hp,Bool.false_and]
  ·rw [hp] at g0;simp (disch:=omega) only [B6,w,G6,B4,Lu,g0,g1,L,t,hp,Zzm]
theorem Atq {l:List Hs}(hl:l.length<=1000000)(cnt k:Int):Ae C0 Tryz.prog fu (d+2) S2 [.pbox (Mx l cnt),.sc (.int .i64 k)]=some ⟨[.sc (.int .i64 (Kt l cnt k))],[Mx l cnt]⟩:=by
 refine (Aej fu (d+1) l.length (Ft l) cnt k).trans ?_;have L:=Ds l;have t:=D9 l;have ak:=Ajq (fu:=fu) (d:=d) hl cnt;unfold Mx at ak;unfold Kt;by_cases c1:cnt>=512
 ·rw [Bk c1];simp (disch:=omega) only [B6,L,t]
 rw [A3 c1];by_cases c2:k<1
 ·rw [Bk c2];simp (disch:=omega) only [B6,L,t]
 rw [A3 c2];by_cases c3:k>8
 ·rw [Bk c3];simp (disch:=omega) only [B6,L,t]
 rw [A3 c3];cases ha:Ug l
 ·rw [ha] at ak;rw [A3 (by simp)]
  by_cases c5:(l.length:Int)>8
  ·rw [Bk c5];simp (disch:=omega) only [B6,L,t,ak]
  ·rw [A3 c5];simp (disch:=omega) only [B6,L,t,ak]
 ·rw [ha] at ak;by_cases c4:k≠1∧k≠2∧k≠4
  ·rw [Bk ⟨rfl,c4⟩];simp (disch:=omega) only [B6,L,t,ak,Do];rw [A3 c4.1,A3 c4.2.1,A3 c4.2.2]
  ·rw [A3 (fun h=>c4 h.2)]
   have hk:k=1∨k=2∨k=4:=by omega
   by_cases c5:(l.length:Int)>8
   ·rw [Bk c5];rcases hk with rfl|rfl|rfl<;>simp (disch:=omega) only [B6,L,t,ak,Do,Int.reduceEq,if_true,if_false]
   ·rw [A3 c5];rcases hk with rfl|rfl|rfl<;>simp (disch:=omega) only [B6,L,t,ak,Do,Int.reduceEq,if_true,if_false]
end
end
section
theorem O3 (l:List Hs):l=[]∨∃l' f,l=l'++[f]:=by
 rcases List.eq_nil_or_concat l with h|⟨a,b,h⟩
 ·exact .inl h
 ·exact .inr ⟨a,b,by simpa using h⟩
def Agb (l:List Hs):List Hs:=(l.reverse.dropWhile fun f=>f.left==0).reverse
theorem Aog {l:List Hs}{f:Hs}(h:f.left=0):Agb (l++[f])=Agb l:=by
 unfold Agb;rw [List.reverse_append,List.reverse_singleton,List.singleton_append,List.dropWhile_cons_of_pos (by simp [h])]
theorem Aiu {l:List Hs}{f:Hs}(h:f.left≠0):Agb (l++[f])=l++[f]:=by
 unfold Agb;rw [List.reverse_append,List.reverse_singleton,List.singleton_append,List.dropWhile_cons_of_neg (by simp [h])]
 simp
def Ak2 (l:List Hs):List Hs:=match l.getLast? with|some f=>l.dropLast++[⟨f.p,IntKind.wrap .i64 (f.left-1),f.last⟩]|none=>[]
def Aoz (l:List Hs)(x:It):List Hs:=
 if x.k=5∧x.n>0 then l++[⟨false,IntKind.wrap .i64 x.n,[]⟩] else if x.k=6∧x.n>0 then l++[⟨true,IntKind.wrap .i64 (2*IntKind.wrap .i64 x.n),[]⟩] else l
def Gh (l:List Hs)(x:It):List Hs:=Agb (Aoz (Ak2 l) x)
theorem Ya (l:List Hs)(f:Hs):Ak2 (l++[f])=l++[⟨f.p,IntKind.wrap .i64 (f.left-1),f.last⟩]:=by
 unfold Ak2;simp
theorem Ak7 (l:List Hs):(Ak2 l).length=l.length:=by
 rcases O3 l with rfl|⟨l',f,rfl⟩
 ·rfl
 ·rw [Ya];simp
theorem U8 (a b:List Hs):Ft (a++b)=Ft a++Ft b:=by
 unfold Ft;rw [List.flatMap_append]
theorem Um (f:Hs):Ft [f]=f.cells:=by
 unfold Ft;simp
section
variable {fu d:Nat}
theorem Anc {call:Aq}{a0_0n:Nat}{a0_0:List PV}{a0_1 a1_0 a1_1:Int}{a1_2:ByteArray}{c:Int}:∀(n:Nat)(l:List Hs)(r:List PV)(nn:Nat),l.length=n->n<nn->n<=1000000 ->
  Bi fu call a0_0n a0_0 a0_1 a1_0 a1_1 a1_2 nn (l.length:Int) l.length c (Ft l++r)=some ⟨[],[Mx (Agb l) c]⟩:=by
 intro n
 induction n with
 |zero=>
  intro l r nn hl hn _;obtain rfl:l=[]:=List.eq_nil_of_length_eq_zero hl;obtain ⟨m,rfl⟩:∃m,nn=m+1:=⟨nn-1,by omega⟩
  have e0:¬(((([]:List Hs).length:Nat):Int)>0):=by simp
  have e1:([]:List Hs).length*3<=(Ft []++r).length:=by simp
  rw [P4];simp (disch:=first|assumption|omega) only [B6];rfl
 |succ n ih=>
  intro l r nn hl hn hm;obtain ⟨m,rfl⟩:∃m,nn=m+1:=⟨nn-1,by omega⟩
  rcases O3 l with rfl|⟨l',f,rfl⟩
  ·simp at hl
  have hn':(l'++[f]).length=l'.length+1:=by simp
  have hx:(l'++[f])[l'.length]?=some f:=by simp
  have w:IntKind.wrap .i64 (((l'++[f]).length:Int)-1)=(l'.length:Int):=by rw [Au (by omega) (by omega)];omega
  have L:=Ds (l'++[f]);have L2:(Ft (l'++[f])++r).length=(l'++[f]).length*3+r.length:=by rw [Ic,L]
  have t:List.take ((l'++[f]).length*3) (Ft (l'++[f])++r)=Ft (l'++[f]):=by rw [←L,List.take_left'];rfl
  have g1:(Ft (l'++[f])++r).getD (l'.length*3+1) .top=.sc (.int .i64 f.left):=by
   have:=D3 (f:=Hs.cells) Hs.cells_len hx (j:=1) (by omega)
   rw [List.getD_eq_getElem?_getD,List.getElem?_append_left (by rw [L];omega),←List.getD_eq_getElem?_getD]
   exact this
  rw [P4];by_cases hz:f.left=0
  ·have e:Ft (l'++[f])++r=Ft l'++(f.cells++r):=by rw [U8,Um,Zzv]
   have q:=ih l' (f.cells++r) m (by omega) (by omega) (by omega)
   rw [←e] at q;rw [Aog hz];have hb:(f.left==(0:Int))=true:=by simp [hz]
   simp (disch:=omega) only [B6,w,G6,B4,Nat.sub_zero,g1,hb,q]
  ·rw [Aiu hz];have hb:(f.left==(0:Int))=false:=by simp [hz]
   simp (disch:=omega) only [B6,w,G6,B4,g1,hb,L2,t]
theorem Axv {l:List Hs}{x:It}{cnt:Int}(hl:l.length<=100000)(hf:l.length+1<fu)(h0:0<=cnt)(h1:cnt<=1000000):
  Ae C0 Tryz.prog fu (d+1) Vl [.pbox (Mx l cnt),.agg x.cells]=some ⟨[],[Mx (Gh l x) (cnt+1)]⟩:=by
 obtain ⟨k,v,s⟩:=x;refine (Afd fu d l.length (Ft l) cnt k v s).trans ?_;have w1:IntKind.wrap .i64 (cnt+1)=cnt+1:=Au (by omega) (by omega)
 unfold Gh Aoz;have DL:=Ak7 l;generalize hD:Ak2 l=l1 at DL ⊢;have L1:(Ft l1).length=l.length*3:=by rw [Ds,DL]
 have t1:List.take (l.length*3) (Ft l1)=Ft l1:=I2 (by omega)
 have p5:∀b u,Ft l1++[.sc (.bool b),.sc (.int .i64 u),.lst false 1 0 []]=Ft (l1++[⟨b,u,[]⟩]):=by
  intro b u;rw [U8,Um];rfl
 have lp0:∀call,Bi fu call l.length (Ft l) cnt k v s fu (l.length:Int) l.length (cnt+1) (Ft l1)=some ⟨[],[Mx (Agb l1) (cnt+1)]⟩:=by
  intro call;have:=Anc (fu:=fu) (call:=call) (a0_0n:=l.length) (a0_0:=Ft l) (a0_1:=cnt) (a1_0:=k) (a1_1:=v) (a1_2:=s) (c:=cnt+1) _ l1 [] fu rfl (by omega) (by omega)
  rw [List.append_nil,DL] at this;exact this
 have lp1:∀call f,Bi fu call l.length (Ft l) cnt k v s fu ((l.length+1:Nat):Int) (l.length+1) (cnt+1) (Ft (l1++[f]))=some ⟨[],[Mx (Agb (l1++[f])) (cnt+1)]⟩:=by
  intro call f;have ll:(l1++[f]).length=l.length+1:=by simp [DL]
  have:=Anc (fu:=fu) (call:=call) (a0_0n:=l.length) (a0_0:=Ft l) (a0_1:=cnt) (a1_0:=k) (a1_1:=v) (a1_2:=s) (c:=cnt+1) _ (l1++[f]) [] fu rfl (by omega) (by omega)
  rw [List.append_nil,ll] at this;exact this
 rcases O3 l with rfl|⟨l',f,rfl⟩
 ·have e0:¬(((([]:List Hs).length:Nat):Int)>0):=by simp
  obtain rfl:l1=[]:=by rw [←hD];rfl
  by_cases k5:k=5
  ·subst k5;by_cases hv:v>0
   ·rw [Bk ⟨rfl,hv⟩];simp (disch:=first|assumption|omega) only [B6,w1,L1,t1,p5,lp1,Int.reduceBEq]
   ·rw [A3 (fun h=>hv h.2),A3 (fun h=>hv h.2)]
    simp (disch:=first|assumption|omega) only [B6,w1,L1,t1,p5,lp0,Int.reduceBEq]
  ·have b5:(k==(5:Int))=false:=by simp [k5]
   rw [A3 (fun h=>k5 h.1)]
   by_cases k6:k=6
   ·subst k6;by_cases hv:v>0
    ·rw [Bk ⟨rfl,hv⟩];simp (disch:=first|assumption|omega) only [B6,w1,L1,t1,p5,lp1,Int.reduceBEq]
    ·rw [A3 (fun h=>hv h.2)]
     simp (disch:=first|assumption|omega) only [B6,w1,L1,t1,p5,lp0,Int.reduceBEq]
   ·have b6:(k==(6:Int))=false:=by simp [k6]
    rw [A3 (fun h=>k6 h.1)]
    simp (disch:=first|assumption|omega) only [B6,w1,L1,t1,p5,lp0,b5,b6]
 ·have hn':(l'++[f]).length=l'.length+1:=by simp
  have hx:(l'++[f])[l'.length]?=some f:=by simp
  have w:IntKind.wrap .i64 (((l'++[f]).length:Int)-1)=(l'.length:Int):=by rw [Au (by omega) (by omega)];omega
  have L:=Ds (l'++[f]);have g1:(Ft (l'++[f])).getD (l'.length*3+1) .top=.sc (.int .i64 f.left):=D3 Hs.cells_len hx (j:=1) (by omega)
  have sp:Cb (Ft (l'++[f])) [.sc (.int .i64 (IntKind.wrap .i64 (f.left-1)))] (l'.length*3+1)=Ft l1:=by
   rw [Kp (by omega),←hD,Ya,U8,U8,Um,Um]
   have:=Ds l';rw [List.set_append_right _ _ (by omega)]
   have:l'.length*3+1-(Ft l').length=1:=by omega
   rw [this];rfl
  by_cases k5:k=5
  ·subst k5;by_cases hv:v>0
   ·rw [Bk ⟨rfl,hv⟩];simp (disch:=first|assumption|omega) only [B6,w,w1,G6,B4,g1,sp,L1,t1,p5,lp1,Int.reduceBEq]
   ·rw [A3 (fun h=>hv h.2),A3 (fun h=>hv h.2)]
    simp (disch:=first|assumption|omega) only [B6,w,w1,G6,B4,g1,sp,L1,t1,p5,lp0,Int.reduceBEq]
  ·have b5:(k==(5:Int))=false:=by simp [k5]
   rw [A3 (fun h=>k5 h.1)]
   by_cases k6:k=6
   ·subst k6;by_cases hv:v>0
    ·rw [Bk ⟨rfl,hv⟩];simp (disch:=first|assumption|omega) only [B6,w,w1,G6,B4,g1,sp,L1,t1,p5,lp1,Int.reduceBEq]
    ·rw [A3 (fun h=>hv h.2)]
     simp (disch:=first|assumption|omega) only [B6,w,w1,G6,B4,g1,sp,L1,t1,p5,lp0,Int.reduceBEq]
   ·have b6:(k==(6:Int))=false:=by simp [k6]
    rw [A3 (fun h=>k6 h.1)]
    simp (disch:=first|assumption|omega) only [B6,w,w1,G6,B4,g1,sp,L1,t1,p5,lp0,b5,b6]
end
end
section
def Adq (s:ByteArray):Bool:=Array.toList (ByteArray.data s)==Array.toList (ByteArray.data (ByteArray.mk #[]))
def Hc (x:It):Bool:=
 if x.k=3 then x.n==0 else if x.k=4 then x.n==0 else if x.k=8 then (x.n==0)&&Adq x.s else if x.k=7 then decide (x.n<=1)&&Adq x.s else Adq x.s
section
variable {fu d:Nat}
theorem Az8 (x:It):Ae C0 Tryz.prog fu (d+1) Abd [.agg x.cells]=some ⟨[.sc (.bool (Hc x))],[]⟩:=by
 obtain ⟨k,n,s⟩:=x;refine (Al1 fu d k n s).trans ?_;unfold Hc;show _=some (⟨[.sc (.bool (if k=3 then n==0 else if k=4 then n==0 else if k=8 then (n==0)&&Adq s else if k=7 then decide (n<=1)&&Adq s else Adq s))],[]⟩:A0)
 by_cases h3:k=3
 ·subst h3;simp only [B6,Int.reduceBEq,if_true]
 by_cases h4:k=4
 ·subst h4;simp only [B6,Int.reduceBEq,Int.reduceEq,if_true,if_false]
 have b3:(k==(3:Int))=false:=by simp [h3]
 have b4:(k==(4:Int))=false:=by simp [h4]
 by_cases h8:k=8
 ·subst h8;cases hn:n==0<;>simp only [B6,Int.reduceBEq,Int.reduceEq,if_true,if_false,hn,Zzm,Bool.false_and]<;>rfl
 have b8:(k==(8:Int))=false:=by simp [h8]
 by_cases h7:k=7
 ·subst h7;cases hn:decide (n<=1)<;>simp only [B6,Int.reduceBEq,Int.reduceEq,if_true,if_false,hn,Zzm,Bool.false_and]<;>rfl
 have b7:(k==(7:Int))=false:=by simp [h7]
 simp only [B6,b3,b4,b8,b7,A3 h3,A3 h4,A3 h8,A3 h7];rfl
theorem Ag8 {l:List Hs}{x:It}{cnt:Int}(hl:l.length<=1000)(hf:l.length+1<fu)(h0:0<=cnt)(h1:cnt<=1000000)(ha:Ug l=false)
  (hs:x.s.size<=100000)(hv:x.k=4->Lib.validD x.s.data.toList=true):
  Ae C0 Tryz.prog fu (d+2) Kj [.pbox (Mx l cnt),.agg x.cells]=some ⟨[.sc (.int .i64 0)],[Mx (Gh l x) (cnt+1)]⟩:=by
 have st:=Axv (fu:=fu) (d:=d) (l:=l) (x:=x) (cnt:=cnt) (by omega) hf h0 h1
 have ak:=Ajq (fu:=fu) (d:=d) (l:=l) (by omega) cnt
 have L:=Ds l;have t:=D9 l;have L2:=Ds (Gh l x);have t2:=D9 (Gh l x);rw [ha] at ak;generalize hE:Gh l x=E at *
 obtain ⟨k,n,s⟩:=x;have va:=Lw (fu:=fu) (d:=d) s (Nat.le_trans hs (by omega))
 unfold okS at va;refine (Kk fu (d+1) l.length (Ft l) cnt k n s).trans ?_;unfold Mx It.cells at st;unfold Mx at ak;by_cases k4:k=4
 ·subst k4;rw [hv rfl] at va;simp (disch:=omega) only [B6,Int.reduceBEq,va,Bn,L,t,ak,st,L2,t2]
 ·have b4:(k==(4:Int))=false:=by simp [k4]
  simp (disch:=omega) only [B6,b4,L,t,ak,st,L2,t2]
theorem A1f {l:List Hs}{x:It}{cnt:Int}(hl:l.length<=1000)(hf:l.length+1<fu)(h0:0<=cnt)(h1:cnt<=1000000)(ha:Ug l=false)
  (hs:x.s.size<=1024)(hv:x.k=4->Lib.validD x.s.data.toList=true)(hd:(decide (cnt>0)&&((l.length:Int)==0))=false) (hm:Kt l cnt x.k=0)(hsh:Hc x=true)(hn:x.n<=512∨(x.k≠5∧x.k≠6)):
  Ae C0 Tryz.prog fu (d+3) Pt [.pbox (Mx l cnt),.agg x.cells]=some ⟨[.sc (.int .i64 0)],[Mx (Gh l x) (cnt+1)]⟩:=by
 have ac:=Ag8 (fu:=fu) (d:=d) (l:=l) (x:=x) (cnt:=cnt) hl hf h0 h1 ha (by omega) hv
 have dn:=Apx (fu:=fu) (d:=d+1) l cnt;have ad:=Atq (fu:=fu) (d:=d) (l:=l) (by omega) cnt x.k
 have sh:=Az8 (fu:=fu) (d:=d+1) x;rw [hd] at dn;rw [hm] at ad;rw [hsh] at sh;have L:=Ds l;have t:=D9 l;have L2:=Ds (Gh l x);have t2:=D9 (Gh l x);generalize hE:Gh l x=E at *
 obtain ⟨k,n,s⟩:=x;have hs':¬((s.size:Int)>1024):=by have:s.size<=1024:=hs;omega
 refine (Aar fu (d+2) l.length (Ft l) cnt k n s).trans ?_;unfold Mx It.cells at ac;unfold Mx at dn ad;unfold It.cells at sh;by_cases k5:k=5
 ·subst k5;have hn':¬(n>512):=hn.elim (fun h=>Int.not_lt.2 h) (fun h=>absurd rfl h.1)
  simp (disch:=first|assumption|omega) only [B6,Int.reduceBEq,dn,ad,sh,ac,Bn,L,t,L2,t2,bne_self_eq_false]
 have b5:(k==(5:Int))=false:=by simp [k5]
 by_cases k6:k=6
 ·subst k6;have hn':¬(n>512):=hn.elim (fun h=>Int.not_lt.2 h) (fun h=>absurd rfl h.2)
  simp (disch:=first|assumption|omega) only [B6,Int.reduceBEq,dn,ad,sh,ac,Bn,L,t,L2,t2,bne_self_eq_false]
 have b6:(k==(6:Int))=false:=by simp [k6]
 simp (disch:=first|assumption|omega) only [B6,b5,b6,dn,ad,sh,ac,Bn,L,t,L2,t2,bne_self_eq_false]
end
end
section
theorem Eo (l:List It):(Bq l).length=l.length*3:=Ald It.cells_len l
structure A6a (l:List Hs) (cnt:Int) (x:It):Prop where
 hl:l.length<=100
 h0:0<=cnt
 h1:cnt<=1000
 ha:Ug l=false
 hs:x.s.size<=1024
 hv:x.k=4->Lib.validD x.s.data.toList=true
 hd:(decide (cnt>0)&&((l.length:Int)==0))=false
 hm:Kt l cnt x.k=0
 hsh:Hc x=true
 hn:x.n<=512∨(x.k≠5∧x.k≠6)
def Rt:List Hs->Int->List It->Prop
 |l,cnt,[]=>l=[]∧cnt>0
 |l,cnt,x::r=>A6a l cnt x∧Rt (Gh l x) (cnt+1) r
section
variable {fu d:Nat}
theorem Amh (hfu:200<=fu){l:List It}(hl:l.length<=100000){a0n:Nat}{a0:List PV}:∀(r:List It)(i:Nat)(fs:List Hs)(cnt:Int)(nn:Nat),l.drop i=r->i+r.length=l.length->r.length<nn->Rt fs cnt r ->
  Jm fu (Ae C0 Tryz.prog fu (d+3)) a0n a0 nn l.length (Bq l) (l.length:Int) (i:Int) fs.length cnt (Ft fs)=some ⟨[.sc (.int .i64 0)],[]⟩:=by
 intro r
 induction r with
 |nil=>
  intro i fs cnt nn hd hi hn hg;obtain ⟨rfl,hc⟩:=hg;obtain ⟨m,rfl⟩:∃m,nn=m+1:=⟨nn-1,by omega⟩
  rw [X2,Lu] at hi;rw [Rq];have dn:=Apx (fu:=fu) (d:=d+2) [] cnt;have e:(decide (cnt>0)&&(((([]:List Hs).length:Nat):Int)==0))=true:=by simp [hc]
  rw [e] at dn;unfold Mx at dn;have L:=Ds [];have t:=D9 [];have c:¬((i:Int)<(l.length:Int)):=by omega
  simp (disch:=first|assumption|omega) only [B6,L,t,dn,Bn]
 |cons x r ih=>
  intro i fs cnt nn hd hi hn hg;obtain ⟨g,hg⟩:=hg;obtain ⟨m,rfl⟩:∃m,nn=m+1:=⟨nn-1,by omega⟩
  rw [H0] at hi hn
  have hx:l[i]?=some x:=by
   have:=congrArg (fun q=>q[0]?) hd
   simpa using this
  have hd':l.drop (i+1)=r:=by
   have:=congrArg (List.drop 1) hd;rw [List.drop_drop] at this
   simpa using this
  have q:=ih (i+1) (Gh fs x) (cnt+1) m hd' (by omega) (by omega) hg
  have ck:=A1f (fu:=fu) (d:=d) (l:=fs) (x:=x) (cnt:=cnt) (by have:=g.hl;omega) (by have:=g.hl;omega) g.h0 (by have:=g.h1;omega) g.ha g.hs g.hv g.hd g.hm g.hsh g.hn
  generalize Gh fs x=E at *
  have g0:(Bq l).getD (i*3) .top=.sc (.int .i64 x.k):=D3 It.cells_len hx (j:=0) (by omega)
  have g1:(Bq l).getD (i*3+1) .top=.sc (.int .u64 x.n):=D3 It.cells_len hx (j:=1) (by omega)
  have g2:(Bq l).getD (i*3+1+1) .top=.sc (.string x.s):=D3 It.cells_len hx (j:=2) (by omega)
  have L:=Ds fs;have t:=D9 fs;have w:IntKind.wrap .i64 ((i:Int)+1)=((i+1:Nat):Int):=by rw [Au (by omega) (by omega)];omega
  rw [Rq];unfold Mx It.cells at ck;simp (disch:=first|assumption|omega) only [B6,G6,g0,g1,g2,L,t,ck,bne_self_eq_false,w,q]
theorem Uj (hfu:200<=fu){l:List It}(hl:l.length<=100000)(hf:l.length<fu)(hg:Rt [] 0 l):Ae C0 Tryz.prog fu (d+4) W7 [.lst false 3 l.length (Bq l)]=some ⟨[.sc (.int .i64 0)],[]⟩:=by
 rw [Aia];exact Amh hfu hl l 0 [] 0 fu rfl (by omega) hf hg
end
end
section
section
variable {fu d:Nat}
theorem Asv (hfu:1000<=fu){l:List It}(hl:l.length<=100000){a0n:Nat}{a0:List PV}:∀(r:List It)(i:Nat)(o:List Int)(nn:Nat),l.drop i=r->i+r.length=l.length->r.length<nn->(∀x∈r,x.ok)->(o++Bc r).length<=300000 ->
  Mb fu (Ae C0 Tryz.prog fu (d+2)) a0n a0 nn o.length l.length (Bq l) (l.length:Int) (i:Int) (Ai .u8 o)=some ⟨[.own 1 (o++Bc r).length (Ai .u8 (o++Bc r)),.sc (.int .i64 0)],[]⟩:=by
 intro r
 induction r with
 |nil=>
  intro i o nn hd hi hn hg hb;obtain ⟨m,rfl⟩:∃m,nn=m+1:=⟨nn-1,by omega⟩
  rw [X2,Lu] at hi;have e:o++Bc []=o:=by simp [Bc]
  rw [e,U0];have L:(Ai .u8 o).length=o.length:=As _ _;have t:List.take o.length (Ai .u8 o)=Ai .u8 o:=I2 (by omega)
  have c:¬((i:Int)<(l.length:Int)):=by omega
  simp (disch:=first|assumption|omega) only [B6,Bl,L,t]
 |cons x r ih=>
  intro i o nn hd hi hn hg hb;obtain ⟨m,rfl⟩:∃m,nn=m+1:=⟨nn-1,by omega⟩
  rw [H0] at hi hn
  have hx:l[i]?=some x:=by
   have:=congrArg (fun q=>q[0]?) hd
   simpa using this
  have hd':l.drop (i+1)=r:=by
   have:=congrArg (List.drop 1) hd;rw [List.drop_drop] at this
   simpa using this
  have e:o++Bc (x::r)=(o++Bv x)++Bc r:=by simp [Bc]
  rw [e] at hb ⊢
  have ho:o.length<=300000:=by
   rw [Ic,Ic] at hb;omega
  have q:=ih (i+1) (o++Bv x) m hd' (by omega) (by omega) (fun y hy=>hg y (List.mem_cons_of_mem _ hy)) hb
  have it:=Awm (fu:=fu) (d:=d) hfu (l:=o) ho (x:=x) (hg x (by simp))
  have g0:(Bq l).getD (i*3) .top=.sc (.int .i64 x.k):=D3 It.cells_len hx (j:=0) (by omega)
  have g1:(Bq l).getD (i*3+1) .top=.sc (.int .u64 x.n):=D3 It.cells_len hx (j:=1) (by omega)
  have g2:(Bq l).getD (i*3+1+1) .top=.sc (.string x.s):=D3 It.cells_len hx (j:=2) (by omega)
  have L:(Ai .u8 o).length=o.length:=As _ _;have t:List.take o.length (Ai .u8 o)=Ai .u8 o:=I2 (by omega)
  have w:IntKind.wrap .i64 ((i:Int)+1)=((i+1:Nat):Int):=by rw [Au (by omega) (by omega)];omega
  rw [U0];unfold It.cells at it;simp (disch:=first|assumption|omega) only [B6,G6,Bl,g0,g1,g2,L,t,it,w,q]
theorem Ar9 (hfu:1000<=fu){l:List It}(hl:l.length<=100000)(hf:l.length<fu)(hg:Rt [] 0 l) (hk:∀x∈l,x.ok)(hb:(Bc l).length<=300000):
  Ae C0 Tryz.prog fu (d+5) Ui [.lst false 3 l.length (Bq l)]=some ⟨[.own 1 (Bc l).length (Ai .u8 (Bc l)),.sc (.int .i64 0)],[]⟩:=by
 rw [Alz];have v:=Uj (fu:=fu) (d:=d) (by omega) hl hf hg
 have q:=Asv (fu:=fu) (d:=d+2) hfu hl (a0n:=l.length) (a0:=Bq l) l 0 [] fu rfl (by omega) hf hk (by simpa using hb)
 rw [Zzq] at q;simp only [B6,v,bne_self_eq_false];exact q
end
end
section
section
variable {fu d:Nat}
theorem Aq3 (hfu:200<=fu){l:List It}(hl:l.length<=100000)(hf:l.length<fu)(hg:Rt [] 0 l):
  Ae C0 Tryz.prog fu (d+5) Yg [.own 3 l.length (Bq l)]=some ⟨[.own 3 l.length (Bq l),.sc (.int .i64 0)],[]⟩:=by
 rw [Aj6];have v:=Uj (fu:=fu) (d:=d) hfu hl hf hg;have L:=Eo l;have t:List.take (l.length*3) (Bq l)=Bq l:=I2 (by omega)
 simp (disch:=omega) only [B6,L,t,Cm,v,bne_self_eq_false]
end
end
section
structure Aqo (x:It):Prop where
 kd:x.k=1∨x.k=2∨x.k=3∨x.k=4∨x.k=7∨x.k=8
 hs:x.s.size<=1024
 hv:x.k=4->Lib.validD x.s.data.toList=true
 hsh:Hc x=true
 n0:0<=x.n
theorem Aqo.ok {x:It}(h:Aqo x):x.ok:=by
 have:=h.kd;have:=h.hs;exact ⟨by omega,by omega,h.n0,by omega⟩
theorem Aqo.push {x:It}(h:Aqo x)(l:List Hs):Aoz l x=l:=by
 unfold Aoz;have:=h.kd;rw [A3 (by omega),A3 (by omega)]
theorem Aze {x:It}(h:Aqo x):Rt [] 0 [x]:=by
 have hk:=h.kd;refine ⟨⟨by simp,by omega,by omega,rfl,h.hs,h.hv,rfl,?_,h.hsh,.inr (by omega)⟩,?_,?_⟩
 ·unfold Kt;rw [A3 (by omega),A3 (by omega),A3 (by omega),A3 (by intro q;exact absurd q.1 (by decide)),A3 (by simp)]
 ·unfold Gh;rw [h.push];rfl
 ·omega
theorem Ai0:∀(r:List It)(cnt:Int),r≠[]->(∀x∈r,Aqo x)->0<cnt->cnt+r.length<=500->Rt [⟨false,r.length,[]⟩] cnt r
 |[],_,h,_,_,_=>absurd rfl h
 |x::r,cnt,_,hf,hc,hl=>by
  have h:=hf x (by simp)
  have hk:=h.kd;simp only [H0] at hl;refine ⟨⟨by simp,by omega,by omega,rfl,h.hs,h.hv,by simp,?_,h.hsh,.inr (by omega)⟩,?_⟩
  ·unfold Kt;rw [A3 (by omega),A3 (by omega),A3 (by omega),A3 (by intro q;exact absurd q.1 (by simp [Ug])),A3 (by simp)]
  ·have w:IntKind.wrap .i64 (((x::r).length:Int)-1)=(r.length:Int):=by
    rw [Au (by simp only [H0];omega) (by simp only [H0];omega)]
    simp only [H0];omega
   have e:Gh [⟨false,((x::r).length:Nat),[]⟩] x=Agb [⟨false,(r.length:Nat),[]⟩]:=by
    unfold Gh;rw [h.push];have:=Ya [] ⟨false,((x::r).length:Nat),[]⟩;rw [Zzq,Zzq] at this;rw [this];simp only [w]
   rw [e];by_cases hr:r=[]
   ·subst hr;have:=Aog (l:=[]) (f:=⟨false,(([]:List It).length:Nat),[]⟩) rfl;rw [Zzq] at this;rw [this];exact ⟨rfl,by omega⟩
   ·have:=Aiu (l:=[]) (f:=⟨false,(r.length:Nat),[]⟩) (by simp only;have:=List.length_pos_iff.2 hr;omega)
    rw [Zzq] at this;rw [this];exact Ai0 r (cnt+1) hr (fun y hy=>hf y (List.mem_cons_of_mem _ hy)) (by omega) (by omega)
theorem Az3 {r:List It}(hr:r≠[]) (hl:r.length<=400)(hf:∀x∈r,Aqo x):Rt [] 0 (⟨5,r.length,⟨#[]⟩⟩::r):=by
 have hp:=List.length_pos_iff.2 hr;refine ⟨⟨by simp,by omega,by omega,rfl,Nat.zero_le _,(by intro h;cases h),rfl,?_,(by rfl),.inl (by simp only;omega)⟩,?_⟩
 ·unfold Kt;rw [A3 (by omega),A3 (by simp),A3 (by simp),A3 (by intro q;exact absurd q.1 (by decide)),A3 (by simp)]
 ·have w:IntKind.wrap .i64 (r.length:Int)=(r.length:Int):=Au (by omega) (by omega)
  have e:Gh [] ⟨5,(r.length:Nat),⟨#[]⟩⟩=Agb [⟨false,(r.length:Nat),[]⟩]:=by
   unfold Gh Aoz;rw [Bk ⟨rfl,by simp only;omega⟩]
   simp only [w];rfl
  have:=Aiu (l:=[]) (f:=⟨false,(r.length:Nat),[]⟩) (by simp only;omega)
  rw [Zzq] at this;rw [e,this];exact Ai0 r _ hr hf (by omega) (by omega)
end
section
def A6y (v:List It):List PV:=[.lst false 3 v.length (Bq v)]
theorem Azg (v:List It):(A6y v).length=1:=rfl
def Ayt (l:List (List It)):List PV:=l.flatMap A6y
theorem atv {l:List (List It)} {i:Nat}{v:List It}(h:l[i]?=some v):(Ayt l).getD (i*1) .top=.lst false 3 v.length (Bq v):=by
 exact D3 Azg h (j:=0) (by omega)
section
variable {fu d:Nat}
theorem Ahq (hfu:1000<=fu){a0n:Nat}{a0:List PV}{vs:List (List It)} (hl:vs.length<=100000):∀(r:List (List It)) (i nn:Nat),vs.drop i=r->r.length<nn->(∀v∈r,Rt [] 0 v∧v.length<1000)->i<=vs.length ->
  Mu fu (Ae C0 Tryz.prog fu (d+4)) a0n a0 nn vs.length (Ayt vs) (vs.length:Int) (i:Int)=some ⟨[.sc (.int .i64 0)],[]⟩
 |_,_,0,_,h,_,_=>by omega
 |[],i,nn+1,h,hn,hg,hi=>by
  have:=drop_nil h;rw [Ve,Dj _ _ _ (by omega)]
 |v::r,i,nn+1,h,hn,hg,hi=>by
  obtain ⟨h1,h2,h3⟩:=Ca h;simp only [H0] at hn;have w:IntKind.wrap .i64 ((i:Int)+1)=((i+1:Nat):Int):=by rw [Au (by omega) (by omega)];omega
  have ih:=Ahq hfu (a0n:=a0n) (a0:=a0) hl r (i+1) nn h3 (by omega) (fun v hv=>hg v (List.mem_cons_of_mem _ hv)) (by omega)
  obtain ⟨g,gl⟩:=hg v (by simp)
  have vg:=Uj (fu:=fu) (d:=d) (by omega) (by omega) (by omega) g
  have g0:=atv h2;rw [Ve];simp (disch:=omega) only [B6,G6,g0,vg,bne_self_eq_false,w,ih]
theorem Atb (hfu:1000<=fu){vs:List (List It)} (hl:vs.length<1000)(hg:∀v∈vs,Rt [] 0 v∧v.length<1000):
  Ae C0 Tryz.prog fu (d+5) Abl [.lst false 1 vs.length (Ayt vs)]=some ⟨[.sc (.int .i64 0)],[]⟩:=by
 rw [Amm];exact Ahq hfu (by omega) vs 0 fu rfl (by omega) hg (by omega)
theorem Ad0 (a b:List It):Bq (a++b)=Bq a++Bq b:=by
 unfold Bq;rw [List.flatMap_append]
theorem Ajx (hfu:1000<=fu){a0n:Nat}{a0:List PV}{vs:List (List It)} (hl:vs.length<=100000):∀(r:List (List It)) (i nn:Nat)(o:List It),vs.drop i=r->r.length<nn->Rt [] 0 (o++r.flatten)->(o++r.flatten).length<=500->i<=vs.length ->
  Oa fu (Ae C0 Tryz.prog fu (d+5)) a0n a0 nn o.length vs.length (Ayt vs) (vs.length:Int) (i:Int) (Bq o)=some ⟨[.own 3 (o++r.flatten).length (Bq (o++r.flatten)),.sc (.int .i64 0)],[]⟩
 |_,_,0,_,_,h,_,_,_=>by omega
 |[],i,nn+1,o,h,hn,hg,hb,hi=>by
  have:=drop_nil h;have e:o++([]:List (List It)).flatten=o:=by simp
  rw [e] at hg hb ⊢;have L:=Eo o;have t:List.take (o.length*3) (Bq o)=Bq o:=I2 (by omega)
  have ck:=Aq3 (fu:=fu) (d:=d) (by omega) (by omega) (by omega) hg
  rw [Xe,Dj _ _ _ (by omega)]
  simp (disch:=omega) only [B6,L,t,ck]
 |v::r,i,nn+1,o,h,hn,hg,hb,hi=>by
  obtain ⟨h1,h2,h3⟩:=Ca h;simp only [H0] at hn;have w:IntKind.wrap .i64 ((i:Int)+1)=((i+1:Nat):Int):=by rw [Au (by omega) (by omega)];omega
  have e:o++(v::r).flatten=(o++v)++r.flatten:=by simp
  rw [e] at hg hb ⊢
  have hb':o.length+v.length<=500:=by
   rw [Ic,Ic] at hb;omega
  have ih:=Ajx hfu (a0n:=a0n) (a0:=a0) hl r (i+1) nn (o++v) h3 (by omega) hg hb (by omega)
  have g0:=atv h2;have L:=Eo o;have Lv:=Eo v;have t:List.take (o.length*3) (Bq o)=Bq o:=I2 (by omega)
  rw [Ic,Ad0] at ih;rw [Xe];simp (disch:=omega) only [B6,G6,g0,L,Lv,t,w,ih]
theorem Avi (hfu:1000<=fu){vs:List (List It)} (hg:∀v∈vs,Rt [] 0 v∧v.length<1000) (hl:vs.length<=400)(ha:Rt [] 0 (⟨5,vs.length,⟨#[]⟩⟩::vs.flatten)) (hb:vs.flatten.length<=400):
  Ae C0 Tryz.prog fu (d+6) Wc [.lst false 1 vs.length (Ayt vs)]=some ⟨[.own 3 (vs.flatten.length+1) (Bq (⟨5,vs.length,⟨#[]⟩⟩::vs.flatten)),.sc (.int .i64 0)],[]⟩:=by
 rw [Aqt];have f:=Atb (fu:=fu) (d:=d) hfu (by omega) hg
 have w:IntKind.wrap .u64 (vs.length:Int)=vs.length:=B7 (by omega) (by omega)
 have q:=Ajx (fu:=fu) (d:=d) hfu (a0n:=vs.length) (a0:=Ayt vs) (by omega) vs 0 fu [⟨5,vs.length,⟨#[]⟩⟩] rfl (by omega) ha (by rw [Ic,List.length_singleton];omega) (by omega)
 simp only [B6,f,bne_self_eq_false,w];exact q
end
end
section
def A83 (a b:List Int):Int:=Lib.compareBytes (a.map fun n=>n.toNat.toUInt8) (b.map fun n=>n.toNat.toUInt8)
def Vq (a b:List Int):Bool:=if a.length=b.length then decide (A83 a b<0) else decide (a.length<b.length)
def Ko (l:List Hs)(key:List Int):List Hs:=match l.getLast? with|some f=>l.dropLast++[⟨f.p,f.left,key⟩]|none=>l
theorem Oi (l:List Hs)(f:Hs)(key:List Int):Ko (l++[f]) key=l++[⟨f.p,f.left,key⟩]:=by
 unfold Ko;simp
def Aik (l:List Hs):List Int:=match l.getLast? with|some f=>f.last|none=>[]
theorem Aq5 (l:List Hs)(f:Hs):Aik (l++[f])=f.last:=by
 unfold Aik;simp
def Er (l:List Hs)(x:It):Int × List Hs:=
 if x.k=4∧okS x.s=false then (6,l)
 else if Ug l=true then (if Aik l≠[]∧Vq (Aik l) (Bv x)=false then (7,l) else (0,Gh (Ko l (Bv x)) x))
 else (0,Gh l x)
theorem Ay0 (x:It):1<=(Bv x).length:=by
 unfold Bv;have h2:=Io 2 x.s.size;have h3:=Io 3 x.s.size;have h4:=Io (x.k-1) x.n
 repeat' split
 all_goals try simp only [Ic,H0,X2]
 all_goals omega
section
variable {fu d:Nat}
theorem Aux (a b:List Int):Ae C0 Tryz.prog fu (d+1) 143 [.lst false 1 a.length (Ai .u8 a),.lst false 1 b.length (Ai .u8 b)]=some ⟨[.sc (.int .i64 (A83 a b))],[]⟩:=by
 have h:Ae C0 Tryz.prog fu (d+1) 143 [.lst false 1 a.length (Ai .u8 a),.lst false 1 b.length (Ai .u8 b)]=Y8 [.lst false 1 a.length (Ai .u8 a),.lst false 1 b.length (Ai .u8 b)]:=by kernel_rfl
 rw [h];unfold Y8;simp only [As,Nat.beq_refl,Bool.and_self,cond_true,Fu];rfl
theorem Av3 (a b:List Int):Ae C0 Tryz.prog fu (d+2) Ym [.lst false 1 a.length (Ai .u8 a),.lst false 1 b.length (Ai .u8 b)]=some ⟨[.sc (.bool (Vq a b))],[]⟩:=by
 refine (Akj fu (d+1) _ _ _ _).trans ?_;have c:=Aux (fu:=fu) (d:=d) a b;unfold Vq;by_cases h:a.length=b.length
 ·have b0:((a.length:Int) != (b.length:Int))=false:=by simp [h]
  rw [Bk h];simp only [B6,b0,c]
 ·have b0:((a.length:Int) != (b.length:Int))=true:=by simp;omega
  rw [A3 h];simp only [B6,b0];simp
theorem An0 {l:List Hs}{x:It}{cnt:Int}(hfu:1000<=fu)(hl:l.length<=900)(h0:0<=cnt)(h1:cnt<=1000000)(hx:x.ok)(hs:x.s.size<=100000):
  Ae C0 Tryz.prog fu (d+3) Kj [.pbox (Mx l cnt),.agg x.cells]=some ⟨[.sc (.int .i64 (Er l x).1)],[Mx (Er l x).2 (if (Er l x).1=0 then cnt+1 else cnt)]⟩:=by
 cases ha:Ug l with
 |false=>
  cases hv:(x.k==4) && !okS x.s with
  |false=>
   have e:Er l x=(0,Gh l x):=by
    unfold Er;rw [A3,A3 (by simp [ha])]
    intro hh;simp [hh.1,hh.2] at hv
   have:=Ag8 (fu:=fu) (d:=d+1) (l:=l) (x:=x) (cnt:=cnt) (by omega) (by omega) h0 h1 ha hs (by
    intro hk;simp [hk] at hv;exact hv)
   rw [e,this];rfl
  |true=>
   simp at hv
   have e:Er l x=(6,l):=by
    unfold Er;rw [Bk hv]
   rw [e];obtain ⟨k,n,s⟩:=x;have va:=Lw (fu:=fu) (d:=d+1) s (Nat.le_trans hs (by omega))
   simp only at hv;obtain ⟨rfl,hv⟩:=hv;rw [hv] at va;have L:=Ds l;have t:=D9 l;refine (Kk fu (d+2) l.length (Ft l) cnt 4 n s).trans ?_;simp (disch:=omega) only [B6,Int.reduceBEq,va,L,t];rfl
 |true=>
  rcases O3 l with rfl|⟨l',f,rfl⟩
  ·exact absurd ha (by decide)
  have it:=Awm (fu:=fu) (d:=d) hfu (l:=[]) (by simp) hx
  rw [Zzq] at it;have hp:=Ay0 x;have sm:=Av3 (fu:=fu) (d:=d) f.last (Bv x);have ak:=Ajq (fu:=fu) (d:=d+1) (l:=l'++[f]) (by omega) cnt
  rw [ha] at ak;have st:=Axv (fu:=fu) (d:=d+1) (l:=Ko (l'++[f]) (Bv x)) (x:=x) (cnt:=cnt) (by rw [Oi];simp at hl ⊢;omega) (by rw [Oi];simp at hl ⊢;omega) h0 h1
  have E:Er (l'++[f]) x=(if x.k=4∧okS x.s=false then (6,l'++[f]) else if f.last≠[]∧Vq f.last (Bv x)=false then (7,l'++[f]) else (0,Gh (Ko (l'++[f]) (Bv x)) x)):=by
   unfold Er;rw [ha,Aq5];simp only [if_true]
  have hn':(l'++[f]).length=l'.length+1:=by simp
  have hx':(l'++[f])[l'.length]?=some f:=by simp
  have w:IntKind.wrap .i64 (((l'++[f]).length:Int)-1)=(l'.length:Int):=by rw [Au (by omega) (by omega)];omega
  have L:=Ds (l'++[f]);have t:=D9 (l'++[f]);have g2:(Ft (l'++[f])).getD (l'.length*3+2) .top=.lst false 1 f.last.length (Ai .u8 f.last):=D3 Hs.cells_len hx' (j:=2) (by omega)
  have sp:Cb (Ft (l'++[f])) [.lst false 1 (Bv x).length (Ai .u8 (Bv x))] (l'.length*3+2)=Ft (Ko (l'++[f]) (Bv x)):=by
   rw [Kp (by omega),Oi,U8,U8,Um,Um]
   have:=Ds l';rw [List.set_append_right _ _ (by omega)]
   have:l'.length*3+2-(Ft l').length=2:=by omega
   rw [this];rfl
  have LK:=Ds (Ko (l'++[f]) (Bv x));have tK:=D9 (Ko (l'++[f]) (Bv x));have nK:(Ko (l'++[f]) (Bv x)).length=(l'++[f]).length:=by rw [Oi];simp
  rw [nK] at LK tK;have L2:=Ds (Gh (Ko (l'++[f]) (Bv x)) x);have t2:=D9 (Gh (Ko (l'++[f]) (Bv x)) x);have Lk:=As .u8 (Bv x);have tk:=G4 .u8 (Bv x);unfold Mx at st ak ⊢;rw [nK] at st;rw [E];generalize Gh (Ko (l'++[f]) (Bv x)) x=S at *
  generalize Ft (Ko (l'++[f]) (Bv x))=K at *
  have hsm:f.last.length=0->Vq f.last (Bv x)=true:=by
   intro hz;unfold Vq;rw [A3 (by omega)]
   simp;omega
  have hnil:f.last≠[]↔0<f.last.length:=by rw [List.length_pos_iff]
  generalize hKe:Bv x=key at *
  obtain ⟨k,n,s⟩:=x;have va:=Lw (fu:=fu) (d:=d+1) s (Nat.le_trans hs (by omega))
  unfold okS at va ⊢;unfold It.cells at st it ⊢;simp only at st it hs ⊢;refine (Kk fu (d+2) (l'++[f]).length (Ft (l'++[f])) cnt k n s).trans ?_;simp only [X2] at it;have it0:Ai .u8 []=[]:=rfl;rw [it0] at it
  try unfold Aa
  repeat' first
   |((with_reducible first|apply Ap|apply Ag|apply Am|apply Ar|apply Az|apply Bh|apply Ah);· first|with_reducible rfl|(simp (disch:=first|with_reducible assumption|omega) only [va,L,t,ak,w,G6,B4,Lu,it,g2,Bl,Cm,Lk,tk,sm,sp,LK,tK,st,L2,t2]<;>with_reducible rfl))
   |((with_reducible first|apply Ao|apply Ak);· first|with_reducible rfl|with_reducible assumption|omega|(simp (disch:=first|with_reducible assumption|omega) only [gT,va,L,t,ak,w,G6,B4,Lu,it,g2,Bl,Cm,Lk,tk,sm,sp,LK,tK,st,L2,t2]<;>omega))
   |(with_reducible apply Al;· first|with_reducible rfl|with_reducible assumption|(simp (disch:=first|with_reducible assumption|omega) only [gF,va,L,t,ak,w,G6,B4,Lu,it,g2,Bl,Cm,Lk,tk,sm,sp,LK,tK,st,L2,t2]<;>omega))
   |(with_reducible refine A3v ?_ ?_<;>intro hb<;>try simp only [decide_eq_true_eq,decide_eq_false_iff_not,beq_iff_eq,beq_eq_false_iff_ne,bne_iff_ne,bne_eq_false_iff_eq,ne_eq,Bool.not_eq_true',Bool.not_eq_false',Bool.not_eq_true,Bool.not_eq_false] at hb)
   |(with_reducible refine Apo ?_ ?_)
  all_goals try simp (disch:=first|with_reducible assumption|omega) only [va,L,t,ak,w,G6,B4,Lu,it,g2,Bl,Cm,Lk,tk,sm,sp,LK,tK,st,L2,t2]
  all_goals clear st it ak va sm L t g2 sp LK tK L2 t2 Lk tk it0 E ha hKe
  all_goals repeat' split
  all_goals first
   |rfl
   |(exfalso;simp_all;done)
   |(exfalso;simp_all;omega)
end
end
section
set_option maxRecDepth 100000
abbrev Rx:FuncId:=120
noncomputable def Hg (fu:Nat)(call:Aq)(a0_0n:Nat)(a0_0:List PV)(a0_1:Int)(a0_2n:Nat)(a0_2:List PV)(a0_3:Int)(nn:Nat)(y0 y1 y2:Int)(y3:Nat)(y4:List PV)(y5 y6:Int)(y7:Nat)(y8:Int)(y9:Nat)(y10:List PV)(Eb:Int)(Ev:List PV):Option A0:=Cw C0 Tryz.prog fu call 120 Tryz.f120 (B5 Tryz.f120) [.pbox [.own 3 a0_0n a0_0,.sc (.int .i64 a0_1),.lst false 1 a0_2n a0_2,.sc (.int .i64 a0_3)]] [.r,.r,.r,.r,.r,.r,.r,.r,.r,.r,.r,.l,.r,.l] nn ⟨lk [(0,(.ptr 240000 0)),(2,(.sc (.int .i64 y0))),(3,(.sc (.int .u64 y1))),(8,(.sc (.int .i64 y2))),(94,(.lst false 1 y3 y4)),(95,(.sc (.int .i64 y5))),(96,(.sc (.int .i64 y6)))],Gf [(240000,(.st [(.view 240120 3 0 y7),(.sc (.int .i64 y8)),(.lst false 1 y9 y10),(.sc (.int .i64 Eb))])),(240120,(.ar false Ev))]⟩
theorem Ni (fu:Nat)(call:Aq)(a0_0n:Nat)(a0_0:List PV)(a0_1:Int)(a0_2n:Nat)(a0_2:List PV)(a0_3:Int)(nn:Nat)(y0 y1 y2:Int)(y3:Nat)(y4:List PV)(y5 y6:Int)(y7:Nat)(y8:Int)(y9:Nat)(y10:List PV)(Eb:Int)(Ev:List PV):Hg fu call a0_0n a0_0 a0_1 a0_2n a0_2 a0_3 (nn+1) y0 y1 y2 y3 y4 y5 y6 y7 y8 y9 y10 Eb Ev=(A4 (decide (y6<y5)) (Ay (decide (0<=y6)&&decide (y6<(↑y3:Int)))<|Af .u8 (List.getD y4 (Int.toNat y6*1) .top) fun D6=>Aa (Fk .u64 y1 8) fun D1=>Aa (IntKind.wrap .u64 D6) fun Ee=>Aa (Xz .u64 D1 Ee) fun Fq=>Aa (IntKind.wrap .i64 (y6+1)) fun Cl=>Hg fu call a0_0n a0_0 a0_1 a0_2n a0_2 a0_3 (nn) (y0) Fq (y2) (y3) (y4) (y5) Cl (y7) (y8) (y9) (y10) (Eb) (Ev)) (Aa (IntKind.wrap .i64 (Eb+y2)) fun Fy=>Aj (call 133 [.sc (.int .u64 y1)]) fun Dn B3=>Ac B3<|Ab Dn fun Ew F4=>Af .i64 Ew fun Bm=>Ac F4<|A4 (decide (Bm<y2)) (Ay (decide (y7*3<=List.length Ev))<|some (A0.mk [.sc (.int .i64 0),.sc (.int .u64 0),.sc (.int .i64 2)] [[.own 3 y7 (List.take (y7*3) Ev),.sc (.int .i64 y8),.lst false 1 y9 y10,.sc (.int .i64 Fy)]])) (Ay (decide (y7*3<=List.length Ev))<|some (A0.mk [.sc (.int .i64 y0),.sc (.int .u64 y1),.sc (.int .i64 0)] [[.own 3 y7 (List.take (y7*3) Ev),.sc (.int .i64 y8),.lst false 1 y9 y10,.sc (.int .i64 Fy)]])))):=by kernel_rfl
theorem Acc (fu d a0_0n:Nat)(a0_0:List PV)(a0_1:Int)(a0_2n:Nat)(a0_2:List PV)(a0_3:Int):Ae C0 Tryz.prog fu (d+1) Rx [.pbox [.own 3 a0_0n a0_0,.sc (.int .i64 a0_1),.lst false 1 a0_2n a0_2,.sc (.int .i64 a0_3)]]=(fun (call:Aq)=>A4 (decide (a0_3>=(↑a0_2n:Int))) (Ay (decide (a0_0n*3<=List.length a0_0))<|some (A0.mk [.sc (.int .i64 0),.sc (.int .u64 0),.sc (.int .i64 1)] [[.own 3 a0_0n (List.take (a0_0n*3) a0_0),.sc (.int .i64 a0_1),.lst false 1 a0_2n a0_2,.sc (.int .i64 a0_3)]])) (Ay (decide (0<=a0_3)&&decide (a0_3<(↑a0_2n:Int)))<|Af .u8 (List.getD a0_2 (Int.toNat a0_3*1) .top) fun x1=>Aa (IntKind.wrap .i64 (a0_3+1)) fun x2=>A4 (x1==244) (Aa (IntKind.wrap .u8 (x1-244)) fun x3=>Aa (IntKind.wrap .u64 x3) fun x4=>Ay (decide (a0_0n*3<=List.length a0_0))<|some (A0.mk [.sc (.int .i64 7),.sc (.int .u64 x4),.sc (.int .i64 0)] [[.own 3 a0_0n (List.take (a0_0n*3) a0_0),.sc (.int .i64 a0_1),.lst false 1 a0_2n a0_2,.sc (.int .i64 x2)]])) (A4 (x1==245) (Aa (IntKind.wrap .u8 (x1-244)) fun x5=>Aa (IntKind.wrap .u64 x5) fun x6=>Ay (decide (a0_0n*3<=List.length a0_0))<|some (A0.mk [.sc (.int .i64 7),.sc (.int .u64 x6),.sc (.int .i64 0)] [[.own 3 a0_0n (List.take (a0_0n*3) a0_0),.sc (.int .i64 a0_1),.lst false 1 a0_2n a0_2,.sc (.int .i64 x2)]])) (A4 (x1==246) (Ay (decide (a0_0n*3<=List.length a0_0))<|some (A0.mk [.sc (.int .i64 8),.sc (.int .u64 0),.sc (.int .i64 0)] [[.own 3 a0_0n (List.take (a0_0n*3) a0_0),.sc (.int .i64 a0_1),.lst false 1 a0_2n a0_2,.sc (.int .i64 x2)]])) (Aa (El .u8 x1 5) fun x7=>Aa (Ez .u8 x1 31) fun x8=>A4 (decide (x7>5)) (Ay (decide (a0_0n*3<=List.length a0_0))<|some (A0.mk [.sc (.int .i64 0),.sc (.int .u64 0),.sc (.int .i64 2)] [[.own 3 a0_0n (List.take (a0_0n*3) a0_0),.sc (.int .i64 a0_1),.lst false 1 a0_2n a0_2,.sc (.int .i64 x2)]])) (A4 (decide (x8>27)) (Ay (decide (a0_0n*3<=List.length a0_0))<|some (A0.mk [.sc (.int .i64 0),.sc (.int .u64 0),.sc (.int .i64 2)] [[.own 3 a0_0n (List.take (a0_0n*3) a0_0),.sc (.int .i64 a0_1),.lst false 1 a0_2n a0_2,.sc (.int .i64 x2)]])) (Aa (IntKind.wrap .i64 x7) fun x9=>Aa (IntKind.wrap .i64 (1+x9)) fun Cj=>A4 (decide (x8<24)) (Aa (IntKind.wrap .u64 x8) fun Bp=>Ay (decide (a0_0n*3<=List.length a0_0))<|some (A0.mk [.sc (.int .i64 Cj),.sc (.int .u64 Bp),.sc (.int .i64 0)] [[.own 3 a0_0n (List.take (a0_0n*3) a0_0),.sc (.int .i64 a0_1),.lst false 1 a0_2n a0_2,.sc (.int .i64 x2)]])) (Aa (IntKind.wrap .u8 (x8-24)) fun Cz=>Ay (decide (0<=Cz))<|Aa (Fk .i64 1 Cz) fun C9=>Aa (IntKind.wrap .i64 ((↑a0_2n:Int)-x2)) fun Cq=>A4 (decide (Cq<C9)) (Ay (decide (a0_0n*3<=List.length a0_0))<|some (A0.mk [.sc (.int .i64 0),.sc (.int .u64 0),.sc (.int .i64 1)] [[.own 3 a0_0n (List.take (a0_0n*3) a0_0),.sc (.int .i64 a0_1),.lst false 1 a0_2n a0_2,.sc (.int .i64 x2)]])) (Aa (IntKind.wrap .i64 (x2+C9)) fun C8=>Ay (decide (0<=x2))<|Ay (decide (0<=C8))<|Ay (decide (Int.toNat x2<=Int.toNat C8)&&decide (Int.toNat C8<=a0_2n))<|Aa (Int.toNat C8-Int.toNat x2) fun Dh=>Aa (List.take (Dh*1) (List.drop (Int.toNat x2*1) a0_2)) fun Dt=>Hg fu call a0_0n a0_0 a0_1 a0_2n a0_2 a0_3 (fu) Cj 0 C9 Dh Dt ((↑Dh:Int)) 0 (a0_0n) (a0_1) (a0_2n) (a0_2) x2 (a0_0)))))))))) (Ae C0 Tryz.prog fu d):=by kernel_rfl
abbrev Rb:FuncId:=110
theorem Acj (fu d a0_0n:Nat)(a0_0:List PV)(a0_1:Int)(a0_2n:Nat)(a0_2:List PV)(a0_3:Int):Ae C0 Tryz.prog fu (d+1) Rb [.pbox [.own 3 a0_0n a0_0,.sc (.int .i64 a0_1),.lst false 1 a0_2n a0_2,.sc (.int .i64 a0_3)]]=(fun (call:Aq)=>Ay (decide (a0_0n*3<=List.length a0_0))<|Aj (call 120 [.pbox [.own 3 a0_0n (List.take (a0_0n*3) a0_0),.sc (.int .i64 a0_1),.lst false 1 a0_2n a0_2,.sc (.int .i64 a0_3)]]) fun x1 x2=>Ab x1 fun x3 x4=>Af .i64 x3 fun x5=>Ab x4 fun x6 x7=>Af .u64 x6 fun x8=>Ab x7 fun x9 Cj=>Af .i64 x9 fun Bp=>Ac Cj<|Ab x2 fun Cz C9=>Ab Cz fun Cq C8=>Dp 3 Cq fun Dh Dt=>Ab C8 fun D6 D1=>Af .i64 D6 fun Ee=>Ab D1 fun Fq Cl=>Iz 1 Fq fun Fy Dn B3=>Ab Cl fun Ew F4=>Af .i64 Ew fun Bm=>Ac F4<|Ac C9<|A4 (Bp != 0) (Ay (decide (Dh*3<=List.length Dt))<|some (A0.mk [.agg [.sc (.int .i64 0),.sc (.int .u64 0),.sc (.string (ByteArray.mk #[]))],.sc (.int .i64 Bp)] [[.own 3 Dh (List.take (Dh*3) Dt),.sc (.int .i64 Ee),.lst false 1 Dn B3,.sc (.int .i64 Bm)]])) (Ay (decide (Dh*3<=List.length Dt))<|Aj (call 121 [.pbox [.own 3 Dh (List.take (Dh*3) Dt),.sc (.int .i64 Ee)],.sc (.int .i64 x5)]) fun Ci Gx=>Ab Ci fun G2 Ib=>Af .i64 G2 fun Hz=>Ac Ib<|Ab Gx fun I4 G8=>Ab I4 fun I5 Ls=>Dp 3 I5 fun F5 Il=>Ab Ls fun Pc Qi=>Af .i64 Pc fun Ke=>Ac Qi<|Ac G8<|A4 (Hz != 0) (Ay (decide (F5*3<=List.length Il))<|some (A0.mk [.agg [.sc (.int .i64 0),.sc (.int .u64 0),.sc (.string (ByteArray.mk #[]))],.sc (.int .i64 Hz)] [[.own 3 F5 (List.take (F5*3) Il),.sc (.int .i64 Ke),.lst false 1 Dn B3,.sc (.int .i64 Bm)]])) (A4 (x5==5) (A4 (decide (x8>512)) (Ay (decide (F5*3<=List.length Il))<|some (A0.mk [.agg [.sc (.int .i64 0),.sc (.int .u64 0),.sc (.string (ByteArray.mk #[]))],.sc (.int .i64 8)] [[.own 3 F5 (List.take (F5*3) Il),.sc (.int .i64 Ke),.lst false 1 Dn B3,.sc (.int .i64 Bm)]])) (Ay (decide (F5*3<=List.length Il))<|Aj (call 122 [.pbox [.own 3 F5 (List.take (F5*3) Il),.sc (.int .i64 Ke)],.agg [.sc (.int .i64 x5),.sc (.int .u64 x8),.sc (.string (ByteArray.mk #[]))]]) fun Kf Ph=>Ab Kf fun Mw Pi=>Af .i64 Mw fun Ps=>Ac Pi<|Ab Ph fun Qx Pd=>Ab Qx fun Qk Q3=>Dp 3 Qk fun Q4 Kx=>Ab Q3 fun Sk Qw=>Af .i64 Sk fun Sx=>Ac Qw<|Ac Pd<|A4 (Ps != 0) (Ay (decide (Q4*3<=List.length Kx))<|some (A0.mk [.agg [.sc (.int .i64 0),.sc (.int .u64 0),.sc (.string (ByteArray.mk #[]))],.sc (.int .i64 Ps)] [[.own 3 Q4 (List.take (Q4*3) Kx),.sc (.int .i64 Sx),.lst false 1 Dn B3,.sc (.int .i64 Bm)]])) (Ay (decide (Q4*3<=List.length Kx))<|some (A0.mk [.agg [.sc (.int .i64 x5),.sc (.int .u64 x8),.sc (.string (ByteArray.mk #[]))],.sc (.int .i64 0)] [[.own 3 Q4 (List.take (Q4*3) Kx),.sc (.int .i64 Sx),.lst false 1 Dn B3,.sc (.int .i64 Bm)]])))) (A4 (x5==6) (A4 (decide (x8>512)) (Ay (decide (F5*3<=List.length Il))<|some (A0.mk [.agg [.sc (.int .i64 0),.sc (.int .u64 0),.sc (.string (ByteArray.mk #[]))],.sc (.int .i64 8)] [[.own 3 F5 (List.take (F5*3) Il),.sc (.int .i64 Ke),.lst false 1 Dn B3,.sc (.int .i64 Bm)]])) (Ay (decide (F5*3<=List.length Il))<|Aj (call 122 [.pbox [.own 3 F5 (List.take (F5*3) Il),.sc (.int .i64 Ke)],.agg [.sc (.int .i64 x5),.sc (.int .u64 x8),.sc (.string (ByteArray.mk #[]))]]) fun Ow Qu=>Ab Ow fun R5 S3=>Af .i64 R5 fun Qm=>Ac S3<|Ab Qu fun Tw Vs=>Ab Tw fun Sy Su=>Dp 3 Sy fun Sf Sa=>Ab Su fun Wo Tf=>Af .i64 Wo fun Td=>Ac Tf<|Ac Vs<|A4 (Qm != 0) (Ay (decide (Sf*3<=List.length Sa))<|some (A0.mk [.agg [.sc (.int .i64 0),.sc (.int .u64 0),.sc (.string (ByteArray.mk #[]))],.sc (.int .i64 Qm)] [[.own 3 Sf (List.take (Sf*3) Sa),.sc (.int .i64 Td),.lst false 1 Dn B3,.sc (.int .i64 Bm)]])) (Ay (decide (Sf*3<=List.length Sa))<|some (A0.mk [.agg [.sc (.int .i64 x5),.sc (.int .u64 x8),.sc (.string (ByteArray.mk #[]))],.sc (.int .i64 0)] [[.own 3 Sf (List.take (Sf*3) Sa),.sc (.int .i64 Td),.lst false 1 Dn B3,.sc (.int .i64 Bm)]])))) (A4 (x5==3) (A4 (decide (x8>1024)) (Ay (decide (F5*3<=List.length Il))<|some (A0.mk [.agg [.sc (.int .i64 0),.sc (.int .u64 0),.sc (.string (ByteArray.mk #[]))],.sc (.int .i64 8)] [[.own 3 F5 (List.take (F5*3) Il),.sc (.int .i64 Ke),.lst false 1 Dn B3,.sc (.int .i64 Bm)]])) (Aa (IntKind.wrap .i64 ((↑Dn:Int)-Bm)) fun Th=>Aa (IntKind.wrap .i64 x8) fun Vh=>A4 (decide (Th<Vh)) (Ay (decide (F5*3<=List.length Il))<|some (A0.mk [.agg [.sc (.int .i64 0),.sc (.int .u64 0),.sc (.string (ByteArray.mk #[]))],.sc (.int .i64 1)] [[.own 3 F5 (List.take (F5*3) Il),.sc (.int .i64 Ke),.lst false 1 Dn B3,.sc (.int .i64 Bm)]])) (Aa (IntKind.wrap .i64 x8) fun Uh=>Aa (IntKind.wrap .i64 (Bm+Uh)) fun Tc=>Ay (decide (0<=Bm))<|Ay (decide (0<=Tc))<|Ay (decide (Int.toNat Bm<=Int.toNat Tc)&&decide (Int.toNat Tc<=Dn))<|Aa (Int.toNat Tc-Int.toNat Bm) fun So=>Aa (List.take (So*1) (List.drop (Int.toNat Bm*1) B3)) fun Vr=>Ay (decide (List.length Vr=So))<|Fe (bytesOf Vr) fun Uk=>Aa (IntKind.wrap .i64 x8) fun V2=>Aa (IntKind.wrap .i64 (Bm+V2)) fun Xu=>Ay (decide (F5*3<=List.length Il))<|Aj (call 122 [.pbox [.own 3 F5 (List.take (F5*3) Il),.sc (.int .i64 Ke)],.agg [.sc (.int .i64 x5),.sc (.int .u64 0),.sc (.string (ByteArray.mk (List.toArray Uk)))]]) fun Xa x81=>Ab Xa fun X3 X4=>Af .i64 X3 fun Xo=>Ac X4<|Ab x81 fun x85 x86=>Ab x85 fun x87 Ro=>Dp 3 x87 fun Uf Uo=>Ab Ro fun x91 x92=>Af .i64 x91 fun x93=>Ac x92<|Ac x86<|A4 (Xo != 0) (Ay (decide (Uf*3<=List.length Uo))<|some (A0.mk [.agg [.sc (.int .i64 0),.sc (.int .u64 0),.sc (.string (ByteArray.mk #[]))],.sc (.int .i64 Xo)] [[.own 3 Uf (List.take (Uf*3) Uo),.sc (.int .i64 x93),.lst false 1 Dn B3,.sc (.int .i64 Xu)]])) (Ay (decide (Uf*3<=List.length Uo))<|some (A0.mk [.agg [.sc (.int .i64 x5),.sc (.int .u64 0),.sc (.string (ByteArray.mk (List.toArray Uk)))],.sc (.int .i64 0)] [[.own 3 Uf (List.take (Uf*3) Uo),.sc (.int .i64 x93),.lst false 1 Dn B3,.sc (.int .i64 Xu)]]))))) (A4 (x5==4) (A4 (decide (x8>1024)) (Ay (decide (F5*3<=List.length Il))<|some (A0.mk [.agg [.sc (.int .i64 0),.sc (.int .u64 0),.sc (.string (ByteArray.mk #[]))],.sc (.int .i64 8)] [[.own 3 F5 (List.take (F5*3) Il),.sc (.int .i64 Ke),.lst false 1 Dn B3,.sc (.int .i64 Bm)]])) (Aa (IntKind.wrap .i64 ((↑Dn:Int)-Bm)) fun x94=>Aa (IntKind.wrap .i64 x8) fun x95=>A4 (decide (x94<x95)) (Ay (decide (F5*3<=List.length Il))<|some (A0.mk [.agg [.sc (.int .i64 0),.sc (.int .u64 0),.sc (.string (ByteArray.mk #[]))],.sc (.int .i64 1)] [[.own 3 F5 (List.take (F5*3) Il),.sc (.int .i64 Ke),.lst false 1 Dn B3,.sc (.int .i64 Bm)]])) (Aa (IntKind.wrap .i64 x8) fun x96=>Aa (IntKind.wrap .i64 (Bm+x96)) fun x97=>Ay (decide (0<=Bm))<|Ay (decide (0<=x97))<|Ay (decide (Int.toNat Bm<=Int.toNat x97)&&decide (Int.toNat x97<=Dn))<|Aa (Int.toNat x97-Int.toNat Bm) fun x98=>Aa (List.take (x98*1) (List.drop (Int.toNat Bm*1) B3)) fun x99=>Ay (decide (List.length x99=x98))<|Fe (bytesOf x99) fun Xq=>Aa (IntKind.wrap .i64 x8) fun Tu=>Aa (IntKind.wrap .i64 (Bm+Tu)) fun H9=>Ay (decide (F5*3<=List.length Il))<|Aj (call 122 [.pbox [.own 3 F5 (List.take (F5*3) Il),.sc (.int .i64 Ke)],.agg [.sc (.int .i64 x5),.sc (.int .u64 0),.sc (.string (ByteArray.mk (List.toArray Xq)))]]) fun Lt Zr=>Ab Lt fun Uc Ry=>Af .i64 Uc fun Mz=>Ac Ry<|Ab Zr fun Aaj Acz=>Ab Aaj fun Zs Aay=>Dp 3 Zs fun Ji Mt=>Ab Aay fun Afu Afb=>Af .i64 Afu fun Qg=>Ac Afb<|Ac Acz<|A4 (Mz != 0) (Ay (decide (Ji*3<=List.length Mt))<|some (A0.mk [.agg [.sc (.int .i64 0),.sc (.int .u64 0),.sc (.string (ByteArray.mk #[]))],.sc (.int .i64 Mz)] [[.own 3 Ji (List.take (Ji*3) Mt),.sc (.int .i64 Qg),.lst false 1 Dn B3,.sc (.int .i64 H9)]])) (Ay (decide (Ji*3<=List.length Mt))<|some (A0.mk [.agg [.sc (.int .i64 x5),.sc (.int .u64 0),.sc (.string (ByteArray.mk (List.toArray Xq)))],.sc (.int .i64 0)] [[.own 3 Ji (List.take (Ji*3) Mt),.sc (.int .i64 Qg),.lst false 1 Dn B3,.sc (.int .i64 H9)]]))))) (Ay (decide (F5*3<=List.length Il))<|Aj (call 122 [.pbox [.own 3 F5 (List.take (F5*3) Il),.sc (.int .i64 Ke)],.agg [.sc (.int .i64 x5),.sc (.int .u64 x8),.sc (.string (ByteArray.mk #[]))]]) fun Wb Agv=>Ab Wb fun Acu Agu=>Af .i64 Acu fun Ad8=>Ac Agu<|Ab Agv fun Agj Afw=>Ab Agj fun Afh Ad7=>Dp 3 Afh fun Vg Zc=>Ab Ad7 fun Af4 Aft=>Af .i64 Af4 fun Abs=>Ac Aft<|Ac Afw<|A4 (Ad8 != 0) (Ay (decide (Vg*3<=List.length Zc))<|some (A0.mk [.agg [.sc (.int .i64 0),.sc (.int .u64 0),.sc (.string (ByteArray.mk #[]))],.sc (.int .i64 Ad8)] [[.own 3 Vg (List.take (Vg*3) Zc),.sc (.int .i64 Abs),.lst false 1 Dn B3,.sc (.int .i64 Bm)]])) (Ay (decide (Vg*3<=List.length Zc))<|some (A0.mk [.agg [.sc (.int .i64 x5),.sc (.int .u64 x8),.sc (.string (ByteArray.mk #[]))],.sc (.int .i64 0)] [[.own 3 Vg (List.take (Vg*3) Zc),.sc (.int .i64 Abs),.lst false 1 Dn B3,.sc (.int .i64 Bm)]]))))))))) (Ae C0 Tryz.prog fu d):=by kernel_rfl
abbrev Abi:FuncId:=86
noncomputable def Mp (fu:Nat)(call:Aq)(a0n:Nat)(a0:List PV)(nn y0:Nat)(y1:List PV)(y2:Nat)(y3:Int)(y4:Nat)(y5:List PV)(y6:Int)(y7:List PV):Option A0:=Cw C0 Tryz.prog fu call 86 Tryz.f86 (B5 Tryz.f86) [.lst false 1 a0n a0] [.r,.r,.l,.l] nn ⟨lk [(2,(.view 2 3 0 y0)),(5,(.ptr 5 0))],Gf [(2,(.ar false y1)),(5,(.st [(.view 32 3 0 y2),(.sc (.int .i64 y3)),(.lst false 1 y4 y5),(.sc (.int .i64 y6))])),(32,(.ar false y7))]⟩
theorem Afk (fu:Nat)(call:Aq)(a0n:Nat)(a0:List PV)(nn y0:Nat)(y1:List PV)(y2:Nat)(y3:Int)(y4:Nat)(y5:List PV)(y6:Int)(y7:List PV):Mp fu call a0n a0 (nn+1) y0 y1 y2 y3 y4 y5 y6 y7=(Ay (decide (y2*3<=List.length y7))<|Aj (call 109 [.pbox [.own 3 y2 (List.take (y2*3) y7),.sc (.int .i64 y3)]]) fun x1 x2=>Ab x1 fun x3 x4=>Bw x3 fun x5=>Ac x4<|Ab x2 fun x6 x7=>Ab x6 fun x8 x9=>Dp 3 x8 fun Cj Bp=>Ab x9 fun Cz C9=>Af .i64 Cz fun Cq=>Ac C9<|Ac x7<|A4 (!x5) (Ay (decide (Cj*3<=List.length Bp))<|Aj (call 110 [.pbox [.own 3 Cj (List.take (Cj*3) Bp),.sc (.int .i64 Cq),.lst false 1 y4 y5,.sc (.int .i64 y6)]]) fun C8 Dh=>Ab C8 fun Dt D6=>C3 Dt fun D1=>Ab D1 fun Ee Fq=>Af .i64 Ee fun Cl=>Ab Fq fun Fy Dn=>Af .u64 Fy fun B3=>Ab Dn fun Ew F4=>Cn Ew fun Bm=>Ac F4<|Ab D6 fun Ci Gx=>Af .i64 Ci fun G2=>Ac Gx<|Ab Dh fun Ib Hz=>Ab Ib fun I4 G8=>Dp 3 I4 fun I5 Ls=>Ab G8 fun F5 Il=>Af .i64 F5 fun Pc=>Ab Il fun Qi Ke=>Iz 1 Qi fun Kf Ph Mw=>Ab Ke fun Pi Ps=>Af .i64 Pi fun Qx=>Ac Ps<|Ac Hz<|A4 (G2 != 0) (some (A0.mk [.own 3 0 [],.sc (.int .i64 0),.sc (.int .i64 G2)] [])) (Ay (decide (y0*3<=List.length y1)&&true&&decide ((y0+1)*32<=1099511627776)&&decide (y0+1<=1099511627776))<|Aa (y0+1) fun Pd=>Aa (List.take (y0*3) y1++[.sc (.int .i64 Cl),.sc (.int .u64 B3),.sc (.string Bm)]) fun Qk=>Mp fu call a0n a0 (nn) Pd Qk I5 Pc Ph Mw Qx Ls)) (Ay (decide (y0*3<=List.length y1))<|some (A0.mk [.own 3 y0 (List.take (y0*3) y1),.sc (.int .i64 y6),.sc (.int .i64 0)] []))):=by kernel_rfl
theorem Amq (fu d a0n:Nat)(a0:List PV):Ae C0 Tryz.prog fu (d+1) Abi [.lst false 1 a0n a0]=(fun (call:Aq)=>Mp fu call a0n a0 (fu) 0 ([]) 0 0 (a0n) (a0) 0 ([])) (Ae C0 Tryz.prog fu d):=by kernel_rfl
end
section
structure Hd where
 k:Int
 n:Int
 e:Int
 at_:Nat
def Mr (n:Int):Int:=if n<24 then 0 else if n<256 then 1 else if n<65536 then 2 else if n<4294967296 then 4 else 8
def szE (low:Int):Nat:=if low=24 then 1 else if low=25 then 2 else if low=26 then 4 else 8
def U9 (b:List Int)(at_:Nat)(x:Int):Hd:=
 if x=244 then ⟨7,0,0,at_+1⟩ else if x=245 then ⟨7,1,0,at_+1⟩ else if x=246 then ⟨8,0,0,at_+1⟩
 else if x / 32>5 then ⟨0,0,2,at_+1⟩ else if x % 32>27 then ⟨0,0,2,at_+1⟩
 else if x % 32<24 then ⟨1+x / 32,x % 32,0,at_+1⟩
 else if b.length-(at_+1)<szE (x % 32) then ⟨0,0,1,at_+1⟩
 else if Mr (Aah ((b.drop (at_+1)).take (szE (x % 32))))<szE (x % 32) then ⟨0,0,2,at_+1+szE (x % 32)⟩
 else ⟨1+x / 32,Aah ((b.drop (at_+1)).take (szE (x % 32))),0,at_+1+szE (x % 32)⟩
def Bg (b:List Int)(at_:Nat):Hd:=match b[at_]? with|none=>⟨0,0,1,at_⟩|some x=>U9 b at_ x
theorem A81 {x:Int}(h:0<=x):El .u8 x 5=x / 32:=by
 unfold El;show x.fdiv (2 ^ (min (5:Int).toNat IntKind.u8.bits))=_;have h2:(2:Int) ^ (min (5:Int).toNat IntKind.u8.bits)=32:=by decide
 rw [h2,Int.fdiv_eq_ediv_of_nonneg _ (by omega)]
theorem A6o {x:Int}(h0:0<=x)(h1:x<=255):Ez .u8 x 31=x % 32:=by
 obtain ⟨n,rfl⟩:=Int.eq_ofNat_of_zero_le h0;have hn:n<256:=by omega
 have e1:(BitVec.ofInt 8 (n:Int)).toNat=n:=by
  rw [BitVec.toNat_ofInt];omega
 have e2:(BitVec.ofInt 8 (31:Int)).toNat=2 ^ 5-1:=by decide
 unfold Ez;show IntKind.wrap .u8 ((BitVec.ofInt 8 (n:Int) &&& BitVec.ofInt 8 (31:Int)).toNat:Int)=_;rw [BitVec.toNat_and,e1,e2,Nat.and_two_pow_sub_one_eq_mod,Gm (by omega) (by omega)]
 omega
abbrev Ay2 (l:List Hs)(cnt:Int)(b:List Int)(at_:Nat):List PV:=[.own 3 l.length (Ft l),.sc (.int .i64 cnt),.lst false 1 b.length (Ai .u8 b),.sc (.int .i64 at_)]
section
variable {fu d:Nat}
theorem A0r (n:Int):Ae C0 Tryz.prog fu (d+1) Ad1 [.sc (.int .u64 n)]=some ⟨[.sc (.int .i64 (Mr n))],[]⟩:=by
 rw [Aq4];unfold Mr
 try unfold Aa
 repeat' first
  |((with_reducible first|apply Ap|apply Ag|apply Am|apply Ah);· first|with_reducible rfl|(simp (disch:=first|with_reducible assumption|omega) only [Bk,A3]<;>with_reducible rfl))
  |((with_reducible first|apply Ao|apply Ak);· first|with_reducible rfl|with_reducible assumption|omega|(simp (disch:=first|with_reducible assumption|omega) only [gT,Bk,A3]<;>omega))
  |(with_reducible apply Al;· first|with_reducible rfl|with_reducible assumption|(simp (disch:=first|with_reducible assumption|omega) only [gF,Bk,A3]<;>omega))
  |(with_reducible refine A3v ?_ ?_<;>intro hb<;>try simp only [decide_eq_true_eq,decide_eq_false_iff_not,beq_iff_eq,beq_eq_false_iff_ne,bne_iff_ne,bne_eq_false_iff_eq,ne_eq,Bool.not_eq_true',Bool.not_eq_false',Bool.not_eq_true,Bool.not_eq_false] at hb)
  |(with_reducible refine Apo ?_ ?_)
 all_goals try simp (disch:=first|with_reducible assumption|omega) only [Bk,A3]
theorem Alb {a0n a2n:Nat}{a0 a2:List PV}{a1 a3 k cnt:Int}{l:List Hs}{b:List Int}{off sz:Nat}{q:List Int}(hq:q.length=sz)(hb:b.length<=1000000)(ho:off+sz<=b.length):∀(r:List Int)(i nn:Nat)(v:Int),q.drop i=r->r.length<nn->i<=sz ->
    Hg fu (Ae C0 Tryz.prog fu (d+1)) a0n a0 a1 a2n a2 a3 nn k v (sz:Int) sz (Ai .u8 q) (sz:Int) (i:Int) l.length cnt b.length (Ai .u8 b) (off:Int) (Ft l) =
      (if Mr (r.foldl Fc v)<sz then some ⟨[.sc (.int .i64 0),.sc (.int .u64 0),.sc (.int .i64 2)],[Ay2 l cnt b (off+sz)]⟩
       else some ⟨[.sc (.int .i64 k),.sc (.int .u64 (r.foldl Fc v)),.sc (.int .i64 0)],[Ay2 l cnt b (off+sz)]⟩)
  |_,_,0,_,_,h,_=>by omega
  |[],i,nn+1,v,hd,hn,hi=>by
    have:=drop_nil hd
    have sh:=A0r (fu:=fu) (d:=d) v
    have L:=Ds l
    have t:=D9 l
    have w:IntKind.wrap .i64 ((off:Int)+(sz:Int))=((off+sz:Nat):Int):=by rw [Au (by omega) (by omega)];omega
    rw [Ni,Dj _ _ _ (by omega),List.foldl_nil]
    by_cases hs:Mr v<sz
    · rw [Bk hs]
      simp (disch:=omega) only [B6,w,sh,L,t,Bl]
    · rw [A3 hs]
      simp (disch:=omega) only [B6,w,sh,L,t,Bl]
  |x::r,i,nn+1,v,hd,hn,hi=>by
    obtain ⟨h1,h2,h3⟩:=Ca hd
    simp only [H0] at hn
    have g0:=Qz (k:=.u8) h2
    have w:IntKind.wrap .i64 ((i:Int)+1)=((i+1:Nat):Int):=by rw [Au (by omega) (by omega)];omega
    have ih:=Alb (a0n:=a0n) (a2n:=a2n) (a0:=a0) (a2:=a2) (a1:=a1) (a3:=a3) (k:=k) (cnt:=cnt) (l:=l) hq hb ho r (i+1) nn (Fc v x) h3 (by omega) (by omega)
    rw [List.foldl_cons,←ih,Ni]
    simp (disch:=omega) only [B6,G6,Bl,g0,w]
theorem A1h {l:List Hs}{cnt:Int}{b:List Int}{at_:Nat}(hfu:1000<=fu)(hb:Gn b)(hl:b.length<=1000000):
  Ae C0 Tryz.prog fu (d+2) Rx [.pbox (Ay2 l cnt b at_)]=some ⟨[.sc (.int .i64 (Bg b at_).k),.sc (.int .u64 (Bg b at_).n),.sc (.int .i64 (Bg b at_).e)],[Ay2 l cnt b (Bg b at_).at_]⟩:=by
 refine (Acc fu (d+1) l.length (Ft l) cnt b.length (Ai .u8 b) (at_:Int)).trans ?_;have L:=Ds l;have t:=D9 l;have Lb:=As .u8 b;have tb:=G4 .u8 b;unfold Bg;by_cases hlt:at_<b.length
 rotate_left
 ·have hg:b[at_]?=none:=List.getElem?_eq_none (by omega)
  rw [hg];simp (disch:=omega) only [B6,L,t,Lb,tb,Bl]
 have hg:b[at_]?=some b[at_]:=List.getElem?_eq_getElem hlt;have hB:=hb _ (List.getElem_mem hlt);rw [hg];generalize b[at_]=x at hg hB;have g0:=Qz (k:=.u8) hg;have w1:IntKind.wrap .i64 ((at_:Int)+1)=((at_+1:Nat):Int):=by rw [Au (by omega) (by omega)];omega
 have s5:=A81 hB.1;have a31:=A6o hB.1 hB.2;unfold U9;simp only;by_cases c1:x=244
 ·subst c1;have q:IntKind.wrap .u64 (IntKind.wrap .u8 ((244:Int)-244))=0:=by decide
  simp (disch:=omega) only [B6,G6,B4,Bl,g0,Int.reduceBEq,w1,L,t,Lb,tb,q]
 rw [A3 c1];have b1:(x==(244:Int))=false:=by simp [c1]
 by_cases c2:x=245
 ·subst c2;have q:IntKind.wrap .u64 (IntKind.wrap .u8 ((245:Int)-244))=1:=by decide
  simp (disch:=omega) only [B6,G6,B4,Bl,g0,Int.reduceBEq,w1,L,t,Lb,tb,q,if_true]
 rw [A3 c2];have b2:(x==(245:Int))=false:=by simp [c2]
 by_cases c3:x=246
 ·subst c3;simp (disch:=omega) only [B6,G6,B4,Bl,g0,Int.reduceBEq,w1,L,t,Lb,tb,if_true]
 rw [A3 c3];have b3:(x==(246:Int))=false:=by simp [c3]
 by_cases c4:x / 32>5
 ·rw [Bk c4];simp (disch:=omega) only [B6,G6,B4,Bl,g0,b1,b2,b3,s5,a31,w1,L,t,Lb,tb]
 rw [A3 c4];by_cases c5:x % 32>27
 ·rw [Bk c5];simp (disch:=omega) only [B6,G6,B4,Bl,g0,b1,b2,b3,s5,a31,w1,L,t,Lb,tb]
 rw [A3 c5];have wk1:IntKind.wrap .i64 (x / 32)=x / 32:=Au (by omega) (by omega)
 have wk2:IntKind.wrap .i64 (1+x / 32)=1+x / 32:=Au (by omega) (by omega)
 by_cases c6:x % 32<24
 ·have wn:IntKind.wrap .u64 (x % 32)=x % 32:=B7 (by omega) (by omega)
  rw [Bk c6];simp (disch:=omega) only [B6,G6,B4,Bl,g0,b1,b2,b3,s5,a31,w1,wk1,wk2,wn,L,t,Lb,tb]
 rw [A3 c6];have q1:IntKind.wrap .u8 (x % 32-24)=x % 32-24:=Gm (by omega) (by omega)
 have q2:Fk .i64 1 (x % 32-24)=(szE (x % 32):Int):=by
  have:x % 32=24∨x % 32=25∨x % 32=26∨x % 32=27:=by omega
  rcases this with h|h|h|h<;>rw [h]<;>decide
 have q3:szE (x % 32)<=8:=by
  unfold szE
  repeat' split
  all_goals omega
 generalize szE (x % 32)=sz at q2 q3 ⊢;have q4:IntKind.wrap .i64 ((b.length:Int)-((at_+1:Nat):Int))=((b.length-(at_+1):Nat):Int):=by rw [Au (by omega) (by omega)];omega
 by_cases c7:b.length-(at_+1)<sz
 ·rw [Bk c7];simp (disch:=omega) only [B6,G6,B4,Bl,g0,b1,b2,b3,s5,a31,w1,wk1,wk2,q1,q2,q4,L,t,Lb,tb]
 rw [A3 c7];have q5:IntKind.wrap .i64 (((at_+1:Nat):Int)+(sz:Int))=((at_+1+sz:Nat):Int):=by rw [Au (by omega) (by omega)];omega
 have q6:at_+1+sz-(at_+1)=sz:=by omega
 have lp:=Alb (fu:=fu) (d:=d) (a0n:=l.length) (a2n:=b.length) (a0:=Ft l) (a2:=Ai .u8 b) (a1:=cnt) (a3:=(at_:Int)) (k:=1+x / 32) (cnt:=cnt) (l:=l) (b:=b) (off:=at_+1) (sz:=sz) (q:=(b.drop (at_+1)).take sz) (by rw [List.length_take,List.length_drop];omega) hl (by omega) _ 0 fu 0 rfl (by rw [Cm,List.length_take];omega) (by omega)
 rw [Cm] at lp;have lp':=lp;unfold Aah;by_cases c8:Mr (((b.drop (at_+1)).take sz).foldl Fc 0)<sz
 ·rw [Bk c8] at lp' ⊢;simp (disch:=omega) only [B6,G6,B4,Bl,g0,b1,b2,b3,s5,a31,w1,wk1,wk2,q1,q2,q4,q5,q6,E6,Dz,L,t,Lb,tb];exact lp'
 ·rw [A3 c8] at lp' ⊢;simp (disch:=omega) only [B6,G6,B4,Bl,g0,b1,b2,b3,s5,a31,w1,wk1,wk2,q1,q2,q4,q5,q6,E6,Dz,L,t,Lb,tb];exact lp'
end
end
section
structure Rd where
 x:It
 e:Int
 l:List Hs
 cnt:Int
 at_:Nat
def it0:It:=⟨0,0,⟨#[]⟩⟩
def W9 (l:List Hs)(cnt:Int)(x:It)(at_:Nat):Rd:=if (Er l x).1=0 then ⟨x,0,(Er l x).2,cnt+1,at_⟩ else ⟨it0,(Er l x).1,(Er l x).2,cnt,at_⟩
def Apb (l:List Hs)(cnt:Int)(b:List Int)(h:Hd):Rd:=
 if h.e≠0 then ⟨it0,h.e,l,cnt,h.at_⟩
 else if Kt l cnt h.k≠0 then ⟨it0,Kt l cnt h.k,l,cnt,h.at_⟩
 else if h.k=5∨h.k=6 then (if h.n>512 then ⟨it0,8,l,cnt,h.at_⟩ else W9 l cnt ⟨h.k,h.n,⟨#[]⟩⟩ h.at_)
 else if h.k=3∨h.k=4 then (if h.n>1024 then ⟨it0,8,l,cnt,h.at_⟩ else if b.length-h.at_<h.n.toNat then ⟨it0,1,l,cnt,h.at_⟩
  else W9 l cnt ⟨h.k,0,Bo ((b.drop h.at_).take h.n.toNat)⟩ (h.at_+h.n.toNat))
 else W9 l cnt ⟨h.k,h.n,⟨#[]⟩⟩ h.at_
def Gd (l:List Hs)(cnt:Int)(b:List Int)(at_:Nat):Rd:=Apb l cnt b (Bg b at_)
theorem Ahd (a b:Int):0<=Fc a b∧Fc a b<=18446744073709551615:=Mc _
theorem Zd:∀(l:List Int)(v:Int),0<=v->v<=18446744073709551615->0<=l.foldl Fc v∧l.foldl Fc v<=18446744073709551615
 |[],v,h0,h1=>⟨h0,h1⟩
 |x::l,v,h0,h1=>Zd l _ (Ahd v x).1 (Ahd v x).2
theorem Q1 {b:List Int}{at_:Nat}(hb:Gn b)(ha:at_<=b.length):(Bg b at_).at_<=b.length∧((Bg b at_).e=0->1<=(Bg b at_).k∧(Bg b at_).k<=8∧0<=(Bg b at_).n∧(Bg b at_).n<=18446744073709551615∧at_<(Bg b at_).at_):=by
 unfold Bg;by_cases hlt:at_<b.length
 rotate_left
 ·have hg:b[at_]?=none:=List.getElem?_eq_none (by omega)
  rw [hg];exact ⟨ha,fun h=>by simp at h⟩
 have hg:b[at_]?=some b[at_]:=List.getElem?_eq_getElem hlt;have hB:=hb _ (List.getElem_mem hlt);rw [hg];generalize b[at_]=x at hB;have hd:=Zd ((b.drop (at_+1)).take (szE (x % 32))) 0 (by omega) (by omega)
 show (U9 b at_ x).at_<=b.length∧_;simp only [U9];unfold Aah
 repeat' split
 all_goals refine ⟨by simp only;omega,fun h=>?_⟩
 all_goals first
  |(simp at h;done)
  |(simp only;omega)
section
variable {fu d:Nat}
theorem A3y {l:List Hs}{cnt:Int}{b:List Int}{at_:Nat}(hfu:1000<=fu)(hb:Gn b)(hl:b.length<=1000000)(ha:at_<=b.length)(hf:l.length<=900)(h0:0<=cnt)(h1:cnt<=1000000):
  Ae C0 Tryz.prog fu (d+4) Rb [.pbox (Ay2 l cnt b at_)]=some ⟨[.agg (Gd l cnt b at_).x.cells,.sc (.int .i64 (Gd l cnt b at_).e)],[Ay2 (Gd l cnt b at_).l (Gd l cnt b at_).cnt b (Gd l cnt b at_).at_]⟩:=by
 refine (Acj fu (d+3) l.length (Ft l) cnt b.length (Ai .u8 b) (at_:Int)).trans ?_;have hd:=A1h (fu:=fu) (d:=d+1) (l:=l) (cnt:=cnt) (at_:=at_) hfu hb hl;have hk:=Q1 hb ha;unfold Gd;generalize Bg b at_=h at hd hk ⊢;obtain ⟨k,n,e,a⟩:=h;obtain ⟨ka,hk⟩:=hk;simp only at hd ka hk;have L:=Ds l;have t:=D9 l;have ad:=Atq (fu:=fu) (d:=d+1) (l:=l) (by omega) cnt k
 unfold Mx at ad;unfold Apb;by_cases he:e=0
 rotate_left
 ·simp only [ne_eq,he,not_false_eq_true,if_true];have he':(e != 0)=true:=by simp [he]
  try unfold Aa
  repeat first
   |((with_reducible first|apply Ap|apply Ag|apply Am|apply Az|apply Bh|apply Cf|apply Ah);· first|with_reducible rfl|(simp (disch:=omega) only [hd,he',L,t]<;>with_reducible rfl))
   |((with_reducible first|apply Ao|apply Ak);· first|with_reducible rfl|omega|(simp (disch:=omega) only [gT,hd,he',L,t]<;>omega))
   |(with_reducible apply Al;· first|with_reducible rfl|(simp (disch:=omega) only [gF,hd,he',L,t]<;>omega))
  try simp (disch:=omega) only [hd,he',L,t]
  all_goals rfl
 subst he;obtain ⟨k1,k8,n0,n1,_⟩:=hk rfl;obtain ⟨m,rfl⟩:=Int.eq_ofNat_of_zero_le n0;have e00:((0:Int) != 0)=false:=rfl;simp only [ne_eq,not_true_eq_false,if_false];by_cases hm:Kt l cnt k=0
 rotate_left
 ·simp only [hm,not_false_eq_true,if_true];have he':(Kt l cnt k != 0)=true:=by simp [hm]
  try unfold Aa
  repeat first
   |((with_reducible first|apply Ap|apply Ag|apply Am|apply Az|apply Bh|apply Cf|apply Ah);· first|with_reducible rfl|(simp (disch:=omega) only [hd,e00,ad,he',L,t]<;>with_reducible rfl))
   |((with_reducible first|apply Ao|apply Ak);· first|with_reducible rfl|omega|(simp (disch:=omega) only [gT,hd,e00,ad,he',L,t]<;>omega))
   |(with_reducible apply Al;· first|with_reducible rfl|(simp (disch:=omega) only [gF,hd,e00,ad,he',L,t]<;>omega))
  try simp (disch:=omega) only [hd,e00,ad,he',L,t]
  all_goals rfl
 rw [hm] at ad ⊢;simp only [not_true_eq_false,if_false,G6];have ac1:=An0 (fu:=fu) (d:=d) (l:=l) (x:=⟨k,m,⟨#[]⟩⟩) (cnt:=cnt) hfu (by omega) h0 h1 ⟨k1,k8,n0,Nat.zero_le _⟩ (Nat.zero_le _)
 have LA:=Ds (Er l ⟨k,m,⟨#[]⟩⟩).2;have tA:=D9 (Er l ⟨k,m,⟨#[]⟩⟩).2;have B:=fun (hn:m<=1024)=>An0 (fu:=fu) (d:=d) (l:=l) (x:=⟨k,0,Bo ((b.drop a).take m)⟩) (cnt:=cnt) hfu (by omega) h0 h1 ⟨k1,k8,by simp,by rw [Ey,List.length_take];omega⟩ (by rw [Ey,List.length_take];omega)
 have LB:=Ds (Er l ⟨k,0,Bo ((b.drop a).take m)⟩).2;have tB:=D9 (Er l ⟨k,0,Bo ((b.drop a).take m)⟩).2;unfold W9;generalize Er l ⟨k,m,⟨#[]⟩⟩=A at *
 obtain ⟨A1,A2⟩:=A;have eB:ByteArray.mk (List.toArray (((b.drop a).take m).map fun n=>n.toNat.toUInt8))=Bo ((b.drop a).take m):=rfl
 have bo:=Fu ((b.drop a).take m);have tk:List.take m (List.drop a (Ai .u8 b))=Ai .u8 ((b.drop a).take m):=by rw [E6,Dz]
 have lq:(Ai .u8 ((b.drop a).take m)).length=min m (b.length-a):=by rw [As,List.length_take,List.length_drop]
 have Lb:=As .u8 b;generalize Bo ((b.drop a).take m)=S at *
 generalize Er l ⟨k,0,S⟩=B' at *
 obtain ⟨B1,B2⟩:=B';generalize (b.drop a).take m=q at *
 unfold Mx It.cells at ac1 B;simp only at ac1 B LA tA LB tB;have w1:IntKind.wrap .i64 ((b.length:Int)-(a:Int))=((b.length-a:Nat):Int):=by rw [Au (by omega) (by omega)];omega
 have w2:m<=1024->IntKind.wrap .i64 (m:Int)=m:=fun h=>Au (by omega) (by omega)
 have w3:m<=1024->IntKind.wrap .i64 ((a:Int)+(m:Int))=((a+m:Nat):Int):=fun h=>by rw [Au (by omega) (by omega)];omega
 have w4:a+m-a=m:=by omega
 try unfold Aa
 repeat' first
  |((with_reducible first|apply Ap|apply Ag|apply Am|apply Az|apply Bh|apply Cf|apply Ah);· first|with_reducible rfl|(simp (disch:=first|with_reducible assumption|omega) only [hd,e00,ad,L,t,ac1,LA,tA,B,LB,tB,w1,w2,w3,w4,tk,bo,lq,eB,G6,Bl,B4]<;>with_reducible rfl))
  |((with_reducible first|apply Ao|apply Ak);· first|with_reducible rfl|with_reducible assumption|omega|(simp (disch:=first|with_reducible assumption|omega) only [gT,hd,e00,ad,L,t,ac1,LA,tA,B,LB,tB,w1,w2,w3,w4,tk,bo,lq,eB,G6,Bl,B4]<;>omega))
  |(with_reducible apply Al;· first|with_reducible rfl|with_reducible assumption|(simp (disch:=first|with_reducible assumption|omega) only [gF,hd,e00,ad,L,t,ac1,LA,tA,B,LB,tB,w1,w2,w3,w4,tk,bo,lq,eB,G6,Bl,B4]<;>omega))
  |(with_reducible refine A3v ?_ ?_<;>intro hb<;>try simp only [decide_eq_true_eq,decide_eq_false_iff_not,beq_iff_eq,beq_eq_false_iff_ne,bne_iff_ne,bne_eq_false_iff_eq,ne_eq,Bool.not_eq_true',Bool.not_eq_false',Bool.not_eq_true,Bool.not_eq_false] at hb)
  |(with_reducible refine Apo ?_ ?_)
 all_goals try simp (disch:=first|with_reducible assumption|omega) only [hd,e00,ad,L,t,ac1,LA,tA,B,LB,tB,w1,w2,w3,w4,tk,bo,lq,eB,G6,Bl,B4,Bk,A3]
 all_goals rfl
end
end
section
def An6 (l:List Hs)(cnt:Int):Bool:=decide (cnt>0)&&((l.length:Int)==0)
def Lj:Nat->List Hs->Int->List Int->Nat->List It->List It × Nat × Int
 |0,_,_,_,_,_=>([],0,2)
 |m+1,l,cnt,b,at_,its=>if An6 l cnt=true then (its,at_,0) else
  if (Gd l cnt b at_).e≠0 then ([],0,(Gd l cnt b at_).e) else Lj m (Gd l cnt b at_).l (Gd l cnt b at_).cnt b (Gd l cnt b at_).at_ (its++[(Gd l cnt b at_).x])
def Acy (r:List It × Nat × Int):List PV:=[.own 3 r.1.length (Bq r.1),.sc (.int .i64 r.2.1),.sc (.int .i64 r.2.2)]
theorem A0p (l:List Hs):(Agb l).length<=l.length:=by
 unfold Agb;rw [List.length_reverse];have:=(List.dropWhile_sublist (l:=l.reverse) fun f=>f.left==0).length_le
 rw [List.length_reverse] at this;exact this
theorem Am6 (l:List Hs)(x:It):(Gh l x).length<=l.length+1:=by
 unfold Gh;refine Nat.le_trans (A0p _) ?_;have:=Ak7 l;unfold Aoz
 repeat' split
 all_goals simp
 all_goals omega
theorem Aut (l:List Hs)(k:List Int):(Ko l k).length=l.length:=by
 rcases O3 l with rfl|⟨l',f,rfl⟩
 ·rfl
 ·rw [Oi];simp
theorem Ars (l:List Hs)(x:It):(Er l x).2.length<=l.length+1:=by
 unfold Er;have h1:=Am6 l x;have h2:=Am6 (Ko l (Bv x)) x;rw [Aut] at h2
 repeat' split
 all_goals simp only
 all_goals omega
structure OkX (x:It):Prop where
 k1:1<=x.k
 k8:x.k<=8
 n0:0<=x.n
 n1:x.n<=18446744073709551615
 s1:x.s.size<=1024
theorem A0s {l:List Hs}{cnt k:Int}(h:Kt l cnt k=0):cnt<512∧l.length<=8:=by
 unfold Kt at h
 repeat' split at h
 all_goals first
  |(cases h;done)
  |omega
theorem Ale {l:List Hs}{cnt:Int}{x:It}{at_:Nat}(hx:OkX x)(h:(W9 l cnt x at_).e=0):(W9 l cnt x at_).cnt=cnt+1∧(W9 l cnt x at_).l.length<=l.length+1∧(W9 l cnt x at_).at_=at_∧OkX (W9 l cnt x at_).x:=by
 have:=Ars l x;unfold W9 at h ⊢;by_cases hz:(Er l x).1=0
 ·rw [Bk hz];exact ⟨rfl,this,rfl,hx⟩
 ·rw [A3 hz] at h;exact absurd h hz
theorem Ao4 {l:List Hs}{cnt:Int}{b:List Int}{at_:Nat}(hb:Gn b)(ha:at_<=b.length)(h:(Gd l cnt b at_).e=0):
  cnt<512∧(Gd l cnt b at_).cnt=cnt+1∧(Gd l cnt b at_).l.length<=9∧at_<(Gd l cnt b at_).at_∧(Gd l cnt b at_).at_<=b.length∧OkX (Gd l cnt b at_).x:=by
 have hk:=Q1 hb ha;unfold Gd at h ⊢;generalize Bg b at_=q at h hk ⊢;obtain ⟨k,n,e,a⟩:=q;obtain ⟨ka,hk⟩:=hk;unfold Apb at h ⊢;simp only at h hk ka ⊢;by_cases he:e=0
 rotate_left
 ·rw [Bk he] at h;exact absurd h he
 subst he;obtain ⟨k1,k8,n0,n1,hlt⟩:=hk rfl;rw [A3 (by simp)] at h ⊢
 by_cases hm:Kt l cnt k=0
 rotate_left
 ·rw [Bk hm] at h;exact absurd h hm
 obtain ⟨c1,c2⟩:=A0s hm;rw [A3 (by simp [hm])] at h ⊢
 have z:(ByteArray.mk #[]).size<=1024:=Nat.zero_le _;by_cases h56:k=5∨k=6
 ·rw [Bk h56] at h ⊢;by_cases hn:n>512
  ·rw [Bk hn] at h;exact absurd h (by simp)
  ·rw [A3 hn] at h ⊢;obtain ⟨p1,p2,p3,p4⟩:=Ale ⟨k1,k8,n0,n1,z⟩ h;exact ⟨c1,p1,by omega,by omega,by omega,p4⟩
 ·rw [A3 h56] at h ⊢;by_cases h34:k=3∨k=4
  ·rw [Bk h34] at h ⊢;by_cases hn:n>1024
   ·rw [Bk hn] at h;exact absurd h (by simp)
   ·rw [A3 hn] at h ⊢;by_cases hr:b.length-a<n.toNat
    ·rw [Bk hr] at h;exact absurd h (by simp)
    ·rw [A3 hr] at h ⊢;obtain ⟨p1,p2,p3,p4⟩:=Ale ⟨k1,k8,by simp,by simp,by rw [Ey,List.length_take];omega⟩ h
     exact ⟨c1,p1,by omega,by omega,by omega,p4⟩
  ·rw [A3 h34] at h ⊢;obtain ⟨p1,p2,p3,p4⟩:=Ale ⟨k1,k8,n0,n1,z⟩ h;exact ⟨c1,p1,by omega,by omega,by omega,p4⟩
theorem Ae2 {b:List Int}(hb:Gn b):∀(m:Nat)(l:List Hs)(cnt:Int)(at_:Nat)(its:List It),at_<=b.length->(∀x∈its,OkX x)->(Lj m l cnt b at_ its).2.1<=b.length∧∀x∈(Lj m l cnt b at_ its).1,OkX x
 |0,l,cnt,at_,its,h,hi=>⟨by simp [Lj],by intro x hx;simp [Lj] at hx⟩
 |m+1,l,cnt,at_,its,h,hi=>by
  unfold Lj;by_cases hd:An6 l cnt=true
  ·rw [Bk hd];exact ⟨h,hi⟩
  ·rw [A3 hd];by_cases he:(Gd l cnt b at_).e=0
   ·rw [A3 (by simp [he])]
    obtain ⟨_,_,_,_,p,q⟩:=Ao4 hb h he;refine Ae2 hb m _ _ _ _ p ?_;intro x hx;rcases List.mem_append.1 hx with hx|hx
    ·exact hi x hx
    ·simp at hx;subst hx;exact q
   ·rw [Bk he];exact ⟨by simp,by intro x hx;simp at hx⟩
section
variable {fu d:Nat}
theorem Ar5 (hfu:1000<=fu){a0n:Nat}{a0:List PV}{b:List Int}(hb:Gn b)(hl:b.length<=1000000):∀(nn:Nat)(l:List Hs)(cnt:Int)(at_:Nat)(its:List It),0<=cnt->cnt<=512->512-cnt<nn->l.length<=9->at_<=b.length->its.length=cnt.toNat ->
  Mp fu (Ae C0 Tryz.prog fu (d+4)) a0n a0 nn its.length (Bq its) l.length cnt b.length (Ai .u8 b) (at_:Int) (Ft l)=some ⟨Acy (Lj nn l cnt b at_ its),[]⟩
 |0,_,_,_,_,_,_,h,_,_,_=>by omega
 |nn+1,l,cnt,at_,its,h0,h1,hn,hf,ha,hi=>by
  have dn:=Apx (fu:=fu) (d:=d+3) l cnt;have ri:=A3y (fu:=fu) (d:=d) (l:=l) (cnt:=cnt) (b:=b) (at_:=at_) hfu hb hl ha (by omega) h0 (by omega)
  have ok:=Ao4 (l:=l) (cnt:=cnt) hb ha;have L:=Ds l;have t:=D9 l;have LT:=Eo its;have tT:List.take (its.length*3) (Bq its)=Bq its:=I2 (by omega)
  have ih:=Ar5 hfu (a0n:=a0n) (a0:=a0) hb hl nn;rw [Afk];unfold Lj;unfold Mx at dn;change _=some (A0.mk [.sc (.bool (An6 l cnt))] _) at dn;generalize Gd l cnt b at_=r at ri ok ⊢;obtain ⟨x,e,l2,cnt2,at2⟩:=r;simp only at ri ok ⊢;cases hd:An6 l cnt
  ·rw [hd] at dn;rw [A3 (by simp)]
   by_cases he:e=0
   ·subst he;obtain ⟨p1,rfl,p3,p4,p5,p6⟩:=ok rfl;have q:=ih l2 (cnt+1) at2 (its++[x]) (by omega) (by omega) (by omega) p3 p5 (by simp;omega)
    rw [A3 (by simp),←q,Ad0,Ic]
    have e1:Bq [x]=x.cells:=by simp [Bq]
    rw [e1];obtain ⟨xk,xn,xs⟩:=x;unfold It.cells at ri ⊢;have e00:((0:Int) != 0)=false:=rfl
    try unfold Aa
    repeat first
     |((with_reducible first|apply Ap|apply Ag|apply Am|apply Ar|apply Ax|apply Az|apply Bh|apply A6|apply Ah);· first|with_reducible rfl|(simp (disch:=omega) only [dn,ri,e00,L,t,LT,tT]<;>with_reducible rfl))
     |((with_reducible first|apply Ao|apply Ak);· first|with_reducible rfl|omega|(simp (disch:=omega) only [gT,dn,ri,e00,L,t,LT,tT]<;>omega))
     |(with_reducible apply Al;· first|with_reducible rfl|(simp (disch:=omega) only [gF,dn,ri,e00,L,t,LT,tT]<;>omega))
    try simp (disch:=omega) only [dn,ri,e00,L,t,LT,tT]
    all_goals rfl
   ·have he':(e != 0)=true:=by simp [he]
    rw [Bk he];obtain ⟨xk,xn,xs⟩:=x;unfold It.cells at ri
    try unfold Aa
    repeat first
     |((with_reducible first|apply Ap|apply Ag|apply Am|apply Ar|apply Ax|apply Az|apply Bh|apply A6|apply Ah);· first|with_reducible rfl|(simp (disch:=omega) only [dn,ri,he',L,t,LT,tT]<;>with_reducible rfl))
     |((with_reducible first|apply Ao|apply Ak);· first|with_reducible rfl|omega|(simp (disch:=omega) only [gT,dn,ri,he',L,t,LT,tT]<;>omega))
     |(with_reducible apply Al;· first|with_reducible rfl|(simp (disch:=omega) only [gF,dn,ri,he',L,t,LT,tT]<;>omega))
    try simp (disch:=omega) only [dn,ri,he',L,t,LT,tT]
    all_goals rfl
  ·rw [hd] at dn;rw [Bk rfl]
   try unfold Aa
   repeat first
    |((with_reducible first|apply Ap|apply Ag|apply Am|apply Ar|apply Ax|apply Az|apply Bh|apply A6|apply Ah);· first|with_reducible rfl|(simp (disch:=omega) only [dn,L,t,LT,tT]<;>with_reducible rfl))
    |((with_reducible first|apply Ao|apply Ak);· first|with_reducible rfl|omega|(simp (disch:=omega) only [gT,dn,L,t,LT,tT]<;>omega))
    |(with_reducible apply Al;· first|with_reducible rfl|(simp (disch:=omega) only [gF,dn,L,t,LT,tT]<;>omega))
   try simp (disch:=omega) only [dn,L,t,LT,tT]
   all_goals rfl
theorem Ayg (hfu:1000<=fu){b:List Int}(hb:Gn b)(hl:b.length<=1000000):
  Ae C0 Tryz.prog fu (d+5) Abi [.lst false 1 b.length (Ai .u8 b)]=some ⟨Acy (Lj fu [] 0 b 0 []),[]⟩:=by
 rw [Amq];exact Ar5 hfu hb hl fu [] 0 0 [] (by omega) (by omega) (by omega) (by simp) (by omega) (by simp)
end
end
section
theorem A47 {n:Int}(h0:0<=n):(n<256->Aah (tb n 1)=n)∧(n<65536->Aah (tb n 2)=n)∧(n<4294967296->Aah (tb n 4)=n)∧(n<=18446744073709551615->Aah (tb n 8)=n):=by
 have st:∀(k:Nat) (D:Int),n<=18446744073709551615->k<8->(2:Int) ^ (56-8*k)=D->0<D->Fc (n / D / 256) (Dx n k)=n / D:=by
  intro k D h1 hk hD hp;rw [Am3 k hk,hD];exact A6s (Int.ediv_nonneg h0 (Int.le_of_lt hp)) (Int.le_trans (Int.ediv_le_self _ h0) h1)
 refine ⟨fun h=>?_,fun h=>?_,fun h=>?_,fun h=>Zx h0 h⟩
 ·have s7:=st 7 1 (by omega) (by omega) (by decide) (by omega)
  rw [show n / 1 / 256=0 by omega,show n / 1=n by omega] at s7
  exact s7
 ·have s6:=st 6 256 (by omega) (by omega) (by decide) (by omega)
  have s7:=st 7 1 (by omega) (by omega) (by decide) (by omega)
  rw [show n / 256 / 256=0 by omega] at s6
  rw [show n / 1 / 256=n / 256 by omega,show n / 1=n by omega] at s7
  show Fc (Fc 0 (Dx n 6)) (Dx n 7)=n;rw [s6,s7]
 ·have s4:=st 4 16777216 (by omega) (by omega) (by decide) (by omega)
  have s5:=st 5 65536 (by omega) (by omega) (by decide) (by omega)
  have s6:=st 6 256 (by omega) (by omega) (by decide) (by omega)
  have s7:=st 7 1 (by omega) (by omega) (by decide) (by omega)
  rw [show n / 16777216 / 256=0 by omega] at s4
  rw [show n / 65536 / 256=n / 16777216 by omega] at s5
  rw [show n / 256 / 256=n / 65536 by omega] at s6
  rw [show n / 1 / 256=n / 256 by omega,show n / 1=n by omega] at s7
  show Fc (Fc (Fc (Fc 0 (Dx n 4)) (Dx n 5)) (Dx n 6)) (Dx n 7)=n;rw [s4,s5,s6,s7]
theorem Zw {b:List Int}{at_:Nat}{mj n low:Int}{k:Nat}{rest:List Int}(m0:0<=mj)(m5:mj<=5)(l0:24<=low)(l1:low<=27)(hk:szE low=k)(h:b.drop (at_+1)=tb n k++rest) (hd:Aah (tb n k)=n) (hs:¬(Mr n<(k:Int))):
  U9 b at_ (32*mj+low)=⟨1+mj,n,0,at_+1+k⟩:=by
 have e1:(32*mj+low) / 32=mj:=by omega
 have e2:(32*mj+low) % 32=low:=by omega
 have e3:(b.drop (at_+1)).take k=tb n k:=by rw [h,List.take_left' (Ab3 n k)]
 have e4:k<=b.length-(at_+1):=by
  have:=congrArg List.length h;rw [List.length_drop,Ic,Ab3] at this;omega
 unfold U9;rw [e1,e2,hk,e3,hd,A3 (by omega),A3 (by omega),A3 (by omega),A3 (by omega),A3 (by omega),A3 (by omega),A3 (by omega),A3 hs]
theorem Acx {b:List Int}{at_:Nat}{mj n:Int}{rest:List Int}(h:b.drop at_=Dq mj n++rest)(m0:0<=mj)(m5:mj<=5)(n0:0<=n)(n1:n<=18446744073709551615):
  Bg b at_=⟨1+mj,n,0,at_+(Dq mj n).length⟩:=by
 obtain ⟨d1,d2,d4,d8⟩:=A47 n0;unfold Bg;unfold Dq at h ⊢;by_cases c1:n<24
 ·rw [Bk c1] at h ⊢;obtain ⟨_,g,_⟩:=Ca h;rw [g];show U9 b at_ (32*mj+n)=_;unfold U9;have e1:(32*mj+n) / 32=mj:=by omega
  have e2:(32*mj+n) % 32=n:=by omega
  rw [e1,e2,A3 (by omega),A3 (by omega),A3 (by omega),A3 (by omega),A3 (by omega),Bk c1]
  rfl
 rw [A3 c1] at h ⊢;by_cases c2:n<256
 ·rw [Bk c2] at h ⊢;obtain ⟨_,g,g2⟩:=Ca h;rw [g];have:=Zw (at_:=at_) m0 m5 (low:=24) (by omega) (by omega) (k:=1) (by decide) g2 (d1 c2) (by unfold Mr;rw [A3 c1,Bk c2];omega)
  show U9 b at_ (32*mj+24)=_;rw [this,H0,Ab3]
 rw [A3 c2] at h ⊢;by_cases c3:n<65536
 ·rw [Bk c3] at h ⊢;obtain ⟨_,g,g2⟩:=Ca h;rw [g];have:=Zw (at_:=at_) m0 m5 (low:=25) (by omega) (by omega) (k:=2) (by decide) g2 (d2 c3) (by unfold Mr;rw [A3 c1,A3 c2,Bk c3];omega)
  show U9 b at_ (32*mj+25)=_;rw [this,H0,Ab3]
 rw [A3 c3] at h ⊢;by_cases c4:n<4294967296
 ·rw [Bk c4] at h ⊢;obtain ⟨_,g,g2⟩:=Ca h;rw [g];have:=Zw (at_:=at_) m0 m5 (low:=26) (by omega) (by omega) (k:=4) (by decide) g2 (d4 c4) (by unfold Mr;rw [A3 c1,A3 c2,A3 c3,Bk c4];omega)
  show U9 b at_ (32*mj+26)=_;rw [this,H0,Ab3]
 ·rw [A3 c4] at h ⊢;obtain ⟨_,g,g2⟩:=Ca h;rw [g];have:=Zw (at_:=at_) m0 m5 (low:=27) (by omega) (by omega) (k:=8) (by decide) g2 (d8 n1) (by unfold Mr;rw [A3 c1,A3 c2,A3 c3,A3 c4];omega)
  show U9 b at_ (32*mj+27)=_;rw [this,H0,Ab3]
theorem App {s:ByteArray}(h:Adq s=true):s=⟨#[]⟩:=by
 unfold Adq at h;have:=eq_of_beq h;apply ByteArray.ext;exact Array.toList_inj.1 this
def nOf (x:It):Int:=if x.k=3∨x.k=4 then (x.s.size:Int) else x.n
theorem Acq {x:It}{b:List Int}{at_:Nat}{rest:List Int}(hsh:Hc x=true)(k1:1<=x.k)(k8:x.k<=8)(n0:0<=x.n)(n1:x.n<=18446744073709551615)(hs:x.s.size<=1024)(h:b.drop at_=Bv x++rest):
  Bg b at_=⟨x.k,nOf x,0,at_+((Bv x).length-x.s.size)⟩∧(x.k=3∨x.k=4->x.n=0∧b.drop (at_+((Bv x).length-x.s.size))=Bz x.s++rest)∧(¬(x.k=3∨x.k=4)->x.s=⟨#[]⟩)∧x.s.size<=(Bv x).length:=by
 obtain ⟨k,n,s⟩:=x;have z:(ByteArray.mk #[]).size=0:=rfl;simp only at k1 k8 n0 n1 hs ⊢;unfold Hc at hsh;simp only at hsh;have L:=C7 s;have E7:k=7->Bv ⟨k,n,s⟩=[IntKind.wrap .u8 (244+IntKind.wrap .u8 n)]:=fun e=>by unfold Bv;rw [Bk e]
 have E8:k=8->Bv ⟨k,n,s⟩=[246]:=fun e=>by subst e;rfl
 have E3:k=3->Bv ⟨k,n,s⟩=Dq 2 s.size++Bz s:=fun e=>by subst e;rfl
 have E4:k=4->Bv ⟨k,n,s⟩=Dq 3 s.size++Bz s:=fun e=>by subst e;rfl
 have E0:k≠7->k≠8->k≠3->k≠4->Bv ⟨k,n,s⟩=Dq (k-1) n:=fun a b c d=>by unfold Bv;rw [A3 a,A3 b,A3 c,A3 d]
 have N34:k=3∨k=4->nOf ⟨k,n,s⟩=s.size:=fun e=>by unfold nOf;rw [Bk e]
 have N0:¬(k=3∨k=4)->nOf ⟨k,n,s⟩=n:=fun e=>by unfold nOf;rw [A3 e]
 by_cases c7:k=7
 ·subst c7;simp at hsh;obtain ⟨hn,hs⟩:=hsh;obtain rfl:=App hs;rw [E7 rfl] at h ⊢;rw [N0 (by omega)]
  obtain ⟨_,g,_⟩:=Ca h;refine ⟨?_,fun h=>by omega,fun _=>rfl,Nat.zero_le _⟩
  have:n=0∨n=1:=by omega
  unfold Bg;rw [g];rcases this with rfl|rfl
  ·rfl
  ·rfl
 by_cases c8:k=8
 ·subst c8;simp at hsh;obtain ⟨rfl,hs⟩:=hsh;obtain rfl:=App hs;rw [E8 rfl] at h ⊢;rw [N0 (by omega)]
  obtain ⟨_,g,_⟩:=Ca h;refine ⟨?_,fun h=>by omega,fun _=>rfl,Nat.zero_le _⟩
  unfold Bg;rw [g];rfl
 by_cases c3:k=3
 ·subst c3;simp at hsh;subst hsh;rw [E3 rfl] at h ⊢;rw [N34 (by omega)]
  rw [Zzv] at h;have q:=Acx h (by omega) (by omega) (by omega) (by omega)
  have e:(Dq 2 (s.size:Int)++Bz s).length-s.size=(Dq 2 (s.size:Int)).length:=by rw [Ic,L];omega
  rw [e];refine ⟨q,fun _=>⟨rfl,?_⟩,fun h=>by omega,by rw [Ic,L];omega⟩
  rw [←List.drop_drop,h,List.drop_left' rfl]
 by_cases c4:k=4
 ·subst c4;simp at hsh;subst hsh;rw [E4 rfl] at h ⊢;rw [N34 (by omega)]
  rw [Zzv] at h;have q:=Acx h (by omega) (by omega) (by omega) (by omega)
  have e:(Dq 3 (s.size:Int)++Bz s).length-s.size=(Dq 3 (s.size:Int)).length:=by rw [Ic,L];omega
  rw [e];refine ⟨q,fun _=>⟨rfl,?_⟩,fun h=>by omega,by rw [Ic,L];omega⟩
  rw [←List.drop_drop,h,List.drop_left' rfl]
 rw [A3 c3,A3 c4,A3 c8,A3 c7] at hsh;obtain rfl:=App hsh;rw [E0 c7 c8 c3 c4] at h ⊢;rw [N0 (by omega)]
 have q:=Acx h (by omega) (by omega) n0 n1
 refine ⟨?_,fun h=>by omega,fun _=>rfl,by rw [z];omega⟩
 rw [q,z,Nat.sub_zero]
 congr 1
 omega
theorem Auw {l:List Hs}{cnt:Int}{x:It}{b:List Int}{at_:Nat}{rest:List Int}(g:A6a l cnt x)(n0:0<=x.n)(n1:x.n<=18446744073709551615)(h:b.drop at_=Bv x++rest):
  Gd l cnt b at_=⟨x,0,Gh l x,cnt+1,at_+(Bv x).length⟩:=by
 have k18:1<=x.k∧x.k<=8:=by
  have hm:=g.hm;unfold Kt at hm
  repeat' split at hm
  all_goals first
   |(cases hm;done)
   |omega
 obtain ⟨q1,q2,q3,q4⟩:=Acq g.hsh k18.1 k18.2 n0 n1 g.hs h
 have ac:∀a:Nat,W9 l cnt x a=⟨x,0,Gh l x,cnt+1,a⟩:=by
  intro a
  have:Er l x=(0,Gh l x):=by
   unfold Er;rw [A3,A3 (by simp [g.ha])]
   intro hh;have:=g.hv hh.1;exact absurd hh.2 (by simp [okS,this])
  unfold W9;rw [this];rfl
 have ln:b.length-(at_+((Bv x).length-x.s.size))>=x.s.size:=by
  have:=congrArg List.length h;rw [List.length_drop,Ic] at this;omega
 unfold Gd;rw [q1];unfold Apb;simp only;rw [A3 (by simp),g.hm,A3 (by simp)]
 have hs:=g.hs;have hn:=g.hn;obtain ⟨k,n,s⟩:=x;simp only at *
 by_cases c34:k=3∨k=4
 ·obtain ⟨rfl,q2⟩:=q2 c34;have N:nOf ⟨k,0,s⟩=s.size:=by unfold nOf;rw [Bk c34]
  rw [N,A3 (by omega),Bk c34,A3 (by omega),G6,A3 (by omega),q2,List.take_left' (C7 s),Qj,ac]
  congr 1
  omega
 ·obtain rfl:=q3 c34;have z:(ByteArray.mk #[]).size=0:=rfl;have N:nOf ⟨k,n,⟨#[]⟩⟩=n:=by unfold nOf;rw [A3 c34]
  rw [N,A3 c34,z,Nat.sub_zero];by_cases c56:k=5∨k=6
  ·rw [Bk c56,A3 (by omega),ac]
  ·rw [A3 c56,ac]
theorem Am0 {b:List Int}{rest:List Int}:∀(its:List It)(l:List Hs)(cnt:Int)(at_ m:Nat)(acc:List It),Rt l cnt its->(∀x∈its,0<=x.n∧x.n<=18446744073709551615)->b.drop at_=Bc its++rest->its.length<m ->
  Lj m l cnt b at_ acc=(acc++its,at_+(Bc its).length,0)
 |[],l,cnt,at_,m,acc,hg,hn,h,hm=>by
  obtain ⟨rfl,hc⟩:=hg;obtain ⟨m,rfl⟩:∃k,m=k+1:=⟨m-1,by omega⟩
  unfold Lj;rw [Bk (by simp [An6,hc])]
  simp [Bc]
 |x::its,l,cnt,at_,m,acc,hg,hn,h,hm=>by
  obtain ⟨g,hg⟩:=hg;obtain ⟨m,rfl⟩:∃k,m=k+1:=⟨m-1,by simp at hm;omega⟩
  have e:Bc (x::its)=Bv x++Bc its:=by simp [Bc]
  rw [e,Zzv] at h;have r:=Auw g (hn x (by simp)).1 (hn x (by simp)).2 h
  have h':b.drop (at_+(Bv x).length)=Bc its++rest:=by rw [←List.drop_drop,h,List.drop_left' rfl]
  have ih:=Am0 its (Gh l x) (cnt+1) (at_+(Bv x).length) m (acc++[x]) hg (fun y hy=>hn y (List.mem_cons_of_mem _ hy)) h' (by simp at hm;omega)
  unfold Lj;have hd:An6 l cnt=false:=g.hd;rw [A3 (by simp [hd]),r]
  simp only;rw [A3 (by simp),ih,e]
  simp;omega
end
section
abbrev isU (x:Int):Prop:=0<=x∧x<=18446744073709551615
abbrev isW (l:List Int):Prop:=∀x∈l,isU x
theorem Atw (l:List Int)(i:Nat):isU (J2 l i):=Zd _ 0 (by omega) (by omega)
theorem Asd (l:List Int):isW (Fj l):=by
 intro x hx;obtain ⟨k,_,rfl⟩:=List.mem_map.1 hx;exact Atw l k
theorem Wv:∀{ws:List Int}{i:Nat}{w:Int},isW ws->ws[i]?=some w->J2 (A7 ws) i=w
 |[],i,w,_,h=>by simp at h
 |a::ws,0,w,hw,h=>by
  simp at h;subst h;have e:A7 (a::ws)=Cg a++A7 ws:=rfl;unfold J2;rw [Nat.mul_zero,Cm,e,List.take_left' (Cy a)];have:=hw a (by simp)
  exact Zx this.1 this.2
 |a::ws,i+1,w,hw,h=>by
  simp at h;have ih:=Wv (ws:=ws) (fun x hx=>hw x (List.mem_cons_of_mem _ hx)) h
  have e:A7 (a::ws)=Cg a++A7 ws:=rfl;unfold J2 at ih ⊢;rw [show 8*(i+1)=(Cg a).length+8*i by rw [Cy];omega,e,←List.drop_drop,List.drop_left' rfl]
  exact ih
theorem Aey {ws:List Int}(hw:isW ws):Fj (A7 ws)=ws:=by
 have hl:(A7 ws).length / 8=ws.length:=by rw [Db];omega
 apply List.ext_getElem?;intro i;unfold Fj;rw [hl];by_cases h:i<ws.length
 ·rw [List.getElem?_map,List.getElem?_range h,List.getElem?_eq_getElem h];simp only [Option.map_some];rw [Wv hw (List.getElem?_eq_getElem h)]
 ·rw [List.getElem?_eq_none (by simp;omega),List.getElem?_eq_none (by omega)]
theorem Ans {k:Ky}(hh:Df k.h=false)(hr:isU k.root):Aa0 (G3 k)=some k:=by
 obtain ⟨h,r⟩:=k;have hb:=Gi hh;simp only at hb hr hh;have w:IntKind.wrap .u8 h=h:=Gm (by omega) (by omega)
 have w1:A7 [r]=Cg r:=by simp [A7]
 have:=Wv (ws:=[r]) (i:=0) (w:=r) (by intro x hx;simp at hx;subst hx;exact hr) rfl
 rw [w1] at this;unfold Aa0 G3;simp only [w,List.getD_cons_zero,List.drop_succ_cons,Cm,this,H0,Cy,hh,and_self,if_true]
theorem Auh {k:Ky}:Gn (G3 k):=by
 intro x hx;rcases List.mem_cons.1 hx with rfl|hx
 ·have:∀v:Int,0<=IntKind.wrap .u8 v∧IntKind.wrap .u8 v<=255:=by
   intro v;simp only [IntKind.wrap,IntKind.signed,IntKind.bits];simp;omega
  exact this _
 ·exact Aad _ x hx
theorem Ad5 {l:List Int}{k:Ky}(h:Aa0 l=some k):Df k.h=false∧isU k.root:=by
 unfold Aa0 at h;split at h
 ·rename_i hh;cases h;exact ⟨hh.2,Atw _ _⟩
 ·cases h
structure Sg.ok (s:Sg):Prop where
 ch:isW s.chains
 pa:isW s.path
theorem A6d (s:Sg):Gn (Mv s):=by
 have w8:∀v:Int,0<=IntKind.wrap .u8 v∧IntKind.wrap .u8 v<=255:=by
  intro v;simp only [IntKind.wrap,IntKind.signed,IntKind.bits];simp;omega
 intro x hx;unfold Mv at hx;rcases List.mem_cons.1 hx with rfl|hx
 ·exact w8 _
 rcases List.mem_cons.1 hx with rfl|hx
 ·exact w8 _
 rcases List.mem_append.1 hx with hx|hx
 ·exact Vc _ x hx
 ·exact Vc _ x hx
theorem Axa {s:Sg}(hs:s.ok)(h1:Df s.path.length=false)(h2:Ga s.leaf s.path.length=false)(h3:s.chains.length=18):sgD (Mv s)=some s:=by
 obtain ⟨leaf,ch,pa⟩:=s;obtain ⟨hc,hp⟩:=hs;simp only at h1 h2 h3 hc hp;have hb:=Gi h1;have ho:=Auu hb.1 hb.2 h2;have h16:=A7z hb.1 hb.2;have w1:IntKind.wrap .u8 leaf=leaf:=Gm (by omega) (by omega)
 have w2:IntKind.wrap .u8 (pa.length:Int)=pa.length:=Gm (by omega) (by omega)
 have lc:(A7 ch).length=144:=by rw [Db];omega
 have lp:(A7 pa).length=8*pa.length:=Db pa
 have len:(Mv ⟨leaf,ch,pa⟩).length=2+144+8*pa.length:=by
  unfold Mv;simp only [H0,Ic,lc,lp];omega
 have g0:(Mv ⟨leaf,ch,pa⟩).getD 0 0=leaf:=w1;have g1:(Mv ⟨leaf,ch,pa⟩).getD 1 0=pa.length:=w2;have d2:(Mv ⟨leaf,ch,pa⟩).drop 2=A7 ch++A7 pa:=rfl
 have d146:(Mv ⟨leaf,ch,pa⟩).drop 146=A7 pa:=by
  rw [show 146=2+144 from rfl,←List.drop_drop,d2,List.drop_left' lc]
 unfold sgD;rw [Bk ⟨by omega,by rw [g1];exact h1,by rw [g0,g1];exact h2,by rw [g1,len];omega⟩,g0,d2,d146,List.take_left' lc,Aey hc,Aey hp]
theorem Ajp {l:List Int}{s:Sg}(h:sgD l=some s):s.ok∧s.path.length<=4∧s.chains.length=18:=by
 unfold sgD at h;split at h
 ·rename_i hh;cases h;have hb:=Gi hh.2.1;refine ⟨⟨Asd _,Asd _⟩,?_,?_⟩
  ·simp only [R7,List.length_drop];omega
  ·simp only [R7,List.length_take,List.length_drop];omega
 ·cases h
end
section
set_option maxRecDepth 100000
abbrev R1:FuncId:=111
noncomputable def F3 (fu:Nat)(call:Aq)(a0_0 a0_1:ByteArray)(a0_2 a0_3:Int)(a0_4 a0_5 a0_6:Int)(a0_7:Bool)(a0_8 a0_9 a0_10:Int)(a0_11n:Nat)(a0_11:List PV)(a0_12n:Nat)(a0_12:List PV)(nn:Nat)(y0 y1:ByteArray)(y2:Int)(y3 y4:ByteArray)(y5 y6:Int)(y7 y8 y9:Int)(y10:Bool)(Eb Ev Hf:Int)(Ik:Nat)(Iq:List PV)(Iv:Nat)(I3:List PV):Option A0:=Cw C0 Tryz.prog fu call 111 Tryz.f111 (B5 Tryz.f111) [.agg [.sc (.string a0_0),.sc (.string a0_1),.sc (.int .u64 a0_2),.sc (.int .i64 a0_3),.sc (.int .u64 a0_4),.sc (.int .i64 a0_5),.sc (.int .i64 a0_6),.sc (.bool a0_7),.sc (.int .i64 a0_8),.sc (.int .u64 a0_9),.sc (.int .i64 a0_10),.lst false 1 a0_11n a0_11,.lst false 1 a0_12n a0_12]] [.r,.l,.r,.l] nn ⟨lk [(1,(.ptr 1 0)),(13,(.agg [(.sc (.string y0)),(.sc (.string y1))])),(14,(.sc (.int .i64 y2)))],Gf [(1,(.st [(.sc (.string y3)),(.sc (.string y4)),(.sc (.int .u64 y5)),(.sc (.int .i64 y6)),(.sc (.int .u64 y7)),(.sc (.int .i64 y8)),(.sc (.int .i64 y9)),(.sc (.bool y10)),(.sc (.int .i64 Eb)),(.sc (.int .u64 Ev)),(.sc (.int .i64 Hf)),(.lst false 1 Ik Iq),(.lst false 1 Iv I3)]))]⟩
theorem Ff (fu:Nat)(call:Aq)(a0_0 a0_1:ByteArray)(a0_2 a0_3:Int)(a0_4 a0_5 a0_6:Int)(a0_7:Bool)(a0_8 a0_9 a0_10:Int)(a0_11n:Nat)(a0_11:List PV)(a0_12n:Nat)(a0_12:List PV)(nn:Nat)(y0 y1:ByteArray)(y2:Int)(y3 y4:ByteArray)(y5 y6:Int)(y7 y8 y9:Int)(y10:Bool)(Eb Ev Hf:Int)(Ik:Nat)(Iq:List PV)(Iv:Nat)(I3:List PV):F3 fu call a0_0 a0_1 a0_2 a0_3 a0_4 a0_5 a0_6 a0_7 a0_8 a0_9 a0_10 a0_11n a0_11 a0_12n a0_12 (nn+1) y0 y1 y2 y3 y4 y5 y6 y7 y8 y9 y10 Eb Ev Hf Ik Iq Iv I3=(A4 (decide (y2<2)) (Ay (decide (0<=y2)&&decide (y2<2)&&true)<|Cn (List.getD [.sc (.string y0),.sc (.string y1)] (Int.toNat y2*1) .top) fun x1=>A4 (decide ((↑(ByteArray.size x1):Int)<1)) (some (A0.mk [.own 1 0 [],.sc (.int .i64 9)] [])) (A4 (decide ((↑(ByteArray.size x1):Int)>32)) (some (A0.mk [.own 1 0 [],.sc (.int .i64 9)] [])) (Aa (IntKind.wrap .i64 (y2+1)) fun x2=>F3 fu call a0_0 a0_1 a0_2 a0_3 a0_4 a0_5 a0_6 a0_7 a0_8 a0_9 a0_10 a0_11n a0_11 a0_12n a0_12 (nn) (y0) (y1) x2 (y3) (y4) (y5) (y6) (y7) (y8) (y9) (y10) (Eb) (Ev) (Hf) (Ik) (Iq) (Iv) (I3)))) (Aj (call 67 [.sc (.string y3)]) fun x3 x4=>Ac x4<|Ab x3 fun x5 x6=>Bw x5 fun x7=>Ac x6<|A4 (!x7) (some (A0.mk [.own 1 0 [],.sc (.int .i64 6)] [])) (Aj (call 67 [.sc (.string y4)]) fun x8 x9=>Ac x9<|Ab x8 fun Cj Bp=>Bw Cj fun Cz=>Ac Bp<|A4 (!Cz) (some (A0.mk [.own 1 0 [],.sc (.int .i64 6)] [])) (Aj (call 123 [.agg [.sc (.int .i64 y6),.sc (.int .u64 y7)]]) fun C9 Cq=>Ac Cq<|Ab C9 fun C8 Dh=>Dp 1 C8 fun Dt D6=>Ab Dh fun D1 Ee=>Af .i64 D1 fun Fq=>Ac Ee<|A4 (Fq != 0) (some (A0.mk [.own 1 0 [],.sc (.int .i64 Fq)] [])) (A4 (decide (y8<0)) (some (A0.mk [.own 1 0 [],.sc (.int .i64 9)] [])) (A4 (decide (y8>y9)) (some (A0.mk [.own 1 0 [],.sc (.int .i64 9)] [])) (A4 (decide (y9>1099511627776)) (some (A0.mk [.own 1 0 [],.sc (.int .i64 9)] [])) (A4 (decide (Eb<0)) (some (A0.mk [.own 1 0 [],.sc (.int .i64 9)] [])) (A4 (decide (Eb>2)) (some (A0.mk [.own 1 0 [],.sc (.int .i64 9)] [])) (A4 (Eb != 0) (A4 (!y10) (some (A0.mk [.own 1 0 [],.sc (.int .i64 4)] [])) (Aj (call 125 [.sc (.string y3)]) fun Cl Fy=>Ac Fy<|Ab Cl fun Dn B3=>Dp 3 Dn fun Ew F4=>Ac B3<|Aj (call 125 [.sc (.string y4)]) fun Bm Ci=>Ac Ci<|Ab Bm fun Gx G2=>Dp 3 Gx fun Ib Hz=>Ac G2<|Aj (call 126 [.sc (.int .u64 y5)]) fun I4 G8=>Ac G8<|Ab I4 fun I5 Ls=>Dp 3 I5 fun F5 Il=>Ac Ls<|Ay (decide (0+Dt*1<=List.length D6))<|Aj (call 127 [.lst false 1 Dt (List.take (Dt*1) (List.drop 0 D6))]) fun Pc Qi=>Ac Qi<|Ab Pc fun Ke Kf=>Dp 3 Ke fun Ph Mw=>Ac Kf<|Aa (IntKind.wrap .u64 y8) fun Pi=>Aj (call 126 [.sc (.int .u64 Pi)]) fun Ps Qx=>Ac Qx<|Ab Ps fun Pd Qk=>Dp 3 Pd fun Q3 Q4=>Ac Qk<|Aa (IntKind.wrap .u64 y9) fun Kx=>Aj (call 126 [.sc (.int .u64 Kx)]) fun Sk Qw=>Ac Qw<|Ab Sk fun Sx Ow=>Dp 3 Sx fun Qu R5=>Ac Ow<|Aj (call 128 [.sc (.bool y10)]) fun S3 Qm=>Ac Qm<|Ab S3 fun Tw Vs=>Dp 3 Tw fun Sy Su=>Ac Vs<|Aa (IntKind.wrap .u64 Eb) fun Sf=>Aj (call 126 [.sc (.int .u64 Sf)]) fun Sa Wo=>Ac Wo<|Ab Sa fun Tf Td=>Dp 3 Tf fun Th Vh=>Ac Td<|Aj (call 126 [.sc (.int .u64 Ev)]) fun Uh Tc=>Ac Tc<|Ab Uh fun So Vr=>Dp 3 So fun Uk V2=>Ac Vr<|Ay (decide (0+Ew*3<=List.length F4))<|Ay (decide (0+Ib*3<=List.length Hz))<|Ay (decide (0+F5*3<=List.length Il))<|Ay (decide (0+Ph*3<=List.length Mw))<|Ay (decide (0+Q3*3<=List.length Q4))<|Ay (decide (0+Qu*3<=List.length R5))<|Ay (decide (0+Sy*3<=List.length Su))<|Ay (decide (0+Th*3<=List.length Vh))<|Ay (decide (0+Uk*3<=List.length V2))<|Aj (call 124 [.lst false 1 9 [.lst false 3 Ew (List.take (Ew*3) (List.drop 0 F4)),.lst false 3 Ib (List.take (Ib*3) (List.drop 0 Hz)),.lst false 3 F5 (List.take (F5*3) (List.drop 0 Il)),.lst false 3 Ph (List.take (Ph*3) (List.drop 0 Mw)),.lst false 3 Q3 (List.take (Q3*3) (List.drop 0 Q4)),.lst false 3 Qu (List.take (Qu*3) (List.drop 0 R5)),.lst false 3 Sy (List.take (Sy*3) (List.drop 0 Su)),.lst false 3 Th (List.take (Th*3) (List.drop 0 Vh)),.lst false 3 Uk (List.take (Uk*3) (List.drop 0 V2))]]) fun Xu Xa=>Ac Xa<|Ab Xu fun x81 X3=>Dp 3 x81 fun X4 Xo=>Ab X3 fun x85 x86=>Af .i64 x85 fun x87=>Ac x86<|A4 (x87 != 0) (some (A0.mk [.own 1 0 [],.sc (.int .i64 x87)] [])) (Ay (decide (0+X4*3<=List.length Xo))<|Aj (call 129 [.lst false 3 X4 (List.take (X4*3) (List.drop 0 Xo))]) fun Ro Uf=>Ac Uf<|Ab Ro fun Uo x91=>Dp 1 Uo fun x92 x93=>Ab x91 fun x94 x95=>Af .i64 x94 fun x96=>Ac x95<|Ay (decide (x92*1<=List.length x93))<|some (A0.mk [.own 1 x92 (List.take (x92*1) x93),.sc (.int .i64 x96)] [])))) (Aj (call 125 [.sc (.string y3)]) fun x97 x98=>Ac x98<|Ab x97 fun x99 Xq=>Dp 3 x99 fun Tu H9=>Ac Xq<|Aj (call 125 [.sc (.string y4)]) fun Lt Zr=>Ac Zr<|Ab Lt fun Uc Ry=>Dp 3 Uc fun Mz Aaj=>Ac Ry<|Aj (call 126 [.sc (.int .u64 y5)]) fun Acz Zs=>Ac Zs<|Ab Acz fun Aay Ji=>Dp 3 Aay fun Mt Afu=>Ac Ji<|Ay (decide (0+Dt*1<=List.length D6))<|Aj (call 127 [.lst false 1 Dt (List.take (Dt*1) (List.drop 0 D6))]) fun Afb Qg=>Ac Qg<|Ab Afb fun Wb Agv=>Dp 3 Wb fun Acu Agu=>Ac Agv<|Aa (IntKind.wrap .u64 y8) fun Ad8=>Aj (call 126 [.sc (.int .u64 Ad8)]) fun Agj Afw=>Ac Afw<|Ab Agj fun Afh Ad7=>Dp 3 Afh fun Vg Zc=>Ac Ad7<|Aa (IntKind.wrap .u64 y9) fun Af4=>Aj (call 126 [.sc (.int .u64 Af4)]) fun Aft Abs=>Ac Abs<|Ab Aft fun Aiv Af6=>Dp 3 Aiv fun Ad3 Ah7=>Ac Af6<|Aj (call 128 [.sc (.bool y10)]) fun Aji Aj5=>Ac Aj5<|Ab Aji fun Amd All=>Dp 3 Amd fun Afe Ah8=>Ac All<|Aa (IntKind.wrap .u64 Eb) fun Agm=>Aj (call 126 [.sc (.int .u64 Agm)]) fun Ah5 Aix=>Ac Aix<|Ab Ah5 fun Agl Aee=>Dp 3 Agl fun Ada Ahy=>Ac Aee<|Aj (call 126 [.sc (.int .u64 Ev)]) fun Ala Aro=>Ac Aro<|Ab Ala fun Apj Aqg=>Dp 3 Apj fun Afm Akh=>Ac Aqg<|Ay (decide (0+Tu*3<=List.length H9))<|Ay (decide (0+Mz*3<=List.length Aaj))<|Ay (decide (0+Mt*3<=List.length Afu))<|Ay (decide (0+Acu*3<=List.length Agu))<|Ay (decide (0+Vg*3<=List.length Zc))<|Ay (decide (0+Ad3*3<=List.length Ah7))<|Ay (decide (0+Afe*3<=List.length Ah8))<|Ay (decide (0+Ada*3<=List.length Ahy))<|Ay (decide (0+Afm*3<=List.length Akh))<|Aj (call 124 [.lst false 1 9 [.lst false 3 Tu (List.take (Tu*3) (List.drop 0 H9)),.lst false 3 Mz (List.take (Mz*3) (List.drop 0 Aaj)),.lst false 3 Mt (List.take (Mt*3) (List.drop 0 Afu)),.lst false 3 Acu (List.take (Acu*3) (List.drop 0 Agu)),.lst false 3 Vg (List.take (Vg*3) (List.drop 0 Zc)),.lst false 3 Ad3 (List.take (Ad3*3) (List.drop 0 Ah7)),.lst false 3 Afe (List.take (Afe*3) (List.drop 0 Ah8)),.lst false 3 Ada (List.take (Ada*3) (List.drop 0 Ahy)),.lst false 3 Afm (List.take (Afm*3) (List.drop 0 Akh))]]) fun Aln Alw=>Ac Alw<|Ab Aln fun Apt Al4=>Dp 3 Apt fun Amo Amv=>Ab Al4 fun Aq1 Ao5=>Af .i64 Aq1 fun Ame=>Ac Ao5<|A4 (Ame != 0) (some (A0.mk [.own 1 0 [],.sc (.int .i64 Ame)] [])) (Ay (decide (0+Amo*3<=List.length Amv))<|Aj (call 129 [.lst false 3 Amo (List.take (Amo*3) (List.drop 0 Amv))]) fun Ape Alf=>Ac Alf<|Ab Ape fun Amn Apk=>Dp 1 Amn fun Akw Amt=>Ab Apk fun Akc Ajs=>Af .i64 Akc fun Aqz=>Ac Ajs<|Ay (decide (Akw*1<=List.length Amt))<|some (A0.mk [.own 1 Akw (List.take (Akw*1) Amt),.sc (.int .i64 Aqz)] []))))))))))))):=by kernel_rfl
theorem Abz (fu d:Nat)(a0_0 a0_1:ByteArray)(a0_2 a0_3:Int)(a0_4 a0_5 a0_6:Int)(a0_7:Bool)(a0_8 a0_9 a0_10:Int)(a0_11n:Nat)(a0_11:List PV)(a0_12n:Nat)(a0_12:List PV):Ae C0 Tryz.prog fu (d+1) R1 [.agg [.sc (.string a0_0),.sc (.string a0_1),.sc (.int .u64 a0_2),.sc (.int .i64 a0_3),.sc (.int .u64 a0_4),.sc (.int .i64 a0_5),.sc (.int .i64 a0_6),.sc (.bool a0_7),.sc (.int .i64 a0_8),.sc (.int .u64 a0_9),.sc (.int .i64 a0_10),.lst false 1 a0_11n a0_11,.lst false 1 a0_12n a0_12]]=(fun (call:Aq)=>F3 fu call a0_0 a0_1 a0_2 a0_3 a0_4 a0_5 a0_6 a0_7 a0_8 a0_9 a0_10 a0_11n a0_11 a0_12n a0_12 (fu) (a0_0) (a0_1) 0 (a0_0) (a0_1) (a0_2) (a0_3) (a0_4) (a0_5) (a0_6) (a0_7) (a0_8) (a0_9) (a0_10) (a0_11n) (a0_11) (a0_12n) (a0_12)) (Ae C0 Tryz.prog fu d):=by kernel_rfl
abbrev Q7:FuncId:=113
theorem Acf (fu d:Nat)(a0_0 a0_1:ByteArray)(a0_2 a0_3:Int)(a0_4 a0_5 a0_6:Int)(a0_7:Bool)(a0_8 a0_9 a0_10:Int)(a0_11n:Nat)(a0_11:List PV)(a0_12n:Nat)(a0_12:List PV):Ae C0 Tryz.prog fu (d+1) Q7 [.agg [.sc (.string a0_0),.sc (.string a0_1),.sc (.int .u64 a0_2),.sc (.int .i64 a0_3),.sc (.int .u64 a0_4),.sc (.int .i64 a0_5),.sc (.int .i64 a0_6),.sc (.bool a0_7),.sc (.int .i64 a0_8),.sc (.int .u64 a0_9),.sc (.int .i64 a0_10),.lst false 1 a0_11n a0_11,.lst false 1 a0_12n a0_12]]=(fun (call:Aq)=>Aj (call 111 [.agg [.sc (.string a0_0),.sc (.string a0_1),.sc (.int .u64 a0_2),.sc (.int .i64 a0_3),.sc (.int .u64 a0_4),.sc (.int .i64 a0_5),.sc (.int .i64 a0_6),.sc (.bool a0_7),.sc (.int .i64 a0_8),.sc (.int .u64 a0_9),.sc (.int .i64 a0_10),.lst false 1 a0_11n a0_11,.lst false 1 a0_12n a0_12]]) fun x1 x2=>Ac x2<|Ab x1 fun x3 x4=>Dp 1 x3 fun x5 x6=>Ab x4 fun x7 x8=>Af .i64 x7 fun x9=>Ac x8<|A4 (x9 != 0) (some (A0.mk [.sc (.int .u64 0),.sc (.int .i64 x9)] [])) (Ay (decide (0+x5*1<=List.length x6))<|Aj (call 107 [.sc (.int .i64 14),.lst false 1 x5 (List.take (x5*1) (List.drop 0 x6))]) fun Cj Bp=>Ac Bp<|Ab Cj fun Cz C9=>Af .u64 Cz fun Cq=>Ac C9<|some (A0.mk [.sc (.int .u64 Cq),.sc (.int .i64 0)] []))) (Ae C0 Tryz.prog fu d):=by kernel_rfl
abbrev Oe:FuncId:=92
theorem X9 (fu d:Nat)(a0_0 a0_1:ByteArray)(a0_2 a0_3:Int)(a0_4 a0_5 a0_6:Int)(a0_7:Bool)(a0_8 a0_9 a0_10:Int)(a0_11n:Nat)(a0_11:List PV)(a0_12n:Nat)(a0_12:List PV)(a1_0 a1_1:Int):Ae C0 Tryz.prog fu (d+1) Oe [.agg [.sc (.string a0_0),.sc (.string a0_1),.sc (.int .u64 a0_2),.sc (.int .i64 a0_3),.sc (.int .u64 a0_4),.sc (.int .i64 a0_5),.sc (.int .i64 a0_6),.sc (.bool a0_7),.sc (.int .i64 a0_8),.sc (.int .u64 a0_9),.sc (.int .i64 a0_10),.lst false 1 a0_11n a0_11,.lst false 1 a0_12n a0_12],.agg [.sc (.int .i64 a1_0),.sc (.int .u64 a1_1)]]=(fun (call:Aq)=>Aj (call 113 [.agg [.sc (.string a0_0),.sc (.string a0_1),.sc (.int .u64 a0_2),.sc (.int .i64 a0_3),.sc (.int .u64 a0_4),.sc (.int .i64 a0_5),.sc (.int .i64 a0_6),.sc (.bool a0_7),.sc (.int .i64 a0_8),.sc (.int .u64 a0_9),.sc (.int .i64 a0_10),.lst false 1 a0_11n a0_11,.lst false 1 a0_12n a0_12]]) fun x1 x2=>Ac x2<|Ab x1 fun x3 x4=>Af .u64 x3 fun x5=>Ab x4 fun x6 x7=>Af .i64 x6 fun x8=>Ac x7<|A4 (x8 != 0) (some (A0.mk [.sc (.int .i64 x8)] [])) (Aj (call 56 [.agg [.sc (.int .i64 a1_0),.sc (.int .u64 a1_1)],.sc (.int .u64 x5),.agg [.sc (.int .i64 a0_10),.lst false 1 a0_11n a0_11,.lst false 1 a0_12n a0_12]]) fun x9 Cj=>Ac Cj<|Ab x9 fun Bp Cz=>Af .i64 Bp fun C9=>Ac Cz<|some (A0.mk [.sc (.int .i64 C9)] []))) (Ae C0 Tryz.prog fu d):=by kernel_rfl
abbrev O7:FuncId:=89
theorem Yw (fu d:Nat)(a0_0 a0_1:ByteArray)(a0_2 a0_3:Int)(a0_4 a0_5 a0_6:Int)(a0_7:Bool)(a0_8 a0_9 a0_10:Int)(a0_11n:Nat)(a0_11:List PV)(a0_12n:Nat)(a0_12:List PV):Ae C0 Tryz.prog fu (d+1) O7 [.agg [.sc (.string a0_0),.sc (.string a0_1),.sc (.int .u64 a0_2),.sc (.int .i64 a0_3),.sc (.int .u64 a0_4),.sc (.int .i64 a0_5),.sc (.int .i64 a0_6),.sc (.bool a0_7),.sc (.int .i64 a0_8),.sc (.int .u64 a0_9),.sc (.int .i64 a0_10),.lst false 1 a0_11n a0_11,.lst false 1 a0_12n a0_12]]=(fun (call:Aq)=>Aj (call 111 [.agg [.sc (.string a0_0),.sc (.string a0_1),.sc (.int .u64 a0_2),.sc (.int .i64 a0_3),.sc (.int .u64 a0_4),.sc (.int .i64 a0_5),.sc (.int .i64 a0_6),.sc (.bool a0_7),.sc (.int .i64 a0_8),.sc (.int .u64 a0_9),.sc (.int .i64 a0_10),.lst false 1 a0_11n a0_11,.lst false 1 a0_12n a0_12]]) fun x1 x2=>Ac x2<|Ab x1 fun x3 x4=>Dp 1 x3 fun x5 x6=>Ab x4 fun x7 x8=>Af .i64 x7 fun x9=>Ac x8<|A4 (x9 != 0) (some (A0.mk [.own 1 0 [],.sc (.int .i64 x9)] [])) (Aj (call 112 [.agg [.sc (.int .i64 a0_10),.lst false 1 a0_11n a0_11,.lst false 1 a0_12n a0_12]]) fun Cj Bp=>Ac Bp<|Ab Cj fun Cz C9=>Dp 1 Cz fun Cq C8=>Ab C9 fun Dh Dt=>Af .i64 Dh fun D6=>Ac Dt<|A4 (D6 != 0) (some (A0.mk [.own 1 0 [],.sc (.int .i64 D6)] [])) (Ay (decide (0+Cq*1<=List.length C8))<|Ay (decide (x5*1<=List.length x6)&&decide (List.length (List.take (Cq*1) (List.drop 0 C8))=Cq*1)&&decide ((x5+Cq)*1<=1099511627776)&&decide (x5+Cq<=1099511627776))<|Aa (x5+Cq) fun D1=>Aa (List.take (x5*1) x6++List.take (Cq*1) (List.drop 0 C8)) fun Ee=>Ay (decide (D1*1<=List.length Ee))<|some (A0.mk [.own 1 D1 (List.take (D1*1) Ee),.sc (.int .i64 0)] [])))) (Ae C0 Tryz.prog fu d):=by kernel_rfl
abbrev Oh:FuncId:=87
noncomputable def Ip (fu:Nat)(call:Aq)(a0n:Nat)(a0:List PV)(nn y0:Nat)(y1:List PV):Option A0:=Cw C0 Tryz.prog fu call 87 Tryz.f87 (B5 Tryz.f87) [.lst false 3 a0n a0] [] nn ⟨lk [(0,(.lst false 3 y0 y1))],Gf []⟩
noncomputable def M7 (fu:Nat)(call:Aq)(a0n:Nat)(a0:List PV)(nn y0:Nat)(y1 y2:List PV):Option A0:=Cw C0 Tryz.prog fu call 87 Tryz.f87 (B5 Tryz.f87) [.lst false 3 a0n a0] [.r] nn ⟨lk [(0,(.lst false 3 y0 y1)),(3,(.ptr 3 0))],Gf [(3,(.ar false y2))]⟩
noncomputable def Gj (fu:Nat)(call:Aq)(a0n:Nat)(a0:List PV)(nn y0:Nat)(y1:List PV)(y2 y3:Int)(y4:List PV):Option A0:=Cw C0 Tryz.prog fu call 87 Tryz.f87 (B5 Tryz.f87) [.lst false 3 a0n a0] [.r,.r,.r,.l,.r,.l] nn ⟨lk [(3,(.ptr 3 0)),(10,(.lst false 3 y0 y1)),(11,(.sc (.int .i64 y2))),(12,(.sc (.int .i64 y3)))],Gf [(3,(.ar false y4))]⟩
theorem Vm (fu:Nat)(call:Aq)(a0n:Nat)(a0:List PV)(nn:Nat)(hnn:0<nn)(y0:Nat)(y1:List PV):Ip fu call a0n a0 nn y0 y1=(M7 fu call a0n a0 (fu) (y0) (y1) ([.sc (.int .i64 5),.sc (.int .i64 4),.sc (.int .i64 4),.sc (.int .i64 1),.sc (.int .i64 3),.sc (.int .i64 1),.sc (.int .i64 1),.sc (.int .i64 7),.sc (.int .i64 1),.sc (.int .i64 1)])):=by cases nn with|zero=>exact absurd hnn (Nat.lt_irrefl 0)|succ nn=>kernel_rfl
theorem Ur (fu:Nat)(call:Aq)(a0n:Nat)(a0:List PV)(nn:Nat)(hnn:0<nn)(y0:Nat)(y1 y2:List PV):M7 fu call a0n a0 nn y0 y1 y2=(A4 ((↑y0:Int) != 10) (some (A0.mk [.sc (.bool false)] [])) (Gj fu call a0n a0 (fu) (y0) (y1) ((↑y0:Int)) 0 (y2))):=by cases nn with|zero=>exact absurd hnn (Nat.lt_irrefl 0)|succ nn=>kernel_rfl
theorem Ld (fu:Nat)(call:Aq)(a0n:Nat)(a0:List PV)(nn y0:Nat)(y1:List PV)(y2 y3:Int)(y4:List PV):Gj fu call a0n a0 (nn+1) y0 y1 y2 y3 y4=(A4 (decide (y3<y2)) (Ay (decide (0<=y3)&&decide (y3<(↑y0:Int)))<|Af .i64 (List.getD y1 (Int.toNat y3*3) .top) fun x1=>Af .u64 (List.getD y1 (Int.toNat y3*3+1) .top) fun x2=>Cn (List.getD y1 (Int.toNat y3*3+1+1) .top) fun x3=>Ay (decide (0<=y3)&&decide (y3<10))<|Af .i64 (List.getD y4 (0+Int.toNat y3*1) .top) fun x4=>A4 (x1 != x4) (some (A0.mk [.sc (.bool false)] [])) (Aa (IntKind.wrap .i64 (y3+1)) fun x5=>Gj fu call a0n a0 (nn) (y0) (y1) (y2) x5 (y4))) (some (A0.mk [.sc (.bool true)] []))):=by kernel_rfl
theorem Yq (fu d a0n:Nat)(a0:List PV):Ae C0 Tryz.prog fu (d+1) Oh [.lst false 3 a0n a0]=(fun (call:Aq)=>Ip fu call a0n a0 (fu) (a0n) (a0)) (Ae C0 Tryz.prog fu d):=by kernel_rfl
abbrev I9:FuncId:=57
theorem Yj (fu d a0n:Nat)(a0:List PV):Ae C0 Tryz.prog fu (d+1) I9 [.lst false 1 a0n a0]=(fun (call:Aq)=>A4 (decide ((↑a0n:Int)>512)) (some (A0.mk [.agg [.sc (.string (ByteArray.mk #[])),.sc (.string (ByteArray.mk #[])),.sc (.int .u64 0),.sc (.int .i64 0),.sc (.int .u64 0),.sc (.int .i64 0),.sc (.int .i64 0),.sc (.bool false),.sc (.int .i64 0),.sc (.int .u64 0),.sc (.int .i64 0),.lst false 1 0 [],.lst false 1 0 []],.sc (.int .i64 8)] [])) (Aj (call 86 [.lst false 1 a0n a0]) fun x1 x2=>Ac x2<|Ab x1 fun x3 x4=>Dp 3 x3 fun x5 x6=>Ab x4 fun x7 x8=>Af .i64 x7 fun x9=>Ab x8 fun Cj Bp=>Af .i64 Cj fun Cz=>Ac Bp<|A4 (Cz != 0) (some (A0.mk [.agg [.sc (.string (ByteArray.mk #[])),.sc (.string (ByteArray.mk #[])),.sc (.int .u64 0),.sc (.int .i64 0),.sc (.int .u64 0),.sc (.int .i64 0),.sc (.int .i64 0),.sc (.bool false),.sc (.int .i64 0),.sc (.int .u64 0),.sc (.int .i64 0),.lst false 1 0 [],.lst false 1 0 []],.sc (.int .i64 2)] [])) (Ay (decide (0+x5*3<=List.length x6))<|Aj (call 87 [.lst false 3 x5 (List.take (x5*3) (List.drop 0 x6))]) fun C9 Cq=>Ac Cq<|Ab C9 fun C8 Dh=>Bw C8 fun Dt=>Ac Dh<|A4 (!Dt) (some (A0.mk [.agg [.sc (.string (ByteArray.mk #[])),.sc (.string (ByteArray.mk #[])),.sc (.int .u64 0),.sc (.int .i64 0),.sc (.int .u64 0),.sc (.int .i64 0),.sc (.int .i64 0),.sc (.bool false),.sc (.int .i64 0),.sc (.int .u64 0),.sc (.int .i64 0),.lst false 1 0 [],.lst false 1 0 []],.sc (.int .i64 2)] [])) (Ay (decide (4<(↑x5:Int)))<|Cn (List.getD x6 14 .top) fun D6=>Ay (decide (ByteArray.size D6<=1099511627776))<|Ay (decide (0+ByteArray.size D6*1<=List.length (Ct D6)))<|Aj (call 88 [.lst false 1 (ByteArray.size D6) (List.take (ByteArray.size D6*1) (List.drop 0 (Ct D6)))]) fun D1 Ee=>Ac Ee<|Ab D1 fun Fq Cl=>C3 Fq fun Fy=>Ab Fy fun Dn B3=>Af .i64 Dn fun Ew=>Ab B3 fun F4 Bm=>Af .u64 F4 fun Ci=>Ac Bm<|Ab Cl fun Gx G2=>Af .i64 Gx fun Ib=>Ac G2<|A4 (Ib != 0) (some (A0.mk [.agg [.sc (.string (ByteArray.mk #[])),.sc (.string (ByteArray.mk #[])),.sc (.int .u64 0),.sc (.int .i64 0),.sc (.int .u64 0),.sc (.int .i64 0),.sc (.int .i64 0),.sc (.bool false),.sc (.int .i64 0),.sc (.int .u64 0),.sc (.int .i64 0),.lst false 1 0 [],.lst false 1 0 []],.sc (.int .i64 2)] [])) (Ay (decide (0<=x9))<|Ay (decide (Int.toNat x9<=a0n)&&decide (a0n<=a0n))<|Aa (a0n-Int.toNat x9) fun Hz=>Aa (List.take (Hz*1) (List.drop (Int.toNat x9*1) a0)) fun I4=>Aj (call 55 [.lst false 1 Hz I4]) fun G8 I5=>Ac I5<|Ab G8 fun Ls F5=>C3 Ls fun Il=>Ab Il fun Pc Qi=>Af .i64 Pc fun Ke=>Ab Qi fun Kf Ph=>Dp 1 Kf fun Mw Pi=>Ab Ph fun Ps Qx=>Dp 1 Ps fun Pd Qk=>Ac Qx<|Ab F5 fun Q3 Q4=>Af .i64 Q3 fun Kx=>Ac Q4<|A4 (Kx != 0) (some (A0.mk [.agg [.sc (.string (ByteArray.mk #[])),.sc (.string (ByteArray.mk #[])),.sc (.int .u64 0),.sc (.int .i64 0),.sc (.int .u64 0),.sc (.int .i64 0),.sc (.int .i64 0),.sc (.bool false),.sc (.int .i64 0),.sc (.int .u64 0),.sc (.int .i64 0),.lst false 1 0 [],.lst false 1 0 []],.sc (.int .i64 2)] [])) (Ay (decide (1<(↑x5:Int)))<|Cn (List.getD x6 5 .top) fun Sk=>Ay (decide (2<(↑x5:Int)))<|Cn (List.getD x6 8 .top) fun Qw=>Ay (decide (3<(↑x5:Int)))<|Af .u64 (List.getD x6 10 .top) fun Sx=>Ay (decide (5<(↑x5:Int)))<|Af .u64 (List.getD x6 16 .top) fun Ow=>Aa (IntKind.wrap .i64 Ow) fun Qu=>Ay (decide (6<(↑x5:Int)))<|Af .u64 (List.getD x6 19 .top) fun R5=>Aa (IntKind.wrap .i64 R5) fun S3=>Ay (decide (7<(↑x5:Int)))<|Af .u64 (List.getD x6 22 .top) fun Qm=>Ay (decide (8<(↑x5:Int)))<|Af .u64 (List.getD x6 25 .top) fun Tw=>Aa (IntKind.wrap .i64 Tw) fun Vs=>Ay (decide (9<(↑x5:Int)))<|Af .u64 (List.getD x6 28 .top) fun Sy=>Ay (decide (0+Mw*1<=List.length Pi))<|Ay (decide (0+Pd*1<=List.length Qk))<|Aj (call 89 [.agg [.sc (.string Sk),.sc (.string Qw),.sc (.int .u64 Sx),.sc (.int .i64 Ew),.sc (.int .u64 Ci),.sc (.int .i64 Qu),.sc (.int .i64 S3),.sc (.bool (Qm==1)),.sc (.int .i64 Vs),.sc (.int .u64 Sy),.sc (.int .i64 Ke),.lst false 1 Mw (List.take (Mw*1) (List.drop 0 Pi)),.lst false 1 Pd (List.take (Pd*1) (List.drop 0 Qk))]]) fun Su Sf=>Ac Sf<|Ab Su fun Sa Wo=>Dp 1 Sa fun Tf Td=>Ab Wo fun Th Vh=>Af .i64 Th fun Uh=>Ac Vh<|A4 (Uh != 0) (some (A0.mk [.agg [.sc (.string (ByteArray.mk #[])),.sc (.string (ByteArray.mk #[])),.sc (.int .u64 0),.sc (.int .i64 0),.sc (.int .u64 0),.sc (.int .i64 0),.sc (.int .i64 0),.sc (.bool false),.sc (.int .i64 0),.sc (.int .u64 0),.sc (.int .i64 0),.lst false 1 0 [],.lst false 1 0 []],.sc (.int .i64 2)] [])) (Ay (decide (0+Tf*1<=List.length Td))<|Aj (call 90 [.lst false 1 Tf (List.take (Tf*1) (List.drop 0 Td)),.lst false 1 a0n a0]) fun Tc So=>Ac So<|Ab Tc fun Vr Uk=>Bw Vr fun V2=>Ac Uk<|A4 (!V2) (some (A0.mk [.agg [.sc (.string (ByteArray.mk #[])),.sc (.string (ByteArray.mk #[])),.sc (.int .u64 0),.sc (.int .i64 0),.sc (.int .u64 0),.sc (.int .i64 0),.sc (.int .i64 0),.sc (.bool false),.sc (.int .i64 0),.sc (.int .u64 0),.sc (.int .i64 0),.lst false 1 0 [],.lst false 1 0 []],.sc (.int .i64 2)] [])) (Ay (decide (0+Mw*1<=List.length Pi))<|Ay (decide (0+Pd*1<=List.length Qk))<|some (A0.mk [.agg [.sc (.string Sk),.sc (.string Qw),.sc (.int .u64 Sx),.sc (.int .i64 Ew),.sc (.int .u64 Ci),.sc (.int .i64 Qu),.sc (.int .i64 S3),.sc (.bool (Qm==1)),.sc (.int .i64 Vs),.sc (.int .u64 Sy),.sc (.int .i64 Ke),.lst false 1 Mw (List.take (Mw*1) (List.drop 0 Pi)),.lst false 1 Pd (List.take (Pd*1) (List.drop 0 Qk))],.sc (.int .i64 0)] []))))))))) (Ae C0 Tryz.prog fu d):=by kernel_rfl
abbrev K0:FuncId:=91
noncomputable def C6 (fu:Nat)(call:Aq)(a0_0 a0_1:ByteArray)(a0_2 a0_3:Int)(a0_4 a0_5 a0_6:Int)(a0_7:Bool)(a0_8 a0_9 a0_10:Int)(a0_11n:Nat)(a0_11:List PV)(a0_12n:Nat)(a0_12:List PV)(a1:Int)(a2n:Nat)(a2:List PV)(a3:Int)(nn:Nat)(y0:Int)(y1:Nat)(y2:List PV)(y3 y4:Int)(y5 y6:ByteArray)(y7 y8:Int)(y9 y10 Eb:Int)(Ev:Bool)(Hf Ik Iq:Int)(Iv:Nat)(I3:List PV)(J0:Nat)(Sh:List PV):Option A0:=Cw C0 Tryz.prog fu call 91 Tryz.f91 (B5 Tryz.f91) [.agg [.sc (.string a0_0),.sc (.string a0_1),.sc (.int .u64 a0_2),.sc (.int .i64 a0_3),.sc (.int .u64 a0_4),.sc (.int .i64 a0_5),.sc (.int .i64 a0_6),.sc (.bool a0_7),.sc (.int .i64 a0_8),.sc (.int .u64 a0_9),.sc (.int .i64 a0_10),.lst false 1 a0_11n a0_11,.lst false 1 a0_12n a0_12],.sc (.int .i64 a1),.lst false 3 a2n a2,.sc (.int .i64 a3)] [.r,.r,.r,.r,.l,.r,.l] nn ⟨lk [(3,(.sc (.int .i64 y0))),(4,(.ptr 4 0)),(45,(.lst false 3 y1 y2)),(46,(.sc (.int .i64 y3))),(47,(.sc (.int .i64 y4)))],Gf [(4,(.st [(.sc (.string y5)),(.sc (.string y6)),(.sc (.int .u64 y7)),(.sc (.int .i64 y8)),(.sc (.int .u64 y9)),(.sc (.int .i64 y10)),(.sc (.int .i64 Eb)),(.sc (.bool Ev)),(.sc (.int .i64 Hf)),(.sc (.int .u64 Ik)),(.sc (.int .i64 Iq)),(.lst false 1 Iv I3),(.lst false 1 J0 Sh)]))]⟩
theorem I7 (fu:Nat)(call:Aq)(a0_0 a0_1:ByteArray)(a0_2 a0_3:Int)(a0_4 a0_5 a0_6:Int)(a0_7:Bool)(a0_8 a0_9 a0_10:Int)(a0_11n:Nat)(a0_11:List PV)(a0_12n:Nat)(a0_12:List PV)(a1:Int)(a2n:Nat)(a2:List PV)(a3:Int)(nn:Nat)(y0:Int)(y1:Nat)(y2:List PV)(y3 y4:Int)(y5 y6:ByteArray)(y7 y8:Int)(y9 y10 Eb:Int)(Ev:Bool)(Hf Ik Iq:Int)(Iv:Nat)(I3:List PV)(J0:Nat)(Sh:List PV):C6 fu call a0_0 a0_1 a0_2 a0_3 a0_4 a0_5 a0_6 a0_7 a0_8 a0_9 a0_10 a0_11n a0_11 a0_12n a0_12 a1 a2n a2 a3 (nn+1) y0 y1 y2 y3 y4 y5 y6 y7 y8 y9 y10 Eb Ev Hf Ik Iq Iv I3 J0 Sh=(A4 (decide (y4<y3)) (Ay (decide (0<=y4)&&decide (y4<(↑y1:Int)))<|Cn (List.getD y2 (Int.toNat y4*3) .top) fun Bp=>Af .u64 (List.getD y2 (Int.toNat y4*3+1) .top) fun Cz=>Af .i64 (List.getD y2 (Int.toNat y4*3+1+1) .top) fun C9=>A4 (Array.toList (ByteArray.data Bp)==Array.toList (ByteArray.data y6)) (A4 (Cz==y7) (A4 (decide (C9<=y0)) (some (A0.mk [.sc (.int .i64 39)] [])) (Aa (IntKind.wrap .i64 (y4+1)) fun Cq=>C6 fu call a0_0 a0_1 a0_2 a0_3 a0_4 a0_5 a0_6 a0_7 a0_8 a0_9 a0_10 a0_11n a0_11 a0_12n a0_12 a1 a2n a2 a3 (nn) (y0) (y1) (y2) (y3) Cq (y5) (y6) (y7) (y8) (y9) (y10) (Eb) (Ev) (Hf) (Ik) (Iq) (Iv) (I3) (J0) (Sh))) (Aa (IntKind.wrap .i64 (y4+1)) fun C8=>C6 fu call a0_0 a0_1 a0_2 a0_3 a0_4 a0_5 a0_6 a0_7 a0_8 a0_9 a0_10 a0_11n a0_11 a0_12n a0_12 a1 a2n a2 a3 (nn) (y0) (y1) (y2) (y3) C8 (y5) (y6) (y7) (y8) (y9) (y10) (Eb) (Ev) (Hf) (Ik) (Iq) (Iv) (I3) (J0) (Sh))) (Aa (IntKind.wrap .i64 (y4+1)) fun Dh=>C6 fu call a0_0 a0_1 a0_2 a0_3 a0_4 a0_5 a0_6 a0_7 a0_8 a0_9 a0_10 a0_11n a0_11 a0_12n a0_12 a1 a2n a2 a3 (nn) (y0) (y1) (y2) (y3) Dh (y5) (y6) (y7) (y8) (y9) (y10) (Eb) (Ev) (Hf) (Ik) (Iq) (Iv) (I3) (J0) (Sh))) (some (A0.mk [.sc (.int .i64 0)] []))):=by kernel_rfl
theorem Vp (fu d:Nat)(a0_0 a0_1:ByteArray)(a0_2 a0_3:Int)(a0_4 a0_5 a0_6:Int)(a0_7:Bool)(a0_8 a0_9 a0_10:Int)(a0_11n:Nat)(a0_11:List PV)(a0_12n:Nat)(a0_12:List PV)(a1:Int)(a2n:Nat)(a2:List PV)(a3:Int):Ae C0 Tryz.prog fu (d+1) K0 [.agg [.sc (.string a0_0),.sc (.string a0_1),.sc (.int .u64 a0_2),.sc (.int .i64 a0_3),.sc (.int .u64 a0_4),.sc (.int .i64 a0_5),.sc (.int .i64 a0_6),.sc (.bool a0_7),.sc (.int .i64 a0_8),.sc (.int .u64 a0_9),.sc (.int .i64 a0_10),.lst false 1 a0_11n a0_11,.lst false 1 a0_12n a0_12],.sc (.int .i64 a1),.lst false 3 a2n a2,.sc (.int .i64 a3)]=(fun (call:Aq)=>Aj (call 111 [.agg [.sc (.string a0_0),.sc (.string a0_1),.sc (.int .u64 a0_2),.sc (.int .i64 a0_3),.sc (.int .u64 a0_4),.sc (.int .i64 a0_5),.sc (.int .i64 a0_6),.sc (.bool a0_7),.sc (.int .i64 a0_8),.sc (.int .u64 a0_9),.sc (.int .i64 a0_10),.lst false 1 a0_11n a0_11,.lst false 1 a0_12n a0_12]]) fun x1 x2=>Ac x2<|Ab x1 fun x3 x4=>Dp 1 x3 fun x5 x6=>Ab x4 fun x7 x8=>Af .i64 x7 fun x9=>Ac x8<|A4 (x9 != 0) (some (A0.mk [.sc (.int .i64 x9)] [])) (A4 (decide (a3<a0_5)) (some (A0.mk [.sc (.int .i64 38)] [])) (A4 (decide (a3>a0_6)) (some (A0.mk [.sc (.int .i64 38)] [])) (A4 (decide (a1>0)) (A4 (!a0_7) (some (A0.mk [.sc (.int .i64 38)] [])) (Aa (IntKind.wrap .i64 (a1-1)) fun Cj=>A4 (decide (a0_8<Cj)) (some (A0.mk [.sc (.int .i64 38)] [])) (C6 fu call a0_0 a0_1 a0_2 a0_3 a0_4 a0_5 a0_6 a0_7 a0_8 a0_9 a0_10 a0_11n a0_11 a0_12n a0_12 a1 a2n a2 a3 (fu) (a3) (a2n) (a2) ((↑a2n:Int)) 0 (a0_0) (a0_1) (a0_2) (a0_3) (a0_4) (a0_5) (a0_6) (a0_7) (a0_8) (a0_9) (a0_10) (a0_11n) (a0_11) (a0_12n) (a0_12)))) (C6 fu call a0_0 a0_1 a0_2 a0_3 a0_4 a0_5 a0_6 a0_7 a0_8 a0_9 a0_10 a0_11n a0_11 a0_12n a0_12 a1 a2n a2 a3 (fu) (a3) (a2n) (a2) ((↑a2n:Int)) 0 (a0_0) (a0_1) (a0_2) (a0_3) (a0_4) (a0_5) (a0_6) (a0_7) (a0_8) (a0_9) (a0_10) (a0_11n) (a0_11) (a0_12n) (a0_12)))))) (Ae C0 Tryz.prog fu d):=by kernel_rfl
abbrev Rn:FuncId:=58
noncomputable def Hk (fu:Nat)(call:Aq)(a0n:Nat)(a0:List PV)(a1n:Nat)(a1:List PV)(a2n:Nat)(a2:List PV)(a3:Int)(nn y0:Nat)(y1:List PV)(y2:Nat)(y3:List PV)(y4:Nat)(y5:List PV)(y6:Int)(y7:Nat)(y8:List PV)(y9 y10:Int):Option A0:=Cw C0 Tryz.prog fu call 58 Tryz.f58 (B5 Tryz.f58) [.lst false 13 a0n a0,.lst false 3 a1n a1,.lst false 3 a2n a2,.sc (.int .i64 a3)] [.r,.r,.r,.l,.r,.l] nn ⟨lk [(0,(.lst false 13 y0 y1)),(1,(.lst false 3 y2 y3)),(2,(.lst false 3 y4 y5)),(3,(.sc (.int .i64 y6))),(31,(.lst false 13 y7 y8)),(32,(.sc (.int .i64 y9))),(33,(.sc (.int .i64 y10)))],Gf []⟩
noncomputable def E5 (fu:Nat)(call:Aq)(a0n:Nat)(a0:List PV)(a1n:Nat)(a1:List PV)(a2n:Nat)(a2:List PV)(a3:Int)(nn y0:Nat)(y1:List PV)(y2 y3:Int)(y4 y5:ByteArray)(y6 y7:Int)(y8 y9 y10:Int)(Eb:Bool)(Ev Hf Ik:Int)(Iq:Nat)(Iv:List PV)(I3:Nat)(J0:List PV):Option A0:=Cw C0 Tryz.prog fu call 58 Tryz.f58 (B5 Tryz.f58) [.lst false 13 a0n a0,.lst false 3 a1n a1,.lst false 3 a2n a2,.sc (.int .i64 a3)] [.r,.r,.r,.r,.r,.l,.r,.l] nn ⟨lk [(14,(.ptr 14 0)),(78,(.lst false 3 y0 y1)),(79,(.sc (.int .i64 y2))),(80,(.sc (.int .i64 y3)))],Gf [(14,(.st [(.sc (.string y4)),(.sc (.string y5)),(.sc (.int .u64 y6)),(.sc (.int .i64 y7)),(.sc (.int .u64 y8)),(.sc (.int .i64 y9)),(.sc (.int .i64 y10)),(.sc (.bool Eb)),(.sc (.int .i64 Ev)),(.sc (.int .u64 Hf)),(.sc (.int .i64 Ik)),(.lst false 1 Iq Iv),(.lst false 1 I3 J0)]))]⟩
theorem M8 (fu:Nat)(call:Aq)(a0n:Nat)(a0:List PV)(a1n:Nat)(a1:List PV)(a2n:Nat)(a2:List PV)(a3:Int)(nn y0:Nat)(y1:List PV)(y2:Nat)(y3:List PV)(y4:Nat)(y5:List PV)(y6:Int)(y7:Nat)(y8:List PV)(y9 y10:Int):Hk fu call a0n a0 a1n a1 a2n a2 a3 (nn+1) y0 y1 y2 y3 y4 y5 y6 y7 y8 y9 y10=(A4 (decide (y10<y9)) (Ay (decide (0<=y10)&&decide (y10<(↑y7:Int)))<|Cn (List.getD y8 (Int.toNat y10*13) .top) fun x1=>Cn (List.getD y8 (Int.toNat y10*13+1) .top) fun x2=>Af .u64 (List.getD y8 (Int.toNat y10*13+1+1) .top) fun x3=>Af .i64 (List.getD y8 (Int.toNat y10*13+1+1+1) .top) fun x4=>Af .u64 (List.getD y8 (Int.toNat y10*13+1+1+1+1) .top) fun x5=>Af .i64 (List.getD y8 (Int.toNat y10*13+1+1+1+1+1) .top) fun x6=>Af .i64 (List.getD y8 (Int.toNat y10*13+1+1+1+1+1+1) .top) fun x7=>Bw (List.getD y8 (Int.toNat y10*13+1+1+1+1+1+1+1) .top) fun x8=>Af .i64 (List.getD y8 (Int.toNat y10*13+1+1+1+1+1+1+1+1) .top) fun x9=>Af .u64 (List.getD y8 (Int.toNat y10*13+1+1+1+1+1+1+1+1+1) .top) fun Cj=>Af .i64 (List.getD y8 (Int.toNat y10*13+1+1+1+1+1+1+1+1+1+1) .top) fun Bp=>Iz 1 (List.getD y8 (Int.toNat y10*13+1+1+1+1+1+1+1+1+1+1+1) .top) fun Cz C9 Cq=>Iz 1 (List.getD y8 (Int.toNat y10*13+1+1+1+1+1+1+1+1+1+1+1+1) .top) fun C8 Dh Dt=>Aj (call 91 [.agg [.sc (.string x1),.sc (.string x2),.sc (.int .u64 x3),.sc (.int .i64 x4),.sc (.int .u64 x5),.sc (.int .i64 x6),.sc (.int .i64 x7),.sc (.bool x8),.sc (.int .i64 x9),.sc (.int .u64 Cj),.sc (.int .i64 Bp),.lst false 1 C9 Cq,.lst false 1 Dh Dt],.sc (.int .i64 y10),.lst false 3 y4 y5,.sc (.int .i64 y6)]) fun D6 D1=>Ac D1<|Ab D6 fun Ee Fq=>Af .i64 Ee fun Cl=>Ac Fq<|A4 (Cl != 0) (some (A0.mk [.sc (.int .i64 0),.sc (.int .i64 Cl)] [])) (Aa (IntKind.wrap .i64 ((↑y0:Int)-1)) fun Fy=>A4 (y10==Fy) (Aa (IntKind.wrap .i64 ((↑y0:Int)-1)) fun Dn=>Ay (decide (0<=Dn)&&decide (Dn<(↑y0:Int)))<|Cn (List.getD y1 (Int.toNat Dn*13) .top) fun B3=>Cn (List.getD y1 (Int.toNat Dn*13+1) .top) fun Ew=>Af .u64 (List.getD y1 (Int.toNat Dn*13+1+1) .top) fun F4=>Af .i64 (List.getD y1 (Int.toNat Dn*13+1+1+1) .top) fun Bm=>Af .u64 (List.getD y1 (Int.toNat Dn*13+1+1+1+1) .top) fun Ci=>Af .i64 (List.getD y1 (Int.toNat Dn*13+1+1+1+1+1) .top) fun Gx=>Af .i64 (List.getD y1 (Int.toNat Dn*13+1+1+1+1+1+1) .top) fun G2=>Bw (List.getD y1 (Int.toNat Dn*13+1+1+1+1+1+1+1) .top) fun Ib=>Af .i64 (List.getD y1 (Int.toNat Dn*13+1+1+1+1+1+1+1+1) .top) fun Hz=>Af .u64 (List.getD y1 (Int.toNat Dn*13+1+1+1+1+1+1+1+1+1) .top) fun I4=>Af .i64 (List.getD y1 (Int.toNat Dn*13+1+1+1+1+1+1+1+1+1+1) .top) fun G8=>Iz 1 (List.getD y1 (Int.toNat Dn*13+1+1+1+1+1+1+1+1+1+1+1) .top) fun I5 Ls F5=>Iz 1 (List.getD y1 (Int.toNat Dn*13+1+1+1+1+1+1+1+1+1+1+1+1) .top) fun Il Pc Qi=>E5 fu call a0n a0 a1n a1 a2n a2 a3 (fu) (y2) (y3) ((↑y2:Int)) 0 B3 Ew F4 Bm Ci Gx G2 Ib Hz I4 G8 Ls F5 Pc Qi) (Aa (IntKind.wrap .i64 (y10+1)) fun Ke=>Ay (decide (0<=Ke)&&decide (Ke<(↑y0:Int)))<|Cn (List.getD y1 (Int.toNat Ke*13+0) .top) fun Kf=>A4 (!Array.toList (ByteArray.data x2)==Array.toList (ByteArray.data Kf)) (some (A0.mk [.sc (.int .i64 0),.sc (.int .i64 38)] [])) (Aa (IntKind.wrap .i64 (y10+1)) fun Ph=>Ay (decide (0<=Ph)&&decide (Ph<(↑y0:Int)))<|Af .i64 (List.getD y1 (Int.toNat Ph*13+3) .top) fun Mw=>Af .u64 (List.getD y1 (Int.toNat Ph*13+3+1) .top) fun Pi=>Aj (call 92 [.agg [.sc (.string x1),.sc (.string x2),.sc (.int .u64 x3),.sc (.int .i64 x4),.sc (.int .u64 x5),.sc (.int .i64 x6),.sc (.int .i64 x7),.sc (.bool x8),.sc (.int .i64 x9),.sc (.int .u64 Cj),.sc (.int .i64 Bp),.lst false 1 C9 Cq,.lst false 1 Dh Dt],.agg [.sc (.int .i64 Mw),.sc (.int .u64 Pi)]]) fun Ps Qx=>Ac Qx<|Ab Ps fun Pd Qk=>Af .i64 Pd fun Q3=>Ac Qk<|A4 (Q3 != 0) (some (A0.mk [.sc (.int .i64 0),.sc (.int .i64 Q3)] [])) (Aa (IntKind.wrap .i64 (y10+1)) fun Q4=>Hk fu call a0n a0 a1n a1 a2n a2 a3 (nn) (y0) (y1) (y2) (y3) (y4) (y5) (y6) (y7) (y8) (y9) Q4))))) (Aa (IntKind.wrap .i64 ((↑y0:Int)-1)) fun Kx=>Ay (decide (0<=Kx)&&decide (Kx<(↑y0:Int)))<|Cn (List.getD y1 (Int.toNat Kx*13) .top) fun Sk=>Cn (List.getD y1 (Int.toNat Kx*13+1) .top) fun Qw=>Af .u64 (List.getD y1 (Int.toNat Kx*13+1+1) .top) fun Sx=>Af .i64 (List.getD y1 (Int.toNat Kx*13+1+1+1) .top) fun Ow=>Af .u64 (List.getD y1 (Int.toNat Kx*13+1+1+1+1) .top) fun Qu=>Af .i64 (List.getD y1 (Int.toNat Kx*13+1+1+1+1+1) .top) fun R5=>Af .i64 (List.getD y1 (Int.toNat Kx*13+1+1+1+1+1+1) .top) fun S3=>Bw (List.getD y1 (Int.toNat Kx*13+1+1+1+1+1+1+1) .top) fun Qm=>Af .i64 (List.getD y1 (Int.toNat Kx*13+1+1+1+1+1+1+1+1) .top) fun Tw=>Af .u64 (List.getD y1 (Int.toNat Kx*13+1+1+1+1+1+1+1+1+1) .top) fun Vs=>Af .i64 (List.getD y1 (Int.toNat Kx*13+1+1+1+1+1+1+1+1+1+1) .top) fun Sy=>Iz 1 (List.getD y1 (Int.toNat Kx*13+1+1+1+1+1+1+1+1+1+1+1) .top) fun Su Sf Sa=>Iz 1 (List.getD y1 (Int.toNat Kx*13+1+1+1+1+1+1+1+1+1+1+1+1) .top) fun Wo Tf Td=>E5 fu call a0n a0 a1n a1 a2n a2 a3 (fu) (y2) (y3) ((↑y2:Int)) 0 Sk Qw Sx Ow Qu R5 S3 Qm Tw Vs Sy Sf Sa Tf Td)):=by kernel_rfl
theorem M3 (fu:Nat)(call:Aq)(a0n:Nat)(a0:List PV)(a1n:Nat)(a1:List PV)(a2n:Nat)(a2:List PV)(a3:Int)(nn y0:Nat)(y1:List PV)(y2 y3:Int)(y4 y5:ByteArray)(y6 y7:Int)(y8 y9 y10:Int)(Eb:Bool)(Ev Hf Ik:Int)(Iq:Nat)(Iv:List PV)(I3:Nat)(J0:List PV):E5 fu call a0n a0 a1n a1 a2n a2 a3 (nn+1) y0 y1 y2 y3 y4 y5 y6 y7 y8 y9 y10 Eb Ev Hf Ik Iq Iv I3 J0=(A4 (decide (y3<y2)) (Ay (decide (0<=y3)&&decide (y3<(↑y0:Int)))<|Cn (List.getD y1 (Int.toNat y3*3) .top) fun Th=>Af .i64 (List.getD y1 (Int.toNat y3*3+1) .top) fun Vh=>Af .u64 (List.getD y1 (Int.toNat y3*3+1+1) .top) fun Uh=>A4 (Array.toList (ByteArray.data Th)==Array.toList (ByteArray.data y5)) (Aj (call 92 [.agg [.sc (.string y4),.sc (.string y5),.sc (.int .u64 y6),.sc (.int .i64 y7),.sc (.int .u64 y8),.sc (.int .i64 y9),.sc (.int .i64 y10),.sc (.bool Eb),.sc (.int .i64 Ev),.sc (.int .u64 Hf),.sc (.int .i64 Ik),.lst false 1 Iq Iv,.lst false 1 I3 J0],.agg [.sc (.int .i64 Vh),.sc (.int .u64 Uh)]]) fun Tc So=>Ac So<|Ab Tc fun Vr Uk=>Af .i64 Vr fun V2=>Ac Uk<|A4 (V2==0) (some (A0.mk [.sc (.int .i64 y3),.sc (.int .i64 0)] [])) (Aa (IntKind.wrap .i64 (y3+1)) fun Xu=>E5 fu call a0n a0 a1n a1 a2n a2 a3 (nn) (y0) (y1) (y2) Xu (y4) (y5) (y6) (y7) (y8) (y9) (y10) (Eb) (Ev) (Hf) (Ik) (Iq) (Iv) (I3) (J0))) (Aa (IntKind.wrap .i64 (y3+1)) fun Xa=>E5 fu call a0n a0 a1n a1 a2n a2 a3 (nn) (y0) (y1) (y2) Xa (y4) (y5) (y6) (y7) (y8) (y9) (y10) (Eb) (Ev) (Hf) (Ik) (Iq) (Iv) (I3) (J0))) (some (A0.mk [.sc (.int .i64 0),.sc (.int .i64 38)] []))):=by kernel_rfl
theorem Abw (fu d a0n:Nat)(a0:List PV)(a1n:Nat)(a1:List PV)(a2n:Nat)(a2:List PV)(a3:Int):Ae C0 Tryz.prog fu (d+1) Rn [.lst false 13 a0n a0,.lst false 3 a1n a1,.lst false 3 a2n a2,.sc (.int .i64 a3)]=(fun (call:Aq)=>A4 (decide (a3<0)) (some (A0.mk [.sc (.int .i64 0),.sc (.int .i64 9)] [])) (A4 (decide (a3>1099511627776)) (some (A0.mk [.sc (.int .i64 0),.sc (.int .i64 9)] [])) (A4 (decide ((↑a0n:Int)<1)) (some (A0.mk [.sc (.int .i64 0),.sc (.int .i64 38)] [])) (A4 (decide ((↑a0n:Int)>3)) (some (A0.mk [.sc (.int .i64 0),.sc (.int .i64 38)] [])) (Hk fu call a0n a0 a1n a1 a2n a2 a3 (fu) (a0n) (a0) (a1n) (a1) (a2n) (a2) (a3) (a0n) (a0) ((↑a0n:Int)) 0))))) (Ae C0 Tryz.prog fu d):=by kernel_rfl
abbrev Abk:FuncId:=90
theorem Amx (fu d a0n:Nat)(a0:List PV)(a1n:Nat)(a1:List PV):Ae C0 Tryz.prog fu (d+1) Abk [.lst false 1 a0n a0,.lst false 1 a1n a1]=(fun (call:Aq)=>Ay (decide (List.length a0=a0n))<|Fe (bytesOf a0) fun x1=>Ay (decide (List.length a1=a1n))<|Fe (bytesOf a1) fun x2=>some (A0.mk [.sc (.bool (Array.toList (ByteArray.data (ByteArray.mk (List.toArray x1)))==Array.toList (ByteArray.data (ByteArray.mk (List.toArray x2)))))] [])) (Ae C0 Tryz.prog fu d):=by kernel_rfl
end
section
theorem Atc {c:Ce}{e:Int}(h:Be c=e)(he:e≠0):Gr c=[.own 1 0 [],.sc (.int .i64 e)]:=by
 unfold Gr;rw [h,A3 he]
theorem Fn {c:Ce}{e:Int}(h:Be c=e)(he:e≠0):some (A0.mk [.own 1 0 [],.sc (.int .i64 e)] [])=some (A0.mk (Gr c) []):=by
 rw [Atc h he]
def Mg (c:Ce):List It:=[⟨4,0,c.subj⟩,⟨4,0,c.iss⟩,⟨1,c.serial,C2⟩,⟨3,0,Bo (G3 c.key)⟩,⟨1,c.fr,C2⟩,⟨1,c.un,C2⟩,⟨7,(if c.auth=true then 1 else 0),C2⟩,⟨1,c.path,C2⟩,⟨1,c.model,C2⟩]
theorem Yd {c:Ce}(hw:c.wf)(h:Be c=0):∀x∈Mg c,Aqo x:=by
 unfold Be at h;have kl:(Bo (G3 c.key)).size=9:=by rw [Ey];rfl
 have ns:C2.size=0:=rfl;have hs:=hw.ser;have hm:=hw.mod;have es:Adq C2=true:=rfl;by_cases e1:c.subj.size<1∨32<c.subj.size
 ·rw [Bk e1] at h;cases h
 rw [A3 e1] at h;by_cases e2:c.iss.size<1∨32<c.iss.size
 ·rw [Bk e2] at h;cases h
 rw [A3 e2] at h;by_cases e3:okS c.subj=false
 ·rw [Bk e3] at h;cases h
 rw [A3 e3] at h;by_cases e4:okS c.iss=false
 ·rw [Bk e4] at h;cases h
 rw [A3 e4] at h
 repeat' (split at h;· cases h)
 rw [Bool.not_eq_false] at e3 e4;intro x hx;simp only [Mg,List.mem_cons,List.not_mem_nil,or_false] at hx;rcases hx with rfl|rfl|rfl|rfl|rfl|rfl|rfl|rfl|rfl
 ·exact ⟨by simp,by simp only;omega,fun _=>e3,by simp [Hc],by simp⟩
 ·exact ⟨by simp,by simp only;omega,fun _=>e4,by simp [Hc],by simp⟩
 ·exact ⟨by simp,by simp only [ns];omega,fun h=>by simp at h,by simp [Hc,es],hs⟩
 ·exact ⟨by simp,by simp only [kl];omega,fun h=>by simp at h,by simp [Hc],by simp⟩
 ·exact ⟨by simp,by simp only [ns];omega,fun h=>by simp at h,by simp [Hc,es],by simp only;omega⟩
 ·exact ⟨by simp,by simp only [ns];omega,fun h=>by simp at h,by simp [Hc,es],by simp only;omega⟩
 ·exact ⟨by simp,by simp only [ns];omega,fun h=>by simp at h,by simp [Hc,es];split<;>omega,by simp only;split<;>omega⟩
 ·exact ⟨by simp,by simp only [ns];omega,fun h=>by simp at h,by simp [Hc,es],by simp only;omega⟩
 ·exact ⟨by simp,by simp only [ns];omega,fun h=>by simp at h,by simp [Hc,es],hm⟩
theorem Acn {c:Ce}(hw:c.wf)(h:Be c=0):Rt [] 0 (Bb c):=Az3 (r:=Mg c) (by simp [Mg]) (by simp [Mg]) (Yd hw h)
section
variable {fu d:Nat}
theorem As6 (s:ByteArray):Ae C0 Tryz.prog fu (d+1) Ag2 [.sc (.string s)]=some ⟨[.own 3 1 (Bq [⟨4,0,s⟩])],[]⟩:=by rw [Asf];rfl
theorem X6 (n:Int):Ae C0 Tryz.prog fu (d+1) Ahu [.sc (.int .u64 n)]=some ⟨[.own 3 1 (Bq [⟨1,n,C2⟩])],[]⟩:=by rw [Arv];rfl
theorem A1k (b:Bool):Ae C0 Tryz.prog fu (d+1) Ahi [.sc (.bool b)]=some ⟨[.own 3 1 (Bq [⟨7,(if b=true then 1 else 0),C2⟩])],[]⟩:=by rw [Arg];cases b<;>rfl
theorem Axz (l:List Int):Ae C0 Tryz.prog fu (d+1) Ad6 [.lst false 1 l.length (Ai .u8 l)]=some ⟨[.own 3 1 (Bq [⟨3,0,Bo l⟩])],[]⟩:=by
 rw [Aqu];have L:=As .u8 l;have bo:=Fu l;simp (disch:=omega) only [B6,L,bo];rfl
theorem Avd (hfu:1000<=fu){c:Ce}(hw:c.wf)(hs1:c.subj.size<=9223372036854775807)(hs2:c.iss.size<=9223372036854775807)(e1:¬(c.subj.size<1∨32<c.subj.size)) (e2:¬(c.iss.size<1∨32<c.iss.size)) (nn:Nat):
  F3 fu (Ae C0 Tryz.prog fu (d+6)) c.subj c.iss c.serial c.key.h c.key.root c.fr c.un c.auth c.path c.model c.sig.leaf c.sig.chains.length (Ai .u64 c.sig.chains) c.sig.path.length (Ai .u64 c.sig.path) (nn+1) c.subj c.iss 2 c.subj c.iss c.serial c.key.h c.key.root c.fr c.un c.auth c.path c.model c.sig.leaf c.sig.chains.length (Ai .u64 c.sig.chains) c.sig.path.length (Ai .u64 c.sig.path)=some ⟨Gr c,[]⟩:=by
 have v1:=Lw (fu:=fu) (d:=d+5) c.subj hs1;have v2:=Lw (fu:=fu) (d:=d+5) c.iss hs2;have ek:=A0h (fu:=fu) (d:=d+4) hfu c.key;simp only [Ky.cells] at ek;have e90:((9:Int) != 0)=true:=rfl;have e00:((0:Int) != 0)=false:=rfl;rw [Ff,Dj _ _ _ (by omega)]
 cases e3:okS c.subj
 ·have hb:Be c=6:=by unfold Be;rw [A3 e1,A3 e2,Bk e3]
  rw [e3] at v1;rw [←Fn hb (by omega)]
  try unfold Aa
  repeat first
   |((with_reducible first|apply Ap|apply Ag|apply Am|apply Ar|apply Ax|apply Az|apply Cf|apply Ah);· first|with_reducible rfl|(simp (disch:=omega) only [v1,Bn,Br]<;>with_reducible rfl))
   |((with_reducible first|apply Ao|apply Ak);· first|with_reducible rfl|omega|(simp (disch:=omega) only [gT,v1,Bn,Br]<;>omega))
   |(with_reducible apply Al;· first|with_reducible rfl|(simp (disch:=omega) only [gF,v1,Bn,Br]<;>omega))
  try simp (disch:=omega) only [v1,Bn,Br]
 rw [e3] at v1;cases e4:okS c.iss
 ·have hb:Be c=6:=by unfold Be;rw [A3 e1,A3 e2,A3 (by simp [e3]),Bk e4]
  rw [e4] at v2;rw [←Fn hb (by omega)]
  try unfold Aa
  repeat first
   |((with_reducible first|apply Ap|apply Ag|apply Am|apply Ar|apply Ax|apply Az|apply Cf|apply Ah);· first|with_reducible rfl|(simp (disch:=omega) only [v1,v2,Bn,Br]<;>with_reducible rfl))
   |((with_reducible first|apply Ao|apply Ak);· first|with_reducible rfl|omega|(simp (disch:=omega) only [gT,v1,v2,Bn,Br]<;>omega))
   |(with_reducible apply Al;· first|with_reducible rfl|(simp (disch:=omega) only [gF,v1,v2,Bn,Br]<;>omega))
  try simp (disch:=omega) only [v1,v2,Bn,Br]
 rw [e4] at v2;cases e5:Df c.key.h
 rotate_left
 ·have hb:Be c=9:=by unfold Be;rw [A3 e1,A3 e2,A3 (by simp [e3]),A3 (by simp [e4]),Bk e5]
  rw [e5,Bk rfl] at ek;rw [←Fn hb (by omega)]
  try unfold Aa
  repeat first
   |((with_reducible first|apply Ap|apply Ag|apply Am|apply Ar|apply Ax|apply Az|apply Cf|apply Ah);· first|with_reducible rfl|(simp (disch:=omega) only [v1,v2,ek,e90,Bn,Br]<;>with_reducible rfl))
   |((with_reducible first|apply Ao|apply Ak);· first|with_reducible rfl|omega|(simp (disch:=omega) only [gT,v1,v2,ek,e90,Bn,Br]<;>omega))
   |(with_reducible apply Al;· first|with_reducible rfl|(simp (disch:=omega) only [gF,v1,v2,ek,e90,Bn,Br]<;>omega))
  try simp (disch:=omega) only [v1,v2,ek,e90,Bn,Br]
 rw [e5,A3 (by simp)] at ek
 have B0:Be c=if c.fr<0 then 9 else if c.un<c.fr then 9 else if c.un>1099511627776 then 9 else if c.path<0∨2<c.path then 9 else if c.path≠0∧c.auth=false then 4 else 0:=by
  unfold Be;rw [A3 e1,A3 e2,A3 (by simp [e3]),A3 (by simp [e4]),A3 (by simp [e5])]
 by_cases e6:c.fr<0
 ·have hb:Be c=9:=by rw [B0,Bk e6]
  rw [←Fn hb (by omega)]
  try unfold Aa
  repeat first
   |((with_reducible first|apply Ap|apply Ag|apply Am|apply Ar|apply Ax|apply Az|apply Cf|apply Ah);· first|with_reducible rfl|(simp (disch:=omega) only [v1,v2,ek,e00,Bn,Br]<;>with_reducible rfl))
   |((with_reducible first|apply Ao|apply Ak);· first|with_reducible rfl|omega|(simp (disch:=omega) only [gT,v1,v2,ek,e00,Bn,Br]<;>omega))
   |(with_reducible apply Al;· first|with_reducible rfl|(simp (disch:=omega) only [gF,v1,v2,ek,e00,Bn,Br]<;>omega))
  try simp (disch:=omega) only [v1,v2,ek,e00,Bn,Br]
 by_cases e7:c.un<c.fr
 ·have hb:Be c=9:=by rw [B0,A3 e6,Bk e7]
  rw [←Fn hb (by omega)]
  try unfold Aa
  repeat first
   |((with_reducible first|apply Ap|apply Ag|apply Am|apply Ar|apply Ax|apply Az|apply Cf|apply Ah);· first|with_reducible rfl|(simp (disch:=omega) only [v1,v2,ek,e00,Bn,Br]<;>with_reducible rfl))
   |((with_reducible first|apply Ao|apply Ak);· first|with_reducible rfl|omega|(simp (disch:=omega) only [gT,v1,v2,ek,e00,Bn,Br]<;>omega))
   |(with_reducible apply Al;· first|with_reducible rfl|(simp (disch:=omega) only [gF,v1,v2,ek,e00,Bn,Br]<;>omega))
  try simp (disch:=omega) only [v1,v2,ek,e00,Bn,Br]
 by_cases e8:c.un>1099511627776
 ·have hb:Be c=9:=by rw [B0,A3 e6,A3 e7,Bk e8]
  rw [←Fn hb (by omega)]
  try unfold Aa
  repeat first
   |((with_reducible first|apply Ap|apply Ag|apply Am|apply Ar|apply Ax|apply Az|apply Cf|apply Ah);· first|with_reducible rfl|(simp (disch:=omega) only [v1,v2,ek,e00,Bn,Br]<;>with_reducible rfl))
   |((with_reducible first|apply Ao|apply Ak);· first|with_reducible rfl|omega|(simp (disch:=omega) only [gT,v1,v2,ek,e00,Bn,Br]<;>omega))
   |(with_reducible apply Al;· first|with_reducible rfl|(simp (disch:=omega) only [gF,v1,v2,ek,e00,Bn,Br]<;>omega))
  try simp (disch:=omega) only [v1,v2,ek,e00,Bn,Br]
 by_cases e9:c.path<0∨2<c.path
 ·have hb:Be c=9:=by rw [B0,A3 e6,A3 e7,A3 e8,Bk e9]
  rw [←Fn hb (by omega)]
  by_cases e9':c.path<0
  ·skip
   try unfold Aa
   repeat first
    |((with_reducible first|apply Ap|apply Ag|apply Am|apply Ar|apply Ax|apply Az|apply Cf|apply Ah);· first|with_reducible rfl|(simp (disch:=omega) only [v1,v2,ek,e00,Bn,Br]<;>with_reducible rfl))
    |((with_reducible first|apply Ao|apply Ak);· first|with_reducible rfl|omega|(simp (disch:=omega) only [gT,v1,v2,ek,e00,Bn,Br]<;>omega))
    |(with_reducible apply Al;· first|with_reducible rfl|(simp (disch:=omega) only [gF,v1,v2,ek,e00,Bn,Br]<;>omega))
   try simp (disch:=omega) only [v1,v2,ek,e00,Bn,Br]
  ·skip
   try unfold Aa
   repeat first
    |((with_reducible first|apply Ap|apply Ag|apply Am|apply Ar|apply Ax|apply Az|apply Cf|apply Ah);· first|with_reducible rfl|(simp (disch:=omega) only [v1,v2,ek,e00,Bn,Br]<;>with_reducible rfl))
    |((with_reducible first|apply Ao|apply Ak);· first|with_reducible rfl|omega|(simp (disch:=omega) only [gT,v1,v2,ek,e00,Bn,Br]<;>omega))
    |(with_reducible apply Al;· first|with_reducible rfl|(simp (disch:=omega) only [gF,v1,v2,ek,e00,Bn,Br]<;>omega))
   try simp (disch:=omega) only [v1,v2,ek,e00,Bn,Br]
 by_cases e10:c.path≠0∧c.auth=false
 ·have hb:Be c=4:=by rw [B0,A3 e6,A3 e7,A3 e8,A3 e9,Bk e10]
  have ea:=e10.2;have ep:(c.path != 0)=true:=by simp [e10.1]
  rw [←Fn hb (by omega)]
  try unfold Aa
  repeat first
   |((with_reducible first|apply Ap|apply Ag|apply Am|apply Ar|apply Ax|apply Az|apply Cf|apply Ah);· first|with_reducible rfl|(simp (disch:=omega) only [v1,v2,ek,e00,ep,ea,Bn,Br]<;>with_reducible rfl))
   |((with_reducible first|apply Ao|apply Ak);· first|with_reducible rfl|omega|(simp (disch:=omega) only [gT,v1,v2,ek,e00,ep,ea,Bn,Br]<;>omega))
   |(with_reducible apply Al;· first|with_reducible rfl|(simp (disch:=omega) only [gF,v1,v2,ek,e00,ep,ea,Bn,Br]<;>omega))
  try simp (disch:=omega) only [v1,v2,ek,e00,ep,ea,Bn,Br]
 have hz:Be c=0:=by rw [B0,A3 e6,A3 e7,A3 e8,A3 e9,A3 e10]
 have hfl:=Yd hw hz
 have ar:=Avi (fu:=fu) (d:=d) hfu (vs:=(Mg c).map fun x=>[x]) (by
  intro v hv;obtain ⟨x,hx,rfl⟩:=List.mem_map.1 hv;exact ⟨Aze (hfl x hx),by simp⟩) (by simp [Mg]) (Acn hw hz) (by simp [Mg])
 have en:=Ar9 (fu:=fu) (d:=d+1) hfu (l:=Bb c) (by simp [Bb]) (by simp [Bb];omega) (Acn hw hz) (fun x hx=>(Abr hw hz x hx).1) (Nat.le_trans (Jb hz) (by omega))
 have ar':Ae C0 Tryz.prog fu (d+6) Wc [.lst false 1 9 [.lst false 3 1 (Bq [⟨4,0,c.subj⟩]),.lst false 3 1 (Bq [⟨4,0,c.iss⟩]),.lst false 3 1 (Bq [⟨1,c.serial,C2⟩]),.lst false 3 1 (Bq [⟨3,0,Bo (G3 c.key)⟩]),.lst false 3 1 (Bq [⟨1,c.fr,C2⟩]),.lst false 3 1 (Bq [⟨1,c.un,C2⟩]),.lst false 3 1 (Bq [⟨7,(if c.auth=true then 1 else 0),C2⟩]),.lst false 3 1 (Bq [⟨1,c.path,C2⟩]),.lst false 3 1 (Bq [⟨1,c.model,C2⟩])]]=some ⟨[.own 3 10 (Bq (Bb c)),.sc (.int .i64 0)],[]⟩:=ar
 have en':Ae C0 Tryz.prog fu (d+1+5) Ui [.lst false 3 10 (Bq (Bb c))]=some ⟨[.own 1 (Bc (Bb c)).length (Ai .u8 (Bc (Bb c))),.sc (.int .i64 0)],[]⟩:=en;clear ar en hfl;have t1:=As6 (fu:=fu) (d:=d+5) c.subj;have t2:=As6 (fu:=fu) (d:=d+5) c.iss;have u1:=X6 (fu:=fu) (d:=d+5) c.serial;have u2:=X6 (fu:=fu) (d:=d+5) c.fr;have u3:=X6 (fu:=fu) (d:=d+5) c.un;have u4:=X6 (fu:=fu) (d:=d+5) c.path;have u5:=X6 (fu:=fu) (d:=d+5) c.model;have bo:=A1k (fu:=fu) (d:=d+5) c.auth;have by_:=Axz (fu:=fu) (d:=d+5) (G3 c.key);have k9:(G3 c.key).length=9:=rfl;rw [k9] at by_;have L9:=As .u8 (G3 c.key);rw [k9] at L9;have tk9:List.take 9 (Ai .u8 (G3 c.key))=Ai .u8 (G3 c.key):=I2 (by omega)
 have wf:IntKind.wrap .u64 c.fr=c.fr:=B7 (by omega) (by omega)
 have wu:IntKind.wrap .u64 c.un=c.un:=B7 (by omega) (by omega)
 have wp:IntKind.wrap .u64 c.path=c.path:=B7 (by omega) (by omega)
 have R:Gr c=[.own 1 (Bc (Bb c)).length (Ai .u8 (Bc (Bb c))),.sc (.int .i64 0)]:=by unfold Gr;rw [hz,Bk rfl]
 have LB:=As .u8 (Bc (Bb c));have tB:=G4 .u8 (Bc (Bb c));rw [R];generalize Bc (Bb c)=W at en' LB tB ⊢;have LI:(Bq (Bb c)).length=30:=rfl;have tI:List.take 30 (Bq (Bb c))=Bq (Bb c):=rfl;generalize Bq (Bb c)=I at ar' en' LI tI;have K:∀x:It,List.take 3 (Bq [x])=Bq [x]:=fun _=>rfl
 have N:∀x:It,(Bq [x]).length=3:=fun _=>rfl
 have K1:=K ⟨4,0,c.subj⟩;have K2:=K ⟨4,0,c.iss⟩;have K3:=K ⟨1,c.serial,C2⟩;have K4:=K ⟨3,0,Bo (G3 c.key)⟩;have K5:=K ⟨1,c.fr,C2⟩;have K6:=K ⟨1,c.un,C2⟩;have K7:=K ⟨7,(if c.auth=true then 1 else 0),C2⟩
 have K8:=K ⟨1,c.path,C2⟩;have K9:=K ⟨1,c.model,C2⟩;have N1:=N ⟨4,0,c.subj⟩;have N2:=N ⟨4,0,c.iss⟩;have N3:=N ⟨1,c.serial,C2⟩;have N4:=N ⟨3,0,Bo (G3 c.key)⟩;have N5:=N ⟨1,c.fr,C2⟩;have N6:=N ⟨1,c.un,C2⟩;have N7:=N ⟨7,(if c.auth=true then 1 else 0),C2⟩
 have N8:=N ⟨1,c.path,C2⟩;have N9:=N ⟨1,c.model,C2⟩;generalize Bq [⟨4,0,c.subj⟩]=T1 at *
 generalize Bq [⟨4,0,c.iss⟩]=T2 at *
 generalize Bq [⟨1,c.serial,C2⟩]=T3 at *
 generalize Bq [⟨3,0,Bo (G3 c.key)⟩]=T4 at *
 generalize Bq [⟨1,c.fr,C2⟩]=T5 at *
 generalize Bq [⟨1,c.un,C2⟩]=T6 at *
 generalize Bq [⟨7,(if c.auth=true then 1 else 0),C2⟩]=T7 at *
 generalize Bq [⟨1,c.path,C2⟩]=T8 at *
 generalize Bq [⟨1,c.model,C2⟩]=T9 at *
 generalize Ai .u8 (G3 c.key)=KB at *
 by_cases ep:c.path=0
 ·have ep':(c.path != 0)=false:=by simp [ep]
  try unfold Aa
  repeat first
   |((with_reducible first|apply Ap|apply Ag|apply Am|apply Ar|apply Ax|apply Az|apply Cf|apply Ah);· first|with_reducible rfl|(simp (disch:=omega) only [v1,v2,ek,e00,ep',t1,t2,u1,u2,u3,u4,u5,bo,by_,wf,wu,wp,L9,tk9,K1,K2,K3,K4,K5,K6,K7,K8,K9,N1,N2,N3,N4,N5,N6,N7,N8,N9,B4,Nat.one_mul,Bl,Nat.reduceMul,Cm,ar',LI,tI,en',LB,tB,Bn,Br]<;>with_reducible rfl))
   |((with_reducible first|apply Ao|apply Ak);· first|with_reducible rfl|omega|(simp (disch:=omega) only [gT,v1,v2,ek,e00,ep',t1,t2,u1,u2,u3,u4,u5,bo,by_,wf,wu,wp,L9,tk9,K1,K2,K3,K4,K5,K6,K7,K8,K9,N1,N2,N3,N4,N5,N6,N7,N8,N9,B4,Nat.one_mul,Bl,Nat.reduceMul,Cm,ar',LI,tI,en',LB,tB,Bn,Br]<;>omega))
   |(with_reducible apply Al;· first|with_reducible rfl|(simp (disch:=omega) only [gF,v1,v2,ek,e00,ep',t1,t2,u1,u2,u3,u4,u5,bo,by_,wf,wu,wp,L9,tk9,K1,K2,K3,K4,K5,K6,K7,K8,K9,N1,N2,N3,N4,N5,N6,N7,N8,N9,B4,Nat.one_mul,Bl,Nat.reduceMul,Cm,ar',LI,tI,en',LB,tB,Bn,Br]<;>omega))
  try simp (disch:=omega) only [v1,v2,ek,e00,ep',t1,t2,u1,u2,u3,u4,u5,bo,by_,wf,wu,wp,L9,tk9,K1,K2,K3,K4,K5,K6,K7,K8,K9,N1,N2,N3,N4,N5,N6,N7,N8,N9,B4,Nat.one_mul,Bl,Nat.reduceMul,Cm,ar',LI,tI,en',LB,tB,Bn,Br]
 ·have ea:c.auth=true:=by
   cases h:c.auth
   ·exact absurd ⟨ep,h⟩ e10
   ·rfl
  have ep':(c.path != 0)=true:=by simp [ep]
  rw [ea] at bo
  try unfold Aa
  repeat first
   |((with_reducible first|apply Ap|apply Ag|apply Am|apply Ar|apply Ax|apply Az|apply Cf|apply Ah);· first|with_reducible rfl|(simp (disch:=omega) only [v1,v2,ek,e00,ep',ea,t1,t2,u1,u2,u3,u4,u5,bo,by_,wf,wu,wp,L9,tk9,K1,K2,K3,K4,K5,K6,K7,K8,K9,N1,N2,N3,N4,N5,N6,N7,N8,N9,B4,Nat.one_mul,Bl,Nat.reduceMul,Cm,ar',LI,tI,en',LB,tB,Bn,Br]<;>with_reducible rfl))
   |((with_reducible first|apply Ao|apply Ak);· first|with_reducible rfl|omega|(simp (disch:=omega) only [gT,v1,v2,ek,e00,ep',ea,t1,t2,u1,u2,u3,u4,u5,bo,by_,wf,wu,wp,L9,tk9,K1,K2,K3,K4,K5,K6,K7,K8,K9,N1,N2,N3,N4,N5,N6,N7,N8,N9,B4,Nat.one_mul,Bl,Nat.reduceMul,Cm,ar',LI,tI,en',LB,tB,Bn,Br]<;>omega))
   |(with_reducible apply Al;· first|with_reducible rfl|(simp (disch:=omega) only [gF,v1,v2,ek,e00,ep',ea,t1,t2,u1,u2,u3,u4,u5,bo,by_,wf,wu,wp,L9,tk9,K1,K2,K3,K4,K5,K6,K7,K8,K9,N1,N2,N3,N4,N5,N6,N7,N8,N9,B4,Nat.one_mul,Bl,Nat.reduceMul,Cm,ar',LI,tI,en',LB,tB,Bn,Br]<;>omega))
  try simp (disch:=omega) only [v1,v2,ek,e00,ep',ea,t1,t2,u1,u2,u3,u4,u5,bo,by_,wf,wu,wp,L9,tk9,K1,K2,K3,K4,K5,K6,K7,K8,K9,N1,N2,N3,N4,N5,N6,N7,N8,N9,B4,Nat.one_mul,Bl,Nat.reduceMul,Cm,ar',LI,tI,en',LB,tB,Bn,Br]
theorem At6 (hfu:1000<=fu){c:Ce}(hw:c.wf)(hs1:c.subj.size<=9223372036854775807)(hs2:c.iss.size<=9223372036854775807)(nn:Nat)(hn:3<=nn):
  F3 fu (Ae C0 Tryz.prog fu (d+6)) c.subj c.iss c.serial c.key.h c.key.root c.fr c.un c.auth c.path c.model c.sig.leaf c.sig.chains.length (Ai .u64 c.sig.chains) c.sig.path.length (Ai .u64 c.sig.path) nn c.subj c.iss 0 c.subj c.iss c.serial c.key.h c.key.root c.fr c.un c.auth c.path c.model c.sig.leaf c.sig.chains.length (Ai .u64 c.sig.chains) c.sig.path.length (Ai .u64 c.sig.path)=some ⟨Gr c,[]⟩:=by
 obtain ⟨m,rfl⟩:∃m,nn=m+1+1+1:=⟨nn-3,by omega⟩
 have g0:List.getD [PV.sc (Value.string c.subj),PV.sc (Value.string c.iss)] (Int.toNat (0:Int)*1) PV.top=.sc (.string c.subj):=rfl;have g1:List.getD [PV.sc (Value.string c.subj),PV.sc (Value.string c.iss)] (Int.toNat (1:Int)*1) PV.top=.sc (.string c.iss):=rfl;have i1:IntKind.wrap .i64 ((0:Int)+1)=1:=rfl;have i2:IntKind.wrap .i64 ((1:Int)+1)=2:=rfl;by_cases e1:c.subj.size<1∨32<c.subj.size
 ·have hb:Be c=9:=by unfold Be;rw [Bk e1]
  rw [←Fn hb (by omega),Ff]
  by_cases e1':c.subj.size<1
  ·skip
   try unfold Aa
   repeat first
    |((with_reducible first|apply Ap|apply Ag|apply Am|apply Ar|apply Ax|apply Az|apply Cf|apply Ah);· first|with_reducible rfl|(simp (disch:=omega) only [g0]<;>with_reducible rfl))
    |((with_reducible first|apply Ao|apply Ak);· first|with_reducible rfl|omega|(simp (disch:=omega) only [gT,g0]<;>omega))
    |(with_reducible apply Al;· first|with_reducible rfl|(simp (disch:=omega) only [gF,g0]<;>omega))
   try simp (disch:=omega) only [g0]
  ·skip
   try unfold Aa
   repeat first
    |((with_reducible first|apply Ap|apply Ag|apply Am|apply Ar|apply Ax|apply Az|apply Cf|apply Ah);· first|with_reducible rfl|(simp (disch:=omega) only [g0]<;>with_reducible rfl))
    |((with_reducible first|apply Ao|apply Ak);· first|with_reducible rfl|omega|(simp (disch:=omega) only [gT,g0]<;>omega))
    |(with_reducible apply Al;· first|with_reducible rfl|(simp (disch:=omega) only [gF,g0]<;>omega))
   try simp (disch:=omega) only [g0]
 rw [Ff];by_cases e2:c.iss.size<1∨32<c.iss.size
 ·have hb:Be c=9:=by unfold Be;rw [A3 e1,Bk e2]
  rw [←Fn hb (by omega)]
  try unfold Aa
  repeat first
   |((with_reducible first|apply Ap|apply Ag|apply Am|apply Ar|apply Ax|apply Az|apply Cf|apply Ah);· first|with_reducible rfl|(simp (disch:=omega) only [g0,i1]<;>with_reducible rfl))
   |((with_reducible first|apply Ao|apply Ak);· first|with_reducible rfl|omega|(simp (disch:=omega) only [gT,g0,i1]<;>omega))
   |(with_reducible apply Al;· first|with_reducible rfl|(simp (disch:=omega) only [gF,g0,i1]<;>omega))
  try simp (disch:=omega) only [g0,i1]
  rw [Ff];by_cases e2':c.iss.size<1
  ·skip
   try unfold Aa
   repeat first
    |((with_reducible first|apply Ap|apply Ag|apply Am|apply Ar|apply Ax|apply Az|apply Cf|apply Ah);· first|with_reducible rfl|(simp (disch:=omega) only [g1]<;>with_reducible rfl))
    |((with_reducible first|apply Ao|apply Ak);· first|with_reducible rfl|omega|(simp (disch:=omega) only [gT,g1]<;>omega))
    |(with_reducible apply Al;· first|with_reducible rfl|(simp (disch:=omega) only [gF,g1]<;>omega))
   try simp (disch:=omega) only [g1]
  ·skip
   try unfold Aa
   repeat first
    |((with_reducible first|apply Ap|apply Ag|apply Am|apply Ar|apply Ax|apply Az|apply Cf|apply Ah);· first|with_reducible rfl|(simp (disch:=omega) only [g1]<;>with_reducible rfl))
    |((with_reducible first|apply Ao|apply Ak);· first|with_reducible rfl|omega|(simp (disch:=omega) only [gT,g1]<;>omega))
    |(with_reducible apply Al;· first|with_reducible rfl|(simp (disch:=omega) only [gF,g1]<;>omega))
   try simp (disch:=omega) only [g1]
 try unfold Aa
 repeat first
  |((with_reducible first|apply Ap|apply Ag|apply Am|apply Ar|apply Ax|apply Az|apply Cf|apply Ah);· first|with_reducible rfl|(simp (disch:=omega) only [g0,i1]<;>with_reducible rfl))
  |((with_reducible first|apply Ao|apply Ak);· first|with_reducible rfl|omega|(simp (disch:=omega) only [gT,g0,i1]<;>omega))
  |(with_reducible apply Al;· first|with_reducible rfl|(simp (disch:=omega) only [gF,g0,i1]<;>omega))
 try simp (disch:=omega) only [g0,i1]
 rw [Ff]
 try unfold Aa
 repeat first
  |((with_reducible first|apply Ap|apply Ag|apply Am|apply Ar|apply Ax|apply Az|apply Cf|apply Ah);· first|with_reducible rfl|(simp (disch:=omega) only [g1,i2]<;>with_reducible rfl))
  |((with_reducible first|apply Ao|apply Ak);· first|with_reducible rfl|omega|(simp (disch:=omega) only [gT,g1,i2]<;>omega))
  |(with_reducible apply Al;· first|with_reducible rfl|(simp (disch:=omega) only [gF,g1,i2]<;>omega))
 try simp (disch:=omega) only [g1,i2]
 exact Avd hfu hw hs1 hs2 e1 e2 m
theorem Aiq (hfu:1000<=fu){c:Ce}(hw:c.wf)(hs1:c.subj.size<=9223372036854775807)(hs2:c.iss.size<=9223372036854775807):Ae C0 Tryz.prog fu (d+7) R1 [.agg c.cells]=some ⟨Gr c,[]⟩:=
 (Abz fu (d+6) c.subj c.iss c.serial c.key.h c.key.root c.fr c.un c.auth c.path c.model c.sig.leaf c.sig.chains.length (Ai .u64 c.sig.chains) c.sig.path.length (Ai .u64 c.sig.path)).trans (At6 hfu hw hs1 hs2 fu (by omega))
end
end
section
def Ao6 (c:Ce):List PV:=if Be c=0 then [.sc (.int .u64 (Rj c)),.sc (.int .i64 0)] else [.sc (.int .u64 0),.sc (.int .i64 (Be c))]
section
variable {fu d:Nat} {c:Ce}
theorem A3e (hfu:1000<=fu)(hw:c.wf)(hs1:c.subj.size<=9223372036854775807)(hs2:c.iss.size<=9223372036854775807):Ae C0 Tryz.prog fu (d+8) Q7 [.agg c.cells]=some ⟨Ao6 c,[]⟩:=by
 refine (Acf fu (d+7) c.subj c.iss c.serial c.key.h c.key.root c.fr c.un c.auth c.path c.model c.sig.leaf c.sig.chains.length (Ai .u64 c.sig.chains) c.sig.path.length (Ai .u64 c.sig.path)).trans ?_;have bq:=Aiq (fu:=fu) (d:=d) hfu hw hs1 hs2;simp only [Ce.cells] at bq;unfold Gr at bq;unfold Ao6;by_cases h0:Be c=0
 ·have lb:=Jb h0;rw [Bk h0] at bq;rw [Bk h0];have e00:((0:Int) != 0)=false:=rfl;have hh:=Axg (fu:=fu) (d:=d+2) (Z4 hw h0) (by omega) (by omega) (by omega) 14
  have eW:Et 14 (Bc (Bb c))=Rj c:=rfl;rw [eW] at hh;have L1:=As .u8 (Bc (Bb c));have t1:=G4 .u8 (Bc (Bb c));generalize (Bc (Bb c)).length=n1 at *
  generalize Ai .u8 (Bc (Bb c))=c1 at *
  try unfold Aa
  repeat first
   |((with_reducible first|apply Ap|apply Ag|apply Am|apply Az|apply Ah);· first|with_reducible rfl|(simp (disch:=omega) only [bq,e00,Bl,B4,Cm,L1,t1,hh]<;>with_reducible rfl))
   |((with_reducible first|apply Ao|apply Ak);· first|with_reducible rfl|omega|(simp (disch:=omega) only [gT,bq,e00,Bl,B4,Cm,L1,t1,hh]<;>omega))
   |(with_reducible apply Al;· first|with_reducible rfl|(simp (disch:=omega) only [gF,bq,e00,Bl,B4,Cm,L1,t1,hh]<;>omega))
  try simp (disch:=omega) only [bq,e00,Bl,B4,Cm,L1,t1,hh]
  all_goals rfl
 ·have hne:(Be c != 0)=true:=by simp [h0]
  rw [A3 h0] at bq;rw [A3 h0]
  try unfold Aa
  repeat first
   |((with_reducible first|apply Ap|apply Ag|apply Am|apply Az|apply Ah);· first|with_reducible rfl|(simp (disch:=omega) only [bq,hne]<;>with_reducible rfl))
   |((with_reducible first|apply Ao|apply Ak);· first|with_reducible rfl|omega|(simp (disch:=omega) only [gT,bq,hne]<;>omega))
   |(with_reducible apply Al;· first|with_reducible rfl|(simp (disch:=omega) only [gF,bq,hne]<;>omega))
  try simp (disch:=omega) only [bq,hne]
  all_goals rfl
theorem Asg (hfu:1000<=fu)(hw:c.wf)(hs1:c.subj.size<=9223372036854775807)(hs2:c.iss.size<=9223372036854775807)(k:Ky):Ae C0 Tryz.prog fu (d+9) Oe [.agg c.cells,.agg k.cells]=some ⟨[.sc (.int .i64 (Ns c k))],[]⟩:=by
 refine (X9 fu (d+8) c.subj c.iss c.serial c.key.h c.key.root c.fr c.un c.auth c.path c.model c.sig.leaf c.sig.chains.length (Ai .u64 c.sig.chains) c.sig.path.length (Ai .u64 c.sig.path) k.h k.root).trans ?_;have bq:=A3e (fu:=fu) (d:=d) hfu hw hs1 hs2;simp only [Ce.cells] at bq;unfold Ao6 at bq;unfold Ns;by_cases h0:Be c=0
 ·rw [Bk h0] at bq;rw [Bk h0];have e00:((0:Int) != 0)=false:=rfl;have vr:=Afj (fu:=fu) (d:=d) hfu k (Rj c) c.sig;simp only [Ky.cells,Sg.cells] at vr
  try unfold Aa
  repeat first
   |((with_reducible first|apply Ap|apply Ag|apply Am|apply Az|apply Ah);· first|with_reducible rfl|(simp (disch:=omega) only [bq,e00,vr]<;>with_reducible rfl))
   |((with_reducible first|apply Ao|apply Ak);· first|with_reducible rfl|omega|(simp (disch:=omega) only [gT,bq,e00,vr]<;>omega))
   |(with_reducible apply Al;· first|with_reducible rfl|(simp (disch:=omega) only [gF,bq,e00,vr]<;>omega))
  try simp (disch:=omega) only [bq,e00,vr]
  all_goals rfl
 ·have hne:(Be c != 0)=true:=by simp [h0]
  rw [A3 h0] at bq;rw [A3 h0]
  try unfold Aa
  repeat first
   |((with_reducible first|apply Ap|apply Ag|apply Am|apply Az|apply Ah);· first|with_reducible rfl|(simp (disch:=omega) only [bq,hne]<;>with_reducible rfl))
   |((with_reducible first|apply Ao|apply Ak);· first|with_reducible rfl|omega|(simp (disch:=omega) only [gT,bq,hne]<;>omega))
   |(with_reducible apply Al;· first|with_reducible rfl|(simp (disch:=omega) only [gF,bq,hne]<;>omega))
  try simp (disch:=omega) only [bq,hne]
  all_goals rfl
theorem A4i (hfu:1000<=fu)(hw:c.wf)(hs1:c.subj.size<=9223372036854775807)(hs2:c.iss.size<=9223372036854775807)(hp:c.sig.path.length<=1000000000)(hf:c.sig.path.length<fu):Ae C0 Tryz.prog fu (d+8) O7 [.agg c.cells]=some ⟨Ab1 c,[]⟩:=by
 refine (Yw fu (d+7) c.subj c.iss c.serial c.key.h c.key.root c.fr c.un c.auth c.path c.model c.sig.leaf c.sig.chains.length (Ai .u64 c.sig.chains) c.sig.path.length (Ai .u64 c.sig.path)).trans ?_;have bq:=Aiq (fu:=fu) (d:=d) hfu hw hs1 hs2;simp only [Ce.cells] at bq;have es:=Azk (fu:=fu) (d:=d+5) hfu c.sig hp hf;simp only [Sg.cells] at es;unfold Gr at bq;unfold Ab1 Dv;by_cases h0:Be c=0
 ·have lb:=Jb h0;rw [Bk h0] at bq;rw [Bk h0];have L1:=As .u8 (Bc (Bb c));have t1:=G4 .u8 (Bc (Bb c));have e00:((0:Int) != 0)=false:=rfl;have e90:((9:Int) != 0)=true:=rfl;have e40:((4:Int) != 0)=true:=rfl;unfold Af5;by_cases g1:Df c.sig.path.length=true
  ·rw [Bk g1] at es;rw [Bk g1,A3 (by omega)]
   try unfold Aa
   repeat first
    |((with_reducible first|apply Ap|apply Ag|apply Am|apply Az|apply Ah);· first|with_reducible rfl|(simp (disch:=omega) only [bq,es,e00,e90]<;>with_reducible rfl))
    |((with_reducible first|apply Ao|apply Ak);· first|with_reducible rfl|omega|(simp (disch:=omega) only [gT,bq,es,e00,e90]<;>omega))
    |(with_reducible apply Al;· first|with_reducible rfl|(simp (disch:=omega) only [gF,bq,es,e00,e90]<;>omega))
   try simp (disch:=omega) only [bq,es,e00,e90]
   all_goals rfl
  rw [A3 g1] at es;rw [A3 g1];by_cases g2:Ga c.sig.leaf c.sig.path.length=true
  ·rw [Bk g2] at es;rw [Bk g2,A3 (by omega)]
   try unfold Aa
   repeat first
    |((with_reducible first|apply Ap|apply Ag|apply Am|apply Az|apply Ah);· first|with_reducible rfl|(simp (disch:=omega) only [bq,es,e00,e90]<;>with_reducible rfl))
    |((with_reducible first|apply Ao|apply Ak);· first|with_reducible rfl|omega|(simp (disch:=omega) only [gT,bq,es,e00,e90]<;>omega))
    |(with_reducible apply Al;· first|with_reducible rfl|(simp (disch:=omega) only [gF,bq,es,e00,e90]<;>omega))
   try simp (disch:=omega) only [bq,es,e00,e90]
   all_goals rfl
  rw [A3 g2] at es;rw [A3 g2];by_cases g3:c.sig.chains.length≠18
  ·rw [Bk g3] at es;rw [Bk g3,A3 (by omega)]
   try unfold Aa
   repeat first
    |((with_reducible first|apply Ap|apply Ag|apply Am|apply Az|apply Ah);· first|with_reducible rfl|(simp (disch:=omega) only [bq,es,e00,e40]<;>with_reducible rfl))
    |((with_reducible first|apply Ao|apply Ak);· first|with_reducible rfl|omega|(simp (disch:=omega) only [gT,bq,es,e00,e40]<;>omega))
    |(with_reducible apply Al;· first|with_reducible rfl|(simp (disch:=omega) only [gF,bq,es,e00,e40]<;>omega))
   try simp (disch:=omega) only [bq,es,e00,e40]
   all_goals rfl
  rw [A3 g3] at es;rw [A3 g3,Bk rfl];have hb4:=Gi (h:=c.sig.path.length) (by simpa using g1)
  have ls:(Mv c.sig).length=2+8*c.sig.chains.length+8*c.sig.path.length:=by
   unfold Mv;simp only [H0,Ic,Db];omega
  have L2:=As .u8 (Mv c.sig);have t2:=G4 .u8 (Mv c.sig)
  have ea:Ai .u8 (Bc (Bb c))++Ai .u8 (Mv c.sig)=Ai .u8 (Es c):=by
   unfold Es;rw [Ai,Ai,Ai,List.flatMap_append]
  have le:(Es c).length=(Bc (Bb c)).length+(Mv c.sig).length:=by unfold Es;rw [Ic]
  have L3:=As .u8 (Es c);have t3:List.take ((Bc (Bb c)).length+(Mv c.sig).length) (Ai .u8 (Es c))=Ai .u8 (Es c):=I2 (by omega)
  rw [le] at L3 ⊢;generalize (Bc (Bb c)).length=n1 at *
  generalize (Mv c.sig).length=n2 at *
  generalize Ai .u8 (Bc (Bb c))=c1 at *
  generalize Ai .u8 (Mv c.sig)=c2 at *
  try unfold Aa
  repeat first
   |((with_reducible first|apply Ap|apply Ag|apply Am|apply Az|apply Ah);· first|with_reducible rfl|(simp (disch:=omega) only [bq,es,e00,Bl,B4,Cm,L1,t1,L2,t2,ea,L3,t3]<;>with_reducible rfl))
   |((with_reducible first|apply Ao|apply Ak);· first|with_reducible rfl|omega|(simp (disch:=omega) only [gT,bq,es,e00,Bl,B4,Cm,L1,t1,L2,t2,ea,L3,t3]<;>omega))
   |(with_reducible apply Al;· first|with_reducible rfl|(simp (disch:=omega) only [gF,bq,es,e00,Bl,B4,Cm,L1,t1,L2,t2,ea,L3,t3]<;>omega))
  try simp (disch:=omega) only [bq,es,e00,Bl,B4,Cm,L1,t1,L2,t2,ea,L3,t3]
  all_goals rfl
 ·have hne:(Be c != 0)=true:=by simp [h0]
  rw [A3 h0] at bq;rw [A3 h0,A3 h0]
  try unfold Aa
  repeat first
   |((with_reducible first|apply Ap|apply Ag|apply Am|apply Az|apply Ah);· first|with_reducible rfl|(simp (disch:=omega) only [bq,hne]<;>with_reducible rfl))
   |((with_reducible first|apply Ao|apply Ak);· first|with_reducible rfl|omega|(simp (disch:=omega) only [gT,bq,hne]<;>omega))
   |(with_reducible apply Al;· first|with_reducible rfl|(simp (disch:=omega) only [gF,bq,hne]<;>omega))
  try simp (disch:=omega) only [bq,hne]
  all_goals rfl
end
end
section
theorem aci {its:List It}{i:Nat}{x:It}(h:its[i]?=some x):(Bq its).getD (i*3) .top=.sc (.int .i64 x.k)∧(Bq its).getD (i*3+1) .top=.sc (.int .u64 x.n)∧(Bq its).getD (i*3+2) .top=.sc (.string x.s):=
 ⟨D3 It.cells_len h (j:=0) (by omega),D3 It.cells_len h (j:=1) (by omega),D3 It.cells_len h (j:=2) (by omega)⟩
def Pe:List Int:=[5,4,4,1,3,1,1,7,1,1]
def Wl (its:List It):Bool:=its.map (·.k)==Pe
section
variable {fu d:Nat}
theorem Ahp {call:Aq}{a0n:Nat}{a0:List PV}{its:List It}(h10:its.length=10):∀(r:List It)(rk:List Int)(i nn:Nat),its.drop i=r->Pe.drop i=rk->r.length<nn->i<=10 ->
  Gj fu call a0n a0 nn its.length (Bq its) (its.length:Int) (i:Int) (Ai .i64 Pe)=some ⟨[.sc (.bool (r.map (·.k)==rk))],[]⟩
 |_,_,_,0,_,_,h,_=>by omega
 |[],rk,i,nn+1,h,hk,hn,hi=>by
  have:=drop_nil h;obtain rfl:i=10:=by omega
  subst hk;rw [Ld,Dj _ _ _ (by omega)]
  rfl
 |x::r,rk,i,nn+1,h,hk,hn,hi=>by
  obtain ⟨h1,h2,h3⟩:=Ca h;simp only [H0] at hn;obtain ⟨k,hk1⟩:∃k,Pe[i]?=some k:=⟨_,List.getElem?_eq_getElem (by show i<10;omega)⟩
  have hk2:rk=k::Pe.drop (i+1):=by
   rw [←hk,List.drop_eq_getElem_cons (by show i<10;omega)]
   congr 1
   rw [List.getElem?_eq_getElem (by show i<10;omega)] at hk1
   injection hk1
  subst hk2;have w:IntKind.wrap .i64 ((i:Int)+1)=((i+1:Nat):Int):=by rw [Au (by omega) (by omega)];omega
  obtain ⟨c0,c1,c2⟩:=aci h2;have ck:=Qz (k:=.i64) hk1;have ih:=Ahp (call:=call) (a0n:=a0n) (a0:=a0) h10 r _ (i+1) nn h3 rfl (by omega) (by omega)
  rw [Ld,Zzw];by_cases e:x.k=k
  ·have b0:(x.k != k)=false:=by simp [e]
   have e1:(x.k::List.map (·.k) r==k::Pe.drop (i+1))=(List.map (·.k) r==Pe.drop (i+1)):=by simp [e]
   rw [e1,←ih];simp (disch:=omega) only [B6,G6,Bl,B4,c0,c1,c2,ck,b0,w]
  ·have b0:(x.k != k)=true:=by simp [e]
   have e1:(x.k::List.map (·.k) r==k::Pe.drop (i+1))=false:=by simp [e]
   rw [e1];simp (disch:=omega) only [B6,G6,Bl,B4,c0,c1,c2,ck,b0,w]
theorem Az9 (hfu:1000<=fu)(its:List It):Ae C0 Tryz.prog fu (d+1) Oh [.lst false 3 its.length (Bq its)]=some ⟨[.sc (.bool (Wl its))],[]⟩:=by
 rw [Yq];show Ip _ _ _ _ _ _ _=_;rw [Vm (hnn:=by omega),Ur (hnn:=by omega)]
 by_cases h:its.length=10
 ·have b0:((its.length:Int) != 10)=false:=by simp;omega
  rw [b0,Akp];exact Ahp (call:=Ae C0 Tryz.prog fu d) h its Pe 0 fu rfl rfl (by omega) (by omega)
 ·have b0:((its.length:Int) != 10)=true:=by simp;omega
  have e:Wl its=false:=by
   unfold Wl;cases q:(its.map (·.k)==Pe)
   ·rfl
   ·have:=congrArg List.length (eq_of_beq q);simp [Pe] at this;omega
  rw [b0,Auq,e]
theorem Ava {a b:List Int}(ha:Gn a)(hb:Gn b)(h:(a.map fun n=>n.toNat.toUInt8)=(b.map fun n=>n.toNat.toUInt8)):a=b:=by
 have e:Bo a=Bo b:=by unfold Bo;rw [h]
 rw [←Lx ha,←Lx hb,e]
theorem A88 {a b:List Int}(ha:Gn a)(hb:Gn b):(Array.toList (ByteArray.data (ByteArray.mk (List.toArray (a.map fun n=>n.toNat.toUInt8))))==Array.toList (ByteArray.data (ByteArray.mk (List.toArray (b.map fun n=>n.toNat.toUInt8)))))=decide (a=b):=by
 by_cases h:a=b
 ·subst h;simp
 ·have:(List.map (fun n=>n.toNat.toUInt8) a)≠(List.map (fun n=>n.toNat.toUInt8) b):=fun e=>h (Ava ha hb e)
  simp only [h,decide_false]
  simpa using this
theorem Al9 {a b:List Int}(ha:Gn a)(hb:Gn b):Ae C0 Tryz.prog fu (d+1) Abk [.lst false 1 a.length (Ai .u8 a),.lst false 1 b.length (Ai .u8 b)]=some ⟨[.sc (.bool (decide (a=b)))],[]⟩:=by
 rw [Amx];have La:=As .u8 a;have Lb:=As .u8 b;have ba:=Fu a;have bb:=Fu b;have q:=A88 ha hb;simp (disch:=omega) only [B6,La,Lb,ba,bb,q]
end
structure Ce.ok (c:Ce):Prop where
 ser:isU c.serial
 mod:isU c.model
 root:isU c.key.root
 sg:c.sig.ok
theorem Ce.ok.wf {c:Ce}(h:c.ok):c.wf:=⟨h.ser.1,h.mod.1⟩
def G7 (x1 x2 x3 x5 x6 x7 x8 x9:It)(k:Ky)(s:Sg):Ce:=⟨x1.s,x2.s,x3.n,k,IntKind.wrap .i64 x5.n,IntKind.wrap .i64 x6.n,x7.n==1,IntKind.wrap .i64 x8.n,x9.n,s⟩
def Aow (b:List Int):Option Ce:=
 if (Lj 1000 [] 0 b 0 []).2.2≠0 then none else
 match (Lj 1000 [] 0 b 0 []).1 with
 |[_,x1,x2,x3,x4,x5,x6,x7,x8,x9]=>(match Aa0 (Bz x4.s),sgD (b.drop (Lj 1000 [] 0 b 0 []).2.1) with|some k,some s=>some (G7 x1 x2 x3 x5 x6 x7 x8 x9 k s)|_,_=>none)
 |_=>none
def Jy (b:List Int):Ce × Int:=
 if b.length>512 then (ce0,8) else match Aow b with|some c=>if Dv c=0∧Es c=b∧c.serial<=18446744073709551615∧c.model<=18446744073709551615 then (c,0) else (ce0,2)|none=>(ce0,2)
theorem Ly {c:Ce}(h:Dv c=0):Be c=0∧Df c.key.h=false∧Df c.sig.path.length=false∧Ga c.sig.leaf c.sig.path.length=false∧c.sig.chains.length=18∧0<=c.fr∧c.fr<=c.un∧c.un<=1099511627776∧0<=c.path∧c.path<=2:=by
 unfold Dv at h;by_cases h0:Be c=0
 rotate_left
 ·rw [A3 h0] at h;exact absurd h h0
 rw [Bk h0] at h;unfold Af5 at h;have hb:=h0;unfold Be at hb
 repeat' (split at h;· cases h)
 repeat' (split at hb;· cases hb)
 refine ⟨h0,by simp_all,by simp_all,by simp_all,by omega,by omega,by omega,by omega,by omega,by omega⟩
theorem Asi {c:Ce}(hc:c.ok)(h:Dv c=0){m:Nat}(hm:10<m):Lj m [] 0 (Es c) 0 []=(Bb c,(Bc (Bb c)).length,0):=by
 obtain ⟨h0,h1,h2,h3,h4,h5,h6,h7,h8,h9⟩:=Ly h
 have r:=Am0 (b:=Es c) (rest:=Mv c.sig) (Bb c) [] 0 0 m [] (Acn hc.wf h0) (by
  intro x hx;have u1:=hc.ser;have u2:=hc.mod;simp only [Bb,List.mem_cons,List.not_mem_nil,or_false] at hx;rcases hx with rfl|rfl|rfl|rfl|rfl|rfl|rfl|rfl|rfl|rfl
  all_goals simp only
  all_goals try split
  all_goals omega) rfl (by simpa [Bb] using hm)
 simpa using r
theorem Ab2 {c:Ce}(h:Dv c=0):G7 ⟨4,0,c.subj⟩ ⟨4,0,c.iss⟩ ⟨1,c.serial,C2⟩ ⟨1,c.fr,C2⟩ ⟨1,c.un,C2⟩ ⟨7,(if c.auth=true then 1 else 0),C2⟩ ⟨1,c.path,C2⟩ ⟨1,c.model,C2⟩ c.key c.sig=c:=by
 obtain ⟨h0,h1,h2,h3,h4,h5,h6,h7,h8,h9⟩:=Ly h;obtain ⟨subj,iss,serial,key,fr,un,auth,path,model,sig⟩:=c;simp only at *
 unfold G7;simp only;rw [Au (by omega) (by omega),Au (by omega) (by omega),Au (by omega) (by omega)]
 cases auth<;>rfl
theorem Aes {c:Ce}(h:Dv c=0):(Es c).length<=400:=by
 obtain ⟨h0,h1,h2,h3,h4,h5,h6,h7,h8,h9⟩:=Ly h;have:=Jb h0;have hb:=Gi h2;unfold Es Mv;simp only [Ic,H0,Db];omega
theorem At4 {c:Ce}(hw:c.wf)(h:Dv c=0):Gn (Es c):=by
 intro x hx;rcases List.mem_append.1 hx with hx|hx
 ·exact Z4 hw (Ly h).1 x hx
 ·exact A6d _ x hx
theorem Auj {c:Ce}(hc:c.ok)(h:Dv c=0):Aa0 (Bz (Bo (G3 c.key)))=some c.key:=by
 rw [Lx Auh];exact Ans (Ly h).2.1 hc.root
theorem A1y {c:Ce}(hc:c.ok)(h:Dv c=0):sgD ((Es c).drop (Bc (Bb c)).length)=some c.sig:=by
 obtain ⟨h0,h1,h2,h3,h4,h5,h6,h7,h8,h9⟩:=Ly h;unfold Es;rw [List.drop_left' rfl];exact Axa hc.sg h2 h3 h4
theorem Akf {c:Ce}(hc:c.ok)(h:Dv c=0):Jy (Es c)=(c,0):=by
 have r:=Asi hc h (m:=1000) (by omega)
 have k:=Auj hc h;have s:=A1y hc h;have cs:=Ab2 h;have l:=Aes h;have u1:=hc.ser;have u2:=hc.mod
 have:Aow (Es c)=some c:=by
  unfold Aow;rw [r];simp only [Bb];simp only [Bb] at s;rw [A3 (by simp),k,s]
  simp only [cs]
 unfold Jy;rw [A3 (by omega),this]
 simp only;rw [Bk ⟨h,by trivial,u1.2,u2.2⟩]
theorem Y1 {x1 x2 x3 x5 x6 x7 x8 x9:It}{k:Ky}{s:Sg}(h3:OkX x3)(h9:OkX x9)(hk:isU k.root)(hs:s.ok):(G7 x1 x2 x3 x5 x6 x7 x8 x9 k s).ok:=⟨⟨h3.n0,h3.n1⟩,⟨h9.n0,h9.n1⟩,hk,hs⟩
theorem Ath {b:List Int}(hb:Gn b){c:Ce}(h:Aow b=some c):c.ok:=by
 have ok:=(Ae2 hb 1000 [] 0 0 [] (by omega) (by simp)).2
 unfold Aow at h;split at h
 ·cases h
 ·split at h
  ·rename_i e;rw [e] at ok;split at h
   ·rename_i hk hs;cases h;exact Y1 (ok _ (by simp)) (ok _ (by simp)) (Ad5 hk).2 (Ajp hs).1
   ·cases h
  ·cases h
theorem Aok {b:List Int}(hB:Gn b)(hl:b.length<=512)(hn:∀c:Ce,c.ok->Dv c=0->Es c≠b):Jy b=(ce0,2):=by
 unfold Jy;rw [A3 (by omega)]
 cases h:Aow b with
 |none=>rfl
 |some c=>
  simp only;rw [A3];intro ⟨h1,h2,_⟩;exact hn c (Ath hB h) h1 h2
theorem A52 {b:List Int}(hB:Gn b):(Jy b).1.ok∧((Jy b).2=0->Dv (Jy b).1=0∧Es (Jy b).1=b):=by
 have z:ce0.ok:=⟨⟨by decide,by decide⟩,⟨by decide,by decide⟩,⟨by decide,by decide⟩,⟨(by intro x hx;cases hx),(by intro x hx;cases hx)⟩⟩
 unfold Jy;split
 ·exact ⟨z,fun h=>by simp at h⟩
 ·split
  ·rename_i c hc;split
   ·rename_i h;exact ⟨Ath hB hc,fun _=>⟨h.1,h.2.1⟩⟩
   ·exact ⟨z,fun h=>by simp at h⟩
  ·exact ⟨z,fun h=>by simp at h⟩
end
section
def Az7 (b:List Int)(used:Nat):List It->Ce × Int
 |[_,x1,x2,x3,x4,x5,x6,x7,x8,x9]=>(match Aa0 (Bz x4.s),sgD (b.drop used) with
  |some k,some s=>if Dv (G7 x1 x2 x3 x5 x6 x7 x8 x9 k s)=0∧Es (G7 x1 x2 x3 x5 x6 x7 x8 x9 k s)=b then (G7 x1 x2 x3 x5 x6 x7 x8 x9 k s,0) else (ce0,2)
  |_,_=>(ce0,2))
 |_=>(ce0,2)
def Ag3 (b:List Int)(r:List It × Nat × Int):Ce × Int:=
 if b.length>512 then (ce0,8) else if r.2.2≠0 then (ce0,2) else if Wl r.1=false then (ce0,2) else Az7 b r.2.1 r.1
theorem Ata {its:List It}(h:Wl its=true):its.length=10:=by
 have:=congrArg List.length (eq_of_beq h)
 simpa [Pe] using this
theorem As9 {its:List It}(h:its.length=10):∃x0 x1 x2 x3 x4 x5 x6 x7 x8 x9,its=[x0,x1,x2,x3,x4,x5,x6,x7,x8,x9]:=by
 match its,h with
 |[x0,x1,x2,x3,x4,x5,x6,x7,x8,x9],_=>exact ⟨x0,x1,x2,x3,x4,x5,x6,x7,x8,x9,rfl⟩
theorem A33 {c:Ce}(hc:c.ok)(h:Dv c=0):Az7 (Es c) (Bc (Bb c)).length (Bb c)=(c,0):=by
 have k:=Auj hc h;have s:=A1y hc h;have cs:=Ab2 h
 have e:Az7 (Es c) (Bc (Bb c)).length (Bb c)=(match Aa0 (Bz (Bo (G3 c.key))),sgD ((Es c).drop (Bc (Bb c)).length) with
  |some k,some s=>if Dv (G7 ⟨4,0,c.subj⟩ ⟨4,0,c.iss⟩ ⟨1,c.serial,C2⟩ ⟨1,c.fr,C2⟩ ⟨1,c.un,C2⟩ ⟨7,(if c.auth=true then 1 else 0),C2⟩ ⟨1,c.path,C2⟩ ⟨1,c.model,C2⟩ k s)=0∧Es (G7 ⟨4,0,c.subj⟩ ⟨4,0,c.iss⟩ ⟨1,c.serial,C2⟩ ⟨1,c.fr,C2⟩ ⟨1,c.un,C2⟩ ⟨7,(if c.auth=true then 1 else 0),C2⟩ ⟨1,c.path,C2⟩ ⟨1,c.model,C2⟩ k s)=Es c then (G7 ⟨4,0,c.subj⟩ ⟨4,0,c.iss⟩ ⟨1,c.serial,C2⟩ ⟨1,c.fr,C2⟩ ⟨1,c.un,C2⟩ ⟨7,(if c.auth=true then 1 else 0),C2⟩ ⟨1,c.path,C2⟩ ⟨1,c.model,C2⟩ k s,0) else (ce0,2)
  |_,_=>(ce0,2)):=rfl
 rw [e,k,s];simp only [cs];rw [Bk ⟨h,by trivial⟩]
theorem Azc {b:List Int}{used:Nat}{its:List It}(hx:∀x∈its,OkX x)(hn:∀c:Ce,c.ok->Dv c=0->Es c≠b):Az7 b used its=(ce0,2):=by
 unfold Az7;split
 ·split
  ·rename_i hk hs;rw [A3];intro ⟨h1,h2⟩;exact hn _ (Y1 (hx _ (by simp)) (hx _ (by simp)) (Ad5 hk).2 (Ajp hs).1) h1 h2
  ·rfl
 ·rfl
theorem Azf (c:Ce):Wl (Bb c)=true:=rfl
theorem A2v {b:List Int}(hb:Gn b){r:List It × Nat × Int}(hx:∀x∈r.1,OkX x)(hc:∀c:Ce,c.ok->Dv c=0->Es c=b->r=(Bb c,(Bc (Bb c)).length,0)):Ag3 b r=Jy b:=by
 by_cases h5:b.length>512
 ·unfold Ag3 Jy;rw [Bk h5,Bk h5]
 by_cases hex:∃c:Ce,c.ok∧Dv c=0∧Es c=b
 ·obtain ⟨c,c1,c2,c3⟩:=hex;have e:=hc c c1 c2 c3;subst c3;rw [Akf c1 c2,e];unfold Ag3;rw [A3 h5,A3 (by simp),A3 (by simp [Azf])]
  exact A33 c1 c2
 ·have hn:∀c:Ce,c.ok->Dv c=0->Es c≠b:=fun c h1 h2 h3=>hex ⟨c,h1,h2,h3⟩
  rw [Aok hb (by omega) hn]
  unfold Ag3;rw [A3 h5,Azc hx hn];split
  ·rfl
  ·split<;>rfl
section
variable {fu d:Nat}
theorem Az0 (hfu:1000<=fu){b:List Int}(hb:Gn b)(hl:b.length<=1000000):
  Ae C0 Tryz.prog fu (d+9) I9 [.lst false 1 b.length (Ai .u8 b)]=some ⟨[.agg (Ag3 b (Lj fu [] 0 b 0 [])).1.cells,.sc (.int .i64 (Ag3 b (Lj fu [] 0 b 0 [])).2)],[]⟩:=by
 refine (Yj fu (d+8) b.length (Ai .u8 b)).trans ?_;have dec:=Ayg (fu:=fu) (d:=d+3) hfu hb hl;obtain ⟨hat,hox⟩:=Ae2 hb fu [] 0 0 [] (by omega) (by simp)
 generalize Lj fu [] 0 b 0 []=r at dec hat hox ⊢;obtain ⟨its,used,e⟩:=r;simp only at hat hox;unfold Acy at dec;simp only at dec;unfold Ag3;simp only;by_cases h5:b.length>512
 ·rw [Bk h5]
  try unfold Aa
  repeat first
   |((with_reducible first|apply Ap|apply Ag|apply Am|apply Ar|apply Ax|apply Az|apply A6|apply Ah);· first|with_reducible rfl|(simp (disch:=omega) only [Bl]<;>with_reducible rfl))
   |((with_reducible first|apply Ao|apply Ak);· first|with_reducible rfl|omega|(simp (disch:=omega) only [gT,Bl]<;>omega))
   |(with_reducible apply Al;· first|with_reducible rfl|(simp (disch:=omega) only [gF,Bl]<;>omega))
  try simp (disch:=omega) only [Bl]
  all_goals rfl
 rw [A3 h5];by_cases he:e=0
 rotate_left
 ·rw [Bk he];have he':(e != 0)=true:=by simp [he]
  try unfold Aa
  repeat first
   |((with_reducible first|apply Ap|apply Ag|apply Am|apply Ar|apply Ax|apply Az|apply A6|apply Ah);· first|with_reducible rfl|(simp (disch:=omega) only [dec,he']<;>with_reducible rfl))
   |((with_reducible first|apply Ao|apply Ak);· first|with_reducible rfl|omega|(simp (disch:=omega) only [gT,dec,he']<;>omega))
   |(with_reducible apply Al;· first|with_reducible rfl|(simp (disch:=omega) only [gF,dec,he']<;>omega))
  try simp (disch:=omega) only [dec,he']
  all_goals rfl
 rw [A3 (by simp [he])]
 subst he;have e00:((0:Int) != 0)=false:=rfl;have e20:((2:Int) != 0)=true:=rfl;have ib:=Az9 (fu:=fu) (d:=d+7) hfu its;have LT:=Eo its;have tT:List.take (its.length*3) (Bq its)=Bq its:=I2 (by omega)
 cases hib:Wl its
 ·rw [hib] at ib;rw [Bk rfl]
  try unfold Aa
  repeat first
   |((with_reducible first|apply Ap|apply Ag|apply Am|apply Ar|apply Ax|apply Az|apply A6|apply Ah);· first|with_reducible rfl|(simp (disch:=omega) only [dec,e00,Cm,B4,LT,tT,ib,Bn,Br]<;>with_reducible rfl))
   |((with_reducible first|apply Ao|apply Ak);· first|with_reducible rfl|omega|(simp (disch:=omega) only [gT,dec,e00,Cm,B4,LT,tT,ib,Bn,Br]<;>omega))
   |(with_reducible apply Al;· first|with_reducible rfl|(simp (disch:=omega) only [gF,dec,e00,Cm,B4,LT,tT,ib,Bn,Br]<;>omega))
  try simp (disch:=omega) only [dec,e00,Cm,B4,LT,tT,ib,Bn,Br]
  all_goals rfl
 rw [hib] at ib;rw [A3 (by simp)]
 have h10:=Ata hib;obtain ⟨x0,x1,x2,x3,x4,x5,x6,x7,x8,x9,rfl⟩:=As9 h10;clear hib;have o1:=hox x1 (by simp)
 have o2:=hox x2 (by simp)
 have o3:=hox x3 (by simp)
 have o4:=hox x4 (by simp)
 have o9:=hox x9 (by simp)
 clear hox;have g14:List.getD (Bq [x0,x1,x2,x3,x4,x5,x6,x7,x8,x9]) 14 .top=.sc (.string x4.s):=rfl;have g5:List.getD (Bq [x0,x1,x2,x3,x4,x5,x6,x7,x8,x9]) 5 .top=.sc (.string x1.s):=rfl;have g8:List.getD (Bq [x0,x1,x2,x3,x4,x5,x6,x7,x8,x9]) 8 .top=.sc (.string x2.s):=rfl;have g10:List.getD (Bq [x0,x1,x2,x3,x4,x5,x6,x7,x8,x9]) 10 .top=.sc (.int .u64 x3.n):=rfl;have g16:List.getD (Bq [x0,x1,x2,x3,x4,x5,x6,x7,x8,x9]) 16 .top=.sc (.int .u64 x5.n):=rfl;have g19:List.getD (Bq [x0,x1,x2,x3,x4,x5,x6,x7,x8,x9]) 19 .top=.sc (.int .u64 x6.n):=rfl;have g22:List.getD (Bq [x0,x1,x2,x3,x4,x5,x6,x7,x8,x9]) 22 .top=.sc (.int .u64 x7.n):=rfl;have g25:List.getD (Bq [x0,x1,x2,x3,x4,x5,x6,x7,x8,x9]) 25 .top=.sc (.int .u64 x8.n):=rfl;have g28:List.getD (Bq [x0,x1,x2,x3,x4,x5,x6,x7,x8,x9]) 28 .top=.sc (.int .u64 x9.n):=rfl;have ln:[x0,x1,x2,x3,x4,x5,x6,x7,x8,x9].length=10:=rfl
 rw [ln] at dec ib LT tT;generalize Bq [x0,x1,x2,x3,x4,x5,x6,x7,x8,x9]=T at *
 clear h10;have hs4:=o4.s1;have L4:(Ct x4.s).length=x4.s.size:=by rw [Fp,As,C7]
 have t4:List.take x4.s.size (Ct x4.s)=Ai .u8 (Bz x4.s):=by rw [Fp,I2 (by rw [As,C7];omega)]
 have dk:=A0i (fu:=fu) (d:=d+6) hfu (R2 x4.s);rw [C7] at dk;unfold Az7;simp only;cases hk:Aa0 (Bz x4.s) with
 |none=>
  rw [hk] at dk;simp only [Acp,Ky.cells] at dk
  try unfold Aa
  repeat first
   |((with_reducible first|apply Ap|apply Ag|apply Am|apply Ar|apply Ax|apply Az|apply A6|apply Ah);· first|with_reducible rfl|(simp (disch:=omega) only [dec,e00,e20,Cm,B4,Bl,Nat.reduceMul,LT,tT,ib,g14,L4,t4,dk,Bn,Br]<;>with_reducible rfl))
   |((with_reducible first|apply Ao|apply Ak);· first|with_reducible rfl|omega|(simp (disch:=omega) only [gT,dec,e00,e20,Cm,B4,Bl,Nat.reduceMul,LT,tT,ib,g14,L4,t4,dk,Bn,Br]<;>omega))
   |(with_reducible apply Al;· first|with_reducible rfl|(simp (disch:=omega) only [gF,dec,e00,e20,Cm,B4,Bl,Nat.reduceMul,LT,tT,ib,g14,L4,t4,dk,Bn,Br]<;>omega))
  try simp (disch:=omega) only [dec,e00,e20,Cm,B4,Bl,Nat.reduceMul,LT,tT,ib,g14,L4,t4,dk,Bn,Br]
  all_goals rfl
 |some k=>
  rw [hk] at dk;simp only [Acp,Ky.cells] at dk;obtain ⟨k1,k2⟩:=Ad5 hk;have ds:=Ago (fu:=fu) (d:=d+6) hfu (l:=b.drop used) (fun x hx=>hb x (List.mem_of_mem_drop hx))
  rw [List.length_drop] at ds;have tb:List.take (b.length-used) (List.drop used (Ai .u8 b))=Ai .u8 (b.drop used):=by rw [E6,I2 (by rw [As,List.length_drop];omega)]
  have nu:Int.toNat (used:Int)=used:=G6 used;cases hs:sgD (b.drop used) with
  |none=>
   rw [hs] at ds;simp only [Q8,Sg.owned] at ds
   try unfold Aa
   repeat first
    |((with_reducible first|apply Ap|apply Ag|apply Am|apply Ar|apply Ax|apply Az|apply A6|apply Ah);· first|with_reducible rfl|(simp (disch:=omega) only [dec,e00,e20,Cm,B4,Bl,Nat.reduceMul,LT,tT,ib,g14,L4,t4,dk,nu,tb,ds,Bn,Br]<;>with_reducible rfl))
    |((with_reducible first|apply Ao|apply Ak);· first|with_reducible rfl|omega|(simp (disch:=omega) only [gT,dec,e00,e20,Cm,B4,Bl,Nat.reduceMul,LT,tT,ib,g14,L4,t4,dk,nu,tb,ds,Bn,Br]<;>omega))
    |(with_reducible apply Al;· first|with_reducible rfl|(simp (disch:=omega) only [gF,dec,e00,e20,Cm,B4,Bl,Nat.reduceMul,LT,tT,ib,g14,L4,t4,dk,nu,tb,ds,Bn,Br]<;>omega))
   try simp (disch:=omega) only [dec,e00,e20,Cm,B4,Bl,Nat.reduceMul,LT,tT,ib,g14,L4,t4,dk,nu,tb,ds,Bn,Br]
   all_goals rfl
  |some s=>
   rw [hs] at ds;simp only [Q8,Sg.owned] at ds;obtain ⟨s1,s2,s3⟩:=Ajp hs;have cok:(G7 x1 x2 x3 x5 x6 x7 x8 x9 k s).ok:=Y1 o3 o9 k2 s1;have en:=A4i (fu:=fu) (d:=d) (c:=G7 x1 x2 x3 x5 x6 x7 x8 x9 k s) hfu cok.wf (Nat.le_trans o1.s1 (by omega)) (Nat.le_trans o2.s1 (by omega)) (Nat.le_trans s2 (by omega)) (Nat.lt_of_le_of_lt s2 (by omega))
   have ec:(G7 x1 x2 x3 x5 x6 x7 x8 x9 k s).cells=[.sc (.string x1.s),.sc (.string x2.s),.sc (.int .u64 x3.n),.sc (.int .i64 k.h),.sc (.int .u64 k.root),.sc (.int .i64 (IntKind.wrap .i64 x5.n)),.sc (.int .i64 (IntKind.wrap .i64 x6.n)),.sc (.bool (x7.n==1)),.sc (.int .i64 (IntKind.wrap .i64 x8.n)),.sc (.int .u64 x9.n),.sc (.int .i64 s.leaf),.lst false 1 s.chains.length (Ai .u64 s.chains),.lst false 1 s.path.length (Ai .u64 s.path)]:=rfl;have eB:=fun h=>At4 (c:=G7 x1 x2 x3 x5 x6 x7 x8 x9 k s) cok.wf h
   have eL:=fun h=>Aes (c:=G7 x1 x2 x3 x5 x6 x7 x8 x9 k s) h
   have Lc:=As .u64 s.chains;have Lp:=As .u64 s.path;have tc:=G4 .u64 s.chains;have tp:=G4 .u64 s.path;simp only;generalize G7 x1 x2 x3 x5 x6 x7 x8 x9 k s=c at *
   rw [ec] at en;unfold Ab1 at en;by_cases hz:Dv c=0
   rotate_left
   ·have hz':(Dv c != 0)=true:=by simp [hz]
    rw [A3 hz] at en;rw [A3 (fun h=>hz h.1)]
    try unfold Aa
    repeat first
     |((with_reducible first|apply Ap|apply Ag|apply Am|apply Ar|apply Ax|apply Az|apply A6|apply Ah);· first|with_reducible rfl|(simp (disch:=omega) only [dec,e00,e20,Cm,B4,Bl,Nat.reduceMul,LT,tT,ib,g14,L4,t4,dk,nu,tb,ds,g5,g8,g10,g16,g19,g22,g25,g28,Lc,Lp,tc,tp,en,hz',Bn,Br]<;>with_reducible rfl))
     |((with_reducible first|apply Ao|apply Ak);· first|with_reducible rfl|omega|(simp (disch:=omega) only [gT,dec,e00,e20,Cm,B4,Bl,Nat.reduceMul,LT,tT,ib,g14,L4,t4,dk,nu,tb,ds,g5,g8,g10,g16,g19,g22,g25,g28,Lc,Lp,tc,tp,en,hz',Bn,Br]<;>omega))
     |(with_reducible apply Al;· first|with_reducible rfl|(simp (disch:=omega) only [gF,dec,e00,e20,Cm,B4,Bl,Nat.reduceMul,LT,tT,ib,g14,L4,t4,dk,nu,tb,ds,g5,g8,g10,g16,g19,g22,g25,g28,Lc,Lp,tc,tp,en,hz',Bn,Br]<;>omega))
    try simp (disch:=omega) only [dec,e00,e20,Cm,B4,Bl,Nat.reduceMul,LT,tT,ib,g14,L4,t4,dk,nu,tb,ds,g5,g8,g10,g16,g19,g22,g25,g28,Lc,Lp,tc,tp,en,hz',Bn,Br]
    all_goals rfl
   rw [Bk hz] at en;have be:=Al9 (fu:=fu) (d:=d+7) (eB hz) hb;have LE:=As .u8 (Es c);have tE:=G4 .u8 (Es c);by_cases hq:Es c=b
   ·rw [Bk ⟨hz,hq⟩];simp only [hq,decide_true] at be en LE tE;simp only [ec]
    try unfold Aa
    repeat first
     |((with_reducible first|apply Ap|apply Ag|apply Am|apply Ar|apply Ax|apply Az|apply A6|apply Ah);· first|with_reducible rfl|(simp (disch:=omega) only [dec,e00,e20,Cm,B4,Bl,Nat.reduceMul,LT,tT,ib,g14,L4,t4,dk,nu,tb,ds,g5,g8,g10,g16,g19,g22,g25,g28,Lc,Lp,tc,tp,en,LE,tE,be,Bn,Br]<;>with_reducible rfl))
     |((with_reducible first|apply Ao|apply Ak);· first|with_reducible rfl|omega|(simp (disch:=omega) only [gT,dec,e00,e20,Cm,B4,Bl,Nat.reduceMul,LT,tT,ib,g14,L4,t4,dk,nu,tb,ds,g5,g8,g10,g16,g19,g22,g25,g28,Lc,Lp,tc,tp,en,LE,tE,be,Bn,Br]<;>omega))
     |(with_reducible apply Al;· first|with_reducible rfl|(simp (disch:=omega) only [gF,dec,e00,e20,Cm,B4,Bl,Nat.reduceMul,LT,tT,ib,g14,L4,t4,dk,nu,tb,ds,g5,g8,g10,g16,g19,g22,g25,g28,Lc,Lp,tc,tp,en,LE,tE,be,Bn,Br]<;>omega))
    try simp (disch:=omega) only [dec,e00,e20,Cm,B4,Bl,Nat.reduceMul,LT,tT,ib,g14,L4,t4,dk,nu,tb,ds,g5,g8,g10,g16,g19,g22,g25,g28,Lc,Lp,tc,tp,en,LE,tE,be,Bn,Br]
    all_goals rfl
   ·rw [A3 (fun h=>hq h.2)]
    simp only [hq,decide_false] at be
    try unfold Aa
    repeat first
     |((with_reducible first|apply Ap|apply Ag|apply Am|apply Ar|apply Ax|apply Az|apply A6|apply Ah);· first|with_reducible rfl|(simp (disch:=omega) only [dec,e00,e20,Cm,B4,Bl,Nat.reduceMul,LT,tT,ib,g14,L4,t4,dk,nu,tb,ds,g5,g8,g10,g16,g19,g22,g25,g28,Lc,Lp,tc,tp,en,LE,tE,be,Bn,Br]<;>with_reducible rfl))
     |((with_reducible first|apply Ao|apply Ak);· first|with_reducible rfl|omega|(simp (disch:=omega) only [gT,dec,e00,e20,Cm,B4,Bl,Nat.reduceMul,LT,tT,ib,g14,L4,t4,dk,nu,tb,ds,g5,g8,g10,g16,g19,g22,g25,g28,Lc,Lp,tc,tp,en,LE,tE,be,Bn,Br]<;>omega))
     |(with_reducible apply Al;· first|with_reducible rfl|(simp (disch:=omega) only [gF,dec,e00,e20,Cm,B4,Bl,Nat.reduceMul,LT,tT,ib,g14,L4,t4,dk,nu,tb,ds,g5,g8,g10,g16,g19,g22,g25,g28,Lc,Lp,tc,tp,en,LE,tE,be,Bn,Br]<;>omega))
    try simp (disch:=omega) only [dec,e00,e20,Cm,B4,Bl,Nat.reduceMul,LT,tT,ib,g14,L4,t4,dk,nu,tb,ds,g5,g8,g10,g16,g19,g22,g25,g28,Lc,Lp,tc,tp,en,LE,tE,be,Bn,Br]
    all_goals rfl
theorem A40 (hfu:1000<=fu){b:List Int}(hb:Gn b)(hl:b.length<=1000000):
  Ae C0 Tryz.prog fu (d+9) I9 [.lst false 1 b.length (Ai .u8 b)]=some ⟨[.agg (Jy b).1.cells,.sc (.int .i64 (Jy b).2)],[]⟩:=by
 have e:Ag3 b (Lj fu [] 0 b 0 [])=Jy b:=A2v hb (Ae2 hb fu [] 0 0 [] (by omega) (by simp)).2 (fun c c1 c2 c3=>by subst c3;exact Asi c1 c2 (by omega))
 rw [←e];exact Az0 hfu hb hl
end
end
end Go.Proofs.YtgfgmbpmghgbkaaGreatDoor.Pv
