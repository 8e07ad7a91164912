/-
  The proof of DataWritten, part 5.
-/
import Derived.Test.YtodnjibebeghjaaGreatDoorWD
import Derived.Test.YtodnjibebeghjaaGreatDoorRows
import Derived.Laws.ResultCell
set_option linter.unusedSimpArgs false
set_option linter.unusedVariables false
namespace Go.Proofs.YtodnjibebeghjaaGreatDoor.Pv
section
open Go.Proofs.Tryz (prog)
open Go.IntKind (wrap)
set_option maxRecDepth 100000
abbrev Qh:FuncId:=68
theorem Qj {p:Option (List PV->Option Ap)} (fu d:Nat)(a0 a1:ByteArray):Ae (CP p) prog fu (d+1) Qh [.sc (.string a0),.sc (.string a1)]=(fun (call:Am)=>Ah (call 86 [.sc (.string a0),.sc (.string a1)]) fun x1 x2=>Ad x2<|Aa x1 fun x3 x4=>Aq x3 fun x5=>Ad x4<|Ba (!x5) (some (Ap.mk [.sc (.string a0),.sc (.bool false)] [])) (A2 (decide (Int.toNat (↑(ByteArray.size a1):Int)<=ByteArray.size a0)&&decide (ByteArray.size a0<=ByteArray.size a0))<|Ac (ByteArray.extract a0 (Int.toNat (↑(ByteArray.size a1):Int)) (ByteArray.size a0)) fun x6=>some (Ap.mk [.sc (.string x6),.sc (.bool true)] []))) (Ae (CP p) prog fu d):=by kernel_rfl
abbrev L5:FuncId:=45
theorem U5 {p:Option (List PV->Option Ap)} (fu d:Nat)(a0 a1:ByteArray):Ae (CP p) prog fu (d+1) L5 [.sc (.string a0),.sc (.string a1)]=(fun (call:Am)=>Ah (call 68 [.sc (.string a0),.sc (.string a1)]) fun x1 x2=>Ad x2<|Aa x1 fun x3 x4=>Ar x3 fun x5=>Aa x4 fun x6 x7=>Aq x6 fun x8=>Ad x7<|some (Ap.mk [.sc (.string x5),.sc (.bool x8)] [])) (Ae (CP p) prog fu d):=by kernel_rfl
abbrev Ys:FuncId:=69
theorem Zb {p:Option (List PV->Option Ap)} (fu d:Nat)(a0 a1:ByteArray):Ae (CP p) prog fu (d+1) Ys [.sc (.string a0),.sc (.string a1)]=(fun (call:Am)=>Ah (call 87 [.sc (.string a0),.sc (.string a1)]) fun x1 x2=>Ad x2<|Aa x1 fun x3 x4=>Aj .i64 x3 fun x5=>Ad x4<|Ba (decide (x5>=0)) (A2 (decide (0<=x5))<|A2 (decide (Int.toNat x5<=ByteArray.size a0))<|Ac (ByteArray.extract a0 0 x5.toNat) fun x6=>Ac (wrap .i64 (x5+(↑(ByteArray.size a1):Int))) fun x7=>A2 (decide (0<=x7))<|A2 (decide (Int.toNat x7<=ByteArray.size a0)&&decide (ByteArray.size a0<=ByteArray.size a0))<|Ac (ByteArray.extract a0 x7.toNat (ByteArray.size a0)) fun x8=>some (Ap.mk [.sc (.string x6),.sc (.string x8),.sc (.bool true)] [])) (some (Ap.mk [.sc (.string a0),.sc (.string (ByteArray.mk #[])),.sc (.bool false)] []))) (Ae (CP p) prog fu d):=by kernel_rfl
abbrev Vt:FuncId:=46
theorem JB {p:Option (List PV->Option Ap)} (fu d:Nat)(a0 a1:ByteArray):Ae (CP p) prog fu (d+1) Vt [.sc (.string a0),.sc (.string a1)]=(fun (call:Am)=>Ah (call 69 [.sc (.string a0),.sc (.string a1)]) fun x1 x2=>Ad x2<|Aa x1 fun x3 x4=>Ar x3 fun x5=>Aa x4 fun x6 x7=>Ar x6 fun x8=>Aa x7 fun x9 E4=>Aq x9 fun Is=>Ad E4<|some (Ap.mk [.sc (.string x5),.sc (.string x8),.sc (.bool Is)] [])) (Ae (CP p) prog fu d):=by kernel_rfl
abbrev Rt:FuncId:=109
theorem DO {p:Option (List PV->Option Ap)} (fu d:Nat)(a0 a1:ByteArray):Ae (CP p) prog fu (d+1) Rt [.sc (.string a0),.sc (.string a1)]=(fun (call:Am)=>Ah (call 87 [.sc (.string a0),.sc (.string a1)]) fun x1 x2=>Ad x2<|Aa x1 fun x3 x4=>Aj .i64 x3 fun x5=>Ad x4<|some (Ap.mk [.sc (.int .i64 x5)] [])) (Ae (CP p) prog fu d):=by kernel_rfl
abbrev L8:FuncId:=87
theorem U8 {p:Option (List PV->Option Ap)} (fu d:Nat)(a0 a1:ByteArray):Ae (CP p) prog fu (d+1) L8 [.sc (.string a0),.sc (.string a1)]=(fun (call:Am)=>Ba ((↑(ByteArray.size a1):Int)==0) (some (Ap.mk [.sc (.int .i64 0)] [])) (Ba (Array.toList (ByteArray.data a1)==Array.toList (ByteArray.data a0)) (some (Ap.mk [.sc (.int .i64 0)] [])) (Ba ((↑(ByteArray.size a1):Int)==1) (C5 ((Array.toList (ByteArray.data a1))[0]?) fun x1=>Ah (call 79 [.sc (.string a0),.sc (.int .u8 (↑(UInt8.toNat x1):Int))]) fun x2 x3=>Ad x3<|Aa x2 fun x4 x5=>Aj .i64 x4 fun x6=>Ad x5<|some (Ap.mk [.sc (.int .i64 x6)] [])) (Ba (decide ((↑(ByteArray.size a1):Int)>=(↑(ByteArray.size a0):Int))) (some (Ap.mk [.sc (.int .i64 (-1))] [])) (none))))) (Ae (CP p) prog fu d):=by kernel_rfl
abbrev Xd:FuncId:=88
noncomputable def Ew (fu:Nat)(call:Am)(a0 a1:ByteArray)(a2 a3:Int)(nn:Nat)(y0 y1:ByteArray)(y2 y3:Int)(y4:Nat)(y5:Int)(y6:List PV):Option Ap:=Fh CB prog fu call 88 Tryz.f88 (D2 Tryz.f88) [.sc (.string a0),.sc (.string a1),.sc (.int .i64 a2),.sc (.int .i64 a3)] [.r,.r,.r,.r,.r,.r,.r,.r,.l,.l] nn ⟨lk [(0,(.sc (.string y0))),(1,(.sc (.string y1))),(2,(.sc (.int .i64 y2))),(3,(.sc (.int .i64 y3))),(9,(.view 9 1 0 y4)),(10,(.sc (.int .i64 y5)))],Iw [(9,(.ar false y6))]⟩
theorem R9 (fu:Nat)(call:Am)(a0 a1:ByteArray)(a2 a3:Int)(nn:Nat)(y0 y1:ByteArray)(y2 y3:Int)(y4:Nat)(y5:Int)(y6:List PV):Ew fu call a0 a1 a2 a3 (nn+1) y0 y1 y2 y3 y4 y5 y6=(Ba (decide (y5<y3)) (Ah (call 109 [.sc (.string y0),.sc (.string y1)]) fun H9 I9=>Ad I9<|Aa H9 fun I5 Jr=>Aj .i64 I5 fun I4=>Ad Jr<|Ba (decide (I4<0)) (A2 (decide (0<=y5)&&decide (y5<(↑y4:Int)))<|A2 (decide (0+Int.toNat y5*1+1<=y6.length))<|Ac (Ca y6 [.sc (.string y0)] (0+Int.toNat y5*1)) fun Hw=>Ac (wrap .i64 (y5+1)) fun Iz=>A2 (decide (0<=Iz))<|A2 (decide (Int.toNat Iz<=y4))<|Ac (Int.toNat Iz-0) fun Kr=>A2 (decide (Kr*1<=Hw.length))<|some (Ap.mk [.own 1 Kr (List.take (Kr*1) Hw)] [])) (Ac (wrap .i64 (I4+y2)) fun L1=>A2 (decide (0<=L1))<|A2 (decide (Int.toNat L1<=ByteArray.size y0))<|Ac (ByteArray.extract y0 0 L1.toNat) fun Ms=>A2 (decide (0<=y5)&&decide (y5<(↑y4:Int)))<|A2 (decide (0+Int.toNat y5*1+1<=y6.length))<|Ac (Ca y6 [.sc (.string Ms)] (0+Int.toNat y5*1)) fun L6=>Ac (wrap .i64 (I4+(↑(ByteArray.size y1):Int))) fun N4=>A2 (decide (0<=N4))<|A2 (decide (Int.toNat N4<=ByteArray.size y0)&&decide (ByteArray.size y0<=ByteArray.size y0))<|Ac (ByteArray.extract y0 N4.toNat (ByteArray.size y0)) fun N1=>Ac (wrap .i64 (y5+1)) fun Pf=>Ew fu call a0 a1 a2 a3 (nn) N1 (y1) (y2) (y3) (y4) Pf L6)) (A2 (decide (0<=y5)&&decide (y5<(↑y4:Int)))<|A2 (decide (0+Int.toNat y5*1+1<=y6.length))<|Ac (Ca y6 [.sc (.string y0)] (0+Int.toNat y5*1)) fun N6=>Ac (wrap .i64 (y5+1)) fun O4=>A2 (decide (0<=O4))<|A2 (decide (Int.toNat O4<=y4))<|Ac (Int.toNat O4-0) fun Pq=>A2 (decide (Pq*1<=N6.length))<|some (Ap.mk [.own 1 Pq (List.take (Pq*1) N6)] []))):=by kernel_rfl
theorem Wh {p:Option (List PV->Option Ap)} (fu d:Nat)(a0 a1:ByteArray)(a2 a3:Int):Ae (CP p) prog fu (d+1) Xd [.sc (.string a0),.sc (.string a1),.sc (.int .i64 a2),.sc (.int .i64 a3)]=(fun (call:Am)=>Ba (a3==0) (some (Ap.mk [.own 1 0 []] [])) (Ba (Array.toList (ByteArray.data a1)==Array.toList (ByteArray.data (ByteArray.mk #[]))) (Ah (call 107 [.sc (.string a0),.sc (.int .i64 a3)]) fun x1 x2=>Ad x2<|Aa x1 fun x3 x4=>IU 1 x3 fun x5 x6=>Ad x4<|A2 (decide (x5*1<=x6.length))<|some (Ap.mk [.own 1 x5 (List.take (x5*1) x6)] [])) (Ba (decide (a3<0)) (Ah (call 108 [.sc (.string a0),.sc (.string a1)]) fun x7 x8=>Ad x8<|Aa x7 fun x9 E4=>Aj .i64 x9 fun Is=>Ad E4<|Ac (wrap .i64 (Is+1)) fun Iu=>Ac (wrap .i64 ((↑(ByteArray.size a0):Int)+1)) fun Ey=>Ac (if Ey<Iu then Ey else Iu) fun Gt=>A2 (decide (0<=Gt)&&decide (Gt<=Gt)&&decide (Gt*16<=1099511627776)&&decide (Gt<=1099511627776))<|Ac (wrap .i64 (Gt-1)) fun Ja=>Ew fu call a0 a1 a2 a3 (fu) (a0) (a1) (a2) Ja Gt.toNat 0 (Rp Gt.toNat [.sc (.string (ByteArray.mk #[]))])) (Ac (wrap .i64 ((↑(ByteArray.size a0):Int)+1)) fun Gs=>Ac (if Gs<a3 then Gs else a3) fun Hk=>A2 (decide (0<=Hk)&&decide (Hk<=Hk)&&decide (Hk*16<=1099511627776)&&decide (Hk<=1099511627776))<|Ac (wrap .i64 (Hk-1)) fun I6=>Ew fu call a0 a1 a2 a3 (fu) (a0) (a1) (a2) I6 Hk.toNat 0 (Rp Hk.toNat [.sc (.string (ByteArray.mk #[]))]))))) (Ae (CP p) prog fu d):=by kernel_rfl
abbrev Rq:FuncId:=70
theorem DM {p:Option (List PV->Option Ap)} (fu d:Nat)(a0 a1:ByteArray):Ae (CP p) prog fu (d+1) Rq [.sc (.string a0),.sc (.string a1)]=(fun (call:Am)=>Ah (call 88 [.sc (.string a0),.sc (.string a1),.sc (.int .i64 0),.sc (.int .i64 (-1))]) fun x1 x2=>Ad x2<|Aa x1 fun x3 x4=>IU 1 x3 fun x5 x6=>Ad x4<|A2 (decide (x5*1<=x6.length))<|some (Ap.mk [.own 1 x5 (List.take (x5*1) x6)] [])) (Ae (CP p) prog fu d):=by kernel_rfl
abbrev Ow:FuncId:=71
noncomputable def Bd (fu:Nat)(call:Am)(a0:ByteArray)(nn:Nat)(y0:ByteArray)(y1 y2:Int):Option Ap:=Fh CB prog fu call 71 Tryz.f71 (D2 Tryz.f71) [.sc (.string a0)] [.r,.r,.l,.r,.l] nn ⟨lk [(0,(.sc (.string y0))),(16,(.sc (.int .i64 y1))),(17,(.sc (.int .i64 y2)))],Iw []⟩
theorem Kx (fu:Nat)(call:Am)(a0:ByteArray)(nn:Nat)(y0:ByteArray)(y1 y2:Int):Bd fu call a0 (nn+1) y0 y1 y2=(Ba (decide (y2<y1)) (A2 (decide (0<=y2))<|C5 ((Array.toList (ByteArray.data y0))[Int.toNat y2]?) fun x1=>Ba (decide (97<=(↑(UInt8.toNat x1):Int))) (Ba (decide ((↑(UInt8.toNat x1):Int)<=122)) (Ba ((↑(UInt8.toNat x1):Int)==45) (Ba (decide (y2>0)) (Ac (wrap .i64 ((↑(ByteArray.size y0):Int)-1)) fun x2=>Ac (wrap .i64 (y2+1)) fun x3=>Bd fu call a0 (nn) (y0) (y1) x3) (Ac (wrap .i64 (y2+1)) fun x4=>Bd fu call a0 (nn) (y0) (y1) x4)) (Ac (wrap .i64 (y2+1)) fun x5=>Bd fu call a0 (nn) (y0) (y1) x5)) (Ba (decide (48<=(↑(UInt8.toNat x1):Int))) (Ba ((↑(UInt8.toNat x1):Int)==45) (Ba (decide (y2>0)) (Ac (wrap .i64 ((↑(ByteArray.size y0):Int)-1)) fun x6=>Ba (!decide ((↑(UInt8.toNat x1):Int)<=57)) (Ba (!decide (y2<x6)) (some (Ap.mk [.sc (.bool false)] [])) (Ac (wrap .i64 (y2+1)) fun x7=>Bd fu call a0 (nn) (y0) (y1) x7)) (Ac (wrap .i64 (y2+1)) fun x8=>Bd fu call a0 (nn) (y0) (y1) x8)) (Ba (!decide ((↑(UInt8.toNat x1):Int)<=57)) (some (Ap.mk [.sc (.bool false)] [])) (Ac (wrap .i64 (y2+1)) fun x9=>Bd fu call a0 (nn) (y0) (y1) x9))) (Ba (!decide ((↑(UInt8.toNat x1):Int)<=57)) (some (Ap.mk [.sc (.bool false)] [])) (Ac (wrap .i64 (y2+1)) fun E4=>Bd fu call a0 (nn) (y0) (y1) E4))) (Ba ((↑(UInt8.toNat x1):Int)==45) (Ba (decide (y2>0)) (Ac (wrap .i64 ((↑(ByteArray.size y0):Int)-1)) fun Is=>Ba (!decide (y2<Is)) (some (Ap.mk [.sc (.bool false)] [])) (Ac (wrap .i64 (y2+1)) fun Iu=>Bd fu call a0 (nn) (y0) (y1) Iu)) (some (Ap.mk [.sc (.bool false)] []))) (some (Ap.mk [.sc (.bool false)] []))))) (Ba (decide (48<=(↑(UInt8.toNat x1):Int))) (Ba ((↑(UInt8.toNat x1):Int)==45) (Ba (decide (y2>0)) (Ac (wrap .i64 ((↑(ByteArray.size y0):Int)-1)) fun Ey=>Ba (!decide ((↑(UInt8.toNat x1):Int)<=57)) (Ba (!decide (y2<Ey)) (some (Ap.mk [.sc (.bool false)] [])) (Ac (wrap .i64 (y2+1)) fun Gt=>Bd fu call a0 (nn) (y0) (y1) Gt)) (Ac (wrap .i64 (y2+1)) fun Ja=>Bd fu call a0 (nn) (y0) (y1) Ja)) (Ba (!decide ((↑(UInt8.toNat x1):Int)<=57)) (some (Ap.mk [.sc (.bool false)] [])) (Ac (wrap .i64 (y2+1)) fun Gs=>Bd fu call a0 (nn) (y0) (y1) Gs))) (Ba (!decide ((↑(UInt8.toNat x1):Int)<=57)) (some (Ap.mk [.sc (.bool false)] [])) (Ac (wrap .i64 (y2+1)) fun Hk=>Bd fu call a0 (nn) (y0) (y1) Hk))) (Ba ((↑(UInt8.toNat x1):Int)==45) (Ba (decide (y2>0)) (Ac (wrap .i64 ((↑(ByteArray.size y0):Int)-1)) fun I6=>Ba (!decide (y2<I6)) (some (Ap.mk [.sc (.bool false)] [])) (Ac (wrap .i64 (y2+1)) fun H9=>Bd fu call a0 (nn) (y0) (y1) H9)) (some (Ap.mk [.sc (.bool false)] []))) (some (Ap.mk [.sc (.bool false)] []))))) (some (Ap.mk [.sc (.bool true)] []))):=by kernel_rfl
theorem Yn {p:Option (List PV->Option Ap)} (fu d:Nat)(a0:ByteArray):Ae (CP p) prog fu (d+1) Ow [.sc (.string a0)]=(fun (call:Am)=>Ba (decide ((↑(ByteArray.size a0):Int)<1)) (some (Ap.mk [.sc (.bool false)] [])) (Ba (decide ((↑(ByteArray.size a0):Int)>63)) (some (Ap.mk [.sc (.bool false)] [])) (Bd fu call a0 (fu) (a0) ((↑(ByteArray.size a0):Int)) 0))) (Ae (CP p) prog fu d):=by kernel_rfl
abbrev Rs:FuncId:=47
noncomputable def Hq (fu:Nat)(call:Am)(a0:ByteArray)(nn y0 y1:Nat)(y2 y3:Int)(y4:List PV):Option Ap:=Fh CB prog fu call 47 Tryz.f47 (D2 Tryz.f47) [.sc (.string a0)] [.r,.r,.r,.l,.r,.l] nn ⟨lk [(3,(.view 3 1 0 y0)),(11,(.view 3 1 0 y1)),(12,(.sc (.int .i64 y2))),(13,(.sc (.int .i64 y3)))],Iw [(3,(.ar false y4))]⟩
theorem Nq (fu:Nat)(call:Am)(a0:ByteArray)(nn y0 y1:Nat)(y2 y3:Int)(y4:List PV):Hq fu call a0 (nn+1) y0 y1 y2 y3 y4=(Ba (decide (y3<y2)) (A2 (decide (0<=y3)&&decide (y3<(↑y1:Int)))<|Ar (List.getD y4 (0+Int.toNat y3*1) .top) fun x7=>Ah (call 71 [.sc (.string x7)]) fun x8 x9=>Ad x9<|Aa x8 fun E4 Is=>Aq E4 fun Iu=>Ad Is<|Ba (!Iu) (some (Ap.mk [.sc (.int .i64 2)] [])) (Ac (wrap .i64 (y3+1)) fun Ey=>Hq fu call a0 (nn) (y0) (y1) (y2) Ey (y4))) (Ac (wrap .i64 ((↑y0:Int)-1)) fun Gt=>A2 (decide (0<=Gt)&&decide (Gt<(↑y0:Int)))<|Ar (List.getD y4 (0+Int.toNat Gt*1) .top) fun Ja=>Ah (call 72 [.sc (.string Ja),.sc (.string (ByteArray.mk #[48,49,50,51,52,53,54,55,56,57]))]) fun Gs Hk=>Ad Hk<|Aa Gs fun I6 H9=>Ar I6 fun I9=>Ad H9<|Ba (Array.toList (ByteArray.data I9)==Array.toList (ByteArray.data (ByteArray.mk #[]))) (some (Ap.mk [.sc (.int .i64 2)] [])) (some (Ap.mk [.sc (.int .i64 0)] [])))):=by kernel_rfl
theorem DT {p:Option (List PV->Option Ap)} (fu d:Nat)(a0:ByteArray):Ae (CP p) prog fu (d+1) Rs [.sc (.string a0)]=(fun (call:Am)=>Ba (decide ((↑(ByteArray.size a0):Int)>100)) (some (Ap.mk [.sc (.int .i64 8)] [])) (Ah (call 70 [.sc (.string a0),.sc (.string (ByteArray.mk #[46]))]) fun x1 x2=>Ad x2<|Aa x1 fun x3 x4=>IU 1 x3 fun x5 x6=>Ad x4<|Hq fu call a0 (fu) x5 x5 ((↑x5:Int)) 0 x6)) (Ae (CP p) prog fu d):=by kernel_rfl
abbrev La:FuncId:=48
theorem Tl {p:Option (List PV->Option Ap)} (fu d:Nat)(a0:Bool):Ae (CP p) prog fu (d+1) La [.sc (.bool a0)]=(fun (call:Am)=>Ba (a0) (some (Ap.mk [.sc (.int .i64 443)] [])) (some (Ap.mk [.sc (.int .i64 80)] []))) (Ae (CP p) prog fu d):=by kernel_rfl
abbrev Nm:FuncId:=49
noncomputable def Fv (fu:Nat)(call:Am)(a0:ByteArray)(nn:Nat)(y0:ByteArray)(y1 y2 y3:Int):Option Ap:=Fh CB prog fu call 49 Tryz.f49 (D2 Tryz.f49) [.sc (.string a0)] [.r,.r,.r,.l,.r,.l] nn ⟨lk [(0,(.sc (.string y0))),(4,(.sc (.int .i64 y1))),(21,(.sc (.int .i64 y2))),(22,(.sc (.int .i64 y3)))],Iw []⟩
theorem Jv (fu:Nat)(call:Am)(a0:ByteArray)(nn:Nat)(y0:ByteArray)(y1 y2 y3:Int):Fv fu call a0 (nn+1) y0 y1 y2 y3=(Ba (decide (y3<y2)) (A2 (decide (0<=y3))<|C5 ((Array.toList (ByteArray.data y0))[Int.toNat y3]?) fun x2=>Ba (decide ((↑(UInt8.toNat x2):Int)<48)) (some (Ap.mk [.sc (.int .i64 0),.sc (.bool false)] [])) (Ba (decide ((↑(UInt8.toNat x2):Int)>57)) (some (Ap.mk [.sc (.int .i64 0),.sc (.bool false)] [])) (Ac (wrap .i64 (10*y1)) fun x3=>Ac (wrap .u8 ((↑(UInt8.toNat x2):Int)-48)) fun x4=>Ac (wrap .i64 x4) fun x5=>Ac (wrap .i64 (x3+x5)) fun x6=>Ac (wrap .i64 (y3+1)) fun x7=>Fv fu call a0 (nn) (y0) x6 (y2) x7))) (some (Ap.mk [.sc (.int .i64 y1),.sc (.bool (decide (y1<=65535)))] []))):=by kernel_rfl
theorem V6 {p:Option (List PV->Option Ap)} (fu d:Nat)(a0:ByteArray):Ae (CP p) prog fu (d+1) Nm [.sc (.string a0)]=(fun (call:Am)=>Ba (decide ((↑(ByteArray.size a0):Int)<1)) (some (Ap.mk [.sc (.int .i64 0),.sc (.bool false)] [])) (Ba (decide ((↑(ByteArray.size a0):Int)>5)) (some (Ap.mk [.sc (.int .i64 0),.sc (.bool false)] [])) (C5 ((Array.toList (ByteArray.data a0))[0]?) fun x1=>Ba ((↑(UInt8.toNat x1):Int)==48) (some (Ap.mk [.sc (.int .i64 0),.sc (.bool false)] [])) (Fv fu call a0 (fu) (a0) 0 ((↑(ByteArray.size a0):Int)) 0)))) (Ae (CP p) prog fu d):=by kernel_rfl
abbrev Sz:FuncId:=30
theorem IP {p:Option (List PV->Option Ap)} (fu d:Nat)(a0:ByteArray):Ae (CP p) prog fu (d+1) Sz [.sc (.string a0)]=(fun (call:Am)=>Ah (call 45 [.sc (.string a0),.sc (.string (ByteArray.mk #[104,116,116,112,115,58,47,47]))]) fun x1 x2=>Ad x2<|Aa x1 fun x3 x4=>Ar x3 fun x5=>Aa x4 fun x6 x7=>Aq x6 fun x8=>Ad x7<|Ba (!x8) (Ah (call 45 [.sc (.string a0),.sc (.string (ByteArray.mk #[104,116,116,112,58,47,47]))]) fun x9 E4=>Ad E4<|Aa x9 fun Is Iu=>Ar Is fun Ey=>Aa Iu fun Gt Ja=>Aq Gt fun Gs=>Ad Ja<|Ba (!Gs) (some (Ap.mk [.agg [.sc (.bool false),.sc (.string (ByteArray.mk #[])),.sc (.int .i64 0)],.sc (.int .i64 2)] [])) (Ah (call 46 [.sc (.string Ey),.sc (.string (ByteArray.mk #[58]))]) fun Hk I6=>Ad I6<|Aa Hk fun H9 I9=>Ar H9 fun I5=>Aa I9 fun Jr I4=>Ar Jr fun Hw=>Aa I4 fun Iz Kr=>Aq Iz fun L1=>Ad Kr<|Ah (call 47 [.sc (.string I5)]) fun Ms L6=>Ad L6<|Aa Ms fun N4 N1=>Aj .i64 N4 fun Pf=>Ad N1<|Ba (Pf != 0) (some (Ap.mk [.agg [.sc (.bool false),.sc (.string (ByteArray.mk #[])),.sc (.int .i64 0)],.sc (.int .i64 Pf)] [])) (Ah (call 48 [.sc (.bool x8)]) fun N6 O4=>Ad O4<|Aa N6 fun Pq Pm=>Aj .i64 Pq fun Q2=>Ad Pm<|Ba L1 (Ah (call 49 [.sc (.string Hw)]) fun Qs Pi=>Ad Pi<|Aa Qs fun Vw Xj=>Aj .i64 Vw fun Pb=>Aa Xj fun Pp V7=>Aq Pp fun Vn=>Ad V7<|Ba (!Vn) (some (Ap.mk [.agg [.sc (.bool false),.sc (.string (ByteArray.mk #[])),.sc (.int .i64 0)],.sc (.int .i64 2)] [])) (Ba (Pb==Q2) (some (Ap.mk [.agg [.sc (.bool false),.sc (.string (ByteArray.mk #[])),.sc (.int .i64 0)],.sc (.int .i64 2)] [])) (some (Ap.mk [.agg [.sc (.bool x8),.sc (.string I5),.sc (.int .i64 Pb)],.sc (.int .i64 0)] [])))) (some (Ap.mk [.agg [.sc (.bool x8),.sc (.string I5),.sc (.int .i64 Q2)],.sc (.int .i64 0)] []))))) (Ah (call 46 [.sc (.string x5),.sc (.string (ByteArray.mk #[58]))]) fun Xv Yb=>Ad Yb<|Aa Xv fun X9 Vp=>Ar X9 fun Wb=>Aa Vp fun Xh Oa=>Ar Xh fun R8=>Aa Oa fun Xk DJ=>Aq Xk fun BW=>Ad DJ<|Ah (call 47 [.sc (.string Wb)]) fun Z9 Z5=>Ad Z5<|Aa Z9 fun EJ FH=>Aj .i64 EJ fun EZ=>Ad FH<|Ba (EZ != 0) (some (Ap.mk [.agg [.sc (.bool false),.sc (.string (ByteArray.mk #[])),.sc (.int .i64 0)],.sc (.int .i64 EZ)] [])) (Ah (call 48 [.sc (.bool x8)]) fun MC RX=>Ad RX<|Aa MC fun ND JK=>Aj .i64 ND fun PQ=>Ad JK<|Ba BW (Ah (call 49 [.sc (.string R8)]) fun KP NQ=>Ad NQ<|Aa KP fun QW QA=>Aj .i64 QW fun LQ=>Aa QA fun JF FM=>Aq JF fun KK=>Ad FM<|Ba (!KK) (some (Ap.mk [.agg [.sc (.bool false),.sc (.string (ByteArray.mk #[])),.sc (.int .i64 0)],.sc (.int .i64 2)] [])) (Ba (LQ==PQ) (some (Ap.mk [.agg [.sc (.bool false),.sc (.string (ByteArray.mk #[])),.sc (.int .i64 0)],.sc (.int .i64 2)] [])) (some (Ap.mk [.agg [.sc (.bool x8),.sc (.string Wb),.sc (.int .i64 LQ)],.sc (.int .i64 0)] [])))) (some (Ap.mk [.agg [.sc (.bool x8),.sc (.string Wb),.sc (.int .i64 PQ)],.sc (.int .i64 0)] []))))) (Ae (CP p) prog fu d):=by kernel_rfl
abbrev Iq:FuncId:=44
noncomputable def Ci (fu:Nat)(call:Am)(a0:ByteArray)(nn:Nat)(y0:ByteArray)(y1:Nat)(y2:List PV):Option Ap:=Fh CB prog fu call 44 Tryz.f44 (D2 Tryz.f44) [.sc (.string a0)] [.r,.r,.r,.l,.l] nn ⟨lk [(0,(.sc (.string y0))),(4,(.view 4 1 0 y1))],Iw [(4,(.ar false y2))]⟩
noncomputable def Ch (fu:Nat)(call:Am)(a0:ByteArray)(m0 nn:Nat)(y0:ByteArray)(y1:Nat)(y2 y3:Int)(y4 y5:Int)(y6:List PV):Option Ap:=Fh CB prog fu call 44 Tryz.f44 (D2 Tryz.f44) [.sc (.string a0)] [.r,.r,.r,.l,.l,.i m0,.r,.l,.r,.r,.l,.r,.l] nn ⟨lk [(0,(.sc (.string y0))),(4,(.view 4 1 0 y1)),(5,(.sc (.int .i64 y2))),(6,(.sc (.int .u32 y3))),(28,(.sc (.int .i64 y4))),(29,(.sc (.int .i64 y5)))],Iw [(4,(.ar false y6))]⟩
noncomputable def Cg (fu:Nat)(call:Am)(a0:ByteArray)(m0 nn:Nat)(y0:ByteArray)(y1:Nat)(y2:Int)(y3 y4:Nat)(y5 y6:Int)(y7 y8:List PV):Option Ap:=Fh CB prog fu call 44 Tryz.f44 (D2 Tryz.f44) [.sc (.string a0)] [.r,.r,.r,.l,.l,.i m0,.r,.l,.r,.r,.r,.r,.l,.r,.l] nn ⟨lk [(0,(.sc (.string y0))),(4,(.view 4 1 0 y1)),(5,(.sc (.int .i64 y2))),(9,(.ptr 9 0)),(58,(.view 9 1 y3 y4)),(59,(.sc (.int .i64 y5))),(60,(.sc (.int .i64 y6)))],Iw [(4,(.ar false y7)),(9,(.ar false y8))]⟩
theorem G4 (fu:Nat)(call:Am)(a0:ByteArray)(nn:Nat)(y0:ByteArray)(y1:Nat)(y2:List PV):Ci fu call a0 (nn+1) y0 y1 y2=(Ba (decide ((↑(ByteArray.size y0):Int)>0)) (Ac (if (↑(ByteArray.size y0):Int)<4 then (↑(ByteArray.size y0):Int) else 4) fun x5=>Ch fu call a0 nn (fu) (y0) (y1) x5 0 x5 0 (y2)) (A2 (decide (y1*1<=y2.length))<|some (Ap.mk [.own 1 y1 (List.take (y1*1) y2),.sc (.int .i64 0)] []))):=by kernel_rfl
theorem Hd (fu:Nat)(call:Am)(a0:ByteArray)(m0 nn:Nat)(y0:ByteArray)(y1:Nat)(y2 y3:Int)(y4 y5:Int)(y6:List PV):Ch fu call a0 m0 (nn+1) y0 y1 y2 y3 y4 y5 y6=(Ba (decide (y5<y4)) (A2 (decide (0<=y5))<|C5 ((Array.toList (ByteArray.data y0))[Int.toNat y5]?) fun x6=>Ah (call 64 [.sc (.string (ByteArray.mk #[65,66,67,68,69,70,71,72,73,74,75,76,77,78,79,80,81,82,83,84,85,86,87,88,89,90,97,98,99,100,101,102,103,104,105,106,107,108,109,110,111,112,113,114,115,116,117,118,119,120,121,122,48,49,50,51,52,53,54,55,56,57,45,95])),.sc (.int .u8 (↑(UInt8.toNat x6):Int))]) fun x7 x8=>Ad x8<|Aa x7 fun x9 E4=>Aj .i64 x9 fun Is=>Ad E4<|Ba (decide (Is<0)) (some (Ap.mk [.own 1 0 [],.sc (.int .i64 2)] [])) (Ac (wrap .u32 Is) fun Iu=>Ac (wrap .i64 (6*y5)) fun Ey=>Ac (wrap .i64 (18-Ey)) fun Gt=>A2 (decide (0<=Gt))<|Ac (Ka .u32 Iu Gt) fun Ja=>Ac (QM .u32 y3 Ja) fun Gs=>Ac (wrap .i64 (y5+1)) fun Hk=>Ch fu call a0 m0 (nn) (y0) (y1) (y2) Gs (y4) Hk (y6))) (Ac (Ut .u32 y3 16) fun I6=>Ac (wrap .u8 I6) fun H9=>Ac (Ut .u32 y3 8) fun I9=>Ac (wrap .u8 I9) fun I5=>Ac (wrap .u8 y3) fun Jr=>Ac (wrap .i64 (y2-1)) fun I4=>A2 (decide (0<=I4))<|A2 (decide (Int.toNat I4<=3)&&true)<|Ac (0+Int.toNat I4*1) fun Hw=>Ac (3-Int.toNat I4) fun Iz=>Cg fu call a0 m0 (fu) (y0) (y1) (y2) Hw Iz ((↑Iz:Int)) 0 (y6) ([.sc (.int .u8 H9),.sc (.int .u8 I5),.sc (.int .u8 Jr)]))):=by kernel_rfl
theorem G3 (fu:Nat)(call:Am)(a0:ByteArray)(m0 nn:Nat)(y0:ByteArray)(y1:Nat)(y2:Int)(y3 y4:Nat)(y5 y6:Int)(y7 y8:List PV):Cg fu call a0 m0 (nn+1) y0 y1 y2 y3 y4 y5 y6 y7 y8=(Ba (decide (y6<y5)) (A2 (decide (0<=y6)&&decide (y6<(↑y4:Int)))<|Aj .u8 (List.getD y8 (y3+Int.toNat y6*1) .top) fun Kr=>Ba (Kr != 0) (some (Ap.mk [.own 1 0 [],.sc (.int .i64 2)] [])) (Ac (wrap .i64 (y6+1)) fun L1=>Cg fu call a0 m0 (nn) (y0) (y1) (y2) (y3) (y4) (y5) L1 (y7) (y8))) (Ac (wrap .i64 (y2-1)) fun Ms=>A2 (decide (3<=y8.length)&&true)<|A2 (decide (0<=Ms))<|A2 (decide (Int.toNat Ms<=3))<|Ac (Int.toNat Ms-0) fun L6=>A2 (decide (0+L6*1<=y8.length))<|A2 (decide (y1*1<=y7.length)&&decide (List.length (List.take (L6*1) (List.drop 0 y8))=L6*1)&&decide ((y1+L6)*1<=1099511627776)&&decide (y1+L6<=1099511627776))<|Ac (y1+L6) fun N4=>Ac (List.take (y1*1) y7++List.take (L6*1) (List.drop 0 y8)) fun N1=>A2 (decide (0<=y2))<|A2 (decide (Int.toNat y2<=ByteArray.size y0)&&decide (ByteArray.size y0<=ByteArray.size y0))<|Ac (ByteArray.extract y0 y2.toNat (ByteArray.size y0)) fun Pf=>Ci fu call a0 (m0) Pf N4 N1)):=by kernel_rfl
theorem Qb {p:Option (List PV->Option Ap)} (fu d:Nat)(a0:ByteArray):Ae (CP p) prog fu (d+1) Iq [.sc (.string a0)]=(fun (call:Am)=>Ac (Int.tmod (↑(ByteArray.size a0):Int) 4) fun x1=>Ba (x1==1) (some (Ap.mk [.own 1 0 [],.sc (.int .i64 2)] [])) (Ac (wrap .i64 (Int.tdiv (↑(ByteArray.size a0):Int) 4)) fun x2=>Ac (wrap .i64 (x2*3)) fun x3=>Ac (wrap .i64 (x3+2)) fun x4=>A2 (decide (0<=x4)&&decide (x4*1<=1099511627776)&&decide (x4<=1099511627776))<|Ci fu call a0 (fu) (a0) 0 ([]))) (Ae (CP p) prog fu d):=by kernel_rfl
end
section
open Go.Proofs.Tryz (prog)
open Go.IntKind (wrap)
set_option maxRecDepth 100000
theorem Air {a b:Int}(ha:0<=a∧a<=255)(hb:0<=b∧b<=255):(a.toNat.toUInt8==b.toNat.toUInt8)=decide (a=b):=by
 rw[Bool.eq_iff_iff,beq_iff_eq,decide_eq_true_iff];constructor
 ·intro h;have:=congrArg UInt8.toNat h;have e1:a.toNat.toUInt8.toNat=a.toNat % 256:=by rw[Nat.toUInt8,UInt8.toNat_ofNat']
  have e2:b.toNat.toUInt8.toNat=b.toNat % 256:=by rw[Nat.toUInt8,UInt8.toNat_ofNat']
  rw[e1,e2] at this;omega
 ·rintro rfl;rfl
theorem Jh {c:Int}(hc:0<=c∧c<=255):((c.toNat.toUInt8.toNat:Nat):Int)=c:=by
 rw[Nat.toUInt8,UInt8.toNat_ofNat'];omega
theorem SN {c x:Int}(r:List Int)(e:x≠c):Bi c (x::r)=x::Bi c r:=by unfold Bi;rw[List.takeWhile_cons_of_pos (by simp[e])]
theorem OH {c:Int}(r:List Int):Bi c (c::r)=[]:=by unfold Bi;rw[List.takeWhile_cons_of_neg (by simp)]
theorem Nw (c:Int)(l:List Int):Bi c l=l.take (Bi c l).length:=by
 have h:Bi c l <+: l:=List.takeWhile_prefix _;exact List.prefix_iff_eq_take.1 h
theorem EQ (c:Int)(l:List Int):(Bi c l).length<=l.length:=by
 have h:Bi c l <+: l:=List.takeWhile_prefix _;exact h.length_le
theorem Ack (c:Int)(l:List Int)(h:¬(Bi c l).length<l.length):Bi c l=l:=by
 have:=EQ c l;rw[Nw c l,QT (by omega)]
def AK (c:Int)(l:List Int):Int:=if (Bi c l).length<l.length then ((Bi c l).length:Int) else -1
theorem Ac0 {c:Int}(hc:0<=c∧c<=255):∀{l:List Int},Cx l->Lib.indexByte (l.map fun n=>n.toNat.toUInt8) c.toNat.toUInt8=AK c l
 |[],_=>rfl
 |x::r,h=>by
  obtain⟨hx,hr⟩:=Bq h;have ih:=Ac0 hc hr;show (if (x.toNat.toUInt8==c.toNat.toUInt8)=true then (0:Int) else if (Lib.indexByte (r.map fun n=>n.toNat.toUInt8) c.toNat.toUInt8 == -1)=true then -1 else Lib.indexByte (r.map fun n=>n.toNat.toUInt8) c.toNat.toUInt8+1)=_
  rw[Air hx hc,ih];by_cases e:x=c
  ·subst e;unfold AK;rw[OH];simp
  ·unfold AK;rw[SN r e];simp only[decide_eq_true_eq,e,if_false,Uk];by_cases g:(Bi c r).length<r.length
   ·simp only[Dy g,Dy (show (Bi c r).length+1<r.length+1 by omega)]
    rw[Ct (show ¬(((((Bi c r).length:Int)) == -1)=true) by rw[beq_iff_eq];omega)]
    omega
   ·simp only[Ct g,Ct (show ¬(Bi c r).length+1<r.length+1 by omega)]
    rfl
theorem KX {c:Int}(hc:0<=c∧c<=255):∀{l:List Int},Cx l->(l.map fun n=>n.toNat.toUInt8).count c.toNat.toUInt8+1=(A1 c l).length
 |[],_=>rfl
 |x::r,h=>by
  obtain⟨hx,hr⟩:=Bq h;have ih:=KX hc hr;rw[Zzw,List.count_cons,Air hx hc];unfold A1;by_cases e:x=c
  ·rw[Dy e,Dy (by simp[e]),Uk,←ih]
  ·rw[Ct e,Ct (by simp[e])]
   cases hs:A1 c r with
   |nil=>exact absurd hs (Mw c r)
   |cons a t=>
    rw[hs] at ih
    simpa using ih
theorem T8 (c:Int):∀(l:List Int),(A1 c l).length<=l.length+1
 |[]=>Nat.le_refl _
 |x::r=>by
  have ih:=T8 c r;unfold A1;split
  ·simp;omega
  ·cases hs:A1 c r with
   |nil=>simp
   |cons a t=>rw[hs] at ih;simp at ih ⊢;omega
theorem KM (c:Int)(l:List Int):1<=(A1 c l).length:=by
 have:=Mw c l;cases hs:A1 c l with
 |nil=>exact absurd hs this
 |cons a t=>simp
theorem Abz {a:List PV}{n:Nat}{x y:PV}{r:List PV}(h:a.length=n):(a++x::r).set n y=a++y::r:=by
 subst h
 induction a with
 |nil=>rfl
 |cons z a ih=>simp[ih]
theorem dle (n:Nat):decide (n<=n)=true:=by simp
section
variable {fu d:Nat} {p:Option (List PV->Option Ap)}
theorem Abs {c:Int}(hc:0<=c∧c<=255){l:List Int}(hl:Cx l):Ae (CP p) prog fu (d+2) L8 [.sc (.string (Ab l)),.sc (.string (Ab [c]))]=some ⟨[.sc (.int .i64 (AK c l))],[]⟩:=by
 have e:Ae (CP p) prog fu (d+1) 79 [.sc (.string (Ab l)),.sc (.int .u8 c)]=some ⟨[.sc (.int .i64 (Lib.indexByte (Ab l).data.toList c.toNat.toUInt8))],[]⟩:=rfl;have e0:(Ab l).data.toList=l.map fun n=>n.toNat.toUInt8:=rfl
 rw[e0,Ac0 hc hl] at e;have h0:((((Ab [c]).size:Nat):Int)==0)=false:=by rw[Af];rfl
 have h1:((((Ab [c]).size:Nat):Int)==1)=true:=by rw[Af];rfl
 have h2:(Array.toList (Ab [c]).data)[0]?=some c.toNat.toUInt8:=rfl;have h3:=Jh hc;rw[U8];by_cases g:[c]=l
 ·subst g;have h4:(Array.toList (Ab [c]).data==Array.toList (Ab [c]).data)=true:=by simp
  have h5:AK c [c]=0:=by unfold AK;rw[OH];rfl
  simp only[B4,h0,h4,h5]
 ·have h4:(Array.toList (Ab [c]).data==Array.toList (Ab l).data)=false:=by
   rw[Bool.eq_false_iff,ne_eq,beq_iff_eq];intro q;apply g
   have q2:Ab [c]=Ab l:=by
    cases hx:Ab [c];cases hy:Ab l;rw[hx,hy] at q;exact congrArg ByteArray.mk (Array.toList_inj.1 q)
   have q3:=congrArg Fn q2
   rwa [Cd hl,Cd (fun x hx=>by simp at hx;omega)] at q3
  simp only[B4,h0,h4,h1,h2,h3,e]
theorem Ahg {c:Int}(hc:0<=c∧c<=255){l:List Int}(hl:Cx l):Ae (CP p) prog fu (d+3) Rt [.sc (.string (Ab l)),.sc (.string (Ab [c]))]=some ⟨[.sc (.int .i64 (AK c l))],[]⟩:=by
 have e:Ae (CP p) prog fu (d+2) 87 [.sc (.string (Ab l)),.sc (.string (Ab [c]))]=_:=Abs (fu:=fu) (d:=d) (p:=p) hc hl;rw[DO];simp only[B4,e]
theorem P6 {l:List Int}(hl:Cx l)(n:Nat):(Ab l).extract 0 n=Ab (l.take n):=by rw[Y9,Cd hl]
theorem Rc {l:List Int}(hl:Cx l)(n:Nat):(Ab l).extract n l.length=Ab (l.drop n):=by
 have:=CR (s:=Ab l) (a:=n)
 rwa [Af,Cd hl] at this
theorem A38 {c:Int}(hc:0<=c∧c<=255){l:List Int}(hl:Cx l)(hs:l.length<=1000000):Ae (CP p) prog fu (d+4) Vt [.sc (.string (Ab l)),.sc (.string (Ab [c]))]=some ⟨[.sc (.string (Ab (Bi c l))),.sc (.string (Ab (l.drop ((Bi c l).length+1)))),.sc (.bool (decide ((Bi c l).length<l.length)))],[]⟩:=by
 have e:Ae (CP p) prog fu (d+2) 87 [.sc (.string (Ab l)),.sc (.string (Ab [c]))]=_:=Abs (fu:=fu) (d:=d) (p:=p) hc hl
 have e2:Ae (CP p) prog fu (d+3) 69 [.sc (.string (Ab l)),.sc (.string (Ab [c]))]=some ⟨[.sc (.string (Ab (Bi c l))),.sc (.string (Ab (l.drop ((Bi c l).length+1)))),.sc (.bool (decide ((Bi c l).length<l.length)))],[]⟩:=by
  refine (Zb (p:=p) fu (d+2) _ _).trans ?_;by_cases g:(Bi c l).length<l.length
  ·have hi:AK c l=(Bi c l).length:=by unfold AK;rw[Dy g]
   rw[hi] at e;have a1:decide (((Bi c l).length:Int)>=0)=true:=by simp
   have a2:decide ((0:Int)<=((Bi c l).length:Int))=true:=by simp
   have a3:decide (Int.toNat ((Bi c l).length:Int)<=l.length)=true:=by simp;omega
   have a4:(Ab l).extract 0 (Int.toNat ((Bi c l).length:Int))=Ab (Bi c l):=by
    rw[Kj,P6 hl,←Nw]
   have a5:wrap .i64 (((Bi c l).length:Int)+(([c].length:Nat):Int))=(((Bi c l).length+1:Nat):Int):=by
    rw[Au (by simp;omega) (by simp;omega)];simp
   have a6:decide ((0:Int)<=(((Bi c l).length+1:Nat):Int))=true:=by simp;omega
   have a7:decide (Int.toNat (((Bi c l).length+1:Nat):Int)<=l.length)=true:=by simp;omega
   have a8:(Ab l).extract (Int.toNat (((Bi c l).length+1:Nat):Int)) l.length=Ab (l.drop ((Bi c l).length+1)):=by
    rw[Kj,Rc hl]
   have a9:decide ((Bi c l).length<l.length)=true:=by simpa using g
   simp only[B4,e,Af,dle,a1,a2,a3,a4,a5,a6,a7,a8,a9]
  ·have hi:AK c l = -1:=by unfold AK;rw[Ct g]
   rw[hi] at e;have a1:decide ((-1:Int)>=0)=false:=rfl;have a9:decide ((Bi c l).length<l.length)=false:=by simpa using g
   have a10:l.drop ((Bi c l).length+1)=[]:=List.drop_eq_nil_of_le (by omega)
   have a11:(ByteArray.mk #[])=Ab []:=rfl;rw[a9,a10,Ack c l g];simp only[B4,e,a1,a11]
 rw[JB];simp only[B4,e2]
theorem Arm {l w:List Int}(hl:Cx l)(hw:Cx w):Ae (CP p) prog fu (d+4) L5 [.sc (.string (Ab l)),.sc (.string (Ab w))]=some ⟨[.sc (.string (Ab (if w.isPrefixOf l=true then l.drop w.length else l))),.sc (.bool (w.isPrefixOf l))],[]⟩:=by
 have e:Ae (CP p) prog fu (d+2) 86 [.sc (.string (Ab l)),.sc (.string (Ab w))]=some ⟨[.sc (.bool (w.isPrefixOf l))],[]⟩:=Ar2 (xs:=SM p) (fu:=fu) (d:=d+1) hl hw
 have e2:Ae (CP p) prog fu (d+3) 68 [.sc (.string (Ab l)),.sc (.string (Ab w))]=some ⟨[.sc (.string (Ab (if w.isPrefixOf l=true then l.drop w.length else l))),.sc (.bool (w.isPrefixOf l))],[]⟩:=by
  refine (Qj (p:=p) fu (d+2) _ _).trans ?_;cases hp:w.isPrefixOf l
  ·rw[hp] at e;simp only[B4,e,D6,Bool.false_eq_true,if_false]
  ·rw[hp] at e;have CJ:w.length<=l.length:=(List.isPrefixOf_iff_prefix.1 hp).length_le;have a1:decide (Int.toNat ((w.length:Nat):Int)<=l.length)=true:=by simp;omega
   have a2:(Ab l).extract (Int.toNat ((w.length:Nat):Int)) l.length=Ab (l.drop w.length):=by rw[Kj,Rc hl]
   simp only[B4,e,Af,dle,a1,a2,Dk,if_true]
 rw[U5];simp only[B4,e2]
def Rw (x:List Int):PV:=.sc (.string (Ab x))
theorem XM {c:Int}(hc:0<=c∧c<=255){a0 a1:ByteArray}{a2 a3:Int}{N:Nat}(hN:N<=1000000):∀(nn:Nat)(r:List Int)(done:List (List Int)),r.length+1<=nn->r.length<=1000000->Cx r->done.length+(A1 c r).length=N ->
  Ew fu (Ae (CP p) prog fu (d+3)) a0 a1 a2 a3 nn (Ab r) (Ab [c]) 0 ((N:Int)-1) N (done.length:Int) (done.map Rw++List.replicate (A1 c r).length (.sc (.string ⟨#[]⟩)))=some ⟨[.own 1 N ((done++A1 c r).map Rw)],[]⟩:=by
 intro nn
 induction nn with
 |zero=>intro r done h;omega
 |succ k ih=>
  intro r done hk hr6 hr hn;have e:Ae (CP p) prog fu (d+3) 109 [.sc (.string (Ab r)),.sc (.string (Ab [c]))]=_:=Ahg (fu:=fu) (d:=d) (p:=p) hc hr;rw[R9];have F8:=BM c r;by_cases g:(Bi c r).length<r.length
  ·rw[Dy g] at F8;have hi:AK c r=(Bi c r).length:=by unfold AK;rw[Dy g]
   rw[hi] at e;have hp:=KM c (r.drop ((Bi c r).length+1));have Ru:(A1 c r).length=(A1 c (r.drop ((Bi c r).length+1))).length+1:=by rw[F8];simp
   have a0:decide ((done.length:Int)<(N:Int)-1)=true:=by simp;omega
   have a1:decide (((Bi c r).length:Int)<0)=false:=by simp
   have a2:wrap .i64 (((Bi c r).length:Int)+0)=((Bi c r).length:Int):=by rw[Au (by omega) (by omega)];omega
   have a3:decide ((0:Int)<=((Bi c r).length:Int))=true:=by simp
   have a4:decide (Int.toNat ((Bi c r).length:Int)<=r.length)=true:=by simp;omega
   have a5:(Ab r).extract 0 (Int.toNat ((Bi c r).length:Int))=Ab (Bi c r):=by rw[Kj,P6 hr,←Nw]
   have a6:(decide ((0:Int)<=(done.length:Int))&&decide ((done.length:Int)<(N:Int)))=true:=by simp;omega
   have a7:decide (0+Int.toNat (done.length:Int)*1+1<=List.length (done.map Rw++List.replicate (A1 c r).length (PV.sc (.string ⟨#[]⟩))))=true:=by simp;omega
   have a8:Ca (done.map Rw++List.replicate (A1 c r).length (PV.sc (.string ⟨#[]⟩))) [PV.sc (.string (Ab (Bi c r)))] (0+Int.toNat (done.length:Int)*1)=(done++[Bi c r]).map Rw++List.replicate (A1 c (r.drop ((Bi c r).length+1))).length (PV.sc (.string ⟨#[]⟩)):=by
    rw[HC (by simp;omega),Ru,List.replicate_succ,Kj,WS,EB,Abz (by simp)]
    simp[Rw]
   have a9:wrap .i64 (((Bi c r).length:Int)+(([c].length:Nat):Int))=(((Bi c r).length+1:Nat):Int):=by
    rw[Au (by simp;omega) (by simp;omega)];simp
   have b1:decide ((0:Int)<=(((Bi c r).length+1:Nat):Int))=true:=by simp;omega
   have b2:decide (Int.toNat (((Bi c r).length+1:Nat):Int)<=r.length)=true:=by simp;omega
   have b3:(Ab r).extract (Int.toNat (((Bi c r).length+1:Nat):Int)) r.length=Ab (r.drop ((Bi c r).length+1)):=by rw[Kj,Rc hr]
   have b4:wrap .i64 ((done.length:Int)+1)=(((done++[Bi c r]).length:Nat):Int):=by
    rw[Au (by omega) (by omega)];simp
   have hd:=ih (r.drop ((Bi c r).length+1)) (done++[Bi c r]) (by simp;omega) (by simp;omega) ((fun x hx=>hr x (List.mem_of_mem_drop hx))) (by simp;omega)
   simp only[B4,e,Af,dle,a0,a1,a2,a3,a4,a5,a6,a7,a8,a9,b1,b2,b3,b4];rw[hd,F8];simp
  ·rw[Ct g] at F8;have Ru:(A1 c r).length=1:=by rw[F8];rfl
   have a0:decide ((done.length:Int)<(N:Int)-1)=false:=by simp;omega
   have a6:(decide ((0:Int)<=(done.length:Int))&&decide ((done.length:Int)<(N:Int)))=true:=by simp;omega
   have a7:decide (0+Int.toNat (done.length:Int)*1+1<=List.length (done.map Rw++List.replicate (A1 c r).length (PV.sc (.string ⟨#[]⟩))))=true:=by simp;omega
   have a8:Ca (done.map Rw++List.replicate (A1 c r).length (PV.sc (.string ⟨#[]⟩))) [PV.sc (.string (Ab r))] (0+Int.toNat (done.length:Int)*1)=(done++[r]).map Rw:=by
    rw[HC (by simp;omega),Ru,show List.replicate 1 (PV.sc (Value.string ⟨#[]⟩))=[PV.sc (.string ⟨#[]⟩)] from rfl,Kj,WS,EB,Abz (by simp)]
    simp[Rw]
   have b4:wrap .i64 ((done.length:Int)+1)=(N:Int):=by
    rw[Au (by omega) (by omega)];omega
   have b5:decide ((0:Int)<=(N:Int))=true:=by simp
   have b6:decide (Int.toNat (N:Int)<=N)=true:=by simp
   have b7:Int.toNat (N:Int)-0=N:=by simp
   have b8:decide (N*1<=List.length ((done++[r]).map Rw))=true:=by simp;omega
   have b9:List.take (N*1) ((done++[r]).map Rw)=(done++[r]).map Rw:=QT (by simp;omega)
   simp only[B4,a0,a6,a7,a8,b4,b5,b6,b7,b8,b9];rw[F8]
theorem Ap3 {c:Int}(hc:0<=c∧c<=255){l:List Int}(hl:Cx l)(hs:l.length<=999999)(Eu:l.length+1<=fu):Ae (CP p) prog fu (d+5) Rq [.sc (.string (Ab l)),.sc (.string (Ab [c]))]=some ⟨[.own 1 (A1 c l).length ((A1 c l).map Rw)],[]⟩:=by
 have e:Ae (CP p) prog fu (d+4) 88 [.sc (.string (Ab l)),.sc (.string (Ab [c])),.sc (.int .i64 0),.sc (.int .i64 (-1))]=some ⟨[.own 1 (A1 c l).length ((A1 c l).map Rw)],[]⟩:=by
  refine (Wh (p:=p) fu (d+3) _ _ _ _).trans ?_;have hn:=T8 c l;have hp:=KM c l;have hcn:=KX hc hl
  have e1:Ae (CP p) prog fu (d+3) 108 [.sc (.string (Ab l)),.sc (.string (Ab [c]))]=some ⟨[.sc (.int .i64 (((A1 c l).length:Int)-1))],[]⟩:=by
   have:Ae (CP p) prog fu (d+3) 108 [.sc (.string (Ab l)),.sc (.string (Ab [c]))]=some ⟨[.sc (.int .i64 (Lib.countByte (Ab l).data.toList c.toNat.toUInt8))],[]⟩:=rfl;rw[this]
   have e0:(Lib.countByte (Ab l).data.toList c.toNat.toUInt8:Int)=((A1 c l).length:Int)-1:=by
    have:Lib.countByte (Ab l).data.toList c.toNat.toUInt8+1=(A1 c l).length:=hcn;omega
   rw[e0]
  have a1:(((-1:Int))==0)=false:=rfl;have a2:(Array.toList (Ab [c]).data==Array.toList (ByteArray.mk #[]).data)=false:=rfl;have a3:decide ((-1:Int)<0)=true:=rfl;have a4:wrap .i64 (((A1 c l).length:Int)-1+1)=(A1 c l).length:=by rw[Au (by omega) (by omega)];omega
  have a5:wrap .i64 ((l.length:Int)+1)=l.length+1:=by rw[Au (by omega) (by omega)]
  have a6:(if ((l.length:Int)+1)<((A1 c l).length:Int) then ((l.length:Int)+1) else ((A1 c l).length:Int))=(A1 c l).length:=by rw[Ct (by omega)]
  have a7:decide ((0:Int)<=((A1 c l).length:Int))=true:=by simp
  have b7:decide (((A1 c l).length:Int)<=((A1 c l).length:Int))=true:=by simp
  have c7:decide (((A1 c l).length:Int)*16<=1099511627776)=true:=by simp;omega
  have d7:decide (((A1 c l).length:Int)<=1099511627776)=true:=by simp;omega
  have a8:wrap .i64 (((A1 c l).length:Int)-1)=((A1 c l).length:Int)-1:=Au (by omega) (by omega)
  have a9:Rp (A1 c l).length [PV.sc (.string ⟨#[]⟩)]=List.replicate (A1 c l).length (PV.sc (.string ⟨#[]⟩)):=by
   unfold Rp
   induction (A1 c l).length with
   |zero=>rfl
   |succ k ih=>rw[List.replicate_succ,List.flatten_cons,ih];rfl
  have a10:Int.toNat ((A1 c l).length:Int)=(A1 c l).length:=Kj _;have hd:=XM (fu:=fu) (d:=d) (p:=p) hc (a0:=Ab l) (a1:=Ab [c]) (a2:=0) (a3:= -1) (N:=(A1 c l).length) (by omega) fu l [] Eu (by omega) hl (by simp)
  simp only[B4,e1,Af,dle,a1,a2,a3,a4,a5,a6,a7,b7,c7,d7,a8,a9,a10];exact hd
 have b1:decide ((A1 c l).length*1<=List.length ((A1 c l).map Rw))=true:=by simp
 have b2:List.take ((A1 c l).length*1) ((A1 c l).map Rw)=(A1 c l).map Rw:=QT (by simp)
 rw[DM];simp only[B4,e,b1,b2]
end
end
section
open Go.Proofs.Tryz (prog)
open Go.IntKind (wrap)
set_option maxRecDepth 100000
theorem OA:∀n:Fin 256,Lib.indexByte Z0.data.toList (n.val:Int).toNat.toUInt8=if Bv (n.val:Int)<64 then Bv (n.val:Int) else -1:=by decide +kernel
theorem Aky {c:Int}(hc:0<=c∧c<=255):Lib.indexByte Z0.data.toList c.toNat.toUInt8=if Bv c<64 then Bv c else -1:=by
 obtain⟨n,rfl⟩:=Int.eq_ofNat_of_zero_le hc.1;exact OA ⟨n,by omega⟩
theorem A5r {y v:Int}(k:Nat)(hk:k<=18)(h0:0<=y)(hm:y % ((2 ^ (k+6):Nat):Int)=0) (hy:y<16777216)(hv0:0<=v)(hv:v<64):QM .u32 y (Ka .u32 (wrap .u32 v) (k:Int))=y+v*((2 ^ k:Nat):Int):=by
 obtain⟨y,rfl⟩:=Int.eq_ofNat_of_zero_le h0;obtain⟨v,rfl⟩:=Int.eq_ofNat_of_zero_le hv0
 have e1:wrap .u32 (v:Int)=v:=by
  simp only[wrap,IntKind.bits,IntKind.signed,OC,Bool.false_eq_true,if_false];omega
 have Bef:2 ^ k<=2 ^ 18:=Nat.pow_le_pow_right (by omega) hk
 have hvk:v*2 ^ k<2 ^ k*64:=by
  rw[Nat.mul_comm];exact Nat.mul_lt_mul_of_pos_left (by omega) (Nat.pos_of_ne_zero (by simp))
 have e2:Ka .u32 (v:Int) (k:Int)=((v*2 ^ k:Nat):Int):=by
  show wrap .u32 ((v:Int)*2 ^ (min (k:Int).toNat IntKind.u32.bits))=_
  have:min (k:Int).toNat IntKind.u32.bits=k:=by
   rw[Kj];exact Nat.min_eq_left (by show k<=32;omega)
  rw[this];have:(v:Int)*2 ^ k=((v*2 ^ k:Nat):Int):=by simp
  rw[this];simp only[wrap,IntKind.bits,IntKind.signed,OC,Bool.false_eq_true,if_false];omega
 rw[e1,e2];have e3:=Azk y (v*2 ^ k) (by omega) (by omega)
 refine e3.trans ?_
 have hd:y=y / 2 ^ (k+6)*2 ^ (k+6):=by
  have:y % 2 ^ (k+6)=0:=by exact_mod_cast hm
  have:=Nat.div_add_mod y (2 ^ (k+6));rw[Nat.mul_comm] at this;omega
 have Cb:v*2 ^ k<2 ^ (k+6):=by rw[Nat.pow_add];exact hvk
 have:=Nat.shiftLeft_add_eq_or_of_lt Cb (y / 2 ^ (k+6));rw[Nat.shiftLeft_eq,←hd] at this;rw[←this];simp
section
variable {fu d:Nat} {p:Option (List PV->Option Ap)}
theorem Auy {c:Int}(hc:0<=c∧c<=255):Ae (CP p) prog fu (d+2) 64 [.sc (.string Z0),.sc (.int .u8 c)]=some ⟨[.sc (.int .i64 (if Bv c<64 then Bv c else -1))],[]⟩:=by
 have e:Ae (CP p) prog fu (d+1) 79 [.sc (.string Z0),.sc (.int .u8 c)]=some ⟨[.sc (.int .i64 (Lib.indexByte Z0.data.toList c.toNat.toUInt8))],[]⟩:=rfl;rw[Aky hc] at e;refine (L7 (p:=p) fu (d+1) _ _).trans ?_;simp only[B4,e]
theorem Mo {a0:ByteArray}{m0 nn:Nat}{l:List Int}{y1:Nat}{y6:List PV}{i n:Nat}{y3 c:Int}(O7:i<n)(hn:n<=4)(hl:Cx l)(hc:l[i]?=some c) (h0:0<=y3)(hm:y3 % ((2 ^ (24-6*i):Nat):Int)=0) (hy:y3<16777216):
  Ch fu (Ae (CP p) prog fu (d+2)) a0 m0 (nn+1) (Ab l) y1 (n:Int) y3 (n:Int) (i:Int) y6=if Bv c<64 then Ch fu (Ae (CP p) prog fu (d+2)) a0 m0 nn (Ab l) y1 (n:Int) (y3+Bv c*((2 ^ (18-6*i):Nat):Int)) (n:Int) ((i+1:Nat):Int) y6 else some ⟨[.own 1 0 [],.sc (.int .i64 2)],[]⟩:=by
 have JA:=hl c (List.mem_of_getElem? hc);have hv:=Pe c;have e:=Auy (fu:=fu) (d:=d) (p:=p) JA;have a1:decide ((i:Int)<(n:Int))=true:=by simp;omega
 have a2:decide ((0:Int)<=(i:Int))=true:=by simp
 have a3:(Array.toList (Ab l).data)[Int.toNat (i:Int)]?=some c.toNat.toUInt8:=by
  rw[Kj];show (l.map fun n=>n.toNat.toUInt8)[i]?=_
  rw[List.getElem?_map,hc];rfl
 have a4:=Jh JA;have ea:(ByteArray.mk #[(65:UInt8),(66:UInt8),(67:UInt8),(68:UInt8),(69:UInt8),(70:UInt8),(71:UInt8),(72:UInt8),(73:UInt8),(74:UInt8),(75:UInt8),(76:UInt8),(77:UInt8),(78:UInt8),(79:UInt8),(80:UInt8),(81:UInt8),(82:UInt8),(83:UInt8),(84:UInt8),(85:UInt8),(86:UInt8),(87:UInt8),(88:UInt8),(89:UInt8),(90:UInt8),(97:UInt8),(98:UInt8),(99:UInt8),(100:UInt8),(101:UInt8),(102:UInt8),(103:UInt8),(104:UInt8),(105:UInt8),(106:UInt8),(107:UInt8),(108:UInt8),(109:UInt8),(110:UInt8),(111:UInt8),(112:UInt8),(113:UInt8),(114:UInt8),(115:UInt8),(116:UInt8),(117:UInt8),(118:UInt8),(119:UInt8),(120:UInt8),(121:UInt8),(122:UInt8),(48:UInt8),(49:UInt8),(50:UInt8),(51:UInt8),(52:UInt8),(53:UInt8),(54:UInt8),(55:UInt8),(56:UInt8),(57:UInt8),(45:UInt8),(95:UInt8)])=Z0:=rfl;rw[Hd,ea];by_cases hv6:Bv c<64
 ·rw[Dy hv6] at e;have b1:decide (Bv c<0)=false:=by simp;omega
  have b2:wrap .i64 (6*(i:Int))=6*(i:Int):=Au (by omega) (by omega)
  have b3:wrap .i64 (18-6*(i:Int))=((18-6*i:Nat):Int):=by rw[Au (by omega) (by omega)];omega
  have b4:decide ((0:Int)<=((18-6*i:Nat):Int))=true:=by simp
  have b5:=A5r (y:=y3) (v:=Bv c) (18-6*i) (by omega) h0 (by rw[show 18-6*i+6=24-6*i by omega];exact hm) hy hv.1 hv6
  have b6:wrap .i64 ((i:Int)+1)=((i+1:Nat):Int):=by rw[Au (by omega) (by omega)];omega
  rw[Dy hv6];simp only[B4,a1,a2,a3,a4,e,b1,b2,b3,b4,b5,b6]
 ·rw[Ct hv6] at e;have b1:decide ((-1:Int)<0)=true:=rfl;rw[Ct hv6];simp only[B4,a1,a2,a3,a4,e,b1]
theorem A3z {y:Int}(h0:0<=y)(hy:y<16777216):wrap .u8 (Ut .u32 y 16)=y / 65536 % 256:=by
 show wrap .u8 (y.fdiv (2 ^ (min (16:Int).toNat IntKind.u32.bits)))=_;have:(2:Int) ^ (min (16:Int).toNat IntKind.u32.bits)=65536:=by decide
 rw[this,Int.fdiv_eq_ediv_of_nonneg _ (by omega)]
 simp only[wrap,IntKind.bits,IntKind.signed,OC,Bool.false_eq_true,if_false];omega
theorem A8q {y:Int}(h0:0<=y)(hy:y<16777216):wrap .u8 (Ut .u32 y 8)=y / 256 % 256:=by
 show wrap .u8 (y.fdiv (2 ^ (min (8:Int).toNat IntKind.u32.bits)))=_;have:(2:Int) ^ (min (8:Int).toNat IntKind.u32.bits)=256:=by decide
 rw[this,Int.fdiv_eq_ediv_of_nonneg _ (by omega)]
 simp only[wrap,IntKind.bits,IntKind.signed,OC,Bool.false_eq_true,if_false];omega
theorem A92 {y:Int}(h0:0<=y)(hy:y<16777216):wrap .u8 y=y % 256:=by
 simp only[wrap,IntKind.bits,IntKind.signed,OC,Bool.false_eq_true,if_false];omega
theorem Aaw {a0:ByteArray}{m0 nn:Nat}{s:ByteArray}{y1:Nat}{y6:List PV}{n:Nat}{y3:Int}(hn:2<=n)(hn4:n<=4)(h0:0<=y3)(hy:y3<16777216):
  Ch fu (Ae (CP p) prog fu (d+2)) a0 m0 (nn+1) s y1 (n:Int) y3 (n:Int) (n:Int) y6=Cg fu (Ae (CP p) prog fu (d+2)) a0 m0 fu s y1 (n:Int) (n-1) (4-n) ((4-n:Nat):Int) 0 y6 [.sc (.int .u8 (y3 / 65536 % 256)),.sc (.int .u8 (y3 / 256 % 256)),.sc (.int .u8 (y3 % 256))]:=by
 have a1:decide ((n:Int)<(n:Int))=false:=by simp
 have e1:=A3z h0 hy;have e2:=A8q h0 hy;have e3:=A92 h0 hy;have b1:wrap .i64 ((n:Int)-1)=((n-1:Nat):Int):=by rw[Au (by omega) (by omega)];omega
 have b2:decide ((0:Int)<=((n-1:Nat):Int))=true:=by simp
 have b3:decide (Int.toNat ((n-1:Nat):Int)<=3)=true:=by simp;omega
 have b4:0+Int.toNat ((n-1:Nat):Int)*1=n-1:=by rw[Kj];omega
 have b5:3-Int.toNat ((n-1:Nat):Int)=4-n:=by rw[Kj];omega
 rw[Hd];simp only[B4,a1,e1,e2,e3,b1,b2,b3,b4,b5]
end
end
section
open Go.Proofs.Tryz (prog)
open Go.IntKind (wrap)
set_option maxRecDepth 100000
section
variable {fu d:Nat} {p:Option (List PV->Option Ap)}
abbrev grp (A B C:Int):List PV:=[.sc (.int .u8 A),.sc (.int .u8 B),.sc (.int .u8 C)]
abbrev A7t:Option Ap:=some ⟨[.own 1 0 [],.sc (.int .i64 2)],[]⟩
theorem Avq {call:Am}{a0 s:ByteArray}{m0 nn y1:Nat}{n i j:Nat}{y7:List PV}{A B C X:Int}(hij:i<j)(hj:j<=4)(h:List.getD (grp A B C) (n+i) .top=.sc (.int .u8 X)) {q:Int}:
  Cg fu call a0 m0 (nn+1) s y1 q n j (j:Int) (i:Int) y7 (grp A B C)=if X=0 then Cg fu call a0 m0 nn s y1 q n j (j:Int) ((i+1:Nat):Int) y7 (grp A B C) else A7t:=by
 have a1:decide ((i:Int)<(j:Int))=true:=by simp;omega
 have a2:(decide ((0:Int)<=(i:Int))&&decide ((i:Int)<(j:Int)))=true:=by simp;omega
 have a2':decide ((0:Int)<=(i:Int))=true:=by simp
 have a3:List.getD (grp A B C) (n+Int.toNat (i:Int)*1) PV.top=.sc (.int .u8 X):=by rw[Kj,EB];exact h
 have a4:wrap .i64 ((i:Int)+1)=((i+1:Nat):Int):=by rw[Au (by omega) (by omega)];omega
 rw[G3];by_cases hx:X=0
 ·subst hx;have a5:((0:Int) != 0)=false:=rfl;rw[Dy rfl];simp only[B4,a1,a2,a2',a3,a4,a5]
 ·have a5:(X != 0)=true:=by simp[hx]
  rw[Ct hx];simp only[B4,a1,a2,a2',a3,a5]
theorem ZB {call:Am}{a0:ByteArray}{m0 nn:Nat}{n j:Nat}{l acc:List Int}{A B C:Int}(hn:2<=n)(hn4:n<=4)(hl:Cx l)(hnl:n<=l.length)(IC:acc.length<=1000000){st:Nat}:
  Cg fu call a0 m0 (nn+1) (Ab l) acc.length (n:Int) st j (j:Int) (j:Int) (Bl .u8 acc) (grp A B C)=Ci fu call a0 m0 (Ab (l.drop n)) (acc++[A,B,C].take (n-1)).length (Bl .u8 (acc++[A,B,C].take (n-1))):=by
 have a1:decide ((j:Int)<(j:Int))=false:=by simp
 have a2:wrap .i64 ((n:Int)-1)=((n-1:Nat):Int):=by rw[Au (by omega) (by omega)];omega
 have a3:(decide (3<=List.length (grp A B C))&&true)=true:=rfl;have a4:decide ((0:Int)<=((n-1:Nat):Int))=true:=by simp
 have a5:decide (Int.toNat ((n-1:Nat):Int)<=3)=true:=by simp;omega
 have a6:Int.toNat ((n-1:Nat):Int)-0=n-1:=by rw[Kj];omega
 have a7:decide (0+(n-1)*1<=List.length (grp A B C))=true:=by simp;omega
 have a8:decide (acc.length*1<=List.length (Bl .u8 acc))=true:=by rw[Ek];simp
 have a9:decide (List.length (List.take ((n-1)*1) (List.drop 0 (grp A B C)))=(n-1)*1)=true:=by simp;omega
 have b1:decide ((acc.length+(n-1))*1<=1099511627776)=true:=by simp;omega
 have b2:decide (acc.length+(n-1)<=1099511627776)=true:=by simp;omega
 have b3:List.take (acc.length*1) (Bl .u8 acc)++List.take ((n-1)*1) (List.drop 0 (grp A B C))=Bl .u8 (acc++[A,B,C].take (n-1)):=by
  have e0:Bl .u8 (acc++[A,B,C].take (n-1))=Bl .u8 acc++Bl .u8 ([A,B,C].take (n-1)):=List.flatMap_append;rw[QT (by rw[Ek];omega),e0,Zze,EB]
  congr 1
  match n,hn,hn4 with
  |2,_,_=>rfl
  |3,_,_=>rfl
  |4,_,_=>rfl
 have b4:decide ((0:Int)<=(n:Int))=true:=by simp
 have b5:decide (Int.toNat (n:Int)<=l.length)=true:=by simp;omega
 have b6:(Ab l).extract (Int.toNat (n:Int)) l.length=Ab (l.drop n):=by rw[Kj,Rc hl]
 have b7:acc.length+(n-1)=(acc++[A,B,C].take (n-1)).length:=by simp;omega
 rw[G3];simp only[B4,Af,dle,a1,a2,a3,a4,a5,a6,a7,a8,a9,b1,b2,b3,b4,b5,b6];rw[b7]
theorem Al7 {a0:ByteArray}(Eu:10<=fu):∀(m:Nat)(l acc:List Int)(nn:Nat),l.length<=4*m->m+1<=nn->Cx l->l.length % 4≠1->acc.length+l.length<=1000000 ->
  Ci fu (Ae (CP p) prog fu (d+2)) a0 nn (Ab l) acc.length (Bl .u8 acc)=some (match Nt l with|none=>⟨[.own 1 0 [],.sc (.int .i64 2)],[]⟩|some b=>⟨[.own 1 (acc++b).length (Bl .u8 (acc++b)),.sc (.int .i64 0)],[]⟩):=by
 obtain⟨fu,rfl⟩:∃k,fu=k+10:=⟨fu-10,by omega⟩
 have zero:∀(acc:List Int) (nn:Nat),acc.length<=1000000->Ci (fu+10) (Ae (CP p) prog (fu+10) (d+2)) a0 (nn+1) (Ab []) acc.length (Bl .u8 acc)=some ⟨[.own 1 acc.length (Bl .u8 acc),.sc (.int .i64 0)],[]⟩:=by
  intro acc nn h;have a1:decide ((((Ab []).size:Nat):Int)>0)=false:=rfl;have a2:decide (acc.length*1<=List.length (Bl .u8 acc))=true:=by rw[Ek];simp
  have a3:List.take (acc.length*1) (Bl .u8 acc)=Bl .u8 acc:=QT (by rw[Ek];omega)
  rw[G4];simp only[B4,a1,a2,a3]
 intro m
 induction m with
 |zero=>
  intro l acc nn hl N7 hB h1 IC;have:l=[]:=List.eq_nil_of_length_eq_zero (by omega)
  subst this;obtain⟨k,rfl⟩:∃k,nn=k+1:=⟨nn-1,by omega⟩
  rw[zero acc k (by omega)]
  simp[Nt]
 |succ m ih=>
  intro l acc nn hl N7 hB h1 IC;obtain⟨k,rfl⟩:∃k,nn=k+1:=⟨nn-1,by omega⟩
  have head:∀(n:Nat),l.length>0->n=min l.length 4->Ci (fu+10) (Ae (CP p) prog (fu+10) (d+2)) a0 (k+1) (Ab l) acc.length (Bl .u8 acc)=Ch (fu+10) (Ae (CP p) prog (fu+10) (d+2)) a0 k (fu+10) (Ab l) acc.length (n:Int) 0 (n:Int) 0 (Bl .u8 acc):=by
   intro n hp hn;have a1:decide (((l.length:Nat):Int)>0)=true:=by simp;omega
   have a2:(if ((l.length:Nat):Int)<4 then ((l.length:Nat):Int) else 4)=(n:Int):=by split<;>omega
   rw[G4];simp only[B4,Af,a1,a2]
  match l,hl,hB,h1,IC,head with
  |[],_,_,_,IC,_=>
   rw[zero acc k (by simpa using IC)]
   simp[Nt]
  |[x],_,_,h1,_,_=>exact absurd rfl h1
  |[a,b],_,hB,_,IC,head=>
   have va:=Pe a;have vb:=Pe b;rw[head 2 (by simp) rfl,show (0:Int)=((0:Nat):Int) from rfl]
   rw[Mo (c:=a) (by omega) (by omega) hB rfl (by simp) (by simp) (by simp)]
   unfold Nt;by_cases ha:Bv a<64
   ·rw[Dy ha,Mo (c:=b) (by omega) (by omega) hB rfl (by simp<;>omega) (by simp<;>omega) (by simp<;>omega)]
    by_cases hb:Bv b<64
    ·rw[Dy hb,Aaw (by omega) (by omega) (by simp<;>omega) (by simp<;>omega)]
     rw[show (0:Int)=((0:Nat):Int) from rfl]
     rw[Avq (X:=(((0:Nat):Int)+Bv a*((2 ^ (18-6*0):Nat):Int)+Bv b*((2 ^ (18-6*1):Nat):Int)) / 256 % 256) (by omega) (by omega) rfl]
     by_cases hz:Bv b % 16=0
     ·rw[Dy (by simp<;>omega)]
      rw[Avq (X:=(((0:Nat):Int)+Bv a*((2 ^ (18-6*0):Nat):Int)+Bv b*((2 ^ (18-6*1):Nat):Int)) % 256) (by omega) (by omega) rfl]
      rw[Dy (by simp<;>omega),ZB (by omega) (by omega) hB (by simp) (by omega)]
      rw[Dy ⟨ha,hb,hz⟩];have hr:=ih [] (acc++[Bv a*4+Bv b / 16]) k (by simp) (by omega) (fun x hx=>by cases hx) (by simp) (by simp at IC ⊢;omega)
      have e:(((0:Nat):Int)+Bv a*((2 ^ (18-6*0):Nat):Int)+Bv b*((2 ^ (18-6*1):Nat):Int)) / 65536 % 256=Bv a*4+Bv b / 16:=by simp;omega
      rw[e];refine hr.trans ?_;simp[Nt]
     ·rw[Ct (by simp<;>omega),Ct (fun h=>hz h.2.2)]
    ·rw[Ct hb,Ct (fun h=>hb h.2.1)]
   ·rw[Ct ha,Ct (fun h=>ha h.1)]
  |[a,b,c],_,hB,_,IC,head=>
   have va:=Pe a;have vb:=Pe b;have vc:=Pe c;rw[head 3 (by simp) rfl,show (0:Int)=((0:Nat):Int) from rfl]
   rw[Mo (c:=a) (by omega) (by omega) hB rfl (by simp) (by simp) (by simp)]
   unfold Nt;by_cases ha:Bv a<64
   ·rw[Dy ha,Mo (c:=b) (by omega) (by omega) hB rfl (by simp<;>omega) (by simp<;>omega) (by simp<;>omega)]
    by_cases hb:Bv b<64
    ·rw[Dy hb,Mo (c:=c) (by omega) (by omega) hB rfl (by simp<;>omega) (by simp<;>omega) (by simp<;>omega)]
     by_cases hc:Bv c<64
     ·rw[Dy hc,Aaw (by omega) (by omega) (by simp<;>omega) (by simp<;>omega)]
      rw[show (0:Int)=((0:Nat):Int) from rfl]
      rw[Avq (X:=(((0:Nat):Int)+Bv a*((2 ^ (18-6*0):Nat):Int)+Bv b*((2 ^ (18-6*1):Nat):Int)+Bv c*((2 ^ (18-6*2):Nat):Int)) % 256) (by omega) (by omega) rfl]
      by_cases hz:Bv c % 4=0
      ·rw[Dy (by simp<;>omega),ZB (by omega) (by omega) hB (by simp) (by omega)]
       rw[Dy ⟨ha,hb,hc,hz⟩];have hr:=ih [] (acc++[Bv a*4+Bv b / 16,Bv b % 16*16+Bv c / 4]) k (by simp) (by omega) (fun x hx=>by cases hx) (by simp) (by simp at IC ⊢;omega)
       have e:(((0:Nat):Int)+Bv a*((2 ^ (18-6*0):Nat):Int)+Bv b*((2 ^ (18-6*1):Nat):Int)+Bv c*((2 ^ (18-6*2):Nat):Int)) / 65536 % 256=Bv a*4+Bv b / 16:=by simp;omega
       have e2:(((0:Nat):Int)+Bv a*((2 ^ (18-6*0):Nat):Int)+Bv b*((2 ^ (18-6*1):Nat):Int)+Bv c*((2 ^ (18-6*2):Nat):Int)) / 256 % 256=Bv b % 16*16+Bv c / 4:=by simp;omega
       rw[e,e2];refine hr.trans ?_;simp[Nt]
      ·rw[Ct (by simp<;>omega),Ct (fun h=>hz h.2.2.2)]
     ·rw[Ct hc,Ct (fun h=>hc h.2.2.1)]
    ·rw[Ct hb,Ct (fun h=>hb h.2.1)]
   ·rw[Ct ha,Ct (fun h=>ha h.1)]
  |a::b::c::e::t,hl,hB,h1,IC,head=>
   have va:=Pe a;have vb:=Pe b;have vc:=Pe c;have ve:=Pe e;rw[head 4 (by simp) (by simp<;>omega),show (0:Int)=((0:Nat):Int) from rfl]
   rw[Mo (c:=a) (by omega) (by omega) hB rfl (by simp) (by simp) (by simp)]
   unfold Nt;by_cases ha:Bv a<64
   ·rw[Dy ha,Mo (c:=b) (by omega) (by omega) hB rfl (by simp<;>omega) (by simp<;>omega) (by simp<;>omega)]
    by_cases hb:Bv b<64
    ·rw[Dy hb,Mo (c:=c) (by omega) (by omega) hB rfl (by simp<;>omega) (by simp<;>omega) (by simp<;>omega)]
     by_cases hc:Bv c<64
     ·rw[Dy hc,Mo (c:=e) (by omega) (by omega) hB rfl (by simp<;>omega) (by simp<;>omega) (by simp<;>omega)]
      by_cases he:Bv e<64
      ·rw[Dy he,Aaw (by omega) (by omega) (by simp<;>omega) (by simp<;>omega)]
       rw[show (0:Int)=((4-4:Nat):Int) from rfl,ZB (by omega) (by omega) hB (by simp) (by omega)]
       rw[Dy ⟨ha,hb,hc,he⟩];have hr:=ih t (acc++[Bv a*4+Bv b / 16,Bv b % 16*16+Bv c / 4,Bv c % 4*64+Bv e]) k (by simp at hl;omega) (by omega) (fun x hx=>hB x (by simp[hx])) (by simp at h1;omega) (by simp at IC ⊢;omega)
       have e1:(((4-4:Nat):Int)+Bv a*((2 ^ (18-6*0):Nat):Int)+Bv b*((2 ^ (18-6*1):Nat):Int)+Bv c*((2 ^ (18-6*2):Nat):Int)+Bv e*((2 ^ (18-6*3):Nat):Int)) / 65536 % 256=Bv a*4+Bv b / 16:=by simp;omega
       have e2:(((4-4:Nat):Int)+Bv a*((2 ^ (18-6*0):Nat):Int)+Bv b*((2 ^ (18-6*1):Nat):Int)+Bv c*((2 ^ (18-6*2):Nat):Int)+Bv e*((2 ^ (18-6*3):Nat):Int)) / 256 % 256=Bv b % 16*16+Bv c / 4:=by simp;omega
       have e3:(((4-4:Nat):Int)+Bv a*((2 ^ (18-6*0):Nat):Int)+Bv b*((2 ^ (18-6*1):Nat):Int)+Bv c*((2 ^ (18-6*2):Nat):Int)+Bv e*((2 ^ (18-6*3):Nat):Int)) % 256=Bv c % 4*64+Bv e:=by simp;omega
       rw[e1,e2,e3];refine hr.trans ?_;cases Nt t<;>simp
      ·rw[Ct he,Ct (fun h=>he h.2.2.2)]
     ·rw[Ct hc,Ct (fun h=>hc h.2.2.1)]
    ·rw[Ct hb,Ct (fun h=>hb h.2.1)]
   ·rw[Ct ha,Ct (fun h=>ha h.1)]
theorem Ahw:∀{l:List Int},l.length % 4=1->Nt l=none
 |[],h=>by simp at h
 |[_],_=>rfl
 |[_,_],h=>by simp at h
 |[_,_,_],h=>by simp at h
 |p::q::r::s::t,h=>by
  have:=Ahw (l:=t) (by simp at h;omega)
  unfold Nt;rw[this];simp
theorem Ax8 {l:List Int}(hB:Cx l)(hl:l.length<=1000000)(Eu:10<=fu)(EE:l.length<=fu):Ae (CP p) prog fu (d+3) Iq [.sc (.string (Ab l))]=some (match Nt l with|none=>⟨[.own 1 0 [],.sc (.int .i64 2)],[]⟩|some b=>⟨[.own 1 b.length (Bl .u8 b),.sc (.int .i64 0)],[]⟩):=by
 rw[Qb];have a0:Int.tmod ((l.length:Nat):Int) 4=((l.length % 4:Nat):Int):=by rw[Int.tmod_eq_emod_of_nonneg (by omega)];omega
 by_cases h1:l.length % 4=1
 ·have a1:(((l.length % 4:Nat):Int)==1)=true:=by rw[h1];rfl
  rw[Ahw h1];simp only[B4,Af,a0,a1]
 ·have a1:(((l.length % 4:Nat):Int)==1)=false:=by simp;omega
  have a2:Int.tdiv ((l.length:Nat):Int) 4=((l.length / 4:Nat):Int):=by rw[Int.tdiv_eq_ediv_of_nonneg (by omega)];omega
  have a3:wrap .i64 ((l.length / 4:Nat):Int)=((l.length / 4:Nat):Int):=Au (by omega) (by omega)
  have a4:wrap .i64 (((l.length / 4:Nat):Int)*3)=((l.length / 4:Nat):Int)*3:=Au (by omega) (by omega)
  have a5:wrap .i64 (((l.length / 4:Nat):Int)*3+2)=((l.length / 4:Nat):Int)*3+2:=Au (by omega) (by omega)
  have a6:decide ((0:Int)<=((l.length / 4:Nat):Int)*3+2)=true:=by simp;omega
  have a7:decide ((((l.length / 4:Nat):Int)*3+2)*1<=1099511627776)=true:=by simp;omega
  have a8:decide (((l.length / 4:Nat):Int)*3+2<=1099511627776)=true:=by simp;omega
  have hd:=Al7 (d:=d) (p:=p) (a0:=Ab l) Eu (l.length / 4+1) l [] fu (by omega) (by omega) hB h1 (by simp<;>omega)
  simp only[B4,Af,a0,a1,a2,a3,a4,a5,a6,a7,a8];refine hd.trans ?_;cases Nt l<;>simp
end
end
section
open Go.Proofs.Tryz (prog)
open Go.IntKind (wrap)
set_option maxRecDepth 100000
theorem dT {q:Prop} [Decidable q] (h:q):decide q=true:=decide_eq_true h
theorem dF {q:Prop} [Decidable q] (h:¬q):decide q=false:=decide_eq_false h
theorem bT {q:Prop} [Decidable q] (h:q):(!decide q)=false:=by simp[h]
theorem bF {q:Prop} [Decidable q] (h:¬q):(!decide q)=true:=by simp[h]
def okB (n i:Nat)(c:Int):Bool:=XI c||(c==45&&decide (0<i)&&decide (i+1<n))
def Z7 (n:Nat):Nat->List Int->Bool
 |_,[]=>true
 |i,c::r=>okB n i c&&Z7 n (i+1) r
theorem LC (n i:Nat)(c:Int)(r:List Int):Z7 n i (c::r)=(okB n i c&&Z7 n (i+1) r):=rfl
theorem Alt:XI 45=false:=rfl
theorem Acb (n:Nat):∀(r:List Int)(i:Nat),i+r.length=n->Z7 n i r=(r.all (fun x=>XI x||x==45) && !(decide (i=0)&&r.head?==some 45) && !(r.getLast?==some 45))
 |[],i,_=>by simp[Z7]
 |[c],i,h=>by
  simp only[Uk,QY] at h;unfold Z7 okB;by_cases hc:c=45
  ·subst hc;have:¬i+1<n:=by omega
   simp[Z7,Alt,this]
  ·have hcb:(c==45)=false:=by simp[hc]
   simp[Z7,hcb]
 |c::x::r,i,h=>by
  have ih:=Acb n (x::r) (i+1) (by simp at h ⊢;omega)
  have hl:(c::x::r).getLast?=(x::r).getLast?:=by simp
  unfold Z7;rw[ih,hl];have h1:i+1<n:=by simp at h;omega
  unfold okB;by_cases hc:c=45
  ·subst hc;by_cases hi:i=0
   ·subst hi;simp[Alt]
   ·have:0<i:=by omega
    simp[Alt,h1,hi,this]
  ·have hcb:(c==45)=false:=by simp[hc]
   simp[hcb,Bool.and_assoc]
theorem Ap6 {l:List Int}(h1:1<=l.length)(h2:l.length<=63):Ie l=Z7 l.length 0 l:=by
 rw[Acb _ l 0 (by simp)]
 unfold Ie;rw[dT h1,dT h2];cases l.all (fun x=>XI x||x==45)<;>cases (l.head?==some 45)<;>cases (l.getLast?==some 45)<;>rfl
section
variable {fu d:Nat} {p:Option (List PV->Option Ap)}
theorem UE {call:Am}{a0:ByteArray}{l:List Int}(hB:Cx l)(hs:l.length<=63):∀(r:List Int)(i nn:Nat),l.drop i=r->r.length+1<=nn ->
  Bd fu call a0 nn (Ab l) (l.length:Int) (i:Int)=some ⟨[.sc (.bool (Z7 l.length i r))],[]⟩
 |[],i,nn,hd,hn=>by
  obtain⟨k,rfl⟩:∃k,nn=k+1:=⟨nn-1,by omega⟩
  have hi:=drop_nil hd;have a1:decide ((i:Int)<(l.length:Int))=false:=by simp;omega
  rw[Kx];simp only[B4,a1];rfl
 |c::r,i,nn,hd,hn=>by
  obtain⟨k,rfl⟩:∃k,nn=k+1:=⟨nn-1,by omega⟩
  obtain⟨hi,hc,Il⟩:=Ff hd;have ih:=UE (call:=call) (a0:=a0) hB hs r (i+1) k Il (by simp at hn;omega)
  have JA:=hB c (List.mem_of_getElem? hc);have a1:decide ((i:Int)<(l.length:Int))=true:=by simp;omega
  have a2:decide ((0:Int)<=(i:Int))=true:=by simp
  have a3:(Array.toList (Ab l).data)[Int.toNat (i:Int)]?=some c.toNat.toUInt8:=by
   rw[Kj];show (l.map fun n=>n.toNat.toUInt8)[i]?=_
   rw[List.getElem?_map,hc];rfl
  have a4:=Jh JA;have a5:wrap .i64 ((i:Int)+1)=((i+1:Nat):Int):=by rw[Au (by omega) (by omega)];omega
  have a6:wrap .i64 ((l.length:Int)-1)=(l.length:Int)-1:=Au (by omega) (by omega)
  have good:okB l.length i c=true->(Bd fu call a0 k (Ab l) (l.length:Int) ((i+1:Nat):Int)=some ⟨[.sc (.bool (Z7 l.length i (c::r)))],[]⟩):=by
   intro h;rw[ih,LC,h,Zzm]
  have bad:okB l.length i c=false->some (Ap.mk [PV.sc (.bool false)] [])=some ⟨[.sc (.bool (Z7 l.length i (c::r)))],[]⟩:=by
   intro h;rw[LC,h,OC]
  rw[Kx];by_cases hA:97<=c∧c<=122
  ·have q1:=dT hA.1;have q2:=dT hA.2;have q3:(c==45)=false:=by simp;omega
   have q4:=dT (q:=(48:Int)<=c) (by omega)
   have q5:=bF (q:=c<=57) (by omega)
   simp only[B4,a1,a2,a3,a4,a5,a6,Af,q1,q2,q3,q4,q5];exact good (by unfold okB XI;simp[hA])
  by_cases hD:48<=c∧c<=57
  ·have q1:=dF (q:=(97:Int)<=c) (by omega)
   have q2:=dT (q:=c<=122) (by omega)
   have q3:(c==45)=false:=by simp;omega
   have q4:=dT hD.1;have q5:=bT hD.2;simp only[B4,a1,a2,a3,a4,a5,a6,Af,q1,q2,q3,q4,q5];exact good (by unfold okB XI Vh;simp[hD])
  have Cb:XI c=false:=by
   unfold XI Vh;simp;exact⟨fun h=>by omega,fun h=>by omega⟩
  by_cases hM:c=45
  ·subst hM;have q1:decide ((97:Int)<=45)=false:=rfl;have q2:decide ((45:Int)<=122)=true:=rfl;have q3:((45:Int)==45)=true:=rfl;have q4:decide ((48:Int)<=45)=false:=rfl;have q5:(!decide ((45:Int)<=57))=false:=rfl;by_cases h0:0<i
   ·have q6:=dT (q:=(i:Int)>0) (by omega)
    by_cases h1:i+1<l.length
    ·have q7:=bT (q:=(i:Int)<(l.length:Int)-1) (by omega)
     simp only[B4,a1,a2,a3,a4,a5,a6,Af,q1,q2,q3,q4,q5,q6,q7];exact good (by unfold okB;simp[h0,h1])
    ·have q7:=bF (q:=(i:Int)<(l.length:Int)-1) (by omega)
     simp only[B4,a1,a2,a3,a4,a5,a6,Af,q1,q2,q3,q4,q5,q6,q7];exact bad (by unfold okB;simp[h1,Cb])
   ·have q6:=dF (q:=(i:Int)>0) (by omega)
    simp only[B4,a1,a2,a3,a4,a5,a6,Af,q1,q2,q3,q4,q5,q6];exact bad (by unfold okB;simp[h0,Cb])
  have q3:(c==45)=false:=by simp[hM]
  have Aew:okB l.length i c=false:=by unfold okB;simp[Cb,hM]
  by_cases h97:97<=c
  ·have q1:=dT h97;have q2:=dF (q:=c<=122) (by omega)
   have q4:=dT (q:=(48:Int)<=c) (by omega)
   have q5:=bF (q:=c<=57) (by omega)
   simp only[B4,a1,a2,a3,a4,a5,a6,Af,q1,q2,q3,q4,q5];exact bad Aew
  ·have q1:=dF h97;have q2:=dT (q:=c<=122) (by omega)
   by_cases h48:48<=c
   ·have q4:=dT h48;have q5:=bF (q:=c<=57) (by omega)
    simp only[B4,a1,a2,a3,a4,a5,a6,Af,q1,q2,q3,q4,q5];exact bad Aew
   ·have q4:=dF h48;have q5:=bT (q:=c<=57) (by omega)
    simp only[B4,a1,a2,a3,a4,a5,a6,Af,q1,q2,q3,q4,q5];exact bad Aew
theorem Ao4 {l:List Int}(hB:Cx l)(Eu:100<=fu):Ae (CP p) prog fu (d+1) Ow [.sc (.string (Ab l))]=some ⟨[.sc (.bool (Ie l))],[]⟩:=by
 rw[Yn];by_cases h1:1<=l.length
 ·by_cases h2:l.length<=63
  ·have a1:decide (((l.length:Nat):Int)<1)=false:=by simp;omega
   have a2:decide (((l.length:Nat):Int)>63)=false:=by simp;omega
   rw[Ap6 h1 h2];simp only[B4,Af,a1,a2];exact UE hB h2 l 0 fu rfl (by omega)
  ·have a1:decide (((l.length:Nat):Int)<1)=false:=by simp;omega
   have a2:decide (((l.length:Nat):Int)>63)=true:=by simp;omega
   have e:Ie l=false:=by unfold Ie;simp[h2]
   rw[e];simp only[B4,Af,a1,a2]
 ·have a1:decide (((l.length:Nat):Int)<1)=true:=by simp;omega
  have e:Ie l=false:=by unfold Ie;simp[h1]
  rw[e];simp only[B4,Af,a1]
theorem Amp (l cs:List UInt8):(Lib.trimS l cs==[])=l.all (cs.contains ·):=by
 have key:∀(q:UInt8->Bool) (m:List UInt8),m.dropWhile q=[]↔m.all q=true:=by
  intro q m
  induction m with
  |nil=>simp
  |cons x m ih=>
   by_cases hx:q x=true
   ·rw[List.dropWhile_cons_of_pos hx,ih];simp[hx]
   ·rw[List.dropWhile_cons_of_neg hx];simp[hx]
 unfold Lib.trimS Lib.trimLeftS Lib.trimRightS;rw[Bool.eq_iff_iff,beq_iff_eq,key,List.all_reverse,←key,key,List.all_eq_true]
 have h2:∀(q:UInt8->Bool) (m:List UInt8),(m.dropWhile q).all q=true↔m.all q=true:=by
  intro q m
  induction m with
  |nil=>simp
  |cons x m ih=>
   by_cases hx:q x=true
   ·rw[List.dropWhile_cons_of_pos hx,ih];simp[hx]
   ·rw[List.dropWhile_cons_of_neg hx]
 rw[←List.all_eq_true,h2,List.all_reverse]
def Sv:ByteArray:=⟨#[48,49,50,51,52,53,54,55,56,57]⟩
theorem Ay8:∀n:Fin 256,Sv.data.toList.contains (n.val:Int).toNat.toUInt8=Vh (n.val:Int):=by decide +kernel
theorem Axn {l:List Int}(h:Cx l):((l.map fun n=>n.toNat.toUInt8).all (Sv.data.toList.contains ·))=l.all Vh:=by
 induction l with
 |nil=>rfl
 |cons c r ih=>
  obtain⟨hc,hr⟩:=Bq h;obtain⟨n,rfl⟩:=Int.eq_ofNat_of_zero_le hc.1;rw[Zzw,List.all_cons,List.all_cons,ih hr]
  congr 1
  exact Ay8 ⟨n,by omega⟩
theorem At7 {l:List Int}(hB:Cx l)(hs:l.length<=1000000):∃x,Ae (CP p) prog fu (d+1) 72 [.sc (.string (Ab l)),.sc (.string Sv)]=some ⟨[.sc (.string x)],[]⟩∧(Array.toList x.data==Array.toList (ByteArray.mk #[]).data)=l.all Vh:=by
 refine⟨⟨(Lib.trimS (Ab l).data.toList Sv.data.toList).toArray⟩,?_,?_⟩
 ·have e:Ae (CP p) prog fu (d+1) 72 [.sc (.string (Ab l)),.sc (.string Sv)]=UT [.sc (.string (Ab l)),.sc (.string Sv)]:=rfl;rw[e];unfold UT
  have:(Nat.ble Sv.size 1000&&Sv.data.toList.all (fun b=>decide (b.toNat<128))&&decide ((Ab l).size<=1000000000))=true:=by
   rw[Af];have h1:(Nat.ble Sv.size 1000&&Sv.data.toList.all (fun b=>decide (b.toNat<128)))=true:=by decide +kernel
   rw[h1,dT (q:=l.length<=1000000000) (by omega)]
   rfl
  simp only[this,cond_true]
 ·show (Lib.trimS (Ab l).data.toList Sv.data.toList==[])=_;rw[Amp];exact Axn hB
theorem Sx (c:Int):∀{l:List Int},Cx l->∀x∈A1 c l,Cx x∧x.length<=l.length
 |[],_,x,hx=>by simp[A1] at hx;subst hx;exact⟨(fun y hy=>nomatch hy),Nat.le_refl _⟩
 |a::r,h,x,hx=>by
  obtain⟨ha,hr⟩:=Bq h;have ih:=Sx c hr;unfold A1 at hx;split at hx
  ·rcases List.mem_cons.1 hx with rfl|hx
   ·exact⟨(fun y hy=>nomatch hy),Nat.zero_le _⟩
   ·exact⟨(ih x hx).1,Nat.le_succ_of_le (ih x hx).2⟩
  ·cases hs:A1 c r with
   |nil=>exact absurd hs (Mw c r)
   |cons b t=>
    rw[hs] at hx ih;rcases List.mem_cons.1 hx with rfl|hx
    ·obtain⟨q1,q2⟩:=ih b (by simp)
     refine⟨fun y hy=>?_,by simp;omega⟩
     rcases List.mem_cons.1 hy with rfl|hy
     ·exact ha
     ·exact q1 y hy
    ·exact⟨(ih x (by simp[hx])).1,Nat.le_succ_of_le (ih x (by simp[hx])).2⟩
theorem SJ {a0:ByteArray}(Eu:200<=fu){ls:List (List Int)} (hB:∀x∈ls,Cx x∧x.length<=1000)(h0:ls≠[]) (hN:ls.length<=1000):∀(r:List (List Int)) (i nn:Nat),ls.drop i=r->r.length+1<=nn ->
  Hq fu (Ae (CP p) prog fu (d+1)) a0 nn ls.length ls.length (ls.length:Int) (i:Int) (ls.map Rw)=some ⟨[.sc (.int .i64 (if r.all Ie=false then 2 else if (ls.getLastD []).all Vh=true then 2 else 0))],[]⟩
 |[],i,nn,hd,hn=>by
  obtain⟨k,rfl⟩:∃k,nn=k+1:=⟨nn-1,by omega⟩
  have hi:=drop_nil hd;have Afb:0<ls.length:=List.length_pos_iff.2 h0;have a1:decide ((i:Int)<(ls.length:Int))=false:=by simp;omega
  have a2:wrap .i64 ((ls.length:Int)-1)=((ls.length-1:Nat):Int):=by rw[Au (by omega) (by omega)];omega
  have a3:decide ((0:Int)<=((ls.length-1:Nat):Int))=true:=by simp
  have a4:decide (((ls.length-1:Nat):Int)<(ls.length:Int))=true:=by simp;omega
  have WF:ls.getLastD []=ls[ls.length-1]'(by omega):=by
   rw[List.getLastD_eq_getLast?,List.getLast?_eq_getElem?,List.getElem?_eq_getElem (by omega)]
   rfl
  have a5:List.getD (ls.map Rw) (0+Int.toNat ((ls.length-1:Nat):Int)*1) PV.top=.sc (.string (Ab (ls.getLastD []))):=by
   rw[Kj,WS,EB,List.getD_eq_getElem?_getD,List.getElem?_map,List.getElem?_eq_getElem (by omega),WF]
   rfl
  have hm:=hB (ls.getLastD []) (by rw[WF];exact List.getElem_mem _)
  obtain⟨x,e,hx⟩:=At7 (fu:=fu) (d:=d) (p:=p) hm.1 (by omega)
  have e2:Ae (CP p) prog fu (d+1) 72 [.sc (.string (Ab (ls.getLastD []))),.sc (.string (ByteArray.mk #[(48:UInt8),(49:UInt8),(50:UInt8),(51:UInt8),(52:UInt8),(53:UInt8),(54:UInt8),(55:UInt8),(56:UInt8),(57:UInt8)]))]=some ⟨[.sc (.string x)],[]⟩:=e;rw[Nq];cases hq:(ls.getLastD []).all Vh
  ·rw[hq] at hx;simp only[B4,a1,a2,a3,a4,a5,e2,hx,List.all_nil,Bool.true_eq_false,if_false,Bool.false_eq_true]
  ·rw[hq] at hx;simp only[B4,a1,a2,a3,a4,a5,e2,hx,List.all_nil,Bool.true_eq_false,if_false,if_true]
 |x::r,i,nn,hd,hn=>by
  obtain⟨k,rfl⟩:∃k,nn=k+1:=⟨nn-1,by omega⟩
  obtain⟨hi,hc,Il⟩:=Ff hd;have ih:=SJ (a0:=a0) Eu hB h0 hN r (i+1) k Il (by simp at hn;omega)
  have hm:=hB x (List.mem_of_getElem? hc);have e:Ae (CP p) prog fu (d+1) 71 [.sc (.string (Ab x))]=_:=Ao4 (fu:=fu) (d:=d) (p:=p) hm.1 (by omega)
  have a1:decide ((i:Int)<(ls.length:Int))=true:=by simp;omega
  have a2:decide ((0:Int)<=(i:Int))=true:=by simp
  have a5:List.getD (ls.map Rw) (0+Int.toNat (i:Int)*1) PV.top=.sc (.string (Ab x)):=by
   rw[Kj,WS,EB,List.getD_eq_getElem?_getD,List.getElem?_map,hc];rfl
  have a6:wrap .i64 ((i:Int)+1)=((i+1:Nat):Int):=by rw[Au (by omega) (by omega)];omega
  rw[Nq];cases hq:Ie x
  ·rw[hq] at e;have:((x::r).all Ie=false):=by simp[hq]
   rw[Dy this];simp only[B4,a1,a2,a5,e,D6]
  ·rw[hq] at e;have:(x::r).all Ie=r.all Ie:=by simp[hq]
   rw[this];simp only[B4,a1,a2,a5,e,Dk,a6];exact ih
theorem Aum {l:List Int}(hB:Cx l)(hs:l.length<=1000000)(Eu:200<=fu):Ae (CP p) prog fu (d+6) Rs [.sc (.string (Ab l))]=some ⟨[.sc (.int .i64 (Oq l))],[]⟩:=by
 rw[DT];unfold Oq;by_cases h:100<l.length
 ·have a1:decide (((l.length:Nat):Int)>100)=true:=by simp;omega
  rw[Dy h];simp only[B4,Af,a1]
 ·have a1:decide (((l.length:Nat):Int)>100)=false:=by simp;omega
  have e:Ae (CP p) prog fu (d+5) 70 [.sc (.string (Ab l)),.sc (.string (ByteArray.mk #[(46:UInt8)]))]=_:=Ap3 (fu:=fu) (d:=d) (p:=p) (c:=46) (by omega) hB (by omega) (by omega)
  have hn:=T8 46 l;have hd:=SJ (a0:=Ab l) (fu:=fu) (d:=d+4) (p:=p) (by omega) (ls:=A1 46 l) (fun x hx=>⟨(Sx 46 hB x hx).1,by have:=(Sx 46 hB x hx).2;omega⟩) (Mw 46 l) (by omega) (A1 46 l) 0 fu rfl (by omega)
  rw[Ct h];simp only[B4,Af,a1,e];exact hd
theorem Arb (s:Bool):Ae (CP p) prog fu (d+1) La [.sc (.bool s)]=some ⟨[.sc (.int .i64 (dfl s))],[]⟩:=by
 rw[Tl];cases s<;>simp only[B4]<;>rfl
theorem Zd (c:Int):Vh c=true↔48<=c∧c<=57:=by unfold Vh;simp
theorem MV {call:Am}{a0:ByteArray}{l:List Int}(hB:Cx l)(hs:l.length<=5):∀(r:List Int)(i nn:Nat)(n:Int),l.drop i=r->r.length+1<=nn->0<=n->n<10 ^ i ->
  Fv fu call a0 nn (Ab l) n (l.length:Int) (i:Int)=some (if r.all Vh=true then ⟨[.sc (.int .i64 (r.foldl (fun n x=>10*n+(x-48)) n)),.sc (.bool (decide (r.foldl (fun n x=>10*n+(x-48)) n<=65535)))],[]⟩ else ⟨[.sc (.int .i64 0),.sc (.bool false)],[]⟩)
 |[],i,nn,n,hd,hn,h0,h1=>by
  obtain⟨k,rfl⟩:∃k,nn=k+1:=⟨nn-1,by omega⟩
  have hi:=drop_nil hd;have a1:decide ((i:Int)<(l.length:Int))=false:=by simp;omega
  rw[Jv];simp only[B4,a1];rfl
 |c::r,i,nn,n,hd,hn,h0,h1=>by
  obtain⟨k,rfl⟩:∃k,nn=k+1:=⟨nn-1,by omega⟩
  obtain⟨hi,hc,Il⟩:=Ff hd;have JA:=hB c (List.mem_of_getElem? hc)
  have hp:(10:Int) ^ i<=10 ^ 4:=by
   have h:=Nat.pow_le_pow_right (n:=10) (by omega) (show i<=4 by omega)
   exact_mod_cast h
  have hp2:(10:Int) ^ (i+1)=10 ^ i*10:=Int.pow_succ ..;have a1:decide ((i:Int)<(l.length:Int))=true:=by simp;omega
  have a2:decide ((0:Int)<=(i:Int))=true:=by simp
  have a3:(Array.toList (Ab l).data)[Int.toNat (i:Int)]?=some c.toNat.toUInt8:=by
   rw[Kj];show (l.map fun n=>n.toNat.toUInt8)[i]?=_
   rw[List.getElem?_map,hc];rfl
  have a4:=Jh JA;rw[Jv];by_cases hq:48<=c∧c<=57
  ·have q1:=dF (q:=c<48) (by omega)
   have q2:=dF (q:=c>57) (by omega)
   have a5:wrap .i64 (10*n)=10*n:=Au (by omega) (by omega)
   have a6:wrap .u8 (c-48)=c-48:=Ol (by omega) (by omega)
   have a7:wrap .i64 (c-48)=c-48:=Au (by omega) (by omega)
   have a8:wrap .i64 (10*n+(c-48))=10*n+(c-48):=Au (by omega) (by omega)
   have a9:wrap .i64 ((i:Int)+1)=((i+1:Nat):Int):=by rw[Au (by omega) (by omega)];omega
   have ih:=MV (call:=call) (a0:=a0) hB hs r (i+1) k (10*n+(c-48)) Il (by simp at hn;omega) (by omega) (by omega)
   have e:(c::r).all Vh=r.all Vh:=by rw[List.all_cons,(Zd c).2 hq,Zzm]
   simp only[B4,a1,a2,a3,a4,q1,q2,a5,a6,a7,a8,a9];rw[ih,e];rfl
  ·have e:(c::r).all Vh=false:=by
    have:Vh c=false:=by
     cases hb:Vh c
     ·rfl
     ·exact absurd ((Zd c).1 hb) hq
    rw[List.all_cons,this,OC]
   rw[e];by_cases h48:c<48
   ·have q1:=dT h48;simp only[B4,a1,a2,a3,a4,q1,Bool.false_eq_true,if_false]
   ·have q1:=dF h48;have q2:=dT (q:=c>57) (by omega)
    simp only[B4,a1,a2,a3,a4,q1,q2,Bool.false_eq_true,if_false]
theorem Atb {l:List Int}(hB:Cx l)(Eu:100<=fu):Ae (CP p) prog fu (d+1) Nm [.sc (.string (Ab l))]=some (if Hu l=true then ⟨[.sc (.int .i64 (V9 l)),.sc (.bool (decide (V9 l<=65535)))],[]⟩ else ⟨[.sc (.int .i64 0),.sc (.bool false)],[]⟩):=by
 rw[V6];by_cases h1:1<=l.length
 ·by_cases h2:l.length<=5
  ·have a1:decide (((l.length:Nat):Int)<1)=false:=by simp;omega
   have a2:decide (((l.length:Nat):Int)>5)=false:=by simp;omega
   cases l with
   |nil=>simp at h1
   |cons c r=>
    have JA:=hB c (by simp)
    have a3:(Array.toList (Ab (c::r)).data)[0]?=some c.toNat.toUInt8:=rfl;have a4:=Jh JA;by_cases h0:c=48
    ·subst h0;have e:Hu (48::r)=false:=by unfold Hu;simp
     have q:((48:Int)==48)=true:=rfl;rw[e];simp only[B4,Af,a1,a2,a3,a4,q,Bool.false_eq_true,if_false]
    ·have q:(c==48)=false:=by simp[h0]
     have e:Hu (c::r)=(c::r).all Vh:=by
      unfold Hu;rw[dT h1,dT h2];simp[h0]
     have hl:=MV (call:=Ae (CP p) prog fu d) (fu:=fu) (a0:=Ab (c::r)) hB h2 (c::r) 0 fu 0 rfl (by omega) (by omega) (by decide)
     rw[e];simp only[B4,Af,a1,a2,a3,a4,q];exact hl
  ·have a1:decide (((l.length:Nat):Int)<1)=false:=by simp;omega
   have a2:decide (((l.length:Nat):Int)>5)=true:=by simp;omega
   have e:Hu l=false:=by unfold Hu;simp[h2]
   rw[e];simp only[B4,Af,a1,a2,Bool.false_eq_true,if_false]
 ·have a1:decide (((l.length:Nat):Int)<1)=true:=by simp;omega
  have e:Hu l=false:=by unfold Hu;simp[h1]
  rw[e];simp only[B4,Af,a1,Bool.false_eq_true,if_false]
theorem Ar3 {l:List Int}(hB:Cx l)(hs:l.length<=1000000)(Eu:200<=fu):∃o1 o2 o3,Ae (CP p) prog fu (d+7) Sz [.sc (.string (Ab l))]=some ⟨[.agg [.sc (.bool o1),.sc (.string o2),.sc (.int .i64 o3)],.sc (.int .i64 (Ec l))],[]⟩:=by
  have hsp:=Arm (fu:=fu) (d:=d+2) (p:=p) hB (w:=[104,116,116,112,115,58,47,47]) (fun x hx=>by simp at hx;omega)
  have Qu:=Arm (fu:=fu) (d:=d+2) (p:=p) hB (w:=[104,116,116,112,58,47,47]) (fun x hx=>by simp at hx;omega)
  have e1:Ae (CP p) prog fu (d+6) 45 [.sc (.string (Ab l)),.sc (.string (ByteArray.mk #[(104:UInt8),(116:UInt8),(116:UInt8),(112:UInt8),(115:UInt8),(58:UInt8),(47:UInt8),(47:UInt8)]))]=_:=hsp
  have e2:Ae (CP p) prog fu (d+6) 45 [.sc (.string (Ab l)),.sc (.string (ByteArray.mk #[(104:UInt8),(116:UInt8),(116:UInt8),(112:UInt8),(58:UInt8),(47:UInt8),(47:UInt8)]))]=_:=Qu
  have tail:∀(s:Bool) (r:List Int),Cx r->r.length<=1000000->∃o1 o2 o3,(Ah (Ae (CP p) prog fu (d+6) 46 [PV.sc (Value.string (Ab r)),PV.sc (Value.string (ByteArray.mk #[(58:UInt8)]))]) fun Hk I6=>
    Ad (I6) <|
    Aa (Hk) fun H9 I9=>
    Ar (H9) fun I5=>
    Aa (I9) fun Jr I4=>
    Ar (Jr) fun Hw=>
    Aa (I4) fun Iz Kr=>
    Aq (Iz) fun L1=>
    Ad (Kr) <|
    Ah (Ae (CP p) prog fu (d+6) 47 [PV.sc (Value.string I5)]) fun Ms L6=>
    Ad (L6) <|
    Aa (Ms) fun N4 N1=>
    Aj (IntKind.i64) (N4) fun Pf=>
    Ad (N1) <|
    Ba (Pf != (0:Int))
     (
     some (Ap.mk [PV.agg [PV.sc (Value.bool false),PV.sc (Value.string (ByteArray.mk #[])),PV.sc (Value.int IntKind.i64 (0:Int))],PV.sc (Value.int IntKind.i64 Pf)] []))
     (
     Ah (Ae (CP p) prog fu (d+6) 48 [PV.sc (Value.bool s)]) fun N6 O4=>
     Ad (O4) <|
     Aa (N6) fun Pq Pm=>
     Aj (IntKind.i64) (Pq) fun Q2=>
     Ad (Pm) <|
     Ba (L1)
      (
      Ah (Ae (CP p) prog fu (d+6) 49 [PV.sc (Value.string Hw)]) fun Qs Pi=>
      Ad (Pi) <|
      Aa (Qs) fun Vw Xj=>
      Aj (IntKind.i64) (Vw) fun Pb=>
      Aa (Xj) fun Pp V7=>
      Aq (Pp) fun Vn=>
      Ad (V7) <|
      Ba (!Vn)
       (
       some (Ap.mk [PV.agg [PV.sc (Value.bool false),PV.sc (Value.string (ByteArray.mk #[])),PV.sc (Value.int IntKind.i64 (0:Int))],PV.sc (Value.int IntKind.i64 (2:Int))] []))
       (
       Ba (Pb==Q2)
        (
        some (Ap.mk [PV.agg [PV.sc (Value.bool false),PV.sc (Value.string (ByteArray.mk #[])),PV.sc (Value.int IntKind.i64 (0:Int))],PV.sc (Value.int IntKind.i64 (2:Int))] []))
        (
        some (Ap.mk [PV.agg [PV.sc (Value.bool s),PV.sc (Value.string I5),PV.sc (Value.int IntKind.i64 Pb)],PV.sc (Value.int IntKind.i64 (0:Int))] []))))
      (
      some (Ap.mk [PV.agg [PV.sc (Value.bool s),PV.sc (Value.string I5),PV.sc (Value.int IntKind.i64 Q2)],PV.sc (Value.int IntKind.i64 (0:Int))] []))))=some ⟨[.agg [.sc (.bool o1),.sc (.string o2),.sc (.int .i64 o3)],.sc (.int .i64 (Sj s r))],[]⟩:=by
    intro s r hr hrl
    have c1:Ae (CP p) prog fu (d+6) 46 [.sc (.string (Ab r)),.sc (.string (ByteArray.mk #[(58:UInt8)]))]=_:=A38 (fu:=fu) (d:=d+2) (p:=p) (c:=58) (by omega) hr hrl
    have Qt:=EQ 58 r
    have hbB:Cx (Bi 58 r):=by rw[Nw];exact fun x hx=>hr x (List.mem_of_mem_take hx)
    have hdB:Cx (r.drop ((Bi 58 r).length+1)):=fun x hx=>hr x (List.mem_of_mem_drop hx)
    have c2:Ae (CP p) prog fu (d+6) 47 [.sc (.string (Ab (Bi 58 r)))]=_:=Aum (fu:=fu) (d:=d) (p:=p) hbB (by omega) Eu
    have c3:Ae (CP p) prog fu (d+6) 48 [.sc (.bool s)]=_:=Arb (fu:=fu) (d:=d+5) (p:=p) s
    have c4:Ae (CP p) prog fu (d+6) 49 [.sc (.string (Ab (r.drop ((Bi 58 r).length+1))))]=_:=Atb (fu:=fu) (d:=d+5) (p:=p) hdB (by omega)
    unfold Sj
    by_cases hh:Oq (Bi 58 r)=0
    · have b1:(Oq (Bi 58 r) != 0)=false:=by simp[hh]
      simp only[ne_eq,hh,not_true_eq_false,if_false]
      by_cases hw:(Bi 58 r).length<r.length
      · rw[dT hw] at c1
        rw[Ct (show ¬(Bi 58 r).length=r.length by omega)]
        by_cases hp:Hu (r.drop ((Bi 58 r).length+1))=true
        · rw[Dy hp] at c4
          by_cases hv:V9 (r.drop ((Bi 58 r).length+1))<=65535
          · rw[dT hv] at c4
            by_cases hdp:V9 (r.drop ((Bi 58 r).length+1))=dfl s
            · have b2:(V9 (r.drop ((Bi 58 r).length+1))==dfl s)=true:=by simp[hdp]
              rw[Ct (by rintro⟨_,_,h⟩;exact h hdp)]
              exact⟨_,_,_,by simp only[B4,c1,c2,hh,c3,c4,b2,Dk,show ((0:Int) != 0)=false from rfl];rfl⟩
            · have b2:(V9 (r.drop ((Bi 58 r).length+1))==dfl s)=false:=by simp[hdp]
              rw[Dy ⟨hp,hv,hdp⟩]
              exact⟨_,_,_,by simp only[B4,c1,c2,hh,c3,c4,b2,Dk,show ((0:Int) != 0)=false from rfl];rfl⟩
          · rw[dF hv] at c4
            rw[Ct (by rintro⟨_,h,_⟩;exact hv h)]
            exact⟨_,_,_,by simp only[B4,c1,c2,hh,c3,c4,D6,show ((0:Int) != 0)=false from rfl];rfl⟩
        · rw[Ct hp] at c4
          rw[Ct (by rintro⟨h,_,_⟩;exact hp h)]
          exact⟨_,_,_,by simp only[B4,c1,c2,hh,c3,c4,D6,show ((0:Int) != 0)=false from rfl];rfl⟩
      · rw[dF hw] at c1
        rw[Dy (show (Bi 58 r).length=r.length by omega)]
        exact⟨_,_,_,by simp only[B4,c1,c2,hh,c3,show ((0:Int) != 0)=false from rfl];rfl⟩
    · have b1:(Oq (Bi 58 r) != 0)=true:=by simp[hh]
      simp only[ne_eq,hh,not_false_eq_true,if_true]
      exact⟨_,_,_,by simp only[B4,c1,c2,b1];rfl⟩
  have er:=IP (p:=p) fu (d+6) (Ab l)
  unfold Ec
  cases h1:List.isPrefixOf [104,116,116,112,115,58,47,47] l
  · rw[h1] at e1
    simp only[Bool.false_eq_true,if_false] at e1 ⊢
    cases h2:List.isPrefixOf [104,116,116,112,58,47,47] l
    · rw[h2] at e2
      simp only[Bool.false_eq_true,if_false] at e2 ⊢
      exact⟨_,_,_,er.trans (by simp only[B4,e1,e2,D6];rfl)⟩
    · rw[h2] at e2
      simp only[if_true] at e2 ⊢
      obtain⟨o1,o2,o3,ht⟩:=tail false (l.drop 7) (fun x hx=>hB x (List.mem_of_mem_drop hx)) (by simp;omega)
      refine⟨o1,o2,o3,er.trans ?_⟩
      simp only[EF,QE,EA,EG,PK,OL,OI,e1,e2,D6,Dk]
      exact ht
  · rw[h1] at e1
    simp only[if_true] at e1 ⊢
    obtain⟨o1,o2,o3,ht⟩:=tail true (l.drop 8) (fun x hx=>hB x (List.mem_of_mem_drop hx)) (by simp;omega)
    refine⟨o1,o2,o3,er.trans ?_⟩
    simp only[EF,QE,EA,EG,PK,OL,OI,e1,D6,Dk]
    exact ht
end
end
section
open Go.Proofs.Tryz (prog)
open Go.IntKind (wrap)
set_option maxRecDepth 1000000
open Go Go.RowKit Go.Lib
def RtP (w':World)(l:List Int)(e:Ending):Prop:=
 match AW 8 l with
 |.ok ms=>∃mb,e=.returned (.tuple #[.map (some mb),.int .i64 0])∧FS w' mb ms
 |.error er=>er≠0∧∃m,e=.returned (.tuple #[m,.int .i64 er])
theorem Ue (l:List Int):AW 8 l=match Ao [123] (A3 l) with
  |some r=>(match V8 (Dj 8) true r with
   |.error e=>.error e
   |.ok (ms,r')=>if A3 r'=[] then .ok ms else .error 2)
  |none=>.error 2:=by
 unfold AW;rw[Df];cases A3 l with
 |nil=>rfl
 |cons y s=>
  by_cases hy:y=123
  ·subst hy;rfl
  ·simp only[Ct hy];split
   ·rename_i e;injection e with e1 _;exact absurd e1 hy
   ·rfl
theorem D1.toBelow {w w':World}{b mb B:Nat}(k:D1 w w' b mb)(hb:B<=b)(PX:B<=mb)(hB:B<=w.heap.size):Below B w w':=
 ⟨k.os,k.tape,k.output,k.size,fun i hi=>k.other i (by omega) (by omega) (by omega)⟩
theorem HM {w:World}(hU:gU.ok w)(hUl:∀k,gU.bl k->k<w.heap.size){w':World}(hb:Below w.heap.size w w'){b:Nat}(hbb:w.heap.size<=b):Lz w' b:=
 ⟨gU.stable w w' (fun j _ hl=>hb.block j hl) hU,fun k hk=>⟨Nat.lt_of_lt_of_le (hUl k hk) hb.size,by have:=hUl k hk;omega⟩⟩
set_option maxHeartbeats 4000000 in
theorem Ape {t:ByteArray}(ht:t.size<=1000000){w:World}(hU:gU.ok w)(hUl:∀k,gU.bl k->k<w.heap.size):
  Calls prog 28 #[.string t] w fun e w'=>Below w.heap.size w w'∧RtP w' (Fn t) e:=by
 have mixed:prog.follows Departure.mixedOrders=true:=by kernel_rfl
 have WW:=@run_makeMap prog;have E7:Below w.heap.size w (w.alloc (.cells #[.string t,.int .i64 0] 86)):=(Below.refl _ w).alloc (Nat.le_refl _) _;have H8:Below w.heap.size w ((w.alloc (.cells #[.string t,.int .i64 0] 86)).alloc (.map #[] 0)):=E7.alloc E7.size _;have hs1:(w.alloc (.cells #[.string t,.int .i64 0] 86)).heap.size=w.heap.size+1:=Array.size_push _
 have h2:Zc ((w.alloc (.cells #[.string t,.int .i64 0] 86)).alloc (.map #[] 0)) w.heap.size 0 t (Fn t):=by
  have hg:((w.alloc (.cells #[.string t,.int .i64 0] 86)).alloc (.map #[] 0)).heap[w.heap.size]?=some (.cells #[.string t,.int .i64 0] 86):=by
   show ((w.heap.push _).push _)[w.heap.size]?=_;rw[Array.getElem?_push_lt (by simp)]
   simp
  have hp:Bz t (Fn t)=0:=by unfold Bz;rw[Qm];omega
  refine⟨?_,?_,?_,?_,?_⟩
  ·show w.heap.size<((w.heap.push _).push _).size;rw[Array.size_push,Array.size_push];omega
  ·unfold World.cell?;simp only[hg];rfl
  ·unfold World.cell?;simp only[hg,hp];rfl
  ·unfold World.frozen?;simp only[hg];rfl
  ·unfold World.frozen?;simp only[hg];rfl
 have hM2:FS ((w.alloc (.cells #[.string t,.int .i64 0] 86)).alloc (.map #[] 0)) (w.heap.size+1) []:=by
  show ((w.heap.push _).push (Obj.map #[] 0))[w.heap.size+1]?=some (.map #[] 0);have:w.heap.size+1=(w.heap.push (Obj.cells #[.string t,.int .i64 0] 86)).size:=by simp
  rw[this];exact Array.getElem?_push_size
 have hU2:=HM hU hUl H8 (Nat.le_refl _);have hmU:¬gU.bl (w.heap.size+1):=fun h=>by have:=hUl _ h;omega
 have hS:=Dm.all t;have hsk:=Ih hS ht hU2 h2
 go_enter Tryz.func28,Tryz.ntmps28
 go_wp2_with (go_at_call 42;refine hsk.mono ?_)
 rintro e W3 ⟨rfl,h3,k3⟩
 have hS3:=Bu hS;have hM3:=hM2.keep k3 (by omega)
 have hU3:=hU2.keep k3;have hro:=Apl hS3 ht hU3 h3 hM3 (by omega) hmU
 have Lk:Below w.heap.size w W3:=H8.trans ((D1.of (mb:=w.heap.size+1) k3).toBelow (Nat.le_refl _) (by omega) H8.size)
 go_wp2_with (go_at_call 43;refine hro.mono ?_)
 rintro e W4 ⟨k4,r4,DY,h4,QU⟩
 have Uj:Below w.heap.size w W4:=Lk.trans (k4.toBelow (Nat.le_refl _) (by omega) Lk.size)
 have hU4:Lz W4 w.heap.size:=HM hU hUl Uj (Nat.le_refl _)
 have hRt:∀W e,(match Ao [123] (A3 (Fn t)) with
  |some r=>(match V8 (Dj 8) true r with
   |.error er=>er≠0∧∃m,e=.returned (.tuple #[m,.int .i64 er])
   |.ok (ms,r')=>if A3 r'=[] then ∃mb,e=.returned (.tuple #[.map (some mb),.int .i64 0])∧FS W mb ms else ∃m,e=.returned (.tuple #[m,.int .i64 2]))
  |none=>∃m,e=.returned (.tuple #[m,.int .i64 2]))->RtP W (Fn t) e:=by
  intro W e;unfold RtP;rw[Ue];cases Ao [123] (A3 (Fn t)) with
  |none=>exact fun h=>⟨by decide,h⟩
  |some r=>
   cases hob:V8 (Dj 8) true r with
   |error er=>simp only[hob];exact id
   |ok x=>
    obtain⟨ms,r'⟩:=x;simp only[hob];by_cases g:A3 r'=[]
    ·simp only[Dy g];exact id
    ·simp only[Ct g];exact fun h=>⟨by decide,h⟩
 unfold RoP at QU;cases hq:Ao [123] (A3 (Fn t)) with
 |none=>
  rw[hq] at QU hRt;subst QU
  go_wp2
  go_ret2
  exact⟨Uj,hRt _ _ ⟨_,rfl⟩⟩
 |some r=>
  rw[hq] at QU hRt;simp only at QU hRt;cases ho:V8 (Dj 8) true r with
  |error er=>
   rw[ho] at QU hRt;obtain⟨he,rfl⟩:=QU;have hbe:(er != (0:Int))=true:=by simp[he]
   go_wp2
   go_ret2
   exact⟨Uj,hRt _ _ ⟨he,_,rfl⟩⟩
  |ok x=>
   obtain⟨ms,r'⟩:=x;rw[ho] at QU hRt;obtain⟨rfl,rfl,hM4⟩:=QU;have Axk:=Ih DY ht hU4 h4
   go_wp2_with (go_at_call 42;refine Axk.mono ?_)
   rintro e W5 ⟨rfl,h5,k5⟩
   have hk5:Below w.heap.size w W5:=Uj.trans ((D1.of (mb:=w.heap.size+1) k5).toBelow (Nat.le_refl _) (by omega) Uj.size)
   have hM5:=hM4.keep k5 (by omega)
   obtain⟨Cb,hc0,IZ,hf0,hf1⟩:=h5;have Jt:=Bu DY;have hl5:=Jt.len;cases hx:A3 r4 with
   |nil=>
    rw[hx] at IZ hRt;rw[Xz] at IZ
    go_wp2
    go_region_o
    go_wp2
    go_ret2
    exact⟨hk5.drew,hRt _ _ (by rw[Dy trivial];exact⟨_,rfl,hM5⟩)⟩
   |cons c q=>
    rw[hx] at IZ hRt hl5
    have Bfi:(Bz t (c::q):Int)<t.size:=by
     unfold Bz;rw[Uk] at hl5 ⊢;omega
    have Baj:¬(c::q=[]):=by simp
    go_wp2
    go_region_o
    go_wp2
    go_ret2
    exact⟨hk5.drew,hRt _ _ (by rw[Ct Baj];exact⟨_,rfl⟩)⟩
end
section
open Go.Proofs.Tryz (prog)
open Go.IntKind (wrap)
set_option maxRecDepth 1000000
open Go Go.RowKit Go.Lib
def Jx:List Int:=[116,121,112,101]
def Nr:List Int:=[99,104,97,108,108,101,110,103,101]
def Y0:List Int:=[111,114,105,103,105,110]
def Co (nm:List Int)(ms:List (List Int × JV)):JV:=(Hx nm ms).getD (0,[],false)
theorem HH {w:World}{b:Nat}{ms:List (List Int × JV)} (h:FS w b ms)(hB:∀m∈ms,Cx m.1){nm:List Int}(hn:Cx nm):(Instr.lookup 55 (.map (some b)) (.string (Ab nm)) false).run prog w=.ok (.agg #[.int .i64 (Co nm ms).1,.string (Ab (Co nm ms).2.1),.bool (Co nm ms).2.2]) w:=by
 have:=EW h hB hn false;rw[this];unfold RS Co;cases Hx nm ms<;>rfl
theorem al4 (w:World)(o0 x1 x2 x3:Obj):((((w.alloc o0).alloc x1).alloc x2).alloc x3).drew.heap[w.heap.size]?=some o0∧((((w.alloc o0).alloc x1).alloc x2).alloc x3).drew.heap[w.heap.size+1]?=some x1∧((((w.alloc o0).alloc x1).alloc x2).alloc x3).drew.heap[w.heap.size+1+1]?=some x2∧((((w.alloc o0).alloc x1).alloc x2).alloc x3).drew.heap[w.heap.size+1+1+1]?=some x3:=by
 show ((((w.heap.push o0).push x1).push x2).push x3)[w.heap.size]?=some o0∧((((w.heap.push o0).push x1).push x2).push x3)[w.heap.size+1]?=some x1∧((((w.heap.push o0).push x1).push x2).push x3)[w.heap.size+1+1]?=some x2∧((((w.heap.push o0).push x1).push x2).push x3)[w.heap.size+1+1+1]?=some x3;refine⟨?_,?_,?_,?_⟩
 ·rw[Array.getElem?_push_lt (by simp;omega),Array.getElem_push_lt (by simp;omega),Array.getElem_push_lt (by simp),Array.getElem_push_eq]
 ·have:w.heap.size+1=(w.heap.push o0).size:=by simp
  rw[Array.getElem?_push_lt (by simp),Array.getElem_push_lt (by simp)]
  simp only[this,Array.getElem_push_eq]
 ·have:w.heap.size+1+1=((w.heap.push o0).push x1).size:=by simp
  rw[Array.getElem?_push_lt (by simp)]
  simp only[this,Array.getElem_push_eq]
 ·have:w.heap.size+1+1+1=(((w.heap.push o0).push x1).push x2).size:=by simp
  rw[this];exact Array.getElem?_push_size
theorem al2 (w:World)(x1 x2:Obj):((w.alloc x1).alloc x2).drew.heap[w.heap.size]?=some x1∧((w.alloc x1).alloc x2).drew.heap[w.heap.size+1]?=some x2:=by
 show ((w.heap.push x1).push x2)[w.heap.size]?=some x1∧((w.heap.push x1).push x2)[w.heap.size+1]?=some x2;refine⟨?_,?_⟩
 ·simp[Array.getElem?_push]
 ·have:w.heap.size+1=(w.heap.push x1).size:=by simp
  rw[this];exact Array.getElem?_push_size
def X5:List Int:=[99,114,111,115,115,79,114,105,103,105,110]
def CH:List Int:=[116,111,112,79,114,105,103,105,110]
def Aes (v:JV):Obj:=.cells #[.int .i64 v.1,.string (Ab v.2.1),.bool v.2.2] 89
def cd0:Obj:=.cells #[.int .i64 0,.slice none 0 0,.string ⟨#[]⟩,.bool false,.string ⟨#[]⟩] 31
def tyC:List Int:=[112,97,115,115,107,101,121,46,99,114,101,97,116,101]
def tyG:List Int:=[112,97,115,115,107,101,121,46,103,101,116]
abbrev CD:=Int × List Int × List Int × Bool × List Int
def Wr (k:Int)(C O X P:JV):JR CD:=
 match Nt C.2.1 with
 |none=>.error 2
 |some b=>if b.length<1∨64<b.length then .error 9 else if Ec O.2.1≠0 then .error (Ec O.2.1) else if X.2.2=true∧Ec P.2.1≠0 then .error (Ec P.2.1) else .ok (k,b,O.2.1,X.2.2,P.2.1)
def Hm (T C O X P:JV):JR CD:=
 if T.1≠4∨C.1≠4∨O.1≠4 then .error 4
 else if X.1≠0∧X.1≠2 then .error 4
 else if (X.2.2=true∧P.1≠4)∨(X.2.2=false∧P.1≠0) then .error 4
 else if T.2.1=tyC then Wr 1 C O X P else if T.2.1=tyG then Wr 2 C O X P else .error 3
def Xp (w:World)(a:Addr)(b:List Int):Prop:=a.spot=none∧a.block<w.heap.size∧∀j x,b[j]?=some x->w.cell? (a.add j)=some (.int .u8 x)
def ItP (w w':World)(r:JR CD)(e:Ending):Prop:=
 match r with
 |.ok (k,b,o,x,p)=>∃ad cap,e=.returned (.tuple #[.agg #[.int .i64 k,.slice (some ad) b.length cap,.string (Ab o),.bool x,.string (Ab p)],.int .i64 0])∧b.length<=cap∧w.heap.size<=ad.block∧Xp w' ad b
 |.error er=>er≠0∧e=.returned (.tuple #[.agg #[.int .i64 0,.slice none 0 0,.string ⟨#[]⟩,.bool false,.string ⟨#[]⟩],.int .i64 er])
def DbP (w w':World)(s:List Int)(e:Ending):Prop:=
 match Nt s with
 |none=>∃ad cap,e=.returned (.tuple #[.slice ad 0 cap,.int .i64 2])
 |some b=>∃ad cap,e=.returned (.tuple #[.slice ad b.length cap,.int .i64 0])∧(b≠[]->∃a,ad=some a∧b.length<=cap∧w.heap.size<=a.block∧Xp w' a b)
theorem ID {w:World}{b:Nat}{v:JV}(h:w.heap[b]?=some (Aes v)):w.cell? ⟨b,0,none⟩=some (.int .i64 v.1)∧w.cell? ⟨b,1,none⟩=some (.string (Ab v.2.1))∧w.cell? ⟨b,2,none⟩=some (.bool v.2.2):=by
 refine⟨?_,?_,?_⟩<;>(unfold World.cell?;simp only[h];rfl)
theorem Ai4 {w:World}{b:Nat}(h:w.heap[b]?=some cd0):(w.cell? ⟨b,0,none⟩=some (.int .i64 0)∧w.cell? ⟨b,1,none⟩=some (.slice none 0 0)∧w.cell? ⟨b,2,none⟩=some (.string ⟨#[]⟩)∧w.cell? ⟨b,3,none⟩=some (.bool false)∧w.cell? ⟨b,4,none⟩=some (.string ⟨#[]⟩))∧w.frozen? ⟨b,0,none⟩=false∧w.frozen? ⟨b,1,none⟩=false∧w.frozen? ⟨b,2,none⟩=false∧w.frozen? ⟨b,3,none⟩=false∧w.frozen? ⟨b,4,none⟩=false:=by
 refine⟨⟨?_,?_,?_,?_,?_⟩,?_,?_,?_,?_,?_⟩<;>first|(unfold World.cell?;simp only[h];rfl)|(unfold World.frozen?;simp only[h];rfl)
theorem Aeo (s:ByteArray):s.toList=s.data.toList:=by
 have h:∀(n i:Nat) (r:List UInt8),n=s.size-i->ByteArray.toList.loop s i r=r.reverse++s.data.toList.drop i:=by
  intro n
  induction n with
  |zero=>
   intro i r hn;unfold ByteArray.toList.loop;rw[Ct (by omega),List.drop_eq_nil_of_le (by rw[←Lib.size_eq];omega),List.append_nil]
  |succ n ih=>
   intro i r hn;have hi:i<s.size:=by omega
   unfold ByteArray.toList.loop;rw[Dy hi,ih (i+1) _ (by omega),List.reverse_cons,Zzv]
   congr 1
   have hl:i<s.data.toList.length:=by rw[←Lib.size_eq];exact hi
   rw[List.drop_eq_getElem_cons hl]
   have e:s.get! i=s.data.toList[i]:=by
    show (s.data[i]!)=_;rw[getElem!_pos s.data i hi];rfl
   rw[e];rfl
 have:=h _ 0 [] rfl;exact this
theorem FN {a b:List Int}(ha:Cx a)(hb:Cx b):((Ab a).toList==b.map fun n=>n.toNat.toUInt8)=decide (a=b):=by
 rw[Aeo,Bool.eq_iff_iff,beq_iff_eq,decide_eq_true_iff];constructor
 ·intro h;have e:Ab a=Ab b:=congrArg (fun l:List UInt8=>(⟨l.toArray⟩:ByteArray)) (show (Ab a).data.toList=(Ab b).data.toList from h)
  exact CK ha hb e
 ·rintro rfl;rfl
def A7x (w:World)(vT vC vO:JV)(s4 s5 s6:Value)(wx:World):Prop:=
 ∃bT bC bO,s4=.pointer (some ⟨bT,0,none⟩)∧s5=.pointer (some ⟨bC,0,none⟩)∧s6=.pointer (some ⟨bO,0,none⟩)∧w.heap.size<bT∧w.heap.size<bC∧w.heap.size<bO∧wx.heap[w.heap.size]?=some cd0∧wx.heap[bT]?=some (Aes vT)∧wx.heap[bC]?=some (Aes vC)∧wx.heap[bO]?=some (Aes vO)∧Below w.heap.size w wx
def A7k (w wc:World)(vX vP:JV)(s7 s8:Value)(wx:World):Prop:=
 ∃bX bP,s7=.pointer (some ⟨bX,0,none⟩)∧s8=.pointer (some ⟨bP,0,none⟩)∧wc.heap.size<=bX∧wc.heap.size<=bP∧wx.heap[bX]?=some (Aes vX)∧wx.heap[bP]?=some (Aes vP)∧Below wc.heap.size wc wx
theorem Aim {w:World}{b:Nat}{x0 x1 x2 x3 x4:Value}(h:w.heap[b]?=some (.cells #[x0,x1,x2,x3,x4] 31)):(w.cell? ⟨b,0,none⟩=some x0∧w.cell? ⟨b,1,none⟩=some x1∧w.cell? ⟨b,2,none⟩=some x2∧w.cell? ⟨b,3,none⟩=some x3∧w.cell? ⟨b,4,none⟩=some x4)∧w.frozen? ⟨b,0,none⟩=false∧w.frozen? ⟨b,1,none⟩=false∧w.frozen? ⟨b,2,none⟩=false∧w.frozen? ⟨b,3,none⟩=false∧w.frozen? ⟨b,4,none⟩=false:=by
 refine⟨⟨?_,?_,?_,?_,?_⟩,?_,?_,?_,?_,?_⟩<;>first|(unfold World.cell?;simp only[h];rfl)|(unfold World.frozen?;simp only[h];rfl)
theorem OQ {w:World}{b:Nat}{x0 x1 x2 x3 x4:Value}(h0:w.cell? ⟨b,0,none⟩=some x0)(h1:w.cell? ⟨b,1,none⟩=some x1)(h2:w.cell? ⟨b,2,none⟩=some x2)(h3:w.cell? ⟨b,3,none⟩=some x3)(h4:w.cell? ⟨b,4,none⟩=some x4):(loadVar 31 ⟨b,0,none⟩).run prog w=.ok (.agg #[x0,x1,x2,x3,x4]) w:=by
 have hf:∀j,j<5->w.cell? ((⟨b,0,none⟩:Addr).add j)=some (([x0,x1,x2,x3,x4][j]?).getD undef):=by
  intro j hj;rw[Er,WS]
  match j,hj with
  |0,_=>exact h0
  |1,_=>exact h1
  |2,_=>exact h2
  |3,_=>exact h3
  |4,_=>exact h4
 simp only[loadVar,Sem.run_bind,Tryz.isAgg31,Result.andThen_ok,if_true,Tryz.sizeOf31,run_loadCells w _ 5 _ hf];rfl
theorem E0 {w:World}{b i j:Nat}{v:Value}(h:i≠j):(w.setCell ⟨b,j,none⟩ v).cell? ⟨b,i,none⟩=w.cell? ⟨b,i,none⟩:=World.cell?_setCell_other _ _ _ _ (fun e=>h (by injection e with _ e2;exact e2.symm))
theorem Zz (w:World)(b:Nat)(x0 x1 x2 x3 x4:Value)(h:(w.cell? ⟨b,0,none⟩).isSome=true∧(w.cell? ⟨b,1,none⟩).isSome=true∧(w.cell? ⟨b,2,none⟩).isSome=true∧(w.cell? ⟨b,3,none⟩).isSome=true∧(w.cell? ⟨b,4,none⟩).isSome=true):(loadVar 31 ⟨b,0,none⟩).run prog (((((w.setCell ⟨b,0,none⟩ x0).setCell ⟨b,1,none⟩ x1).setCell ⟨b,2,none⟩ x2).setCell ⟨b,3,none⟩ x3).setCell ⟨b,4,none⟩ x4)=.ok (.agg #[x0,x1,x2,x3,x4]) (((((w.setCell ⟨b,0,none⟩ x0).setCell ⟨b,1,none⟩ x1).setCell ⟨b,2,none⟩ x2).setCell ⟨b,3,none⟩ x3).setCell ⟨b,4,none⟩ x4):=by
 obtain⟨g0,g1,g2,g3,g4⟩:=h;obtain⟨y0,g0⟩:=Option.isSome_iff_exists.1 g0;obtain⟨y1,g1⟩:=Option.isSome_iff_exists.1 g1;obtain⟨y2,g2⟩:=Option.isSome_iff_exists.1 g2;obtain⟨y3,g3⟩:=Option.isSome_iff_exists.1 g3;obtain⟨y4,g4⟩:=Option.isSome_iff_exists.1 g4;apply OQ
 ·rw[E0 (by decide),E0 (by decide),E0 (by decide),E0 (by decide)]
  exact World.cell?_setCell_same _ _ _ g0
 ·rw[E0 (by decide),E0 (by decide),E0 (by decide)]
  exact World.cell?_setCell_same _ _ _ ((E0 (by decide)).trans g1)
 ·rw[E0 (by decide),E0 (by decide)]
  exact World.cell?_setCell_same _ _ _ ((E0 (by decide)).trans ((E0 (by decide)).trans g2))
 ·rw[E0 (by decide)]
  exact World.cell?_setCell_same _ _ _ ((E0 (by decide)).trans ((E0 (by decide)).trans ((E0 (by decide)).trans g3)))
 ·exact World.cell?_setCell_same _ _ _ ((E0 (by decide)).trans ((E0 (by decide)).trans ((E0 (by decide)).trans ((E0 (by decide)).trans g4))))
theorem Jg {B:Nat}{a w:World}(h:Below B a w){b:Nat}(hb:B<=b)(x0 x1 x2 x3 x4:Value):Below B a (((((w.setCell ⟨b,0,none⟩ x0).setCell ⟨b,1,none⟩ x1).setCell ⟨b,2,none⟩ x2).setCell ⟨b,3,none⟩ x3).setCell ⟨b,4,none⟩ x4):=
 ((((h.setCell (p:=⟨b,0,none⟩) hb x0).setCell (p:=⟨b,1,none⟩) hb x1).setCell (p:=⟨b,2,none⟩) hb x2).setCell (p:=⟨b,3,none⟩) hb x3).setCell (p:=⟨b,4,none⟩) hb x4
theorem I1 {R:Ending->World->Prop}{a:Act}{W:World}{v:Value}{b:Nat}(h2:a.tmps.getD 2 undef=.pointer (some ⟨b,0,none⟩)) (hd:a.defers=[]) (hl:(loadVar 31 ⟨b,0,none⟩).run prog W=.ok v W) (hR:R (.returned (.tuple #[v,a.tmps.getD 3 undef])) W):bodyPost prog Tryz.f29 R .ret a W:=by
 refine bodyPost_ret ?_ hd hR;rw[results_cell_tmp rfl,h2];have e:(asAddr (.pointer (some ⟨b,0,none⟩))).run prog W=.ok ⟨b,0,none⟩ W:=rfl;rw[e,Result.andThen_ok,hl,Result.andThen_ok]
theorem Xp.below {w w':World}{a:Addr}{b:List Int}{B:Nat}(h:Xp w a b)(k:Below B w w')(ha:a.block<B):Xp w' a b:=
 ⟨h.1,Nat.lt_of_lt_of_le h.2.1 k.size,fun j x hx=>(k.cell (p:=a.add j) (by rw[E1];exact ha)).trans (h.2.2 j x hx)⟩
theorem Xp.set {w:World}{a:Addr}{b:List Int}{b0 j:Nat}{v:Value}(h:Xp w a b)(E2:a.block≠b0):Xp (w.setCell ⟨b0,j,none⟩ v) a b:=
 ⟨h.1,by rw[World.size_setCell];exact h.2.1,fun i x hx=>(World.cell?_setCell_other _ _ _ _ (fun e=>E2 (by rw[←E1 a i,←e]))).trans (h.2.2 i x hx)⟩
theorem Xp.set5 {w:World}{a:Addr}{b:List Int}{b0:Nat}{x0 x1 x2 x3 x4:Value}(h:Xp w a b)(E2:a.block≠b0):Xp (((((w.setCell ⟨b0,0,none⟩ x0).setCell ⟨b0,1,none⟩ x1).setCell ⟨b0,2,none⟩ x2).setCell ⟨b0,3,none⟩ x3).setCell ⟨b0,4,none⟩ x4) a b:=
 ((((h.set E2).set E2).set E2).set E2).set E2
def RC (w:World)(b:Nat):Prop:=(w.cell? ⟨b,0,none⟩=some (.int .i64 0)∧w.cell? ⟨b,1,none⟩=some (.slice none 0 0)∧w.cell? ⟨b,2,none⟩=some (.string ⟨#[]⟩)∧w.cell? ⟨b,3,none⟩=some (.bool false)∧w.cell? ⟨b,4,none⟩=some (.string ⟨#[]⟩))∧w.frozen? ⟨b,0,none⟩=false∧w.frozen? ⟨b,1,none⟩=false∧w.frozen? ⟨b,2,none⟩=false∧w.frozen? ⟨b,3,none⟩=false∧w.frozen? ⟨b,4,none⟩=false
theorem RC.below {w w':World}{b B:Nat}(h:RC w b)(k:Below B w w')(hb:b<B):RC w' b:=by
 have e:∀j,w'.cell? ⟨b,j,none⟩=w.cell? ⟨b,j,none⟩:=fun j=>k.cell (p:=⟨b,j,none⟩) hb
 have f:∀j,w'.frozen? ⟨b,j,none⟩=w.frozen? ⟨b,j,none⟩:=fun j=>k.frozen (p:=⟨b,j,none⟩) hb
 unfold RC;rw[e,e,e,e,e,f,f,f,f,f];exact h
theorem RC.some {w:World}{b:Nat}(h:RC w b):(w.cell? ⟨b,0,none⟩).isSome=true∧(w.cell? ⟨b,1,none⟩).isSome=true∧(w.cell? ⟨b,2,none⟩).isSome=true∧(w.cell? ⟨b,3,none⟩).isSome=true∧(w.cell? ⟨b,4,none⟩).isSome=true:=by
 obtain⟨⟨h0,h1,h2,h3,h4⟩,_⟩:=h;rw[h0,h1,h2,h3,h4];exact⟨rfl,rfl,rfl,rfl,rfl⟩
theorem Aqw {w:World}{b:Nat}{v:Value}{x:Obj}(hb:b<w.heap.size)(h:∃x0 x1 x2 x3 x4,v=.agg #[x0,x1,x2,x3,x4]∧w.cell? ⟨b,0,none⟩=some x0∧w.cell? ⟨b,1,none⟩=some x1∧w.cell? ⟨b,2,none⟩=some x2∧w.cell? ⟨b,3,none⟩=some x3∧w.cell? ⟨b,4,none⟩=some x4):(loadVar 31 ⟨b,0,none⟩).run prog (w.alloc x)=.ok v (w.alloc x):=by
 obtain⟨x0,x1,x2,x3,x4,rfl,h0,h1,h2,h3,h4⟩:=h;have k:Below w.heap.size w (w.alloc x):=(Below.refl _ w).alloc (Nat.le_refl _) _;exact OQ ((k.cell (p:=⟨b,0,none⟩) hb).trans h0) ((k.cell (p:=⟨b,1,none⟩) hb).trans h1) ((k.cell (p:=⟨b,2,none⟩) hb).trans h2) ((k.cell (p:=⟨b,3,none⟩) hb).trans h3) ((k.cell (p:=⟨b,4,none⟩) hb).trans h4)
theorem M2 (w:World)(b:Nat)(hb:b<w.heap.size)(x0 x1 x2 x3 x4:Value)(x:Obj)(h:RC w b):(loadVar 31 ⟨b,0,none⟩).run prog ((((((w.setCell ⟨b,0,none⟩ x0).setCell ⟨b,1,none⟩ x1).setCell ⟨b,2,none⟩ x2).setCell ⟨b,3,none⟩ x3).setCell ⟨b,4,none⟩ x4).alloc x)=.ok (.agg #[x0,x1,x2,x3,x4]) ((((((w.setCell ⟨b,0,none⟩ x0).setCell ⟨b,1,none⟩ x1).setCell ⟨b,2,none⟩ x2).setCell ⟨b,3,none⟩ x3).setCell ⟨b,4,none⟩ x4).alloc x):=by
 refine Aqw (by simp only[World.size_setCell];exact hb) ⟨x0,x1,x2,x3,x4,rfl,?_⟩
 obtain⟨⟨g0,g1,g2,g3,g4⟩,_⟩:=h;refine⟨?_,?_,?_,?_,?_⟩
 ·rw[E0 (by decide),E0 (by decide),E0 (by decide),E0 (by decide)]
  exact World.cell?_setCell_same _ _ _ g0
 ·rw[E0 (by decide),E0 (by decide),E0 (by decide)]
  exact World.cell?_setCell_same _ _ _ ((E0 (by decide)).trans g1)
 ·rw[E0 (by decide),E0 (by decide)]
  exact World.cell?_setCell_same _ _ _ ((E0 (by decide)).trans ((E0 (by decide)).trans g2))
 ·rw[E0 (by decide)]
  exact World.cell?_setCell_same _ _ _ ((E0 (by decide)).trans ((E0 (by decide)).trans ((E0 (by decide)).trans g3)))
 ·exact World.cell?_setCell_same _ _ _ ((E0 (by decide)).trans ((E0 (by decide)).trans ((E0 (by decide)).trans ((E0 (by decide)).trans g4))))
theorem Hi {B:Nat}{a w:World}(h:Below B a w){b:Nat}(hb:B<=b)(hB:B<=w.heap.size)(x0 x1 x2 x3 x4:Value)(x:Obj):Below B a ((((((w.setCell ⟨b,0,none⟩ x0).setCell ⟨b,1,none⟩ x1).setCell ⟨b,2,none⟩ x2).setCell ⟨b,3,none⟩ x3).setCell ⟨b,4,none⟩ x4).alloc x):=
 have k:=Jg h hb x0 x1 x2 x3 x4
 k.alloc (by simp only[World.size_setCell];exact hB) _
theorem Xp.set5al {w:World}{a:Addr}{b:List Int}{b0:Nat}{x0 x1 x2 x3 x4:Value}{x:Obj}(h:Xp w a b)(E2:a.block≠b0):Xp ((((((w.setCell ⟨b0,0,none⟩ x0).setCell ⟨b0,1,none⟩ x1).setCell ⟨b0,2,none⟩ x2).setCell ⟨b0,3,none⟩ x3).setCell ⟨b0,4,none⟩ x4).alloc x) a b:=
 have q:=h.set5 (x0:=x0) (x1:=x1) (x2:=x2) (x3:=x3) (x4:=x4) E2
 q.below ((Below.refl _ _).alloc (Nat.le_refl _) _) q.2.1
theorem al1 (w:World)(x:Obj):(w.alloc x).heap[w.heap.size]?=some x:=Array.getElem?_push_size
def okW (w:World):Prop:=gU.ok w∧∀k,gU.bl k->k<w.heap.size
theorem okW.below {w w':World}(h:okW w)(k:Below w.heap.size w w'):okW w':=⟨gU.stable w w' (fun j hj hl=>k.block j hl) h.1,fun j hj=>Nat.lt_of_lt_of_le (h.2 j hj) k.size⟩
set_option maxHeartbeats 8000000 in
theorem Ap7 (A4x:∀(W:World)(s:List Int),okW W->Cx s->s.length<=1000000->Calls prog 44 #[.string (Ab s)] W fun e w'=>Below W.heap.size W w'∧DbP W w' s e)
  (Aq3:∀(W:World)(s:List Int),okW W->Cx s->s.length<=1000000->Calls prog 30 #[.string (Ab s)] W fun e w'=>Below W.heap.size W w'∧∃o1 o2 o3,e=.returned (.tuple #[.agg #[.bool o1,.string o2,.int .i64 o3],.int .i64 (Ec s)]))
  {ms:List (List Int × JV)} (hB:∀m∈ms,Cx m.1) (hB2:∀m∈ms,Cx m.2.2.1∧m.2.2.1.length<=1000000) {mb:Nat} {w:World} (hU:okW w) (hM:FS w mb ms):
  Calls prog 29 #[.map (some mb)] w fun e w'=>Below w.heap.size w w'∧ItP w w' (Hm (Co Jx ms) (Co Nr ms) (Co Y0 ms) (Co X5 ms) (Co CH ms)) e:=by
 have hgB:∀nm,Cx (Co nm ms).2.1∧(Co nm ms).2.1.length<=1000000:=by
  intro nm;unfold Co Hx;cases hq:ms.find? fun m=>m.1==nm with
  |none=>exact⟨(fun x hx=>nomatch hx),Nat.zero_le _⟩
  |some m=>exact hB2 m (List.mem_of_find?_eq_some hq)
 obtain⟨hTB,hTL⟩:=hgB Jx;obtain⟨hCB,hCL⟩:=hgB Nr;obtain⟨hOB,hOL⟩:=hgB Y0;obtain⟨hXB,hXL⟩:=hgB X5;obtain⟨hPB,hPL⟩:=hgB CH;clear hgB;have mixed:prog.follows Departure.mixedOrders=true:=by kernel_rfl
 have key:∀{W:World},FS W mb ms->(Instr.lookup 55 (.map (some mb)) (.string ⟨#[116,121,112,101]⟩) false).run prog W=.ok (.agg #[.int .i64 (Co Jx ms).1,.string (Ab (Co Jx ms).2.1),.bool (Co Jx ms).2.2]) W∧(Instr.lookup 55 (.map (some mb)) (.string ⟨#[99,104,97,108,108,101,110,103,101]⟩) false).run prog W=.ok (.agg #[.int .i64 (Co Nr ms).1,.string (Ab (Co Nr ms).2.1),.bool (Co Nr ms).2.2]) W∧(Instr.lookup 55 (.map (some mb)) (.string ⟨#[111,114,105,103,105,110]⟩) false).run prog W=.ok (.agg #[.int .i64 (Co Y0 ms).1,.string (Ab (Co Y0 ms).2.1),.bool (Co Y0 ms).2.2]) W:=
  fun h=>⟨HH h hB (nm:=Jx) (fun x hx=>by simp[Jx] at hx;omega),HH h hB (nm:=Nr) (fun x hx=>by simp[Nr] at hx;omega),HH h hB (nm:=Y0) (fun x hx=>by simp[Y0] at hx;omega)⟩
 have key2:∀{W:World},FS W mb ms->(Instr.lookup 55 (.map (some mb)) (.string ⟨#[99,114,111,115,115,79,114,105,103,105,110]⟩) false).run prog W=.ok (.agg #[.int .i64 (Co X5 ms).1,.string (Ab (Co X5 ms).2.1),.bool (Co X5 ms).2.2]) W∧(Instr.lookup 55 (.map (some mb)) (.string ⟨#[116,111,112,79,114,105,103,105,110]⟩) false).run prog W=.ok (.agg #[.int .i64 (Co CH ms).1,.string (Ab (Co CH ms).2.1),.bool (Co CH ms).2.2]) W:=
  fun h=>⟨HH h hB (nm:=X5) (fun x hx=>by simp[X5] at hx;omega),HH h hB (nm:=CH) (fun x hx=>by simp[CH] at hx;omega)⟩
 have b0:Below w.heap.size w (w.alloc (.cells #[.int .i64 0,.slice none 0 0,.string ⟨#[]⟩,.bool false,.string ⟨#[]⟩] 31)):=(Below.refl _ w).alloc (Nat.le_refl _) _;have b1:=b0.alloc b0.size (.cells #[.int .i64 0,.string ⟨#[]⟩,.bool false] 89);have b2:=b1.alloc b1.size (.cells #[.int .i64 0,.string ⟨#[]⟩,.bool false] 89);have b3:=b2.alloc b2.size (.cells #[.int .i64 0,.string ⟨#[]⟩,.bool false] 89);obtain⟨k0,k1,k2⟩:=key (hM.below b0.drew);obtain⟨l0,l1,l2⟩:=key (hM.below b1.drew);obtain⟨m0,m1,m2⟩:=key (hM.below b2.drew);obtain⟨n0,n1,n2⟩:=key (hM.below b3.drew)
 have bb:∀x1 x2 x3,Below w.heap.size w ((((w.alloc (.cells #[.int .i64 0,.slice none 0 0,.string ⟨#[]⟩,.bool false,.string ⟨#[]⟩] 31)).alloc x1).alloc x2).alloc x3).drew:=fun x1 x2 x3=>by
  have c1:=b0.alloc b0.size x1;have c2:=c1.alloc c1.size x2;exact (c2.alloc c2.size x3).drew
 obtain⟨_,p1,q1⟩:=key (hM.below (bb (.cells #[.int .i64 (Co Jx ms).1,.string (Ab (Co Jx ms).2.1),.bool (Co Jx ms).2.2] 89) (.cells #[.int .i64 0,.string ⟨#[]⟩,.bool false] 89) (.cells #[.int .i64 0,.string ⟨#[]⟩,.bool false] 89)));obtain⟨_,p2,q2⟩:=key (hM.below (bb (.cells #[.int .i64 0,.string ⟨#[]⟩,.bool false] 89) (.cells #[.int .i64 (Co Jx ms).1,.string (Ab (Co Jx ms).2.1),.bool (Co Jx ms).2.2] 89) (.cells #[.int .i64 0,.string ⟨#[]⟩,.bool false] 89)));obtain⟨_,p3,q3⟩:=key (hM.below (bb (.cells #[.int .i64 0,.string ⟨#[]⟩,.bool false] 89) (.cells #[.int .i64 0,.string ⟨#[]⟩,.bool false] 89) (.cells #[.int .i64 (Co Jx ms).1,.string (Ab (Co Jx ms).2.1),.bool (Co Jx ms).2.2] 89)))
 obtain⟨_,_,q4⟩:=key (hM.below (bb (.cells #[.int .i64 (Co Jx ms).1,.string (Ab (Co Jx ms).2.1),.bool (Co Jx ms).2.2] 89) (.cells #[.int .i64 (Co Nr ms).1,.string (Ab (Co Nr ms).2.1),.bool (Co Nr ms).2.2] 89) (.cells #[.int .i64 0,.string ⟨#[]⟩,.bool false] 89)));obtain⟨_,_,q5⟩:=key (hM.below (bb (.cells #[.int .i64 (Co Jx ms).1,.string (Ab (Co Jx ms).2.1),.bool (Co Jx ms).2.2] 89) (.cells #[.int .i64 0,.string ⟨#[]⟩,.bool false] 89) (.cells #[.int .i64 (Co Nr ms).1,.string (Ab (Co Nr ms).2.1),.bool (Co Nr ms).2.2] 89)));obtain⟨_,_,q6⟩:=key (hM.below (bb (.cells #[.int .i64 (Co Nr ms).1,.string (Ab (Co Nr ms).2.1),.bool (Co Nr ms).2.2] 89) (.cells #[.int .i64 (Co Jx ms).1,.string (Ab (Co Jx ms).2.1),.bool (Co Jx ms).2.2] 89) (.cells #[.int .i64 0,.string ⟨#[]⟩,.bool false] 89)))
 obtain⟨_,_,q7⟩:=key (hM.below (bb (.cells #[.int .i64 (Co Nr ms).1,.string (Ab (Co Nr ms).2.1),.bool (Co Nr ms).2.2] 89) (.cells #[.int .i64 0,.string ⟨#[]⟩,.bool false] 89) (.cells #[.int .i64 (Co Jx ms).1,.string (Ab (Co Jx ms).2.1),.bool (Co Jx ms).2.2] 89)));obtain⟨_,_,q8⟩:=key (hM.below (bb (.cells #[.int .i64 0,.string ⟨#[]⟩,.bool false] 89) (.cells #[.int .i64 (Co Jx ms).1,.string (Ab (Co Jx ms).2.1),.bool (Co Jx ms).2.2] 89) (.cells #[.int .i64 (Co Nr ms).1,.string (Ab (Co Nr ms).2.1),.bool (Co Nr ms).2.2] 89)));obtain⟨_,_,q9⟩:=key (hM.below (bb (.cells #[.int .i64 0,.string ⟨#[]⟩,.bool false] 89) (.cells #[.int .i64 (Co Nr ms).1,.string (Ab (Co Nr ms).2.1),.bool (Co Nr ms).2.2] 89) (.cells #[.int .i64 (Co Jx ms).1,.string (Ab (Co Jx ms).2.1),.bool (Co Jx ms).2.2] 89)))
 have hbb:∀x1 x2 x3,Below w.heap.size w ((((w.alloc cd0).alloc x1).alloc x2).alloc x3).drew:=bb;clear key bb;generalize Co Jx ms=vT at *
 generalize Co Nr ms=vC at *
 generalize Co Y0 ms=vO at *
 generalize Co X5 ms=vX at *
 generalize Co CH ms=vP at *
 go_enter Tryz.func29,Tryz.ntmps29
 go_upto_region 1 with fail
 go_cut [4,5,6] (fun s4 s5 s6 wx=>A7x w vT vC vO s4 s5 s6 wx)
 case first=>
  go_region_o
  all_goals (go_wp2_with fail;go_meet;(refine⟨_,_,_,rfl,rfl,rfl,by omega,by omega,by omega,?_,?_,?_,?_,hbb _ _ _⟩<;>first|exact (al4 _ _ _ _ _).1|exact (al4 _ _ _ _ _).2.1|exact (al4 _ _ _ _ _).2.2.1|exact (al4 _ _ _ _ _).2.2.2))
 case rest=>
  rename World=>w2
  obtain⟨bT,bC,bO,rfl,rfl,rfl,hbT,hbC,hbO,hc,hT,hC,hO,hbw⟩:=hcut;clear k0 k1 k2 l0 l1 l2 m0 m1 m2 n0 n1 n2 p1 p2 p3 q1 q2 q3 q4 q5 q6 q7 q8 q9;have hMc:=hM.below hbw;have d1:Below w2.heap.size w2 (w2.alloc (.cells #[.int .i64 0,.string ⟨#[]⟩,.bool false] 89)):=(Below.refl _ w2).alloc (Nat.le_refl _) _;have d2:=d1.alloc d1.size (.cells #[.int .i64 0,.string ⟨#[]⟩,.bool false] 89)
  have dd:∀x1 x2,Below w2.heap.size w2 ((w2.alloc x1).alloc x2).drew:=fun x1 x2=>by
   have c1:Below w2.heap.size w2 (w2.alloc x1):=(Below.refl _ w2).alloc (Nat.le_refl _) _;exact (c1.alloc c1.size x2).drew
  obtain⟨k0,k1⟩:=key2 (hMc.below (Below.refl w2.heap.size w2).drew);obtain⟨l0,l1⟩:=key2 (hMc.below d1.drew);obtain⟨m0,m1⟩:=key2 (hMc.below d2.drew);obtain⟨_,p1⟩:=key2 (hMc.below (dd (.cells #[.int .i64 vX.1,.string (Ab vX.2.1),.bool vX.2.2] 89) (.cells #[.int .i64 0,.string ⟨#[]⟩,.bool false] 89)));obtain⟨_,p2⟩:=key2 (hMc.below (dd (.cells #[.int .i64 0,.string ⟨#[]⟩,.bool false] 89) (.cells #[.int .i64 vX.1,.string (Ab vX.2.1),.bool vX.2.2] 89)));clear key2
  go_upto_region 2 with fail
  go_cut [7,8] (fun s7 s8 wx=>A7k w w2 vX vP s7 s8 wx)
  case first=>
   go_region_o
   all_goals (go_wp2_with fail;go_meet;(refine⟨_,_,rfl,rfl,by omega,by omega,?_,?_,dd _ _⟩<;>first|exact (al2 _ _ _).1|exact (al2 _ _ _).2))
  case rest=>
   clear k0 k1 l0 l1 m0 m1 p1 p2;obtain⟨bX,bP,rfl,rfl,hbX,hbP,hX,hP,UR⟩:=hcut
   rename World=>wd
   have hwc:w.heap.size<w2.heap.size:=by
    rcases Nat.lt_or_ge w.heap.size w2.heap.size with q|q
    ·exact q
    ·rw[Array.getElem?_eq_none q] at hc;cases hc
   have Cb:∀{b:Nat} {o:Obj},w2.heap[b]?=some o->b<w2.heap.size:=fun {b o} h=>by
    rcases Nat.lt_or_ge b w2.heap.size with q|q
    ·exact q
    ·rw[Array.getElem?_eq_none q] at h;cases h
   obtain⟨⟨c0,c1,c2,c3,c4⟩,f0,f1,f2,f3,f4⟩:=Ai4 ((UR.block _ (Cb hc)).trans hc);have hrc:RC wd w.heap.size:=⟨⟨c0,c1,c2,c3,c4⟩,f0,f1,f2,f3,f4⟩;have hsm:=hrc.some;obtain⟨T0,T1,T2⟩:=ID ((UR.block _ (Cb hT)).trans hT);obtain⟨C0,C1,C2⟩:=ID ((UR.block _ (Cb hC)).trans hC);obtain⟨O0,O1,O2⟩:=ID ((UR.block _ (Cb hO)).trans hO);obtain⟨X0,X1,X2⟩:=ID hX;obtain⟨P0,P1,P2⟩:=ID hP;have WP:Below w.heap.size w wd:=hbw.trans ((UR).mono hbw.size);by_cases hT4:vT.1=4
   rotate_left
   ·have hq:(vT.1 != 4)=true:=by simp[hT4]
    have hI:Hm vT vC vO vX vP=.error 4:=by unfold Hm;rw[Dy (.inl hT4)]
    go_wp2
    (try simp only[Exit.inBlock,Exit.then])
    exact I1 (b:=w.heap.size) rfl rfl (Zz wd w.heap.size _ _ _ _ _ hsm) ⟨Jg WP (Nat.le_refl _) _ _ _ _ _,by rw[hI];exact⟨by decide,rfl⟩⟩
   by_cases hC4:vC.1=4
   rotate_left
   ·have hq:(vC.1 != 4)=true:=by simp[hC4]
    have hI:Hm vT vC vO vX vP=.error 4:=by unfold Hm;rw[Dy (.inr (.inl hC4))]
    go_wp2
    (try simp only[Exit.inBlock,Exit.then])
    exact I1 (b:=w.heap.size) rfl rfl (Zz wd w.heap.size _ _ _ _ _ hsm) ⟨Jg WP (Nat.le_refl _) _ _ _ _ _,by rw[hI];exact⟨by decide,rfl⟩⟩
   by_cases hO4:vO.1=4
   rotate_left
   ·have hq:(vO.1 != 4)=true:=by simp[hO4]
    have hI:Hm vT vC vO vX vP=.error 4:=by unfold Hm;rw[Dy (.inr (.inr hO4))]
    go_wp2
    (try simp only[Exit.inBlock,Exit.then])
    exact I1 (b:=w.heap.size) rfl rfl (Zz wd w.heap.size _ _ _ _ _ hsm) ⟨Jg WP (Nat.le_refl _) _ _ _ _ _,by rw[hI];exact⟨by decide,rfl⟩⟩
   have DZ:Hm vT vC vO vX vP=if vX.1≠0∧vX.1≠2 then .error 4
    else if (vX.2.2=true∧vP.1≠4)∨(vX.2.2=false∧vP.1≠0) then .error 4
    else if vT.2.1=tyC then Wr 1 vC vO vX vP else if vT.2.1=tyG then Wr 2 vC vO vX vP else .error 3:=by
    unfold Hm;rw[Ct (by rintro (h|h|h)<;>first|exact h hT4|exact h hC4|exact h hO4)]
   go_upto_region 5 with fail
   go_cut [47] (fun s47 wx=>∃q:Bool,s47=.bool q∧(q=true↔(vX.1≠0∧vX.1≠2))∧wx=wd)
   case first=>
    by_cases h0:vX.1=0
    ·have h1:(vX.1 != 0)=false:=by simp[h0]
     go_wp2_with fail
     go_meet
     exact⟨false,rfl,by simp[h0],rfl⟩
    ·have h1:(vX.1 != 0)=true:=by simp[h0]
     by_cases h2:vX.1=2
     ·have h3:(vX.1 != 2)=false:=by simp[h2]
      go_wp2_with fail
      go_meet
      exact⟨false,rfl,by simp[h2],rfl⟩
     ·have h3:(vX.1 != 2)=true:=by simp[h2]
      go_wp2_with fail
      go_meet
      exact⟨true,rfl,by simp[h0,h2],rfl⟩
   case rest=>
    obtain⟨q5,rfl,hq5,hwe⟩:=hcut;subst hwe;cases q5 with
    |true=>
     have hx1:=hq5.1 rfl;have hI:Hm vT vC vO vX vP=.error 4:=by rw[DZ,Dy hx1]
     go_wp2
     (try simp only[Exit.inBlock,Exit.then])
     exact I1 (b:=w.heap.size) rfl rfl (Zz wc w.heap.size _ _ _ _ _ hsm) ⟨Jg WP (Nat.le_refl _) _ _ _ _ _,by rw[hI];exact⟨by decide,rfl⟩⟩
    |false=>
     have hx1:¬(vX.1≠0∧vX.1≠2):=fun h=>Bool.noConfusion (hq5.2 h)
     rw[Ct hx1] at DZ
     go_upto_region 7 with fail
     go_cut [65] (fun s65 wx=>∃q:Bool,s65=.bool q∧(q=true↔((vX.2.2=true∧vP.1≠4)∨(vX.2.2=false∧vP.1≠0)))∧wx=wc)
     case first=>
      cases KQ:vX.2.2 with
      |true=>
       rw[KQ] at X2;by_cases h4:vP.1=4
       ·have h1:(vP.1 != 4)=false:=by simp[h4]
        go_wp2_with fail
        go_meet
        exact⟨false,rfl,by simp[h4,KQ],rfl⟩
       ·have h1:(vP.1 != 4)=true:=by simp[h4]
        go_wp2_with fail
        go_meet
        exact⟨true,rfl,by simp[h4,KQ],rfl⟩
      |false=>
       rw[KQ] at X2;by_cases h4:vP.1=0
       ·have h1:(vP.1 != 0)=false:=by simp[h4]
        go_wp2_with fail
        go_meet
        exact⟨false,rfl,by simp[h4,KQ],rfl⟩
       ·have h1:(vP.1 != 0)=true:=by simp[h4]
        go_wp2_with fail
        go_meet
        exact⟨true,rfl,by simp[h4,KQ],rfl⟩
     case rest=>
      obtain⟨q7,rfl,hq7,hwe⟩:=hcut;subst hwe;cases q7 with
      |true=>
       have Sf:=hq7.1 rfl;have hI:Hm vT vC vO vX vP=.error 4:=by rw[DZ,Dy Sf]
       go_wp2
       (try simp only[Exit.inBlock,Exit.then])
       exact I1 (b:=w.heap.size) rfl rfl (Zz wc w.heap.size _ _ _ _ _ hsm) ⟨Jg WP (Nat.le_refl _) _ _ _ _ _,by rw[hI];exact⟨by decide,rfl⟩⟩
      |false=>
       have Sf:¬((vX.2.2=true∧vP.1≠4)∨(vX.2.2=false∧vP.1≠0)):=fun h=>Bool.noConfusion (hq7.2 h)
       rw[Ct Sf] at DZ;clear hq5 hq7 hx1 Sf;have hwd:w.heap.size<wc.heap.size:=Nat.lt_of_lt_of_le hwc UR.size;have Bfm:bT<wc.heap.size:=Nat.lt_of_lt_of_le (Cb hT) UR.size;have Bey:bC<wc.heap.size:=Nat.lt_of_lt_of_le (Cb hC) UR.size;have hbC:((Ab vT.2.1).toList==[112,97,115,115,107,101,121,46,99,114,101,97,116,101])=decide (vT.2.1=tyC):=FN hTB (b:=tyC) (fun x hx=>by simp[tyC] at hx;omega)
       have hbG:((Ab vT.2.1).toList==[112,97,115,115,107,101,121,46,103,101,116])=decide (vT.2.1=tyG):=FN hTB (b:=tyG) (fun x hx=>by simp[tyG] at hx;omega)
       by_cases hTc:vT.2.1=tyC
       rotate_left
       ·rw[decide_eq_false hTc] at hbC;rw[Ct hTc] at DZ;by_cases hTg:vT.2.1=tyG
        rotate_left
        ·rw[decide_eq_false hTg] at hbG;have hI:Hm vT vC vO vX vP=.error 3:=by rw[DZ,Ct hTg]
         go_wp2
         (try simp only[Exit.inBlock,Exit.then])
         exact I1 (b:=w.heap.size) rfl rfl (M2 wc w.heap.size hwd _ _ _ _ _ _ hrc) ⟨Hi WP (Nat.le_refl _) WP.size _ _ _ _ _ _,by rw[hI];exact⟨by decide,rfl⟩⟩
        ·rw[decide_eq_true hTg] at hbG;rw[Dy hTg] at DZ;clear hTg hTc;have hbA:=WP.alloc WP.size (.cells #[.int .i64 2,.slice none 0 0,.string (Ab vO.2.1),.bool vX.2.2,.string (Ab vP.2.1)] 31);have hsA:(wc.alloc (.cells #[.int .i64 2,.slice none 0 0,.string (Ab vO.2.1),.bool vX.2.2,.string (Ab vP.2.1)] 31)).heap.size=wc.heap.size+1:=Array.size_push _;have hkA:=al1 wc (.cells #[.int .i64 2,.slice none 0 0,.string (Ab vO.2.1),.bool vX.2.2,.string (Ab vP.2.1)] 31);have hrA:=hrc.below ((Below.refl wc.heap.size wc).alloc (Nat.le_refl _) (.cells #[.int .i64 2,.slice none 0 0,.string (Ab vO.2.1),.bool vX.2.2,.string (Ab vP.2.1)] 31)) hwd
         go_wp2_with (go_at_call 44;refine (A4x _ vC.2.1 (hU.below hbA) hCB hCL).mono ?_)
         rintro e W3 ⟨Wg,QH⟩
         have Zi:Below w.heap.size w W3:=hbA.trans (Wg.mono hbA.size);have hr3:=hrA.below Wg (by rw[hsA];omega)
         have hm3:=hr3.some;obtain⟨⟨r30,r31,r32,r33,r34⟩,s30,s31,s32,s33,s34⟩:=hr3;have QV:wc.heap.size+1<=W3.heap.size:=by have:=Wg.size;rw[hsA] at this;exact this
         have Lk:=(Wg.block _ (by rw[hsA];omega)).trans hkA
         obtain⟨⟨k0,k1,k2,k3,k4⟩,kf0,kf1,kf2,kf3,kf4⟩:=Aim Lk;unfold DbP at QH;cases hdc:Nt vC.2.1 with
         |none=>
          rw[hdc] at QH;obtain⟨ad,capN,rfl⟩:=QH;have hI:Hm vT vC vO vX vP=.error 2:=by rw[DZ];unfold Wr;rw[hdc]
          go_wp2
          (try simp only[Exit.inBlock,Exit.then])
          exact I1 (b:=w.heap.size) rfl rfl (Zz W3 w.heap.size _ _ _ _ _ hm3) ⟨Jg Zi (Nat.le_refl _) _ _ _ _ _,by rw[hI];exact⟨by decide,rfl⟩⟩
         |some b=>
          rw[hdc] at QH;obtain⟨ad,cap,rfl,Qt⟩:=QH;by_cases E7:b.length<1
          ·have hI:Hm vT vC vO vX vP=.error 9:=by rw[DZ];unfold Wr;rw[hdc];simp only;rw[Dy (.inl E7)]
           have Se:(b.length:Int)<1:=by omega
           go_wp2
           (try simp only[Exit.inBlock,Exit.then])
           exact I1 (b:=w.heap.size) rfl rfl (Zz W3 w.heap.size _ _ _ _ _ hm3) ⟨Jg Zi (Nat.le_refl _) _ _ _ _ _,by rw[hI];exact⟨by decide,rfl⟩⟩
          by_cases H8:64<b.length
          ·have hI:Hm vT vC vO vX vP=.error 9:=by rw[DZ];unfold Wr;rw[hdc];simp only;rw[Dy (.inr H8)]
           have Se:¬(b.length:Int)<1:=by omega
           have Jm:(b.length:Int)>64:=by omega
           go_wp2
           (try simp only[Exit.inBlock,Exit.then])
           exact I1 (b:=w.heap.size) rfl rfl (Zz W3 w.heap.size _ _ _ _ _ hm3) ⟨Jg Zi (Nat.le_refl _) _ _ _ _ _,by rw[hI];exact⟨by decide,rfl⟩⟩
          have Se:¬(b.length:Int)<1:=by omega
          have Jm:¬(b.length:Int)>64:=by omega
          obtain⟨a,rfl,hac,haw,hla⟩:=Qt (by rintro rfl;exact E7 (by decide))
          have A6w:wc.heap.size+1<=a.block:=by rw[hsA] at haw;exact haw
          have YK:Hm vT vC vO vX vP=if Ec vO.2.1≠0 then .error (Ec vO.2.1) else if vX.2.2=true∧Ec vP.2.1≠0 then .error (Ec vP.2.1) else .ok (2,b,vO.2.1,vX.2.2,vP.2.1):=by
           rw[DZ];unfold Wr;rw[hdc];simp only;rw[Ct (by omega)]
          have DS:Below w.heap.size w (W3.setCell ⟨wc.heap.size,1,none⟩ (.slice (some a) b.length cap)):=Zi.setCell (p:=⟨wc.heap.size,1,none⟩) (Nat.le_of_lt hwd) _;have Ax2:Below wc.heap.size W3 (W3.setCell ⟨wc.heap.size,1,none⟩ (.slice (some a) b.length cap)):=(Below.refl wc.heap.size W3).setCell (p:=⟨wc.heap.size,1,none⟩) (Nat.le_refl _) _;have QU:=(show RC W3 w.heap.size from ⟨⟨r30,r31,r32,r33,r34⟩,s30,s31,s32,s33,s34⟩).below Ax2 hwd
          have Auz:=hla.set (b0:=wc.heap.size) (j:=1) (v:=.slice (some a) b.length cap) (by omega)
          have QK:(W3.setCell ⟨wc.heap.size,1,none⟩ (.slice (some a) b.length cap)).heap.size=W3.heap.size:=World.size_setCell ..;have j0:(W3.setCell ⟨wc.heap.size,1,none⟩ (.slice (some a) b.length cap)).cell? ⟨wc.heap.size,0,none⟩=some (.int .i64 2):=(E0 (by decide)).trans k0
          have j1:(W3.setCell ⟨wc.heap.size,1,none⟩ (.slice (some a) b.length cap)).cell? ⟨wc.heap.size,1,none⟩=some (.slice (some a) b.length cap):=World.cell?_setCell_same _ _ _ k1;have j2:(W3.setCell ⟨wc.heap.size,1,none⟩ (.slice (some a) b.length cap)).cell? ⟨wc.heap.size,2,none⟩=some (.string (Ab vO.2.1)):=(E0 (by decide)).trans k2
          have j3:(W3.setCell ⟨wc.heap.size,1,none⟩ (.slice (some a) b.length cap)).cell? ⟨wc.heap.size,3,none⟩=some (.bool vX.2.2):=(E0 (by decide)).trans k3
          have j4:(W3.setCell ⟨wc.heap.size,1,none⟩ (.slice (some a) b.length cap)).cell? ⟨wc.heap.size,4,none⟩=some (.string (Ab vP.2.1)):=(E0 (by decide)).trans k4
          go_wp2_with (go_at_call 30;refine (Aq3 _ vO.2.1 (hU.below DS) hOB hOL).mono ?_)
          rintro e W5 ⟨NJ,o1,o2,o3,rfl⟩
          have hs5:W3.heap.size<=W5.heap.size:=by have:=NJ.size;rw[QK] at this;exact this
          have Zu:Below w.heap.size w W5:=DS.trans (NJ.mono DS.size);have hr5:=QU.below NJ (by rw[QK];omega)
          have Axv:=hr5;obtain⟨⟨r50,r51,r52,r53,r54⟩,s50,s51,s52,s53,s54⟩:=Axv;have hw5:w.heap.size<W5.heap.size:=by omega
          have hc5:wc.heap.size<W5.heap.size:=by omega
          have YF:=Auz.below NJ (by rw[QK];exact hla.2.1)
          have I7:wc.heap.size<(W3.setCell ⟨wc.heap.size,1,none⟩ (.slice (some a) b.length cap)).heap.size:=by rw[QK];omega
          have i0:=(NJ.cell (p:=⟨wc.heap.size,0,none⟩) I7).trans j0;have i1:=(NJ.cell (p:=⟨wc.heap.size,1,none⟩) I7).trans j1;have i2:=(NJ.cell (p:=⟨wc.heap.size,2,none⟩) I7).trans j2;have i3:=(NJ.cell (p:=⟨wc.heap.size,3,none⟩) I7).trans j3;have i4:=(NJ.cell (p:=⟨wc.heap.size,4,none⟩) I7).trans j4;have hbL:=(Below.refl W5.heap.size W5).alloc (Nat.le_refl _) (.cells #[.bool o1,.string o2,.int .i64 o3] 52);have XW:Below w.heap.size w (W5.alloc (.cells #[.bool o1,.string o2,.int .i64 o3] 52)):=Zu.alloc Zu.size _;by_cases ho:Ec vO.2.1=0
          rotate_left
          ·have hoB:(Ec vO.2.1 != 0)=true:=by simp[ho]
           have hI:Hm vT vC vO vX vP=.error (Ec vO.2.1):=by rw[YK,Dy ho]
           go_wp2
           (try simp only[Exit.inBlock,Exit.then])
           exact I1 (b:=w.heap.size) rfl rfl (M2 W5 w.heap.size hw5 _ _ _ _ _ _ hr5) ⟨Hi Zu (Nat.le_refl _) Zu.size _ _ _ _ _ _,by rw[hI];exact⟨ho,rfl⟩⟩
          have hoB:(Ec vO.2.1 != 0)=false:=by simp[ho]
          rw[Ct (by simp[ho])] at YK
          have Amk:=YF.below hbL (by have:=YF.2.1;exact this)
          cases KQ:vX.2.2 with
          |false=>
           rw[KQ] at i3;have hI:Hm vT vC vO vX vP=.ok (2,b,vO.2.1,false,vP.2.1):=by rw[YK,Ct (by simp[KQ]),KQ]
           go_wp2
           (try simp only[Exit.inBlock,Exit.then])
           exact I1 (b:=w.heap.size) rfl rfl (M2 W5 w.heap.size hw5 _ _ _ _ _ _ hr5) ⟨Hi Zu (Nat.le_refl _) Zu.size _ _ _ _ _ _,by rw[hI];exact⟨a,cap,rfl,hac,by omega,YF.set5al (by omega)⟩⟩
          |true=>
           rw[KQ] at i3
           go_wp2_with (go_at_call 30;refine (Aq3 _ vP.2.1 (hU.below XW) hPB hPL).mono ?_)
           rintro e W7 ⟨hb7,p1,p2,p3,rfl⟩
           have hsL:(W5.alloc (.cells #[.bool o1,.string o2,.int .i64 o3] 52)).heap.size=W5.heap.size+1:=Array.size_push _;have Zv:Below w.heap.size w W7:=XW.trans (hb7.mono XW.size);have hr7:=(hr5.below hbL hw5).below hb7 (by rw[hsL];omega)
           have Azn:=hr7;obtain⟨⟨r70,r71,r72,r73,r74⟩,s70,s71,s72,s73,s74⟩:=Azn;have Aav:=Amk.below hb7 (by have:=Amk.2.1;exact this)
           have AC:=(hbL.trans (hb7.mono hbL.size));have l0:=(AC.cell (p:=⟨wc.heap.size,0,none⟩) (show wc.heap.size<W5.heap.size by omega)).trans i0
           have l1:=(AC.cell (p:=⟨wc.heap.size,1,none⟩) (show wc.heap.size<W5.heap.size by omega)).trans i1
           have l2:=(AC.cell (p:=⟨wc.heap.size,2,none⟩) (show wc.heap.size<W5.heap.size by omega)).trans i2
           have l3:=(AC.cell (p:=⟨wc.heap.size,3,none⟩) (show wc.heap.size<W5.heap.size by omega)).trans i3
           have l4:=(AC.cell (p:=⟨wc.heap.size,4,none⟩) (show wc.heap.size<W5.heap.size by omega)).trans i4
           have hs7:=AC.size;have hw7:w.heap.size<W7.heap.size:=by omega
           have hc7:wc.heap.size<W7.heap.size:=by omega
           have hbM:=(Below.refl W7.heap.size W7).alloc (Nat.le_refl _) (.cells #[.bool p1,.string p2,.int .i64 p3] 52);have A7c:Below w.heap.size w (W7.alloc (.cells #[.bool p1,.string p2,.int .i64 p3] 52)):=Zv.alloc Zv.size _;by_cases hp:Ec vP.2.1=0
           rotate_left
           ·have hoB:(Ec vP.2.1 != 0)=true:=by simp[hp]
            have hI:Hm vT vC vO vX vP=.error (Ec vP.2.1):=by rw[YK,Dy ⟨KQ,hp⟩]
            go_wp2
            (try simp only[Exit.inBlock,Exit.then])
            exact I1 (b:=w.heap.size) rfl rfl (M2 W7 w.heap.size hw7 _ _ _ _ _ _ hr7) ⟨Hi Zv (Nat.le_refl _) Zv.size _ _ _ _ _ _,by rw[hI];exact⟨hp,rfl⟩⟩
           have hpB:(Ec vP.2.1 != 0)=false:=by simp[hp]
           have Bcb:=Aav.below hbM (by have:=Aav.2.1;exact this)
           have hI:Hm vT vC vO vX vP=.ok (2,b,vO.2.1,true,vP.2.1):=by rw[YK,Ct (by simp[hp]),KQ]
           go_wp2
           (try simp only[Exit.inBlock,Exit.then])
           exact I1 (b:=w.heap.size) rfl rfl (M2 W7 w.heap.size hw7 _ _ _ _ _ _ hr7) ⟨Hi Zv (Nat.le_refl _) Zv.size _ _ _ _ _ _,by rw[hI];exact⟨a,cap,rfl,hac,by omega,Aav.set5al (by omega)⟩⟩
       ·rw[decide_eq_true hTc] at hbC;rw[Dy hTc] at DZ;clear hTc hbG;have hbA:=WP.alloc WP.size (.cells #[.int .i64 1,.slice none 0 0,.string (Ab vO.2.1),.bool vX.2.2,.string (Ab vP.2.1)] 31);have hsA:(wc.alloc (.cells #[.int .i64 1,.slice none 0 0,.string (Ab vO.2.1),.bool vX.2.2,.string (Ab vP.2.1)] 31)).heap.size=wc.heap.size+1:=Array.size_push _;have hkA:=al1 wc (.cells #[.int .i64 1,.slice none 0 0,.string (Ab vO.2.1),.bool vX.2.2,.string (Ab vP.2.1)] 31);have hrA:=hrc.below ((Below.refl wc.heap.size wc).alloc (Nat.le_refl _) (.cells #[.int .i64 1,.slice none 0 0,.string (Ab vO.2.1),.bool vX.2.2,.string (Ab vP.2.1)] 31)) hwd
        go_wp2_with (go_at_call 44;refine (A4x _ vC.2.1 (hU.below hbA) hCB hCL).mono ?_)
        rintro e W3 ⟨Wg,QH⟩
        have Zi:Below w.heap.size w W3:=hbA.trans (Wg.mono hbA.size);have hr3:=hrA.below Wg (by rw[hsA];omega)
        have hm3:=hr3.some;obtain⟨⟨r30,r31,r32,r33,r34⟩,s30,s31,s32,s33,s34⟩:=hr3;have QV:wc.heap.size+1<=W3.heap.size:=by have:=Wg.size;rw[hsA] at this;exact this
        have Lk:=(Wg.block _ (by rw[hsA];omega)).trans hkA
        obtain⟨⟨k0,k1,k2,k3,k4⟩,kf0,kf1,kf2,kf3,kf4⟩:=Aim Lk;unfold DbP at QH;cases hdc:Nt vC.2.1 with
        |none=>
         rw[hdc] at QH;obtain⟨ad,capN,rfl⟩:=QH;have hI:Hm vT vC vO vX vP=.error 2:=by rw[DZ];unfold Wr;rw[hdc]
         go_wp2
         (try simp only[Exit.inBlock,Exit.then])
         exact I1 (b:=w.heap.size) rfl rfl (Zz W3 w.heap.size _ _ _ _ _ hm3) ⟨Jg Zi (Nat.le_refl _) _ _ _ _ _,by rw[hI];exact⟨by decide,rfl⟩⟩
        |some b=>
         rw[hdc] at QH;obtain⟨ad,cap,rfl,Qt⟩:=QH;by_cases E7:b.length<1
         ·have hI:Hm vT vC vO vX vP=.error 9:=by rw[DZ];unfold Wr;rw[hdc];simp only;rw[Dy (.inl E7)]
          have Se:(b.length:Int)<1:=by omega
          go_wp2
          (try simp only[Exit.inBlock,Exit.then])
          exact I1 (b:=w.heap.size) rfl rfl (Zz W3 w.heap.size _ _ _ _ _ hm3) ⟨Jg Zi (Nat.le_refl _) _ _ _ _ _,by rw[hI];exact⟨by decide,rfl⟩⟩
         by_cases H8:64<b.length
         ·have hI:Hm vT vC vO vX vP=.error 9:=by rw[DZ];unfold Wr;rw[hdc];simp only;rw[Dy (.inr H8)]
          have Se:¬(b.length:Int)<1:=by omega
          have Jm:(b.length:Int)>64:=by omega
          go_wp2
          (try simp only[Exit.inBlock,Exit.then])
          exact I1 (b:=w.heap.size) rfl rfl (Zz W3 w.heap.size _ _ _ _ _ hm3) ⟨Jg Zi (Nat.le_refl _) _ _ _ _ _,by rw[hI];exact⟨by decide,rfl⟩⟩
         have Se:¬(b.length:Int)<1:=by omega
         have Jm:¬(b.length:Int)>64:=by omega
         obtain⟨a,rfl,hac,haw,hla⟩:=Qt (by rintro rfl;exact E7 (by decide))
         have A6w:wc.heap.size+1<=a.block:=by rw[hsA] at haw;exact haw
         have YK:Hm vT vC vO vX vP=if Ec vO.2.1≠0 then .error (Ec vO.2.1) else if vX.2.2=true∧Ec vP.2.1≠0 then .error (Ec vP.2.1) else .ok (1,b,vO.2.1,vX.2.2,vP.2.1):=by
          rw[DZ];unfold Wr;rw[hdc];simp only;rw[Ct (by omega)]
         have DS:Below w.heap.size w (W3.setCell ⟨wc.heap.size,1,none⟩ (.slice (some a) b.length cap)):=Zi.setCell (p:=⟨wc.heap.size,1,none⟩) (Nat.le_of_lt hwd) _;have Ax2:Below wc.heap.size W3 (W3.setCell ⟨wc.heap.size,1,none⟩ (.slice (some a) b.length cap)):=(Below.refl wc.heap.size W3).setCell (p:=⟨wc.heap.size,1,none⟩) (Nat.le_refl _) _;have QU:=(show RC W3 w.heap.size from ⟨⟨r30,r31,r32,r33,r34⟩,s30,s31,s32,s33,s34⟩).below Ax2 hwd
         have Auz:=hla.set (b0:=wc.heap.size) (j:=1) (v:=.slice (some a) b.length cap) (by omega)
         have QK:(W3.setCell ⟨wc.heap.size,1,none⟩ (.slice (some a) b.length cap)).heap.size=W3.heap.size:=World.size_setCell ..;have j0:(W3.setCell ⟨wc.heap.size,1,none⟩ (.slice (some a) b.length cap)).cell? ⟨wc.heap.size,0,none⟩=some (.int .i64 1):=(E0 (by decide)).trans k0
         have j1:(W3.setCell ⟨wc.heap.size,1,none⟩ (.slice (some a) b.length cap)).cell? ⟨wc.heap.size,1,none⟩=some (.slice (some a) b.length cap):=World.cell?_setCell_same _ _ _ k1;have j2:(W3.setCell ⟨wc.heap.size,1,none⟩ (.slice (some a) b.length cap)).cell? ⟨wc.heap.size,2,none⟩=some (.string (Ab vO.2.1)):=(E0 (by decide)).trans k2
         have j3:(W3.setCell ⟨wc.heap.size,1,none⟩ (.slice (some a) b.length cap)).cell? ⟨wc.heap.size,3,none⟩=some (.bool vX.2.2):=(E0 (by decide)).trans k3
         have j4:(W3.setCell ⟨wc.heap.size,1,none⟩ (.slice (some a) b.length cap)).cell? ⟨wc.heap.size,4,none⟩=some (.string (Ab vP.2.1)):=(E0 (by decide)).trans k4
         go_wp2_with (go_at_call 30;refine (Aq3 _ vO.2.1 (hU.below DS) hOB hOL).mono ?_)
         rintro e W5 ⟨NJ,o1,o2,o3,rfl⟩
         have hs5:W3.heap.size<=W5.heap.size:=by have:=NJ.size;rw[QK] at this;exact this
         have Zu:Below w.heap.size w W5:=DS.trans (NJ.mono DS.size);have hr5:=QU.below NJ (by rw[QK];omega)
         have Axv:=hr5;obtain⟨⟨r50,r51,r52,r53,r54⟩,s50,s51,s52,s53,s54⟩:=Axv;have hw5:w.heap.size<W5.heap.size:=by omega
         have hc5:wc.heap.size<W5.heap.size:=by omega
         have YF:=Auz.below NJ (by rw[QK];exact hla.2.1)
         have I7:wc.heap.size<(W3.setCell ⟨wc.heap.size,1,none⟩ (.slice (some a) b.length cap)).heap.size:=by rw[QK];omega
         have i0:=(NJ.cell (p:=⟨wc.heap.size,0,none⟩) I7).trans j0;have i1:=(NJ.cell (p:=⟨wc.heap.size,1,none⟩) I7).trans j1;have i2:=(NJ.cell (p:=⟨wc.heap.size,2,none⟩) I7).trans j2;have i3:=(NJ.cell (p:=⟨wc.heap.size,3,none⟩) I7).trans j3;have i4:=(NJ.cell (p:=⟨wc.heap.size,4,none⟩) I7).trans j4;have hbL:=(Below.refl W5.heap.size W5).alloc (Nat.le_refl _) (.cells #[.bool o1,.string o2,.int .i64 o3] 52);have XW:Below w.heap.size w (W5.alloc (.cells #[.bool o1,.string o2,.int .i64 o3] 52)):=Zu.alloc Zu.size _;by_cases ho:Ec vO.2.1=0
         rotate_left
         ·have hoB:(Ec vO.2.1 != 0)=true:=by simp[ho]
          have hI:Hm vT vC vO vX vP=.error (Ec vO.2.1):=by rw[YK,Dy ho]
          go_wp2
          (try simp only[Exit.inBlock,Exit.then])
          exact I1 (b:=w.heap.size) rfl rfl (M2 W5 w.heap.size hw5 _ _ _ _ _ _ hr5) ⟨Hi Zu (Nat.le_refl _) Zu.size _ _ _ _ _ _,by rw[hI];exact⟨ho,rfl⟩⟩
         have hoB:(Ec vO.2.1 != 0)=false:=by simp[ho]
         rw[Ct (by simp[ho])] at YK
         have Amk:=YF.below hbL (by have:=YF.2.1;exact this)
         cases KQ:vX.2.2 with
         |false=>
          rw[KQ] at i3;have hI:Hm vT vC vO vX vP=.ok (1,b,vO.2.1,false,vP.2.1):=by rw[YK,Ct (by simp[KQ]),KQ]
          go_wp2
          (try simp only[Exit.inBlock,Exit.then])
          exact I1 (b:=w.heap.size) rfl rfl (M2 W5 w.heap.size hw5 _ _ _ _ _ _ hr5) ⟨Hi Zu (Nat.le_refl _) Zu.size _ _ _ _ _ _,by rw[hI];exact⟨a,cap,rfl,hac,by omega,YF.set5al (by omega)⟩⟩
         |true=>
          rw[KQ] at i3
          go_wp2_with (go_at_call 30;refine (Aq3 _ vP.2.1 (hU.below XW) hPB hPL).mono ?_)
          rintro e W7 ⟨hb7,p1,p2,p3,rfl⟩
          have hsL:(W5.alloc (.cells #[.bool o1,.string o2,.int .i64 o3] 52)).heap.size=W5.heap.size+1:=Array.size_push _;have Zv:Below w.heap.size w W7:=XW.trans (hb7.mono XW.size);have hr7:=(hr5.below hbL hw5).below hb7 (by rw[hsL];omega)
          have Azn:=hr7;obtain⟨⟨r70,r71,r72,r73,r74⟩,s70,s71,s72,s73,s74⟩:=Azn;have Aav:=Amk.below hb7 (by have:=Amk.2.1;exact this)
          have AC:=(hbL.trans (hb7.mono hbL.size));have l0:=(AC.cell (p:=⟨wc.heap.size,0,none⟩) (show wc.heap.size<W5.heap.size by omega)).trans i0
          have l1:=(AC.cell (p:=⟨wc.heap.size,1,none⟩) (show wc.heap.size<W5.heap.size by omega)).trans i1
          have l2:=(AC.cell (p:=⟨wc.heap.size,2,none⟩) (show wc.heap.size<W5.heap.size by omega)).trans i2
          have l3:=(AC.cell (p:=⟨wc.heap.size,3,none⟩) (show wc.heap.size<W5.heap.size by omega)).trans i3
          have l4:=(AC.cell (p:=⟨wc.heap.size,4,none⟩) (show wc.heap.size<W5.heap.size by omega)).trans i4
          have hs7:=AC.size;have hw7:w.heap.size<W7.heap.size:=by omega
          have hc7:wc.heap.size<W7.heap.size:=by omega
          have hbM:=(Below.refl W7.heap.size W7).alloc (Nat.le_refl _) (.cells #[.bool p1,.string p2,.int .i64 p3] 52);have A7c:Below w.heap.size w (W7.alloc (.cells #[.bool p1,.string p2,.int .i64 p3] 52)):=Zv.alloc Zv.size _;by_cases hp:Ec vP.2.1=0
          rotate_left
          ·have hoB:(Ec vP.2.1 != 0)=true:=by simp[hp]
           have hI:Hm vT vC vO vX vP=.error (Ec vP.2.1):=by rw[YK,Dy ⟨KQ,hp⟩]
           go_wp2
           (try simp only[Exit.inBlock,Exit.then])
           exact I1 (b:=w.heap.size) rfl rfl (M2 W7 w.heap.size hw7 _ _ _ _ _ _ hr7) ⟨Hi Zv (Nat.le_refl _) Zv.size _ _ _ _ _ _,by rw[hI];exact⟨hp,rfl⟩⟩
          have hpB:(Ec vP.2.1 != 0)=false:=by simp[hp]
          have Bcb:=Aav.below hbM (by have:=Aav.2.1;exact this)
          have hI:Hm vT vC vO vX vP=.ok (1,b,vO.2.1,true,vP.2.1):=by rw[YK,Ct (by simp[hp]),KQ]
          go_wp2
          (try simp only[Exit.inBlock,Exit.then])
          exact I1 (b:=w.heap.size) rfl rfl (M2 W7 w.heap.size hw7 _ _ _ _ _ _ hr7) ⟨Hi Zv (Nat.le_refl _) Zv.size _ _ _ _ _ _,by rw[hI];exact⟨a,cap,rfl,hac,by omega,Aav.set5al (by omega)⟩⟩
end
section
open Go.Proofs.Tryz (prog)
open Go.IntKind (wrap)
set_option maxRecDepth 1000000
open Go Go.RowKit Go.Lib
def QQ (L:Nat)(s:List Int):Prop:=Cx s∧s.length<=4*L
theorem GN:∀(n:Nat)(out l s q:List Int),Cx l->Fq n out l=(some s,q)->s.length<=out.length+4*l.length
  |0,_,_,_,_,_,h=>by cases h
  |_+1,_,[],_,_,_,h=>by cases h
  |n+1,out,c::l,s,q,hl,h=>by
    have e:Fq (n+1) out (c::l)=if c<32 then (none,c::l) else if c=34 then (some out,l) else if c=92 then
        (match Lb l with
         |(some x,r')=>Fq n (out++Lib.encodeRuneZ x) r'
         |(none,r')=>(none,r')) else Fq n (out++[c]) l:=rfl
    have Ru:=Bq hl
    rw[e] at h
    split at h
    · cases h
    split at h
    · cases h;simp
    split at h
    · have h2:=Sp (Dm.self Ru.2)
      rcases hq:Lb l with⟨o,r⟩
      rw[hq] at h2 h
      cases o with
      |none=>cases h
      |some x=>
        have:=GN n _ r s q h2.B h
        have h3:=Lib.encodeRuneZ_length x
        have h4:r.length<=l.length:=h2.le
        simp at this ⊢
        omega
    · have:=GN n _ l s q Ru.2 h
      simp at this ⊢
      omega
theorem TZ {l s q:List Int}(hl:Cx l)(h:Ev l=(some s,q)):QQ l.length s:=by
 refine⟨Acs hl h,?_⟩;cases l with
 |nil=>cases h
 |cons c l=>
  have e:Ev (c::l)=if c=34 then Fq (l.length+1) [] l else (none,c::l):=rfl
  rw[e] at h;split at h
  ·have:=GN _ _ _ _ _ (Bq hl).2 h;simp at this ⊢;omega
  ·cases h
theorem QQ.mono {L M:Nat}{s:List Int}(h:QQ L s)(hm:L<=M):QQ M s:=⟨h.1,by have:=h.2;omega⟩
theorem QQ.nil (L:Nat):QQ L []:=⟨(fun x hx=>nomatch hx),Nat.zero_le _⟩
theorem Aix {l r:List Int}{v:JV}(hl:Cx l)(hs:l.length<=1000000)(h:Dj 8 l=.ok (v,r)):Dm (Ab l) r:=by
 obtain⟨res,_,hr⟩:=Asg (fu:=1000001) (d:=0) (t:=Ab l) (by rw[Af];exact hs) (by rw[Af];omega) 8 1 (by omega) (by omega) l (Dm.self hl)
 rw[h] at hr;exact hr.1
theorem Aoi:∀{k:Nat}{l r:List Int}{v:JV},Cx l->Dj k l=.ok (v,r)->QQ l.length v.2.1:=by
 intro k l r v hl h;unfold Dj at h;split at h
 ·split at h
  ·cases h
  ·split at h
   ·cases h
   ·cases h;exact QQ.nil _
 ·split at h
  ·cases h
  ·split at h
   ·cases h
   ·cases h;exact QQ.nil _
 ·rename_i r0;unfold Rr at h;rcases hq:Ev (34::r0) with⟨o,q⟩;rw[hq] at h;cases o with
  |none=>cases h
  |some s=>cases h;exact TZ hl hq
 ·repeat' split at h
  all_goals first|(cases h;exact QQ.nil _)|cases h
theorem Aqy {L:Nat}(hL:L<=1000000):∀(n:Nat)(ms:List (List Int × JV)) (l r:List Int)(ms':List (List Int × JV)),Cx l->l.length<=L->(∀m∈ms,QQ L m.1∧QQ L m.2.2.1)->Oh (Dj 8) true n ms l=.ok (ms',r)->∀m∈ms',QQ L m.1∧QQ L m.2.2.1:=by
 intro n
 induction n with
 |zero=>intro ms l r ms' _ _ _ h;cases h
 |succ n ih=>
  intro ms l r ms' hl hs hm h;rw[Np] at h;rcases hx:Ev l with⟨o,q⟩;rw[hx] at h;cases o with
  |none=>cases h
  |some nm=>
   have JI:=TZ hl hx;have hq:=Ho (Dm.self hl);rw[hx] at hq;simp only at h;split at h
   ·cases h
   cases h1:Ao [58] (A3 q) with
   |none=>rw[h1] at h;cases h
   |some r1=>
    rw[h1] at h;have IQ:=Bu (Av (Bu hq) h1);simp only at h;cases hv:Dj 8 (A3 r1) with
    |error e=>rw[hv] at h;cases h
    |ok x=>
     obtain⟨v,r2⟩:=x;rw[hv] at h;have CJ:=IQ.le;have hvo:=Aoi IQ.B hv;have MM:=IQ.trans (Aix IQ.B (by omega) hv)
     have N3:∀m∈ms++[(nm,v)],QQ L m.1∧QQ L m.2.2.1:=by
      intro m J1;rcases List.mem_append.1 J1 with J1|J1
      ·exact hm m J1
      ·simp at J1;subst J1;exact⟨JI.mono hs,hvo.mono (by omega)⟩
     simp only at h;cases h2:Ao [125] (A3 r2) with
     |some r3=>rw[h2] at h;cases h;exact N3
     |none=>
      rw[h2] at h;simp only at h;cases h3:Ao [44] (A3 r2) with
      |none=>rw[h3] at h;cases h
      |some r3=>
       rw[h3] at h;have hr3:=Bu (Av (Bu MM) h3);exact ih _ _ _ _ hr3.B (by have:=hr3.le;omega) N3 h
theorem Anx {l:List Int}{ms:List (List Int × JV)} (hl:Cx l)(hs:l.length<=1000000)(h:AW 8 l=.ok ms):∀m∈ms,QQ l.length m.1∧QQ l.length m.2.2.1:=by
 rw[Ue] at h;have h0:=Bu (Dm.self hl);cases h1:Ao [123] (A3 l) with
 |none=>rw[h1] at h;cases h
 |some r=>
  rw[h1] at h;have hr:=Av h0 h1;simp only at h;rw[Mz] at h;have MM:=Bu hr;cases h2:Ao [125] (A3 r) with
  |some r'=>
   rw[h2] at h;simp only at h;split at h
   ·cases h;exact fun m hm=>by cases hm
   ·cases h
  |none=>
   rw[h2] at h;simp only at h;cases h3:Oh (Dj 8) true ((A3 r).length+1) [] (A3 r) with
   |error e=>rw[h3] at h;cases h
   |ok x=>
    obtain⟨ms',r'⟩:=x;rw[h3] at h;simp only at h;split at h
    ·cases h;exact Aqy hs _ _ _ _ _ MM.B MM.le (fun m hm=>by cases hm) h3
    ·cases h
def Jd (ms:List (List Int × JV)):JR CD:=Hm (Co Jx ms) (Co Nr ms) (Co Y0 ms) (Co X5 ms) (Co CH ms)
def G7 (t:ByteArray):JR CD:=
 if 1024<t.size then .error 8 else if Lib.validD t.data.toList=false then .error 6 else match AW 8 (Fn t) with
  |.error e=>.error e
  |.ok ms=>Jd ms
theorem Ann {G:Xg}{P:Program}{f:FuncId}{args vals:List PV}{us rs:List Value}(hs:Dh G P f args ⟨vals,[]⟩) (ha:Bh HW args us)(hr:Bh HW vals rs)
  {w:World} (hG:G.ok w) (hGl:∀k,G.bl k->k<w.heap.size):Calls P f us.toArray w fun e w'=>e=.returned (H1 rs)∧Below w.heap.size w w':=by
 have hi:Ins w (fun _=>False) VZ args us:=⟨fun _ h=>h.elim,fun _ h=>h.elim,fun k h=>absurd h (Qe k),fun i j i' j' b o o' h=>(by cases h),fun i q h=>(by cases h),Yh ha⟩
 refine (hs.2 w _ _ _ hi hG (fun k hk=>⟨hGl k hk,Qe k⟩)).mono ?_
 rintro e w' ⟨ws,own,rfl,out⟩
 have hv:=FE hr out.vals;subst hv;exact⟨rfl,out.os,out.tape,out.output,out.ext.size,fun k hk=>out.ext.keep k hk (Qe k)⟩
theorem Ago (W:World)(s:List Int)(hW:okW W)(hB:Cx s)(hs:s.length<=1000000):Calls prog 30 #[.string (Ab s)] W fun e w'=>Below W.heap.size W w'∧∃o1 o2 o3,e=.returned (.tuple #[.agg #[.bool o1,.string o2,.int .i64 o3],.int .i64 (Ec s)]):=by
 obtain⟨o1,o2,o3,e⟩:=Ar3 (fu:=1000001) (d:=0) (p:=none) hB hs (by omega)
 have hsd:Dh gU prog 30 [.sc (.string (Ab s))] ⟨[.agg ([Value.bool o1,.string o2,.int .i64 o3].map .sc),.sc (.int .i64 (Ec s))],[]⟩:=Iy ngR mxR Awk 7 _ _ _ e;refine (Ann (us:=[.string (Ab s)]) (rs:=[.agg #[.bool o1,.string o2,.int .i64 o3],.int .i64 (Ec s)]) hsd ⟨.inl rfl,trivial⟩ ⟨.inr ⟨_,rfl,rfl⟩,.inl rfl,trivial⟩ hW.1 hW.2).mono ?_
 rintro e w' ⟨rfl,hb⟩
 exact⟨hb,o1,o2,o3,rfl⟩
theorem Afi (W:World)(s:List Int)(hW:okW W)(hB:Cx s)(hs:s.length<=1000000):Calls prog 44 #[.string (Ab s)] W fun e w'=>Below W.heap.size W w'∧DbP W w' s e:=by
 have e:=Ax8 (fu:=1000001) (d:=0) (p:=none) hB hs (by omega) (by omega)
 have hi:Ins W (fun _=>False) VZ [.sc (.string (Ab s))] [.string (Ab s)]:=⟨fun _ h=>h.elim,fun _ h=>h.elim,fun k h=>absurd h (Qe k),fun i j i' j' b o o' h=>(by cases h),fun i q h=>(by cases h),Yh (show Bh HW [.sc (.string (Ab s))] [.string (Ab s)] from ⟨.inl rfl,trivial⟩)⟩
 have hsd:Dh gU prog 44 [.sc (.string (Ab s))] _:=Iy ngR mxR Awk 3 _ _ _ e;refine (hsd.2 W _ _ _ hi hW.1 (fun k hk=>⟨hW.2 k hk,Qe k⟩)).mono ?_
 rintro e w' ⟨ws,own,rfl,out⟩
 refine⟨⟨out.os,out.tape,out.output,out.ext.size,fun k hk=>out.ext.keep k hk (Qe k)⟩,?_⟩
 have hv:=out.vals;have hfr:=out.fresh;generalize hA:GQ VZ own (fun _=>False)=A at hv
 unfold DbP;cases hd:Nt s with
 |none=>
  rw[hd] at hv
  match ws,hv with
  |[u1,u2],hv=>
   obtain⟨h1,h2,_⟩:=hv;have e2:u2=.int .i64 2:=Ay.val (show Ay w' A (.sc (.int .i64 2)) u2 from h2)
   rcases (show Gd w' A (own 0) (.own 1 0 []) u1 from h1) with⟨_,_,_,ad,rfl⟩|⟨b,o,cap,ho,rfl,h⟩
   ·rw[e2];exact⟨ad,0,rfl⟩
   ·rw[e2];exact⟨_,cap,rfl⟩
  |[],hv=>exact hv.elim
  |[_],hv=>exact hv.2.elim
  |_::_::_::_,hv=>exact hv.2.2.elim
 |some b=>
  rw[hd] at hv
  match ws,hv with
  |[u1,u2],hv=>
   obtain⟨h1,h2,_⟩:=hv;have e2:u2=.int .i64 0:=Ay.val (show Ay w' A (.sc (.int .i64 0)) u2 from h2)
   rw[e2];rcases (show Gd w' A (own 0) (.own 1 b.length (Bl .u8 b)) u1 from h1) with⟨_,hn,_,ad,rfl⟩|⟨bb,o,cap,ho,rfl,hc,hf,Cb,hr,hz⟩
   ·have JS:b=[]:=List.eq_nil_of_length_eq_zero hn;subst JS;exact⟨ad,0,rfl,fun h=>absurd rfl h⟩
   ·refine⟨some ⟨bb,o,none⟩,cap,rfl,fun _=>⟨⟨bb,o,none⟩,rfl,hc,?_,rfl,Cb,fun j x hx=>?_⟩⟩
    ·have:=(hfr 0 bb o ho).2;rcases Nat.lt_or_ge bb W.heap.size with q|q
     ·obtain⟨⟨i,k,o',h⟩,_⟩:=this q;cases h
     ·exact q
    ·have hj:(Bl .u8 b)[j]?=some (.sc (.int .u8 x)):=by
      rw[Qf,List.getElem?_map,hx];rfl
     obtain⟨v,hv1,_,hv2⟩:=hr j _ hj;rw[hv1];exact congrArg some hv2.val
  |[],hv=>exact hv.elim
  |[_],hv=>exact hv.2.elim
  |_::_::_::_,hv=>exact hv.2.2.elim
def PaP (w w':World)(t:ByteArray)(e:Ending):Prop:=ItP w w' (G7 t) e
theorem SO {R:Ending->World->Prop}{a:Act}{W:World}{v:Value}{b:Nat}(h2:a.tmps.getD 2 undef=.pointer (some ⟨b,0,none⟩)) (hd:a.defers=[]) (hl:(loadVar 31 ⟨b,0,none⟩).run prog W=.ok v W) (hR:R (.returned (.tuple #[v,a.tmps.getD 3 undef])) W):bodyPost prog Tryz.f13 R .ret a W:=by
 refine bodyPost_ret ?_ hd hR;rw[results_cell_tmp rfl,h2];have e:(asAddr (.pointer (some ⟨b,0,none⟩))).run prog W=.ok ⟨b,0,none⟩ W:=rfl;rw[e,Result.andThen_ok,hl,Result.andThen_ok]
def VsP (w w':World)(t:ByteArray)(e:Ending):Prop:=e=.returned (.bool (Lib.validD t.data.toList))∧Below w.heap.size w w'
def RtQ (w w':World)(t:ByteArray)(e:Ending):Prop:=Below w.heap.size w w'∧RtP w' (Fn t) e
def ItQ (w w':World)(r:JR CD)(e:Ending):Prop:=Below w.heap.size w w'∧ItP w w' r e
set_option maxHeartbeats 4000000 in
theorem Aon {t:ByteArray}(ht:t.size<=9223372036854775807){w:World}(hU:okW w):Calls prog 13 #[.string t] w fun e w'=>Below w.heap.size w w'∧PaP w w' t e:=by
 have mixed:prog.follows Departure.mixedOrders=true:=by kernel_rfl
 have E7:Below w.heap.size w (w.alloc (.cells #[.int .i64 0,.slice none 0 0,.string ⟨#[]⟩,.bool false,.string ⟨#[]⟩] 31)):=(Below.refl _ w).alloc (Nat.le_refl _) _;have hg1:=al1 w (.cells #[.int .i64 0,.slice none 0 0,.string ⟨#[]⟩,.bool false,.string ⟨#[]⟩] 31);have hs1:(w.alloc (.cells #[.int .i64 0,.slice none 0 0,.string ⟨#[]⟩,.bool false,.string ⟨#[]⟩] 31)).heap.size=w.heap.size+1:=Array.size_push _;have IQ:RC (w.alloc (.cells #[.int .i64 0,.slice none 0 0,.string ⟨#[]⟩,.bool false,.string ⟨#[]⟩] 31)) w.heap.size:=Ai4 hg1;have hU1:=hU.below E7
 have hvc:Calls prog 27 #[.string t] (w.alloc (.cells #[.int .i64 0,.slice none 0 0,.string ⟨#[]⟩,.bool false,.string ⟨#[]⟩] 31)) fun e w'=>VsP (w.alloc (.cells #[.int .i64 0,.slice none 0 0,.string ⟨#[]⟩,.bool false,.string ⟨#[]⟩] 31)) w' t e:=(Any.utf8_ValidString laysVS t (w.alloc (.cells #[.int .i64 0,.slice none 0 0,.string ⟨#[]⟩,.bool false,.string ⟨#[]⟩] 31)) ht hU1.1.2.2).mono (fun _ _ h=>h)
 go_enter Tryz.func13,Tryz.ntmps13
 by_cases C6:1024<t.size
 ·have hI:G7 t=.error 8:=by unfold G7;rw[Dy C6]
  have hq:(t.size:Int)>1024:=by omega
  go_wp2
  (try simp only[Exit.inBlock,Exit.then])
  obtain⟨⟨r0,r1,r2,r3,r4⟩,_⟩:=IQ;exact SO (b:=w.heap.size) rfl rfl (OQ r0 r1 r2 r3 r4) ⟨E7,by unfold PaP;rw[hI];exact⟨by decide,rfl⟩⟩
 have hq:¬(t.size:Int)>1024:=by omega
 go_wp2_with (go_at_call 27;refine hvc.mono ?_)
 rintro e W2 ⟨rfl,H8⟩
 have An9:Below w.heap.size w W2:=E7.trans (H8.mono E7.size);have MM:=IQ.below H8 (by rw[hs1];omega)
 have Vm:w.heap.size+1<=W2.heap.size:=by have:=H8.size;rw[hs1] at this;exact this
 have TB:w.heap.size<W2.heap.size:=by omega
 have hU2:=hU.below An9;cases hvd:Lib.validD t.data.toList with
 |false=>
  have hI:G7 t=.error 6:=by unfold G7;rw[Ct C6,hvd,Dy rfl]
  obtain⟨⟨r0,r1,r2,r3,r4⟩,s0,s1,s2,s3,s4⟩:=id MM
  go_wp2
  (try simp only[Exit.inBlock,Exit.then])
  exact SO (b:=w.heap.size) rfl rfl (Zz W2 w.heap.size _ _ _ _ _ MM.some) ⟨Jg An9 (Nat.le_refl _) _ _ _ _ _,by unfold PaP;rw[hI];exact⟨by decide,rfl⟩⟩
 |true=>
  have DZ:G7 t=match AW 8 (Fn t) with | .error e=>.error e | .ok ms=>Jd ms:=by unfold G7;rw[Ct C6,hvd,Ct (by decide)]
  have hrt:Calls prog 28 #[.string t] W2 fun e w'=>RtQ W2 w' t e:=Ape (by omega) hU2.1 hU2.2
  go_wp2_with (go_at_call 28;refine hrt.mono ?_)
  rintro e W3 ⟨Wg,QH⟩
  have Zi:Below w.heap.size w W3:=An9.trans (Wg.mono An9.size);have hr3:=MM.below Wg TB;have hw3:w.heap.size<W3.heap.size:=Nat.lt_of_lt_of_le TB Wg.size;have hU3:=hU.below Zi;unfold RtP at QH;cases Ats:AW 8 (Fn t) with
  |error er=>
   rw[Ats] at QH DZ;obtain⟨he,m,rfl⟩:=QH;have hbe:(er != (0:Int))=true:=by simp[he]
   obtain⟨⟨r0,r1,r2,r3,r4⟩,s0,s1,s2,s3,s4⟩:=id hr3
   go_wp2
   (try simp only[Exit.inBlock,Exit.then])
   exact SO (b:=w.heap.size) rfl rfl (Zz W3 w.heap.size _ _ _ _ _ hr3.some) ⟨Jg Zi (Nat.le_refl _) _ _ _ _ _,by unfold PaP;rw[DZ];exact⟨he,rfl⟩⟩
  |ok ms=>
   rw[Ats] at QH DZ;obtain⟨mb,rfl,hM3⟩:=QH;have My:(Fn t).length<=1000000:=by rw[Qm];omega
   have hok:=Anx (QL t) My Ats;have hl4:4*(Fn t).length<=1000000:=by rw[Qm];omega
   have O7:Calls prog 29 #[.map (some mb)] W3 fun e w'=>ItQ W3 w' (Jd ms) e:=Ap7 Afi Ago (fun m hm=>(hok m hm).1.1) (fun m hm=>⟨(hok m hm).2.1,by have:=(hok m hm).2.2;omega⟩) hU3 hM3
   go_wp2_with (go_at_call 29;refine O7.mono ?_)
   rintro e W4 ⟨hb4,hp4⟩
   have DS:Below w.heap.size w W4:=Zi.trans (hb4.mono Zi.size);have QU:=hr3.below hb4 hw3;have hw4:w.heap.size<W4.heap.size:=Nat.lt_of_lt_of_le hw3 hb4.size;unfold ItP at hp4;cases WW:Jd ms with
   |error er=>
    rw[WW] at hp4 DZ;obtain⟨he,rfl⟩:=hp4;have hbe:(er != (0:Int))=true:=by simp[he]
    obtain⟨⟨r0,r1,r2,r3,r4⟩,s0,s1,s2,s3,s4⟩:=id QU
    go_wp2
    (try simp only[Exit.inBlock,Exit.then])
    exact SO (b:=w.heap.size) rfl rfl (M2 W4 w.heap.size hw4 _ _ _ _ _ _ QU) ⟨Hi DS (Nat.le_refl _) DS.size _ _ _ _ _ _,by unfold PaP;rw[DZ];exact⟨he,rfl⟩⟩
   |ok x=>
    obtain⟨k,b,o,x,p⟩:=x;rw[WW] at hp4 DZ;obtain⟨ad,cap,rfl,hc,hwa,hla⟩:=hp4;obtain⟨⟨r0,r1,r2,r3,r4⟩,s0,s1,s2,s3,s4⟩:=id QU
    go_wp2
    (try simp only[Exit.inBlock,Exit.then])
    exact SO (b:=w.heap.size) rfl rfl (M2 W4 w.heap.size hw4 _ _ _ _ _ _ QU) ⟨Hi DS (Nat.le_refl _) DS.size _ _ _ _ _ _,by unfold PaP;rw[DZ];exact⟨ad,cap,rfl,hc,by omega,hla.set5al (by omega)⟩⟩
def F2 (args:List PV):Option Ap:=
 match args with
 |[.sc (.string t)]=>bif decide (t.size<=9223372036854775807) then some (match G7 t with
  |.ok (k,b,o,x,p)=>⟨[.agg [.sc (.int .i64 k),.lst false 1 b.length (Bl .u8 b),.sc (.string (Ab o)),.sc (.bool x),.sc (.string (Ab p))],.sc (.int .i64 0)],[]⟩
  |.error e=>⟨[.agg [.sc (.int .i64 0),.lst false 1 0 [],.sc (.string ⟨#[]⟩),.sc (.bool false),.sc (.string ⟨#[]⟩)],.sc (.int .i64 e)],[]⟩) else none
 |_=>none
theorem GU {w w':World}{Y:Nat->Prop}{bt:Zn}{args vals:List PV}{vs:List Value}(hb:Below w.heap.size w w')(hv:LH w' (GQ bt (fun _=>none) Y) (fun _=>none) w.heap.size 0 vals vs) (ho:Vk w' (GQ bt (fun _=>none) Y) (fun _=>none) bt (Ls vals) 0 args []):
  Out w w' Y bt args (fun _=>none) ⟨vals,[]⟩ vs where
 os:=hb.os
 tape:=hb.tape
 output:=hb.output
 ext:=⟨hb.size,fun b h _=>hb.block b h,fun b h=>Hh.same (hb.block b h)⟩
 rng:=fun b j h _=>⟨by unfold World.cell?;simp only[hb.block b h],by unfold World.frozen?;simp only[hb.block b h]⟩
 vals:=hv
 outs:=ho
 fresh:=fun j b o h=>by cases h
 inj:=fun j j' b o o' h=>by cases h
theorem VM (args:List PV)(res:Ap)(h:F2 args=some res):Dh gU prog 13 args res:=by
 refine⟨⟨_,Tryz.func13,by kernel_rfl⟩,fun w Y bt us hi hok hgl=>?_⟩
 unfold F2 at h;split at h
 rotate_left
 ·cases h
 rename_i t;cases hq:decide (t.size<=9223372036854775807)
 ·rw[hq] at h;cases h
 rw[hq,cond_true] at h;have hs:=of_decide_eq_true hq;have ps:=hi.args
 match us,ps with
 |[u],ps=>
  have hu:u=.string t:=Ay.val (show Ay w _ (.sc (.string t)) u from ps.1.2)
  subst hu;refine (Aon hs ⟨hok,fun k hk=>(hgl k hk).1⟩).mono ?_
  rintro e w' ⟨hb,hp⟩
  unfold PaP at hp;unfold ItP at hp;cases DC:G7 t with
  |error er=>
   rw[DC] at hp h;obtain⟨_,rfl⟩:=hp;cases h;refine⟨[.agg #[.int .i64 0,.slice none 0 0,.string ⟨#[]⟩,.bool false,.string ⟨#[]⟩],.int .i64 er],fun _=>none,rfl,GU hb ⟨⟨_,rfl,?_⟩,Ay.sc _,trivial⟩ rfl⟩
   exact⟨Ay.sc _,Ay.lnil _ _,Ay.sc _,Ay.sc _,Ay.sc _,trivial⟩
  |ok x=>
   obtain⟨k,b,o,x,p⟩:=x;rw[DC] at hp h;obtain⟨ad,cap,rfl,hc,hwa,hla⟩:=hp;cases h;refine⟨[.agg #[.int .i64 k,.slice (some ad) b.length cap,.string (Ab o),.bool x,.string (Ab p)],.int .i64 0],fun _=>none,rfl,GU hb ⟨⟨_,rfl,?_⟩,Ay.sc _,trivial⟩ rfl⟩
   refine⟨Ay.sc _,?_,Ay.sc _,Ay.sc _,Ay.sc _,trivial⟩;refine Ay.lst 1 b.length (Bl .u8 b) ad cap (fun j=>.int .u8 (b.getD j 0)) hla.1 hla.2.1 ?_ hc ?_ ?_ ?_
   ·rintro (⟨j,o,h⟩|⟨i,o,h⟩|h)
    ·cases h
    ·have:=hi.lt ad.block ⟨i,0,o,h⟩;omega
    ·have:=hi.Ylt _ h;omega
   ·intro j c hj;rw[Qf,List.getElem?_map] at hj;obtain⟨y,hy,rfl⟩:=Option.map_eq_some_iff.1 hj;rw[hla.2.2 j y hy];simp[List.getD_eq_getElem?_getD,hy]
   ·intro j c hj;rfl
   ·intro j c hj;rw[Qf,List.getElem?_map] at hj;obtain⟨y,hy,rfl⟩:=Option.map_eq_some_iff.1 hj;have:b.getD j 0=y:=by simp[List.getD_eq_getElem?_getD,hy]
    rw[this];exact Ay.sc _
 |[],ps=>exact ps.elim
 |_::_::_,ps=>exact ps.2.elim
abbrev C1:G1:=CP (some F2)
theorem extV:KF gU prog C1:=As1 (fun g h args res hg=>by cases h;exact VM args res hg)
end
section
open Go.Proofs.Tryz (prog)
open Go.IntKind (wrap)
set_option maxRecDepth 100000
abbrev Hz:FuncId:=19
noncomputable def Cq (fu:Nat)(call:Am)(Hg:Nat)(a0:List PV)(nn y0:Nat)(y1:List PV)(y2:ByteArray)(y3:Int):Option Ap:=Fh CB prog fu call 19 Tryz.f19 (D2 Tryz.f19) [.lst false 1 Hg a0] [.r,.r,.l,.r,.l] nn ⟨lk [(0,(.lst false 1 y0 y1)),(3,(.sc (.string y2))),(4,(.sc (.int .i64 y3)))],Iw []⟩
noncomputable def B5 (fu:Nat)(call:Am)(Hg:Nat)(a0:List PV)(m0 nn y0:Nat)(y1:List PV)(y2:ByteArray)(y3 y4 y5:Int):Option Ap:=Fh CB prog fu call 19 Tryz.f19 (D2 Tryz.f19) [.lst false 1 Hg a0] [.r,.r,.l,.r,.l,.i m0,.r,.l,.l,.r,.r,.r,.r,.l] nn ⟨lk [(0,(.lst false 1 y0 y1)),(3,(.sc (.string y2))),(4,(.sc (.int .i64 y3))),(5,(.sc (.int .u64 y4))),(6,(.sc (.int .i64 y5)))],Iw []⟩
theorem Es (fu:Nat)(call:Am)(Hg:Nat)(a0:List PV)(nn y0:Nat)(y1:List PV)(y2:ByteArray)(y3:Int):Cq fu call Hg a0 (nn+1) y0 y1 y2 y3=(Ba (decide (y3<(↑y0:Int))) (A2 (decide (0<=y3)&&decide (y3<(↑y0:Int)))<|Aj .u8 (List.getD y1 (Int.toNat y3*1) .top) fun x1=>Ac (wrap .u64 x1) fun x2=>Ac (Ka .u64 x2 16) fun x3=>Ac (wrap .i64 (y3+1)) fun x4=>Ba (decide (x4<(↑y0:Int))) (Ac (wrap .i64 (y3+1)) fun x5=>A2 (decide (0<=x5)&&decide (x5<(↑y0:Int)))<|Aj .u8 (List.getD y1 (Int.toNat x5*1) .top) fun x6=>Ac (wrap .u64 x6) fun x7=>Ac (Ka .u64 x7 8) fun x8=>Ac (QM .u64 x3 x8) fun x9=>Ac (wrap .i64 (y3+2)) fun E4=>Ba (decide (E4<(↑y0:Int))) (Ac (wrap .i64 (y3+2)) fun Is=>A2 (decide (0<=Is)&&decide (Is<(↑y0:Int)))<|Aj .u8 (List.getD y1 (Int.toNat Is*1) .top) fun Iu=>Ac (wrap .u64 Iu) fun Ey=>Ac (QM .u64 x9 Ey) fun Gt=>B5 fu call Hg a0 nn (fu) (y0) (y1) (y2) (y3) Gt 0) (B5 fu call Hg a0 nn (fu) (y0) (y1) (y2) (y3) x9 0)) (Ac (wrap .i64 (y3+2)) fun Ja=>Ba (decide (Ja<(↑y0:Int))) (Ac (wrap .i64 (y3+2)) fun Gs=>A2 (decide (0<=Gs)&&decide (Gs<(↑y0:Int)))<|Aj .u8 (List.getD y1 (Int.toNat Gs*1) .top) fun Hk=>Ac (wrap .u64 Hk) fun I6=>Ac (QM .u64 x3 I6) fun H9=>B5 fu call Hg a0 nn (fu) (y0) (y1) (y2) (y3) H9 0) (B5 fu call Hg a0 nn (fu) (y0) (y1) (y2) (y3) x3 0))) (some (Ap.mk [.sc (.string y2)] []))):=by kernel_rfl
theorem Gl (fu:Nat)(call:Am)(Hg:Nat)(a0:List PV)(m0 nn y0:Nat)(y1:List PV)(y2:ByteArray)(y3 y4 y5:Int):B5 fu call Hg a0 m0 (nn+1) y0 y1 y2 y3 y4 y5=(Ba (decide (y5<4)) (Ac (wrap .i64 ((↑y0:Int)-y3)) fun I9=>Ba (decide (y5<=I9)) (Ac (wrap .u64 y5) fun I5=>Ac (wrap .u64 (6*I5)) fun Jr=>Ac (wrap .u64 (18-Jr)) fun I4=>A2 (decide (0<=I4))<|Ac (Ut .u64 y4 I4) fun Hw=>Ac (JN .u64 Hw 63) fun Iz=>Ac (wrap .u64 (Iz+1)) fun Kr=>A2 (decide (0<=Iz))<|A2 (decide (0<=Kr))<|A2 (decide (Int.toNat Iz<=Int.toNat Kr)&&decide (Int.toNat Kr<=64))<|Ac (ByteArray.extract (ByteArray.mk #[65,66,67,68,69,70,71,72,73,74,75,76,77,78,79,80,81,82,83,84,85,86,87,88,89,90,97,98,99,100,101,102,103,104,105,106,107,108,109,110,111,112,113,114,115,116,117,118,119,120,121,122,48,49,50,51,52,53,54,55,56,57,45,95]) Iz.toNat Kr.toNat) fun L1=>A2 (decide (ByteArray.size y2+ByteArray.size L1<=9223372036854775807))<|Ac (y2++L1) fun Ms=>Ac (wrap .i64 (y5+1)) fun L6=>B5 fu call Hg a0 m0 (nn) (y0) (y1) Ms (y3) (y4) L6) (Ac (wrap .i64 (y3+3)) fun N4=>Cq fu call Hg a0 (m0) (y0) (y1) (y2) N4)) (Ac (wrap .i64 (y3+3)) fun N1=>Cq fu call Hg a0 (m0) (y0) (y1) (y2) N1)):=by kernel_rfl
theorem Of {p:Option (List PV->Option Ap)} (fu d Hg:Nat)(a0:List PV):Ae (CP p) prog fu (d+1) Hz [.lst false 1 Hg a0]=(fun (call:Am)=>Cq fu call Hg a0 (fu) (Hg) (a0) (ByteArray.mk #[]) 0) (Ae (CP p) prog fu d):=by kernel_rfl
abbrev Jz:FuncId:=25
theorem R4 {p:Option (List PV->Option Ap)} (fu d:Nat)(a0:Int):Ae (CP p) prog fu (d+1) Jz [.sc (.int .i64 a0)]=(fun (call:Am)=>Ba (a0==1) (some (Ap.mk [.sc (.string (ByteArray.mk #[112,97,115,115,107,101,121,46,99,114,101,97,116,101]))] [])) (Ba (a0==2) (some (Ap.mk [.sc (.string (ByteArray.mk #[112,97,115,115,107,101,121,46,103,101,116]))] [])) (some (Ap.mk [.sc (.string (ByteArray.mk #[]))] [])))) (Ae (CP p) prog fu d):=by kernel_rfl
abbrev Qp:FuncId:=14
theorem Io {p:Option (List PV->Option Ap)} (fu d:Nat)(Bg:Int)(K3:Nat)(Bf:List PV)(Oe:ByteArray)(Tp:Bool)(Mb:ByteArray)(Nu:Int)(G0:Nat)(Lt:List PV)(Mn:ByteArray)(Ma:Bool)(Mq:ByteArray):Ae (CP p) prog fu (d+1) Qp [.agg [.sc (.int .i64 Bg),.lst false 1 K3 Bf,.sc (.string Oe),.sc (.bool Tp),.sc (.string Mb)],.agg [.sc (.int .i64 Nu),.lst false 1 G0 Lt,.sc (.string Mn),.sc (.bool Ma),.sc (.string Mq)]]=(fun (call:Am)=>Ba (Bg==Nu) (A2 (decide (Bf.length=K3))<|C5 (Kn Bf) fun x1=>A2 (decide (Lt.length=G0))<|C5 (Kn Lt) fun x2=>Ba (Array.toList (ByteArray.data (ByteArray.mk (List.toArray x1)))==Array.toList (ByteArray.data (ByteArray.mk (List.toArray x2)))) (Ba (Array.toList (ByteArray.data Oe)==Array.toList (ByteArray.data Mn)) (Ba (Tp==Ma) (some (Ap.mk [.sc (.bool (Array.toList (ByteArray.data Mb)==Array.toList (ByteArray.data Mq)))] [])) (some (Ap.mk [.sc (.bool false)] []))) (some (Ap.mk [.sc (.bool false)] []))) (some (Ap.mk [.sc (.bool false)] []))) (some (Ap.mk [.sc (.bool false)] []))) (Ae (CP p) prog fu d):=by kernel_rfl
abbrev Vg:FuncId:=15
theorem Uy {p:Option (List PV->Option Ap)} (fu d:Nat)(Bg:Int)(K3:Nat)(Bf:List PV)(Oe:ByteArray)(Tp:Bool)(Mb:ByteArray):Ae (CP p) prog fu (d+1) Vg [.agg [.sc (.int .i64 Bg),.lst false 1 K3 Bf,.sc (.string Oe),.sc (.bool Tp),.sc (.string Mb)]]=(fun (call:Am)=>Ba (Bg==1) (Ba (decide ((↑K3:Int)<1)) (some (Ap.mk [.sc (.string (ByteArray.mk #[])),.sc (.int .i64 9)] [])) (Ba (decide ((↑K3:Int)>64)) (some (Ap.mk [.sc (.string (ByteArray.mk #[])),.sc (.int .i64 9)] [])) (Ah (call 30 [.sc (.string Oe)]) fun x1 x2=>Ad x2<|Aa x1 fun x3 x4=>F7 x3 fun x5=>Aa x5 fun x6 x7=>Aq x6 fun x8=>Aa x7 fun x9 E4=>Ar x9 fun Is=>Aa E4 fun Iu Ey=>Aj .i64 Iu fun Gt=>Ad Ey<|Aa x4 fun Ja Gs=>Aj .i64 Ja fun Hk=>Ad Gs<|Ba (Hk != 0) (some (Ap.mk [.sc (.string (ByteArray.mk #[])),.sc (.int .i64 Hk)] [])) (Ba (!Array.toList (ByteArray.data Mb)==Array.toList (ByteArray.data (ByteArray.mk #[]))) (Ba (!Tp) (some (Ap.mk [.sc (.string (ByteArray.mk #[])),.sc (.int .i64 4)] [])) (Ah (call 31 [.lst false 1 K3 Bf]) fun I6 H9=>Ad H9<|Aa I6 fun I9 I5=>Ar I9 fun Jr=>Ad I5<|A2 (decide (38+ByteArray.size Jr<=9223372036854775807))<|Ac (ByteArray.mk #[123,34,116,121,112,101,34,58,34]++ByteArray.mk #[112,97,115,115,107,101,121,46,99,114,101,97,116,101]++ByteArray.mk #[34,44,34,99,104,97,108,108,101,110,103,101,34,58,34]++Jr) fun I4=>A2 (decide (ByteArray.size I4+12<=9223372036854775807))<|Ac (I4++ByteArray.mk #[34,44,34,111,114,105,103,105,110,34,58,34]) fun Hw=>A2 (decide (ByteArray.size Hw+ByteArray.size Oe<=9223372036854775807))<|Ac (Hw++Oe) fun Iz=>Ba (!Tp) (A2 (decide (ByteArray.size Iz+22<=9223372036854775807))<|Ac (Iz++ByteArray.mk #[34,44,34,99,114,111,115,115,79,114,105,103,105,110,34,58,102,97,108,115,101,125]) fun Kr=>some (Ap.mk [.sc (.string Kr),.sc (.int .i64 0)] [])) (Ah (call 30 [.sc (.string Mb)]) fun L1 Ms=>Ad Ms<|Aa L1 fun L6 N4=>F7 L6 fun N1=>Aa N1 fun Pf N6=>Aq Pf fun O4=>Aa N6 fun Pq Pm=>Ar Pq fun Q2=>Aa Pm fun Qs Pi=>Aj .i64 Qs fun Vw=>Ad Pi<|Aa N4 fun Xj Pb=>Aj .i64 Xj fun Pp=>Ad Pb<|Ba (Pp != 0) (some (Ap.mk [.sc (.string (ByteArray.mk #[])),.sc (.int .i64 Pp)] [])) (A2 (decide (ByteArray.size Iz+34<=9223372036854775807))<|Ac (Iz++ByteArray.mk #[34,44,34,99,114,111,115,115,79,114,105,103,105,110,34,58,116,114,117,101,44,34,116,111,112,79,114,105,103,105,110,34,58,34]) fun V7=>A2 (decide (ByteArray.size V7+ByteArray.size Mb<=9223372036854775807))<|Ac (V7++Mb) fun Vn=>A2 (decide (ByteArray.size Vn+2<=9223372036854775807))<|Ac (Vn++ByteArray.mk #[34,125]) fun Xv=>some (Ap.mk [.sc (.string Xv),.sc (.int .i64 0)] []))))) (Ah (call 31 [.lst false 1 K3 Bf]) fun Yb X9=>Ad X9<|Aa Yb fun Vp Wb=>Ar Vp fun Xh=>Ad Wb<|A2 (decide (38+ByteArray.size Xh<=9223372036854775807))<|Ac (ByteArray.mk #[123,34,116,121,112,101,34,58,34]++ByteArray.mk #[112,97,115,115,107,101,121,46,99,114,101,97,116,101]++ByteArray.mk #[34,44,34,99,104,97,108,108,101,110,103,101,34,58,34]++Xh) fun Oa=>A2 (decide (ByteArray.size Oa+12<=9223372036854775807))<|Ac (Oa++ByteArray.mk #[34,44,34,111,114,105,103,105,110,34,58,34]) fun R8=>A2 (decide (ByteArray.size R8+ByteArray.size Oe<=9223372036854775807))<|Ac (R8++Oe) fun Xk=>Ba (!Tp) (A2 (decide (ByteArray.size Xk+22<=9223372036854775807))<|Ac (Xk++ByteArray.mk #[34,44,34,99,114,111,115,115,79,114,105,103,105,110,34,58,102,97,108,115,101,125]) fun DJ=>some (Ap.mk [.sc (.string DJ),.sc (.int .i64 0)] [])) (Ah (call 30 [.sc (.string Mb)]) fun BW Z9=>Ad Z9<|Aa BW fun Z5 EJ=>F7 Z5 fun FH=>Aa FH fun EZ MC=>Aq EZ fun RX=>Aa MC fun ND JK=>Ar ND fun PQ=>Aa JK fun KP NQ=>Aj .i64 KP fun QW=>Ad NQ<|Aa EJ fun QA LQ=>Aj .i64 QA fun JF=>Ad LQ<|Ba (JF != 0) (some (Ap.mk [.sc (.string (ByteArray.mk #[])),.sc (.int .i64 JF)] [])) (A2 (decide (ByteArray.size Xk+34<=9223372036854775807))<|Ac (Xk++ByteArray.mk #[34,44,34,99,114,111,115,115,79,114,105,103,105,110,34,58,116,114,117,101,44,34,116,111,112,79,114,105,103,105,110,34,58,34]) fun FM=>A2 (decide (ByteArray.size FM+ByteArray.size Mb<=9223372036854775807))<|Ac (FM++Mb) fun KK=>A2 (decide (ByteArray.size KK+2<=9223372036854775807))<|Ac (KK++ByteArray.mk #[34,125]) fun LO=>some (Ap.mk [.sc (.string LO),.sc (.int .i64 0)] [])))))))) (Ba (Bg==2) (Ba (decide ((↑K3:Int)<1)) (some (Ap.mk [.sc (.string (ByteArray.mk #[])),.sc (.int .i64 9)] [])) (Ba (decide ((↑K3:Int)>64)) (some (Ap.mk [.sc (.string (ByteArray.mk #[])),.sc (.int .i64 9)] [])) (Ah (call 30 [.sc (.string Oe)]) fun SG VF=>Ad VF<|Aa SG fun RE WB=>F7 RE fun JU=>Aa JU fun QP RR=>Aq QP fun WN=>Aa RR fun OB TI=>Ar OB fun RQ=>Aa TI fun XB NV=>Aj .i64 XB fun QX=>Ad NV<|Aa WB fun WO PY=>Aj .i64 WO fun QN=>Ad PY<|Ba (QN != 0) (some (Ap.mk [.sc (.string (ByteArray.mk #[])),.sc (.int .i64 QN)] [])) (Ba (!Array.toList (ByteArray.data Mb)==Array.toList (ByteArray.data (ByteArray.mk #[]))) (Ba (!Tp) (some (Ap.mk [.sc (.string (ByteArray.mk #[])),.sc (.int .i64 4)] [])) (Ah (call 31 [.lst false 1 K3 Bf]) fun VH QZ=>Ad QZ<|Aa VH fun UX YS=>Ar UX fun OP=>Ad YS<|A2 (decide (35+ByteArray.size OP<=9223372036854775807))<|Ac (ByteArray.mk #[123,34,116,121,112,101,34,58,34]++ByteArray.mk #[112,97,115,115,107,101,121,46,103,101,116]++ByteArray.mk #[34,44,34,99,104,97,108,108,101,110,103,101,34,58,34]++OP) fun RJ=>A2 (decide (ByteArray.size RJ+12<=9223372036854775807))<|Ac (RJ++ByteArray.mk #[34,44,34,111,114,105,103,105,110,34,58,34]) fun WA=>A2 (decide (ByteArray.size WA+ByteArray.size Oe<=9223372036854775807))<|Ac (WA++Oe) fun Qq=>Ba (!Tp) (A2 (decide (ByteArray.size Qq+22<=9223372036854775807))<|Ac (Qq++ByteArray.mk #[34,44,34,99,114,111,115,115,79,114,105,103,105,110,34,58,102,97,108,115,101,125]) fun U9=>some (Ap.mk [.sc (.string U9),.sc (.int .i64 0)] [])) (Ah (call 30 [.sc (.string Mb)]) fun Ri Sg=>Ad Sg<|Aa Ri fun Tc Ob=>F7 Tc fun Rx=>Aa Rx fun Q9 Uw=>Aq Q9 fun W0=>Aa Uw fun Uq Wl=>Ar Uq fun BI=>Aa Wl fun S6 Uv=>Aj .i64 S6 fun V0=>Ad Uv<|Aa Ob fun Wf Va=>Aj .i64 Wf fun S3=>Ad Va<|Ba (S3 != 0) (some (Ap.mk [.sc (.string (ByteArray.mk #[])),.sc (.int .i64 S3)] [])) (A2 (decide (ByteArray.size Qq+34<=9223372036854775807))<|Ac (Qq++ByteArray.mk #[34,44,34,99,114,111,115,115,79,114,105,103,105,110,34,58,116,114,117,101,44,34,116,111,112,79,114,105,103,105,110,34,58,34]) fun Ry=>A2 (decide (ByteArray.size Ry+ByteArray.size Mb<=9223372036854775807))<|Ac (Ry++Mb) fun R0=>A2 (decide (ByteArray.size R0+2<=9223372036854775807))<|Ac (R0++ByteArray.mk #[34,125]) fun Vz=>some (Ap.mk [.sc (.string Vz),.sc (.int .i64 0)] []))))) (Ah (call 31 [.lst false 1 K3 Bf]) fun Wo Sc=>Ad Sc<|Aa Wo fun Wd Wm=>Ar Wd fun U6=>Ad Wm<|A2 (decide (35+ByteArray.size U6<=9223372036854775807))<|Ac (ByteArray.mk #[123,34,116,121,112,101,34,58,34]++ByteArray.mk #[112,97,115,115,107,101,121,46,103,101,116]++ByteArray.mk #[34,44,34,99,104,97,108,108,101,110,103,101,34,58,34]++U6) fun Vc=>A2 (decide (ByteArray.size Vc+12<=9223372036854775807))<|Ac (Vc++ByteArray.mk #[34,44,34,111,114,105,103,105,110,34,58,34]) fun Ww=>A2 (decide (ByteArray.size Ww+ByteArray.size Oe<=9223372036854775807))<|Ac (Ww++Oe) fun R5=>Ba (!Tp) (A2 (decide (ByteArray.size R5+22<=9223372036854775807))<|Ac (R5++ByteArray.mk #[34,44,34,99,114,111,115,115,79,114,105,103,105,110,34,58,102,97,108,115,101,125]) fun Vi=>some (Ap.mk [.sc (.string Vi),.sc (.int .i64 0)] [])) (Ah (call 30 [.sc (.string Mb)]) fun BB AH=>Ad AH<|Aa BB fun BD BK=>F7 BD fun AU=>Aa AU fun Z2 AJ=>Aq Z2 fun DH=>Aa AJ fun AO Xl=>Ar AO fun DG=>Aa Xl fun AP Uu=>Aj .i64 AP fun X7=>Ad Uu<|Aa BK fun Zy Yq=>Aj .i64 Zy fun Yo=>Ad Yq<|Ba (Yo != 0) (some (Ap.mk [.sc (.string (ByteArray.mk #[])),.sc (.int .i64 Yo)] [])) (A2 (decide (ByteArray.size R5+34<=9223372036854775807))<|Ac (R5++ByteArray.mk #[34,44,34,99,114,111,115,115,79,114,105,103,105,110,34,58,116,114,117,101,44,34,116,111,112,79,114,105,103,105,110,34,58,34]) fun Y6=>A2 (decide (ByteArray.size Y6+ByteArray.size Mb<=9223372036854775807))<|Ac (Y6++Mb) fun DN=>A2 (decide (ByteArray.size DN+2<=9223372036854775807))<|Ac (DN++ByteArray.mk #[34,125]) fun DA=>some (Ap.mk [.sc (.string DA),.sc (.int .i64 0)] [])))))))) (some (Ap.mk [.sc (.string (ByteArray.mk #[])),.sc (.int .i64 3)] [])))) (Ae (CP p) prog fu d):=by kernel_rfl
abbrev Le:FuncId:=5
theorem Ss {p:Option (List PV->Option Ap)} (fu d:Nat):Ae (CP p) prog fu (d+1) Le []=(fun (call:Am)=>Ah (call 15 [.agg [.sc (.int .i64 2),.lst false 1 2 [.sc (.int .u8 251),.sc (.int .u8 255)],.sc (.string (ByteArray.mk #[104,116,116,112,115,58,47,47,97,46,98])),.sc (.bool false),.sc (.string (ByteArray.mk #[]))]]) fun x1 x2=>Ad x2<|Aa x1 fun x3 x4=>Ar x3 fun x5=>Aa x4 fun x6 x7=>Aj .i64 x6 fun x8=>Ad x7<|Ah (call 13 [.sc (.string x5)]) fun x9 E4=>Ad E4<|Aa x9 fun Is Iu=>F7 Is fun Ey=>Aa Ey fun Gt Ja=>Aj .i64 Gt fun Gs=>Aa Ja fun Hk I6=>F1 1 Hk fun H9 I9 I5=>Aa I6 fun Jr I4=>Ar Jr fun Hw=>Aa I4 fun Iz Kr=>Aq Iz fun L1=>Aa Kr fun Ms L6=>Ar Ms fun N4=>Ad L6<|Aa Iu fun N1 Pf=>Aj .i64 N1 fun N6=>Ad Pf<|Ba (x8==0) (Ba (N6==0) (Ba (Array.toList (ByteArray.data x5)==Array.toList (ByteArray.data (ByteArray.mk (List.toArray (List.append [123,34,116,121,112,101,34,58,34,112,97,115,115,107,101,121,46,103,101,116,34,44,34,99,104,97,108,108,101,110,103,101,34,58,34,45,95,56,34,44,34] [111,114,105,103,105,110,34,58,34,104,116,116,112,115,58,47,47,97,46,98,34,44,34,99,114,111,115,115,79,114,105,103,105,110,34,58,102,97,108,115,101,125]))))) (Ah (call 14 [.agg [.sc (.int .i64 2),.lst false 1 2 [.sc (.int .u8 251),.sc (.int .u8 255)],.sc (.string (ByteArray.mk #[104,116,116,112,115,58,47,47,97,46,98])),.sc (.bool false),.sc (.string (ByteArray.mk #[]))],.agg [.sc (.int .i64 Gs),.lst false 1 I9 I5,.sc (.string Hw),.sc (.bool L1),.sc (.string N4)]]) fun O4 Pq=>Ad Pq<|Aa O4 fun Pm Q2=>Aq Pm fun Qs=>Ad Q2<|some (Ap.mk [.sc (.bool Qs)] [])) (some (Ap.mk [.sc (.bool false)] []))) (some (Ap.mk [.sc (.bool false)] []))) (some (Ap.mk [.sc (.bool false)] []))) (Ae (CP p) prog fu d):=by kernel_rfl
end
section
open Go.Proofs.Tryz (prog)
open Go.IntKind (wrap)
set_option maxRecDepth 100000
theorem A0f (a b:Nat)(ha:a<18446744073709551616)(hb:b<18446744073709551616):JN .u64 ((a:Nat):Int) ((b:Nat):Int)=((a &&& b:Nat):Int):=by
 have hx:a &&& b<2 ^ 64:=Nat.and_lt_two_pow _ (by omega)
 have h1:(BitVec.ofInt 64 (a:Int)).toNat=a:=by
  rw[BitVec.ofInt_natCast,BitVec.toNat_ofNat];exact Nat.mod_eq_of_lt (by omega)
 have h2:(BitVec.ofInt 64 (b:Int)).toNat=b:=by
  rw[BitVec.ofInt_natCast,BitVec.toNat_ofNat];exact Nat.mod_eq_of_lt (by omega)
 show IntKind.u64.wrap ((BitVec.ofInt 64 (a:Int) &&& BitVec.ofInt 64 (b:Int)).toNat:Int)=_;rw[BitVec.toNat_and,h1,h2];simp only[wrap,IntKind.bits,IntKind.signed,OC,Bool.false_eq_true,if_false];omega
theorem Avo {x:Int}(h0:0<=x)(h1:x<16777216):JN .u64 x 63=x % 64:=by
 obtain⟨n,rfl⟩:=Int.eq_ofNat_of_zero_le h0;have:=A0f n 63 (by omega) (by omega)
 refine this.trans ?_;rw[show (63:Nat)=2 ^ 6-1 by decide,Nat.and_two_pow_sub_one_eq_mod n 6]
 omega
theorem A4d {x:Int}{k:Nat}(hk:k<=64):Ut .u64 x (k:Int)=x / ((2 ^ k:Nat):Int):=by
 show x.fdiv (2 ^ (min (k:Int).toNat IntKind.u64.bits))=_
 have:min (k:Int).toNat IntKind.u64.bits=k:=by
  rw[Kj];exact Nat.min_eq_left (by show k<=64;omega)
 rw[this];have e:(2:Int) ^ k=((2 ^ k:Nat):Int):=by simp
 rw[e,Int.fdiv_eq_ediv_of_nonneg _ (Int.natCast_nonneg _)]
theorem Alz:∀n:Fin 64,Z0.extract n.val (n.val+1)=Ab [Fp (n.val:Int)]:=by decide +kernel
theorem Br (a b:List Int):Ab a++Ab b=Ab (a++b):=by
 apply ByteArray.ext;rw[ByteArray.data_append];unfold Ab;simp
def QS (x:Int)(k:Nat):Int:=Fp (x / ((2 ^ (18-6*k):Nat):Int) % 64)
section
variable {fu d:Nat} {p:Option (List PV->Option Ap)}
theorem Ab5 {Hg:Nat}{a0:List PV}{m0:Nat}{y0:Nat}{y1:List PV}{i:Nat}{x:Int}(hx0:0<=x)(hx:x<16777216)(hi:i<y0)(hy:y0<=1000000)(m:Nat)(hm:m=min (y0-i) 3+1):∀(r k nn:Nat)(out:List Int),k+r=m->r+1<=nn->out.length+r<=10000000 ->
  B5 fu (Ae (CP p) prog fu d) Hg a0 m0 nn y0 y1 (Ab out) (i:Int) x (k:Int)=Cq fu (Ae (CP p) prog fu d) Hg a0 m0 y0 y1 (Ab (out++(List.range' k r).map (QS x))) ((i+3:Nat):Int)
 |0,k,nn,out,hkr,N7,ho=>by
  obtain⟨q,rfl⟩:∃q,nn=q+1:=⟨nn-1,by omega⟩
  have a3:wrap .i64 ((i:Int)+3)=((i+3:Nat):Int):=by rw[Au (by omega) (by omega)];omega
  have e:out++(List.range' k 0).map (QS x)=out:=by simp
  rw[e,Gl];by_cases h4:k<4
  ·have a1:=dT (q:=(k:Int)<4) (by omega)
   have a2:wrap .i64 ((y0:Int)-(i:Int))=(y0:Int)-(i:Int):=Au (by omega) (by omega)
   have a4:=dF (q:=(k:Int)<=(y0:Int)-(i:Int)) (by omega)
   simp only[B4,a1,a2,a4,a3]
  ·have a1:=dF (q:=(k:Int)<4) (by omega)
   simp only[B4,a1,a3]
 |r+1,k,nn,out,hkr,N7,ho=>by
  obtain⟨q,rfl⟩:∃q,nn=q+1:=⟨nn-1,by omega⟩
  have Uj:k<4:=by omega
  have a1:=dT (q:=(k:Int)<4) (by omega)
  have a2:wrap .i64 ((y0:Int)-(i:Int))=(y0:Int)-(i:Int):=Au (by omega) (by omega)
  have a4:=dT (q:=(k:Int)<=(y0:Int)-(i:Int)) (by omega)
  have b1:wrap .u64 (k:Int)=(k:Int):=E6 (by omega) (by omega)
  have b2:wrap .u64 (6*(k:Int))=6*(k:Int):=E6 (by omega) (by omega)
  have b3:wrap .u64 (18-6*(k:Int))=((18-6*k:Nat):Int):=by rw[E6 (by omega) (by omega)];omega
  have b4:decide ((0:Int)<=((18-6*k:Nat):Int))=true:=by simp
  have b5:=A4d (x:=x) (k:=18-6*k) (by omega)
  have hp:0<2 ^ (18-6*k):=Nat.pow_pos (by omega)
  have Ha:0<=x / ((2 ^ (18-6*k):Nat):Int):=Int.ediv_nonneg hx0 (Int.natCast_nonneg _)
  have hd1:x / ((2 ^ (18-6*k):Nat):Int)<16777216:=by
   have:=Int.ediv_le_self ((2 ^ (18-6*k):Nat):Int) hx0;omega
  have b6:=Avo Ha hd1;generalize hv:x / ((2 ^ (18-6*k):Nat):Int) % 64=v at b6;have hv0:0<=v:=by omega
  have hv1:v<64:=by omega
  have b7:wrap .u64 (v+1)=v+1:=E6 (by omega) (by omega)
  have b8:=dT (q:=(0:Int)<=v) hv0;have b9:=dT (q:=(0:Int)<=v+1) (by omega)
  have c1:decide (Int.toNat v<=Int.toNat (v+1))=true:=dT (by omega)
  have c2:decide (Int.toNat (v+1)<=64)=true:=dT (by omega)
  have c3:Z0.extract (Int.toNat v) (Int.toNat (v+1))=Ab [QS x k]:=by
   have:=Alz ⟨Int.toNat v,by omega⟩
   rw[show Int.toNat (v+1)=Int.toNat v+1 by omega]
   refine this.trans ?_;unfold QS;rw[hv]
   congr 3
   show ((Int.toNat v:Nat):Int)=v;omega
  have c4:decide ((Ab out).size+(Ab [QS x k]).size<=9223372036854775807)=true:=dT (by rw[Af,Af];simp;omega)
  have c5:wrap .i64 ((k:Int)+1)=((k+1:Nat):Int):=by rw[Au (by omega) (by omega)];omega
  have ih:=Ab5 (Hg:=Hg) (a0:=a0) (m0:=m0) (y1:=y1) hx0 hx hi hy m hm r (k+1) q (out++[QS x k]) (by omega) (by omega) (by simp;omega)
  have e:out++(List.range' k (r+1)).map (QS x)=(out++[QS x k])++(List.range' (k+1) r).map (QS x):=by
   rw[List.range'_succ];simp
  have ea:(ByteArray.mk #[(65:UInt8),(66:UInt8),(67:UInt8),(68:UInt8),(69:UInt8),(70:UInt8),(71:UInt8),(72:UInt8),(73:UInt8),(74:UInt8),(75:UInt8),(76:UInt8),(77:UInt8),(78:UInt8),(79:UInt8),(80:UInt8),(81:UInt8),(82:UInt8),(83:UInt8),(84:UInt8),(85:UInt8),(86:UInt8),(87:UInt8),(88:UInt8),(89:UInt8),(90:UInt8),(97:UInt8),(98:UInt8),(99:UInt8),(100:UInt8),(101:UInt8),(102:UInt8),(103:UInt8),(104:UInt8),(105:UInt8),(106:UInt8),(107:UInt8),(108:UInt8),(109:UInt8),(110:UInt8),(111:UInt8),(112:UInt8),(113:UInt8),(114:UInt8),(115:UInt8),(116:UInt8),(117:UInt8),(118:UInt8),(119:UInt8),(120:UInt8),(121:UInt8),(122:UInt8),(48:UInt8),(49:UInt8),(50:UInt8),(51:UInt8),(52:UInt8),(53:UInt8),(54:UInt8),(55:UInt8),(56:UInt8),(57:UInt8),(45:UInt8),(95:UInt8)])=Z0:=rfl;rw[e,Gl,ea];simp only[B4,a1,a2,a4,b1,b2,b3,b4,b5,b6,b7,b8,b9,c1,c2,c3,c4,Br,c5];exact ih
theorem ZR {a b c:Int}(h:Cx [a,b,c]) (m:Nat)(hm:m<=4):(List.range' 0 m).map (QS (a*65536+b*256+c))=(Ju a b c).take m:=by
 obtain⟨ha,h⟩:=Bq h;obtain⟨hb,h⟩:=Bq h;obtain⟨hc,h⟩:=Bq h;have e0:QS (a*65536+b*256+c) 0=Fp (a / 4):=by unfold QS;congr 1;simp;omega
 have e1:QS (a*65536+b*256+c) 1=Fp (a % 4*16+b / 16):=by unfold QS;congr 1;simp;omega
 have e2:QS (a*65536+b*256+c) 2=Fp (b % 16*4+c / 64):=by unfold QS;congr 1;simp;omega
 have e3:QS (a*65536+b*256+c) 3=Fp (c % 64):=by unfold QS;congr 1;simp;omega
 match m,hm with
 |0,_=>rfl
 |1,_=>simp[List.range',Ju,e0]
 |2,_=>simp[List.range',Ju,e0,e1]
 |3,_=>simp[List.range',Ju,e0,e1,e2]
 |4,_=>simp[List.range',Ju,e0,e1,e2,e3]
theorem A45 {a b:Int}(ha:0<=a∧a<=255)(hb:0<=b∧b<=255):QM .u64 (a*65536) (b*256)=a*65536+b*256:=by
 obtain⟨a,rfl⟩:=Int.eq_ofNat_of_zero_le ha.1;have:=(PN (a:=b*256) (c:=(a:Int)*65536) 16 a (by omega) (by simp;omega) (by simp) (by omega)).2
 rw[this];omega
theorem A8e {y c:Int}(hy:0<=y∧y<=65535)(hc:0<=c∧c<=255):QM .u64 (y*256) c=y*256+c:=by
 obtain⟨y,rfl⟩:=Int.eq_ofNat_of_zero_le hy.1;have:=(PN (a:=c) (c:=(y:Int)*256) 8 y (by omega) (by simp;omega) (by simp) (by omega)).2
 rw[this];omega
theorem Aqa {Hg:Nat}{a0:List PV}{l:List Int}(hB:Cx l)(hl:l.length<=100000)(Eu:10<=fu):∀(q:Nat)(r:List Int)(i nn:Nat)(out:List Int),l.drop i=r->i<=l.length+3->r.length<=q->q+1<=nn->out.length+4*r.length<=1000000 ->
  Cq fu (Ae (CP p) prog fu d) Hg a0 nn l.length (Bl .u8 l) (Ab out) (i:Int)=some ⟨[.sc (.string (Ab (out++Ef r)))],[]⟩:=by
 intro q
 induction q with
 |zero=>
  intro r i nn out hd hi3 hq N7 ho;have hr:r=[]:=List.eq_nil_of_length_eq_zero (by omega)
  subst hr;obtain⟨k,rfl⟩:∃k,nn=k+1:=⟨nn-1,by omega⟩
  have hi:=drop_nil hd;have a1:=dF (q:=(i:Int)<(l.length:Int)) (by omega)
  rw[Es];simp only[B4,a1,Ef,List.append_nil]
 |succ q ih=>
  intro r i nn out hd hi3 hq N7 ho;obtain⟨k,rfl⟩:∃k,nn=k+1:=⟨nn-1,by omega⟩
  cases r with
  |nil=>
   have hi:=drop_nil hd;have a1:=dF (q:=(i:Int)<(l.length:Int)) (by omega)
   rw[Es];simp only[B4,a1,Ef,List.append_nil]
  |cons a r1=>
   obtain⟨hi,ha,hd1⟩:=Ff hd;have haB:=hB a (List.mem_of_getElem? ha);have C6:=congrArg List.length hd;rw[List.length_drop] at C6;have a1:=dT (q:=(i:Int)<(l.length:Int)) (by omega)
   have a2:decide ((0:Int)<=(i:Int))=true:=by simp
   have a3:List.getD (Bl .u8 l) (Int.toNat (i:Int)*1) PV.top=.sc (.int .u8 a):=by rw[Kj,EB];exact ati ha
   have a4:wrap .u64 a=a:=E6 (by omega) (by omega)
   have a5:Ka .u64 a 16=a*65536:=by
    have:=QI (a:=a) (k:=16) haB.1 (by omega) (by omega) (by simp;omega)
    rw[this];simp
   have a6:wrap .i64 ((i:Int)+1)=((i+1:Nat):Int):=by rw[Au (by omega) (by omega)];omega
   have a7:wrap .i64 ((i:Int)+2)=((i+2:Nat):Int):=by rw[Au (by omega) (by omega)];omega
   have b2:decide ((0:Int)<=((i+1:Nat):Int))=true:=dT (by omega)
   have b3:decide ((0:Int)<=((i+2:Nat):Int))=true:=dT (by omega)
   rw[Es];cases r1 with
   |nil=>
    simp only[Uk,QY] at C6;have b1:=dF (q:=((i+1:Nat):Int)<(l.length:Int)) (by omega)
    have c1:=dF (q:=((i+2:Nat):Int)<(l.length:Int)) (by omega)
    have O7:=Ab5 (fu:=fu) (d:=d) (p:=p) (Hg:=Hg) (a0:=a0) (m0:=k) (y0:=l.length) (y1:=Bl .u8 l) (i:=i) (x:=a*65536) (by omega) (by omega) hi (by omega) 2 (by omega) 2 0 fu out rfl (by omega) (by simp at ho;omega)
    have Jm:=ZR (a:=a) (b:=0) (c:=0) (fun x hx=>by simp at hx;rcases hx with rfl|rfl<;>omega) 2 (by omega)
    rw[show a*65536+0*256+0=a*65536 by omega] at Jm
    rw[Jm] at O7;have hr:=ih [] (i+3) k (out++(Ju a 0 0).take 2) (List.drop_eq_nil_of_le (by omega)) (by omega) (by simp) (by omega) (by simp[Ju] at ho ⊢;omega)
    simp only[B4,a1,a2,a3,a4,a5,a6,a7,b1,c1];refine O7.trans (hr.trans ?_);simp[Ef,Ju]
   |cons b r2=>
    obtain⟨hi1,hb,Il⟩:=Ff hd1;have hbB:=hB b (List.mem_of_getElem? hb);have b1:=dT (q:=((i+1:Nat):Int)<(l.length:Int)) (by omega)
    have b4:List.getD (Bl .u8 l) (Int.toNat ((i+1:Nat):Int)*1) PV.top=.sc (.int .u8 b):=by rw[Kj,EB];exact ati hb
    have b5:wrap .u64 b=b:=E6 (by omega) (by omega)
    have b6:Ka .u64 b 8=b*256:=by
     have:=QI (a:=b) (k:=8) hbB.1 (by omega) (by omega) (by simp;omega)
     rw[this];simp
    have b7:=A45 haB hbB;cases r2 with
    |nil=>
     simp only[Uk,QY] at C6;have c1:=dF (q:=((i+2:Nat):Int)<(l.length:Int)) (by omega)
     have O7:=Ab5 (fu:=fu) (d:=d) (p:=p) (Hg:=Hg) (a0:=a0) (m0:=k) (y0:=l.length) (y1:=Bl .u8 l) (i:=i) (x:=a*65536+b*256) (by omega) (by omega) hi (by omega) 3 (by omega) 3 0 fu out rfl (by omega) (by simp at ho;omega)
     have Jm:=ZR (a:=a) (b:=b) (c:=0) (fun x hx=>by simp at hx;rcases hx with rfl|rfl|rfl<;>omega) 3 (by omega)
     rw[show a*65536+b*256+0=a*65536+b*256 by omega] at Jm
     rw[Jm] at O7;have hr:=ih [] (i+3) k (out++(Ju a b 0).take 3) (List.drop_eq_nil_of_le (by omega)) (by omega) (by simp) (by omega) (by simp[Ju] at ho ⊢;omega)
     simp only[B4,a1,a2,a3,a4,a5,a6,a7,b1,b2,b4,b5,b6,b7,c1];refine O7.trans (hr.trans ?_);simp[Ef,Ju]
    |cons c t=>
     obtain⟨hi2,hc,hd3⟩:=Ff Il;have JA:=hB c (List.mem_of_getElem? hc);simp only[Uk] at C6;have c1:=dT (q:=((i+2:Nat):Int)<(l.length:Int)) (by omega)
     have c2:List.getD (Bl .u8 l) (Int.toNat ((i+2:Nat):Int)*1) PV.top=.sc (.int .u8 c):=by rw[Kj,EB];exact ati hc
     have c3:wrap .u64 c=c:=E6 (by omega) (by omega)
     have c4:QM .u64 (a*65536+b*256) c=a*65536+b*256+c:=by
      have:=A8e (y:=a*256+b) (c:=c) (by omega) JA
      rw[show (a*256+b)*256=a*65536+b*256 by omega] at this
      exact this
     have O7:=Ab5 (fu:=fu) (d:=d) (p:=p) (Hg:=Hg) (a0:=a0) (m0:=k) (y0:=l.length) (y1:=Bl .u8 l) (i:=i) (x:=a*65536+b*256+c) (by omega) (by omega) hi (by omega) 4 (by omega) 4 0 fu out rfl (by omega) (by simp at ho;omega)
     have Jm:=ZR (a:=a) (b:=b) (c:=c) (fun x hx=>by simp at hx;rcases hx with rfl|rfl|rfl<;>omega) 4 (by omega)
     rw[Jm] at O7;have hr:=ih t (i+3) k (out++(Ju a b c).take 4) hd3 (by omega) (by simp at hq;omega) (by omega) (by simp[Ju] at ho ⊢;omega)
     simp only[B4,a1,a2,a3,a4,a5,a6,a7,b1,b2,b4,b5,b6,b7,b3,c1,c2,c3,c4];refine O7.trans (hr.trans ?_);simp[Ef,Ju]
theorem Acf {l:List Int}(hB:Cx l)(hl:l.length<=100000)(Eu:10<=fu)(EE:l.length+1<=fu):Ae (CP p) prog fu (d+1) Hz [.lst false 1 l.length (Bl .u8 l)]=some ⟨[.sc (.string (Ab (Ef l)))],[]⟩:=by
 rw[Of];have:=Aqa (fu:=fu) (d:=d) (p:=p) (Hg:=l.length) (a0:=Bl .u8 l) hB hl Eu l.length l 0 fu [] rfl (by omega) (Nat.le_refl _) EE (by simp;omega)
 exact this
end
end
section
open Go.Proofs.Tryz (prog)
open Go.IntKind (wrap)
set_option maxRecDepth 100000
def awT:List Int:=[123,34,116,121,112,101,34,58,34,112,97,115,115,107,101,121,46,103,101,116,34,44,34,99,104,97,108,108,101,110,103,101,34,58,34,45,95,56,34,44,34,111,114,105,103,105,110,34,58,34,104,116,116,112,115,58,47,47,97,46,98,34,44,34,99,114,111,115,115,79,114,105,103,105,110,34,58,102,97,108,115,101,125]
def awO:List Int:=[104,116,116,112,115,58,47,47,97,46,98]
theorem Arf:Ec awO=0:=by decide +kernel
theorem Agj:G7 (Ab awT)=.ok (2,[251,255],awO,false,[]):=by kernel_rfl
section
variable {fu d:Nat}
theorem Apn (Eu:200<=fu):Ae C1 prog fu (d+9) Le []=some ⟨[.sc (.bool true)],[]⟩:=by
 obtain⟨o1,o2,o3,ho⟩:=Ar3 (fu:=fu) (d:=d) (p:=some F2) (l:=awO) (fun x hx=>by simp[awO] at hx;omega) (by decide) Eu
 rw[Arf] at ho;have h32:Ae C1 prog fu (d+7) 30 [.sc (.string (ByteArray.mk #[(104:UInt8),(116:UInt8),(116:UInt8),(112:UInt8),(115:UInt8),(58:UInt8),(47:UInt8),(47:UInt8),(97:UInt8),(46:UInt8),(98:UInt8)]))]=_:=ho;have h12:Ae C1 prog fu (d+7) 31 [.lst false 1 2 [.sc (.int .u8 251),.sc (.int .u8 255)]]=some ⟨[.sc (.string (Ab [45,95,56]))],[]⟩:=by kernel_rfl
 have h18:Ae C1 prog fu (d+8) 15 [.agg [.sc (.int .i64 2),.lst false 1 2 [.sc (.int .u8 251),.sc (.int .u8 255)],.sc (.string (ByteArray.mk #[(104:UInt8),(116:UInt8),(116:UInt8),(112:UInt8),(115:UInt8),(58:UInt8),(47:UInt8),(47:UInt8),(97:UInt8),(46:UInt8),(98:UInt8)])),.sc (.bool false),.sc (.string (ByteArray.mk #[]))]]=some ⟨[.sc (.string (Ab awT)),.sc (.int .i64 0)],[]⟩:=by
  refine (Uy (p:=some F2) fu (d+7) _ _ _ _ _ _).trans ?_;have a1:((2:Int)==1)=false:=rfl;have a2:((2:Int)==2)=true:=rfl;have a3:decide (((2:Nat):Int)<1)=false:=rfl;have a4:decide (((2:Nat):Int)>64)=false:=rfl;have a5:((0:Int) != 0)=false:=rfl;have a6:(!Array.toList (ByteArray.mk #[]).data==Array.toList (ByteArray.mk #[]).data)=false:=rfl;simp only[B4,a1,a2,a3,a4,a5,a6,h32,h12,D6];show _=some (Ap.mk [.sc (.string (Ab awT)),.sc (.int .i64 0)] [])
  first|kernel_rfl|rfl
 have h19:Ae C1 prog fu (d+8) 13 [.sc (.string (Ab awT))]=some ⟨[.agg [.sc (.int .i64 2),.lst false 1 2 [.sc (.int .u8 251),.sc (.int .u8 255)],.sc (.string (Ab awO)),.sc (.bool false),.sc (.string (Ab []))],.sc (.int .i64 0)],[]⟩:=by
  have e:Ae C1 prog fu (d+8) 13 [.sc (.string (Ab awT))]=F2 [.sc (.string (Ab awT))]:=rfl;rw[e];unfold F2;have hs:decide ((Ab awT).size<=9223372036854775807)=true:=rfl;simp only[hs,cond_true,Agj];rfl
 have h20:Ae C1 prog fu (d+8) 14 [.agg [.sc (.int .i64 2),.lst false 1 2 [.sc (.int .u8 251),.sc (.int .u8 255)],.sc (.string (ByteArray.mk #[(104:UInt8),(116:UInt8),(116:UInt8),(112:UInt8),(115:UInt8),(58:UInt8),(47:UInt8),(47:UInt8),(97:UInt8),(46:UInt8),(98:UInt8)])),.sc (.bool false),.sc (.string (ByteArray.mk #[]))],.agg [.sc (.int .i64 2),.lst false 1 2 [.sc (.int .u8 251),.sc (.int .u8 255)],.sc (.string (Ab awO)),.sc (.bool false),.sc (.string (Ab []))]]=some ⟨[.sc (.bool true)],[]⟩:=
  (Io (p:=some F2) fu (d+7) _ _ _ _ _ _ _ _ _ _ _ _).trans (by kernel_rfl)
 refine (Ss (p:=some F2) fu (d+8)).trans ?_;have b1:((0:Int)==0)=true:=rfl
 have b2:(Array.toList (Ab awT).data==Array.toList (ByteArray.mk (List.toArray (List.append [(123:UInt8),(34:UInt8),(116:UInt8),(121:UInt8),(112:UInt8),(101:UInt8),(34:UInt8),(58:UInt8),(34:UInt8),(112:UInt8),(97:UInt8),(115:UInt8),(115:UInt8),(107:UInt8),(101:UInt8),(121:UInt8),(46:UInt8),(103:UInt8),(101:UInt8),(116:UInt8),(34:UInt8),(44:UInt8),(34:UInt8),(99:UInt8),(104:UInt8),(97:UInt8),(108:UInt8),(108:UInt8),(101:UInt8),(110:UInt8),(103:UInt8),(101:UInt8),(34:UInt8),(58:UInt8),(34:UInt8),(45:UInt8),(95:UInt8),(56:UInt8),(34:UInt8),(44:UInt8),(34:UInt8)] [(111:UInt8),(114:UInt8),(105:UInt8),(103:UInt8),(105:UInt8),(110:UInt8),(34:UInt8),(58:UInt8),(34:UInt8),(104:UInt8),(116:UInt8),(116:UInt8),(112:UInt8),(115:UInt8),(58:UInt8),(47:UInt8),(47:UInt8),(97:UInt8),(46:UInt8),(98:UInt8),(34:UInt8),(44:UInt8),(34:UInt8),(99:UInt8),(114:UInt8),(111:UInt8),(115:UInt8),(115:UInt8),(79:UInt8),(114:UInt8),(105:UInt8),(103:UInt8),(105:UInt8),(110:UInt8),(34:UInt8),(58:UInt8),(102:UInt8),(97:UInt8),(108:UInt8),(115:UInt8),(101:UInt8),(125:UInt8)]))).data)=true:=by kernel_rfl
 have b3:decide (0+2*1<=List.length [PV.sc (.int .u8 251),PV.sc (.int .u8 255)])=true:=rfl;have b4:List.take (2*1) (List.drop 0 [PV.sc (.int .u8 251),PV.sc (.int .u8 255)])=[PV.sc (.int .u8 251),PV.sc (.int .u8 255)]:=rfl;simp only[B4,h18,h19,b1,b2,b3,b4,h20]
end
end
section
open Go.Proofs.Tryz (prog)
open Go.IntKind (wrap)
set_option maxRecDepth 100000
abbrev Om:FuncId:=6
theorem Yp {p:Option (List PV->Option Ap)} (fu d Hg:Nat)(a0:List PV):Ae (CP p) prog fu (d+1) Om [.lst false 1 Hg a0]=(fun (call:Am)=>some (Ap.mk [.pbox [.lst false 1 Hg a0,.sc (.int .i64 0)]] [])) (Ae (CP p) prog fu d):=by kernel_rfl
abbrev O5:FuncId:=16
theorem X8 {p:Option (List PV->Option Ap)} (fu d:Nat)(a0 a1:Int):Ae (CP p) prog fu (d+1) O5 [.sc (.int .i64 a0),.sc (.int .i64 a1)]=(fun (call:Am)=>Ac (wrap .u64 a0) fun x1=>Ac (wrap .u64 a1) fun x2=>A2 (decide (x2≠0))<|Ac (Int.tmod x1 x2) fun x3=>Ac (wrap .i64 x3) fun x4=>some (Ap.mk [.sc (.int .i64 x4)] [])) (Ae (CP p) prog fu d):=by kernel_rfl
abbrev I0:FuncId:=7
theorem Ix {p:Option (List PV->Option Ap)} (fu d Dl:Nat)(Bg:List PV)(Bf a1:Int):Ae (CP p) prog fu (d+1) I0 [.pbox [.lst false 1 Dl Bg,.sc (.int .i64 Bf)],.sc (.int .i64 a1)]=(fun (call:Am)=>Ba (decide (Bf>=(↑Dl:Int))) (some (Ap.mk [.sc (.int .i64 0)] [[.lst false 1 Dl Bg,.sc (.int .i64 Bf)]])) (Ac (wrap .i64 (Bf+1)) fun x1=>Ac (wrap .i64 (x1-1)) fun x2=>A2 (decide (0<=x2)&&decide (x2<(↑Dl:Int)))<|Aj .i64 (List.getD Bg (Int.toNat x2*1) .top) fun x3=>Ah (call 16 [.sc (.int .i64 x3),.sc (.int .i64 a1)]) fun x4 x5=>Ad x5<|Aa x4 fun x6 x7=>Aj .i64 x6 fun x8=>Ad x7<|some (Ap.mk [.sc (.int .i64 x8)] [[.lst false 1 Dl Bg,.sc (.int .i64 x1)]]))) (Ae (CP p) prog fu d):=by kernel_rfl
abbrev O6:FuncId:=22
theorem O8 {p:Option (List PV->Option Ap)} (fu d:Nat)(a0:Int):Ae (CP p) prog fu (d+1) O6 [.sc (.int .i64 a0)]=(fun (call:Am)=>Ah (call 16 [.sc (.int .i64 a0),.sc (.int .i64 6)]) fun x1 x2=>Ad x2<|Aa x1 fun x3 x4=>Aj .i64 x3 fun x5=>Ad x4<|A2 (decide (0<=x5)&&decide (x5<6))<|Ar (List.getD [.sc (.string (ByteArray.mk #[104,116,116,112,115,58,47,47,101,120,97,109,112,108,101,46,99,111,109])),.sc (.string (ByteArray.mk #[104,116,116,112,115,58,47,47,108,111,103,105,110,46,101,120,97,109,112,108,101,46,99,111,109])),.sc (.string (ByteArray.mk #[104,116,116,112,115,58,47,47,101,118,105,108,46,116,101,115,116])),.sc (.string (ByteArray.mk #[104,116,116,112,58,47,47,108,111,99,97,108,104,111,115,116,58,56,48,56,48])),.sc (.string (ByteArray.mk #[104,116,116,112,115,58,47,47,98,46,99,111,46,117,107])),.sc (.string (ByteArray.mk #[104,116,116,112,58,47,47,101,120,97,109,112,108,101,46,99,111,109]))] (0+Int.toNat x5*1) .top) fun x6=>some (Ap.mk [.sc (.string x6)] [])) (Ae (CP p) prog fu d):=by kernel_rfl
abbrev Wa:FuncId:=23
theorem Wt {p:Option (List PV->Option Ap)} (fu d:Nat)(a0:Int):Ae (CP p) prog fu (d+1) Wa [.sc (.int .i64 a0)]=(fun (call:Am)=>Ah (call 16 [.sc (.int .i64 a0),.sc (.int .i64 28)]) fun x1 x2=>Ad x2<|Aa x1 fun x3 x4=>Aj .i64 x3 fun x5=>Ad x4<|A2 (decide (0<=x5)&&decide (x5<28))<|Ar (List.getD [.sc (.string (ByteArray.mk #[101,120,97,109,112,108,101,46,99,111,109])),.sc (.string (ByteArray.mk #[108,111,103,105,110,46,101,120,97,109,112,108,101,46,99,111,109])),.sc (.string (ByteArray.mk #[97,46,98,46,99,111,46,117,107])),.sc (.string (ByteArray.mk #[98,46,99,111,46,117,107])),.sc (.string (ByteArray.mk #[99,111,46,117,107])),.sc (.string (ByteArray.mk #[117,107])),.sc (.string (ByteArray.mk #[120,46,121,46,99,107])),.sc (.string (ByteArray.mk #[119,119,119,46,99,107])),.sc (.string (ByteArray.mk #[99,107])),.sc (.string (ByteArray.mk #[108,111,99,97,108,104,111,115,116])),.sc (.string (ByteArray.mk #[101,118,105,108,46,116,101,115,116])),.sc (.string (ByteArray.mk #[101,120,97,109,112,108,101,46,99,111,109,46,101,118,105,108,46,116,101,115,116])),.sc (.string (ByteArray.mk #[97,46,108,111,103,105,110,46,101,120,97,109,112,108,101,46,99,111,109])),.sc (.string (ByteArray.mk #[120,97,109,112,108,101,46,99,111,109])),.sc (.string (ByteArray.mk #[121,46,99,107])),.sc (.string (ByteArray.mk #[122,46,120,46,121,46,99,107])),.sc (.string (ByteArray.mk #[103,105,116,104,117,98,46,105,111])),.sc (.string (ByteArray.mk #[109,101,46,103,105,116,104,117,98,46,105,111])),.sc (.string (ByteArray.mk #[121,111,117,46,103,105,116,104,117,98,46,105,111])),.sc (.string (ByteArray.mk #[105,111])),.sc (.string (ByteArray.mk #[49,46,50,46,51,46,52])),.sc (.string (ByteArray.mk #[])),.sc (.string (ByteArray.mk #[97,46,46,98])),.sc (.string (ByteArray.mk #[69,120,97,109,112,108,101,46,99,111,109])),.sc (.string (ByteArray.mk #[45,97,46,99,111,109])),.sc (.string (ByteArray.mk #[97,46,99,111,109,46])),.sc (.string (ByteArray.mk #[97,45,98,46,99,49])),.sc (.string (ByteArray.mk #[99,49]))] (0+Int.toNat x5*1) .top) fun x6=>some (Ap.mk [.sc (.string x6)] [])) (Ae (CP p) prog fu d):=by kernel_rfl
abbrev Ky:FuncId:=10
theorem Lc {p:Option (List PV->Option Ap)} (fu d Dl:Nat)(Bg:List PV)(Bf:Int):Ae (CP p) prog fu (d+1) Ky [.pbox [.lst false 1 Dl Bg,.sc (.int .i64 Bf)]]=(fun (call:Am)=>Ah (call 7 [.pbox [.lst false 1 Dl Bg,.sc (.int .i64 Bf)],.sc (.int .i64 6)]) fun x1 x2=>Aa x1 fun x3 x4=>Aj .i64 x3 fun x5=>Ad x4<|Aa x2 fun x6 x7=>Aa x6 fun x8 x9=>F1 1 x8 fun E4 Is Iu=>Aa x9 fun Ey Gt=>Aj .i64 Ey fun Ja=>Ad Gt<|Ad x7<|A2 (decide (0<=x5)&&decide (x5<6))<|Aj .i64 (List.getD [.sc (.int .i64 1),.sc (.int .i64 2),.sc (.int .i64 2),.sc (.int .i64 1),.sc (.int .i64 0),.sc (.int .i64 3)] (0+Int.toNat x5*1) .top) fun Gs=>Ah (call 7 [.pbox [.lst false 1 Is Iu,.sc (.int .i64 Ja)],.sc (.int .i64 9)]) fun Hk I6=>Aa Hk fun H9 I9=>Aj .i64 H9 fun I5=>Ad I9<|Aa I6 fun Jr I4=>Aa Jr fun Hw Iz=>F1 1 Hw fun Kr L1 Ms=>Aa Iz fun L6 N4=>Aj .i64 L6 fun N1=>Ad N4<|Ad I4<|Ah (call 7 [.pbox [.lst false 1 L1 Ms,.sc (.int .i64 N1)],.sc (.int .i64 7)]) fun Pf N6=>Aa Pf fun O4 Pq=>Aj .i64 O4 fun Pm=>Ad Pq<|Aa N6 fun Q2 Qs=>Aa Q2 fun Pi Vw=>F1 1 Pi fun Xj Pb Pp=>Aa Vw fun V7 Vn=>Aj .i64 V7 fun Xv=>Ad Vn<|Ad Qs<|A2 (decide (0<=Pm)&&decide (Pm<7))<|Aj .i64 (List.getD [.sc (.int .i64 16),.sc (.int .i64 1),.sc (.int .i64 64),.sc (.int .i64 2),.sc (.int .i64 3),.sc (.int .i64 0),.sc (.int .i64 65)] (0+Int.toNat Pm*1) .top) fun Yb=>Ah (call 21 [.sc (.int .i64 I5),.sc (.int .i64 Yb)]) fun X9 Vp=>Ad Vp<|Aa X9 fun Wb Xh=>IU 1 Wb fun Oa R8=>Ad Xh<|Ah (call 7 [.pbox [.lst false 1 Pb Pp,.sc (.int .i64 Xv)],.sc (.int .i64 6)]) fun Xk DJ=>Aa Xk fun BW Z9=>Aj .i64 BW fun Z5=>Ad Z9<|Aa DJ fun EJ FH=>Aa EJ fun EZ MC=>F1 1 EZ fun RX ND JK=>Aa MC fun PQ KP=>Aj .i64 PQ fun NQ=>Ad KP<|Ad FH<|Ah (call 22 [.sc (.int .i64 Z5)]) fun QW QA=>Ad QA<|Aa QW fun LQ JF=>Ar LQ fun FM=>Ad JF<|Ah (call 7 [.pbox [.lst false 1 ND JK,.sc (.int .i64 NQ)],.sc (.int .i64 3)]) fun KK LO=>Aa KK fun SG VF=>Aj .i64 SG fun RE=>Ad VF<|Aa LO fun WB JU=>Aa WB fun QP RR=>F1 1 QP fun WN OB TI=>Aa RR fun RQ XB=>Aj .i64 RQ fun NV=>Ad XB<|Ad JU<|Ba (RE==2) (Ah (call 7 [.pbox [.lst false 1 OB TI,.sc (.int .i64 NV)],.sc (.int .i64 6)]) fun QX WO=>Aa QX fun PY QN=>Aj .i64 PY fun VH=>Ad QN<|Aa WO fun QZ UX=>Aa QZ fun YS OP=>F1 1 YS fun RJ WA Qq=>Aa OP fun U9 Ri=>Aj .i64 U9 fun Sg=>Ad Ri<|Ad UX<|Ah (call 22 [.sc (.int .i64 VH)]) fun Tc Ob=>Ad Ob<|Aa Tc fun Rx Q9=>Ar Rx fun Uw=>Ad Q9<|Ah (call 7 [.pbox [.lst false 1 WA Qq,.sc (.int .i64 Sg)],.sc (.int .i64 12)]) fun W0 Uq=>Aa W0 fun Wl BI=>Aj .i64 Wl fun S6=>Ad BI<|Aa Uq fun Uv V0=>Aa Uv fun Wf Va=>F1 1 Wf fun S3 Ry R0=>Aa Va fun Vz Wo=>Aj .i64 Vz fun Sc=>Ad Wo<|Ad V0<|Ba (S6==10) (Ah (call 7 [.pbox [.lst false 1 Ry R0,.sc (.int .i64 Sc)],.sc (.int .i64 28)]) fun Wd Wm=>Aa Wd fun U6 Vc=>Aj .i64 U6 fun Ww=>Ad Vc<|Aa Wm fun R5 Vi=>Aa R5 fun BB AH=>F1 1 BB fun BD BK AU=>Aa AH fun Z2 AJ=>Aj .i64 Z2 fun DH=>Ad AJ<|Ad Vi<|Ah (call 23 [.sc (.int .i64 Ww)]) fun AO Xl=>Ad Xl<|Aa AO fun DG AP=>Ar DG fun Uu=>Ad AP<|A2 (decide (8+ByteArray.size Uu<=9223372036854775807))<|Ac (ByteArray.mk #[104,116,116,112,115,58,47,47]++Uu) fun X7=>A2 (decide (ByteArray.size X7+1<=9223372036854775807))<|Ac (X7++ByteArray.mk #[47]) fun Zy=>A2 (decide (Oa*1<=R8.length))<|some (Ap.mk [.agg [.sc (.int .i64 Gs),.own 1 Oa (List.take (Oa*1) R8),.sc (.string Zy),.sc (.bool true),.sc (.string Uw)]] [[.lst false 1 BK AU,.sc (.int .i64 DH)]])) (Ba (S6==11) (Ah (call 7 [.pbox [.lst false 1 Ry R0,.sc (.int .i64 Sc)],.sc (.int .i64 6)]) fun Yq Yo=>Aa Yq fun Y6 DN=>Aj .i64 Y6 fun DA=>Ad DN<|Aa Yo fun PA PC=>Aa PA fun HR ON=>F1 1 HR fun WL JG Aba=>Aa ON fun Aak Agb=>Aj .i64 Aak fun UA=>Ad Agb<|Ad PC<|Ah (call 22 [.sc (.int .i64 DA)]) fun YI Aaq=>Ad Aaq<|Aa YI fun VL UM=>Ar VL fun Abg=>Ad UM<|A2 (decide (Oa*1<=R8.length))<|some (Ap.mk [.agg [.sc (.int .i64 Gs),.own 1 Oa (List.take (Oa*1) R8),.sc (.string FM),.sc (.bool true),.sc (.string Abg)]] [[.lst false 1 JG Aba,.sc (.int .i64 UA)]])) (A2 (decide (Oa*1<=R8.length))<|some (Ap.mk [.agg [.sc (.int .i64 Gs),.own 1 Oa (List.take (Oa*1) R8),.sc (.string FM),.sc (.bool true),.sc (.string Uw)]] [[.lst false 1 Ry R0,.sc (.int .i64 Sc)]])))) (Ah (call 7 [.pbox [.lst false 1 OB TI,.sc (.int .i64 NV)],.sc (.int .i64 12)]) fun UG ZI=>Aa UG fun Aa8 ZK=>Aj .i64 Aa8 fun SL=>Ad ZK<|Aa ZI fun Aa1 Aaf=>Aa Aa1 fun XF Ae8=>F1 1 XF fun Afe KD NU=>Aa Ae8 fun XZ WJ=>Aj .i64 XZ fun OO=>Ad WJ<|Ad Aaf<|Ba (SL==10) (Ah (call 7 [.pbox [.lst false 1 KD NU,.sc (.int .i64 OO)],.sc (.int .i64 28)]) fun ZL Aaz=>Aa ZL fun XU ZQ=>Aj .i64 XU fun XT=>Ad ZQ<|Aa Aaz fun YT YP=>Aa YT fun ZU ZZ=>F1 1 ZU fun Afl ZH WH=>Aa ZZ fun Aa3 ZM=>Aj .i64 Aa3 fun ZV=>Ad ZM<|Ad YP<|Ah (call 23 [.sc (.int .i64 XT)]) fun Aa0 Aa4=>Ad Aa4<|Aa Aa0 fun Aad TX=>Ar Aad fun UI=>Ad TX<|A2 (decide (8+ByteArray.size UI<=9223372036854775807))<|Ac (ByteArray.mk #[104,116,116,112,115,58,47,47]++UI) fun VI=>A2 (decide (ByteArray.size VI+1<=9223372036854775807))<|Ac (VI++ByteArray.mk #[47]) fun WK=>A2 (decide (Oa*1<=R8.length))<|some (Ap.mk [.agg [.sc (.int .i64 Gs),.own 1 Oa (List.take (Oa*1) R8),.sc (.string WK),.sc (.bool false),.sc (.string (ByteArray.mk #[]))]] [[.lst false 1 ZH WH,.sc (.int .i64 ZV)]])) (Ba (SL==11) (Ah (call 7 [.pbox [.lst false 1 KD NU,.sc (.int .i64 OO)],.sc (.int .i64 6)]) fun ZD Afj=>Aa ZD fun NX Aax=>Aj .i64 NX fun ZX=>Ad Aax<|Aa Afj fun UK Aa7=>Aa UK fun SY UF=>F1 1 SY fun Aei XL ZA=>Aa UF fun Aaj SK=>Aj .i64 Aaj fun YD=>Ad SK<|Ad Aa7<|Ah (call 22 [.sc (.int .i64 ZX)]) fun RH YB=>Ad YB<|Aa RH fun Aas XK=>Ar Aas fun ZF=>Ad XK<|A2 (decide (Oa*1<=R8.length))<|some (Ap.mk [.agg [.sc (.int .i64 Gs),.own 1 Oa (List.take (Oa*1) R8),.sc (.string FM),.sc (.bool false),.sc (.string ZF)]] [[.lst false 1 XL ZA,.sc (.int .i64 YD)]])) (A2 (decide (Oa*1<=R8.length))<|some (Ap.mk [.agg [.sc (.int .i64 Gs),.own 1 Oa (List.take (Oa*1) R8),.sc (.string FM),.sc (.bool false),.sc (.string (ByteArray.mk #[]))]] [[.lst false 1 KD NU,.sc (.int .i64 OO)]]))))) (Ae (CP p) prog fu d):=by kernel_rfl
end
section
open Go.Proofs.Tryz (prog)
open Go.IntKind (wrap)
abbrev Mu (l:List Int)(a:Nat):List PV:=[.lst false 1 l.length (Bl .i64 l),.sc (.int .i64 (a:Int))]
section
variable {fu d:Nat} {p:Option (List PV->Option Ap)}
theorem A2g {l:List Int}:Ae (CP p) prog fu (d+1) Om [.lst false 1 l.length (Bl .i64 l)]=some ⟨[.pbox (Mu l 0)],[]⟩:=by
 rw[Yp];rfl
theorem An7 (v n:Int)(hn:0<n)(hm:n<=9223372036854775807):∃r,0<=r∧r<n∧∀{fu d:Nat}{p:Option (List PV->Option Ap)},Ae (CP p) prog fu (d+1) O5 [.sc (.int .i64 v),.sc (.int .i64 n)]=some ⟨[.sc (.int .i64 r)],[]⟩:=by
 have h1:=FX v;have h2:wrap .u64 n=n:=E6 (by omega) (by omega)
 have h3:0<=Int.tmod (wrap .u64 v) n:=Int.tmod_nonneg _ h1.1;have h4:Int.tmod (wrap .u64 v) n<n:=Int.tmod_lt_of_pos _ hn;refine⟨_,h3,h4,fun {fu d p}=>?_⟩
 rw[X8];simp only[M7,h2];rw[NG _ _ (by omega),Au (by omega) (by omega)]
theorem Hv {l:List Int}(hl:l.length<=maxLen)(a:Nat)(n:Int)(hn:0<n)(hm:n<=9223372036854775807):∃(v:Int)(a':Nat),0<=v∧v<n ∧
  ∀{fu d:Nat} {p:Option (List PV->Option Ap)},Ae (CP p) prog fu (d+2) I0 [.pbox (Mu l a),.sc (.int .i64 n)]=some ⟨[.sc (.int .i64 v)],[Mu l a']⟩:=by
 simp only[maxLen] at hl;by_cases h:a<l.length
 ·obtain⟨r,h1,h2,h3⟩:=An7 l[a] n hn hm;refine⟨r,a+1,h1,h2,fun {fu d p}=>?_⟩
  rw[Ix]
  have hg:(Bl .i64 l).getD (Int.toNat ((a:Int)+1-1)*1) .top=.sc (.int .i64 l[a]):=by
   have:=ati (k:=.i64) (List.getElem?_eq_getElem h);rw[show Int.toNat ((a:Int)+1-1)*1=a by omega]
   exact this
  simp (disch:=omega) only[B4,Au,hg,h3];rfl
 ·refine⟨0,a,by omega,hn,fun {fu d p}=>?_⟩
  rw[Ix];simp (disch:=omega) only[B4]
end
end
section
open Go.IntKind (wrap)
set_option maxRecDepth 100000
section
variable {fu d:Nat} {p:Option (List PV->Option Ap)}
theorem Ah9 (l:List UInt8):(l==l)=true:=by simp
end
section
variable {fu:Nat}
end
end
section
open Go.Proofs.Tryz (prog)
open Go.IntKind (wrap)
set_option maxRecDepth 100000
abbrev R6:FuncId:=37
theorem J0 {p:Option (List PV->Option Ap)} (fu d:Nat)(a0:Bool):Ae (CP p) prog fu (d+1) R6 [.sc (.bool a0)]=(fun (call:Am)=>Ba (a0) (some (Ap.mk [.sc (.string (ByteArray.mk #[104,116,116,112,115,58,47,47]))] [])) (some (Ap.mk [.sc (.string (ByteArray.mk #[104,116,116,112,58,47,47]))] []))) (Ae (CP p) prog fu d):=by kernel_rfl
abbrev G5:FuncId:=39
theorem M1 {p:Option (List PV->Option Ap)} (fu d:Nat)(a0:Bool):Ae (CP p) prog fu (d+1) G5 [.sc (.bool a0)]=(fun (call:Am)=>Ba (a0) (some (Ap.mk [.sc (.int .i64 443)] [])) (some (Ap.mk [.sc (.int .i64 80)] []))) (Ae (CP p) prog fu d):=by kernel_rfl
abbrev Ly:FuncId:=40
noncomputable def Fo (fu:Nat)(call:Am)(a0:ByteArray)(a1:Bool)(nn:Nat)(y0:ByteArray)(y1:Bool)(y2 y3:Int):Option Ap:=Fh CB prog fu call 40 Tryz.f40 (D2 Tryz.f40) [.sc (.string a0),.sc (.bool a1)] [.r,.r,.r,.l,.r,.l] nn ⟨lk [(0,(.sc (.string y0))),(1,(.sc (.bool y1))),(6,(.sc (.int .i64 y2))),(7,(.sc (.int .i64 y3)))],Iw []⟩
theorem Jj (fu:Nat)(call:Am)(a0:ByteArray)(a1:Bool)(nn:Nat)(y0:ByteArray)(y1:Bool)(y2 y3:Int):Fo fu call a0 a1 (nn+1) y0 y1 y2 y3=(Ba (decide (y3<(↑(ByteArray.size y0):Int))) (A2 (decide (0<=y3))<|C5 ((Array.toList (ByteArray.data y0))[Int.toNat y3]?) fun x2=>Ah (call 63 [.sc (.int .u8 (↑(UInt8.toNat x2):Int))]) fun x3 x4=>Ad x4<|Aa x3 fun x5 x6=>Aq x5 fun x7=>Ad x6<|Ba (!x7) (some (Ap.mk [.sc (.int .i64 0),.sc (.bool false)] [])) (Ac (wrap .i64 (10*y2)) fun x8=>A2 (decide (0<=y3))<|C5 ((Array.toList (ByteArray.data y0))[Int.toNat y3]?) fun x9=>Ac (wrap .u8 ((↑(UInt8.toNat x9):Int)-48)) fun E4=>Ac (wrap .i64 E4) fun Is=>Ac (wrap .i64 (x8+Is)) fun Iu=>Ac (wrap .i64 (y3+1)) fun Ey=>Fo fu call a0 a1 (nn) (y0) (y1) Iu Ey)) (Ba (decide (y2<=65535)) (Ah (call 39 [.sc (.bool y1)]) fun Gt Ja=>Ad Ja<|Aa Gt fun Gs Hk=>Aj .i64 Gs fun I6=>Ad Hk<|some (Ap.mk [.sc (.int .i64 y2),.sc (.bool (y2 != I6))] [])) (some (Ap.mk [.sc (.int .i64 y2),.sc (.bool false)] [])))):=by kernel_rfl
theorem Us {p:Option (List PV->Option Ap)} (fu d:Nat)(a0:ByteArray)(a1:Bool):Ae (CP p) prog fu (d+1) Ly [.sc (.string a0),.sc (.bool a1)]=(fun (call:Am)=>Ba (decide ((↑(ByteArray.size a0):Int)<1)) (some (Ap.mk [.sc (.int .i64 0),.sc (.bool false)] [])) (Ba (decide ((↑(ByteArray.size a0):Int)>5)) (some (Ap.mk [.sc (.int .i64 0),.sc (.bool false)] [])) (C5 ((Array.toList (ByteArray.data a0))[0]?) fun x1=>Ba ((↑(UInt8.toNat x1):Int)==48) (some (Ap.mk [.sc (.int .i64 0),.sc (.bool false)] [])) (Fo fu call a0 a1 (fu) (a0) (a1) 0 0)))) (Ae (CP p) prog fu d):=by kernel_rfl
abbrev Lh:FuncId:=61
noncomputable def Eb (fu:Nat)(call:Am)(a0:ByteArray)(a1:Int)(nn:Nat)(y0:ByteArray)(y1:Int)(y2:Nat)(y3 y4:Int)(y5:List PV):Option Ap:=Fh CB prog fu call 61 Tryz.f61 (D2 Tryz.f61) [.sc (.string a0),.sc (.int .u8 a1)] [.r,.r,.r,.l,.r,.l] nn ⟨lk [(0,(.sc (.string y0))),(1,(.sc (.int .u8 y1))),(5,(.view 5 1 0 y2)),(6,(.sc (.int .i64 y3))),(7,(.sc (.int .i64 y4)))],Iw [(5,(.ar false y5))]⟩
theorem Iv (fu:Nat)(call:Am)(a0:ByteArray)(a1:Int)(nn:Nat)(y0:ByteArray)(y1:Int)(y2:Nat)(y3 y4:Int)(y5:List PV):Eb fu call a0 a1 (nn+1) y0 y1 y2 y3 y4 y5=(Ba (decide (y4<(↑(ByteArray.size y0):Int))) (A2 (decide (0<=y4))<|C5 ((Array.toList (ByteArray.data y0))[Int.toNat y4]?) fun x1=>Ba ((↑(UInt8.toNat x1):Int)==y1) (A2 (decide (0<=y3))<|A2 (decide (0<=y4))<|A2 (decide (Int.toNat y3<=Int.toNat y4)&&decide (Int.toNat y4<=ByteArray.size y0))<|Ac (ByteArray.extract y0 y3.toNat y4.toNat) fun x2=>A2 (decide (y2*1<=y5.length)&&true&&decide ((y2+1)*16<=1099511627776)&&decide (y2+1<=1099511627776))<|Ac (y2+1) fun x3=>Ac (List.take (y2*1) y5++[.sc (.string x2)]) fun x4=>Ac (wrap .i64 (y4+1)) fun x5=>Ac (wrap .i64 (y4+1)) fun x6=>Eb fu call a0 a1 (nn) (y0) (y1) x3 x5 x6 x4) (Ac (wrap .i64 (y4+1)) fun x7=>Eb fu call a0 a1 (nn) (y0) (y1) (y2) (y3) x7 (y5))) (A2 (decide (0<=y3))<|A2 (decide (Int.toNat y3<=ByteArray.size y0)&&decide (ByteArray.size y0<=ByteArray.size y0))<|Ac (ByteArray.extract y0 y3.toNat (ByteArray.size y0)) fun x8=>A2 (decide (y2*1<=y5.length)&&true&&decide ((y2+1)*16<=1099511627776)&&decide (y2+1<=1099511627776))<|Ac (y2+1) fun x9=>Ac (List.take (y2*1) y5++[.sc (.string x8)]) fun E4=>A2 (decide (x9*1<=E4.length))<|some (Ap.mk [.own 1 x9 (List.take (x9*1) E4)] []))):=by kernel_rfl
theorem S5 {p:Option (List PV->Option Ap)} (fu d:Nat)(a0:ByteArray)(a1:Int):Ae (CP p) prog fu (d+1) Lh [.sc (.string a0),.sc (.int .u8 a1)]=(fun (call:Am)=>Eb fu call a0 a1 (fu) (a0) (a1) 0 0 0 ([])) (Ae (CP p) prog fu d):=by kernel_rfl
abbrev Ku:FuncId:=63
theorem Ta {p:Option (List PV->Option Ap)} (fu d:Nat)(a0:Int):Ae (CP p) prog fu (d+1) Ku [.sc (.int .u8 a0)]=(fun (call:Am)=>Ba (decide (a0>=48)) (some (Ap.mk [.sc (.bool (decide (a0<=57)))] [])) (some (Ap.mk [.sc (.bool false)] []))) (Ae (CP p) prog fu d):=by kernel_rfl
abbrev Kt:FuncId:=62
noncomputable def Jy (fu:Nat)(call:Am)(a0:ByteArray)(nn:Nat)(y0:ByteArray):Option Ap:=Fh CB prog fu call 62 Tryz.f62 (D2 Tryz.f62) [.sc (.string a0)] [.r] nn ⟨lk [(0,(.sc (.string y0)))],Iw []⟩
noncomputable def Cn (fu:Nat)(call:Am)(a0:ByteArray)(nn:Nat)(y0:ByteArray)(y1:Int):Option Ap:=Fh CB prog fu call 62 Tryz.f62 (D2 Tryz.f62) [.sc (.string a0)] [.r,.r,.l,.r,.l] nn ⟨lk [(0,(.sc (.string y0))),(3,(.sc (.int .i64 y1)))],Iw []⟩
theorem Qr (fu:Nat)(call:Am)(a0:ByteArray)(nn:Nat)(N7:0<nn)(y0:ByteArray):Jy fu call a0 nn y0=(Cn fu call a0 (fu) (y0) 0):=by cases nn with|zero=>exact absurd N7 (Nat.lt_irrefl 0)|succ nn=>kernel_rfl
theorem Ik (fu:Nat)(call:Am)(a0:ByteArray)(nn:Nat)(y0:ByteArray)(y1:Int):Cn fu call a0 (nn+1) y0 y1=(Ba (decide (y1<(↑(ByteArray.size y0):Int))) (A2 (decide (0<=y1))<|C5 ((Array.toList (ByteArray.data y0))[Int.toNat y1]?) fun x4=>Ba (decide ((↑(UInt8.toNat x4):Int)>=97)) (A2 (decide (0<=y1))<|C5 ((Array.toList (ByteArray.data y0))[Int.toNat y1]?) fun x5=>Ba (!decide ((↑(UInt8.toNat x5):Int)<=122)) (A2 (decide (0<=y1))<|C5 ((Array.toList (ByteArray.data y0))[Int.toNat y1]?) fun x6=>Ah (call 63 [.sc (.int .u8 (↑(UInt8.toNat x6):Int))]) fun x7 x8=>Ad x8<|Aa x7 fun x9 E4=>Aq x9 fun Is=>Ad E4<|Ba (!Is) (A2 (decide (0<=y1))<|C5 ((Array.toList (ByteArray.data y0))[Int.toNat y1]?) fun Iu=>Ba ((↑(UInt8.toNat Iu):Int) != 45) (some (Ap.mk [.sc (.bool false)] [])) (Ac (wrap .i64 (y1+1)) fun Ey=>Cn fu call a0 (nn) (y0) Ey)) (Ac (wrap .i64 (y1+1)) fun Gt=>Cn fu call a0 (nn) (y0) Gt)) (Ac (wrap .i64 (y1+1)) fun Ja=>Cn fu call a0 (nn) (y0) Ja)) (A2 (decide (0<=y1))<|C5 ((Array.toList (ByteArray.data y0))[Int.toNat y1]?) fun Gs=>Ah (call 63 [.sc (.int .u8 (↑(UInt8.toNat Gs):Int))]) fun Hk I6=>Ad I6<|Aa Hk fun H9 I9=>Aq H9 fun I5=>Ad I9<|Ba (!I5) (A2 (decide (0<=y1))<|C5 ((Array.toList (ByteArray.data y0))[Int.toNat y1]?) fun Jr=>Ba ((↑(UInt8.toNat Jr):Int) != 45) (some (Ap.mk [.sc (.bool false)] [])) (Ac (wrap .i64 (y1+1)) fun I4=>Cn fu call a0 (nn) (y0) I4)) (Ac (wrap .i64 (y1+1)) fun Hw=>Cn fu call a0 (nn) (y0) Hw))) (some (Ap.mk [.sc (.bool true)] []))):=by kernel_rfl
theorem Tn {p:Option (List PV->Option Ap)} (fu d:Nat)(a0:ByteArray):Ae (CP p) prog fu (d+1) Kt [.sc (.string a0)]=(fun (call:Am)=>Ba (decide ((↑(ByteArray.size a0):Int)<1)) (some (Ap.mk [.sc (.bool false)] [])) (Ba (decide ((↑(ByteArray.size a0):Int)>63)) (some (Ap.mk [.sc (.bool false)] [])) (C5 ((Array.toList (ByteArray.data a0))[0]?) fun x1=>Ba ((↑(UInt8.toNat x1):Int)==45) (some (Ap.mk [.sc (.bool false)] [])) (Ac (wrap .i64 ((↑(ByteArray.size a0):Int)-1)) fun x2=>A2 (decide (0<=x2))<|C5 ((Array.toList (ByteArray.data a0))[Int.toNat x2]?) fun x3=>Ba ((↑(UInt8.toNat x3):Int)==45) (some (Ap.mk [.sc (.bool false)] [])) (Jy fu call a0 (fu) (a0)))))) (Ae (CP p) prog fu d):=by kernel_rfl
abbrev Im:FuncId:=38
noncomputable def Eh (fu:Nat)(call:Am)(a0:ByteArray)(nn y0:Nat)(y1:Int)(y2:List PV):Option Ap:=Fh CB prog fu call 38 Tryz.f38 (D2 Tryz.f38) [.sc (.string a0)] [.r,.r,.r,.l,.r,.l] nn ⟨lk [(3,(.view 3 1 0 y0)),(4,(.sc (.int .i64 y1)))],Iw [(3,(.ar false y2))]⟩
noncomputable def Ej (fu:Nat)(call:Am)(a0:ByteArray)(nn:Nat)(y0:ByteArray)(y1:Int):Option Ap:=Fh CB prog fu call 38 Tryz.f38 (D2 Tryz.f38) [.sc (.string a0)] [.r,.r,.r,.r,.r,.l,.r,.l] nn ⟨lk [(5,(.sc (.string y0))),(6,(.sc (.int .i64 y1)))],Iw []⟩
theorem He (fu:Nat)(call:Am)(a0:ByteArray)(nn y0:Nat)(y1:Int)(y2:List PV):Eh fu call a0 (nn+1) y0 y1 y2=(Ba (decide (y1<(↑y0:Int))) (A2 (decide (0<=y1)&&decide (y1<(↑y0:Int)))<|Ar (List.getD y2 (0+Int.toNat y1*1) .top) fun x7=>Ah (call 62 [.sc (.string x7)]) fun x8 x9=>Ad x9<|Aa x8 fun E4 Is=>Aq E4 fun Iu=>Ad Is<|Ba (!Iu) (some (Ap.mk [.sc (.int .i64 2)] [])) (Ac (wrap .i64 (y1+1)) fun Ey=>Eh fu call a0 (nn) (y0) Ey (y2))) (Ac (wrap .i64 ((↑y0:Int)-1)) fun Gt=>A2 (decide (0<=Gt)&&decide (Gt<(↑y0:Int)))<|Ar (List.getD y2 (0+Int.toNat Gt*1) .top) fun Ja=>Ej fu call a0 (fu) Ja 0)):=by kernel_rfl
theorem G9 (fu:Nat)(call:Am)(a0:ByteArray)(nn:Nat)(y0:ByteArray)(y1:Int):Ej fu call a0 (nn+1) y0 y1=(Ba (decide (y1<(↑(ByteArray.size y0):Int))) (A2 (decide (0<=y1))<|C5 ((Array.toList (ByteArray.data y0))[Int.toNat y1]?) fun Gs=>Ah (call 63 [.sc (.int .u8 (↑(UInt8.toNat Gs):Int))]) fun Hk I6=>Ad I6<|Aa Hk fun H9 I9=>Aq H9 fun I5=>Ad I9<|Ba (!I5) (some (Ap.mk [.sc (.int .i64 0)] [])) (Ac (wrap .i64 (y1+1)) fun Jr=>Ej fu call a0 (nn) (y0) Jr)) (some (Ap.mk [.sc (.int .i64 2)] []))):=by kernel_rfl
theorem Py {p:Option (List PV->Option Ap)} (fu d:Nat)(a0:ByteArray):Ae (CP p) prog fu (d+1) Im [.sc (.string a0)]=(fun (call:Am)=>Ba (decide ((↑(ByteArray.size a0):Int)>100)) (some (Ap.mk [.sc (.int .i64 8)] [])) (Ah (call 61 [.sc (.string a0),.sc (.int .u8 46)]) fun x1 x2=>Ad x2<|Aa x1 fun x3 x4=>IU 1 x3 fun x5 x6=>Ad x4<|Eh fu call a0 (fu) x5 0 x6)) (Ae (CP p) prog fu d):=by kernel_rfl
abbrev G8:FuncId:=26
noncomputable def Bj (fu:Nat)(call:Am)(a0:ByteArray)(nn:Nat)(y0:ByteArray)(y1 y2:Int)(y3:Bool)(y4:ByteArray)(y5:Int)(y6:Bool)(y7:ByteArray)(y8:Int):Option Ap:=Fh CB prog fu call 26 Tryz.f26 (D2 Tryz.f26) [.sc (.string a0)] [.r,.r,.r,.r,.r,.r,.l,.r,.l] nn ⟨lk [(2,(.ptr 2 0)),(4,(.ptr 4 0)),(6,(.sc (.string y0))),(7,(.sc (.int .i64 y1))),(8,(.sc (.int .i64 y2)))],Iw [(2,(.st [(.sc (.bool y3)),(.sc (.string y4)),(.sc (.int .i64 y5))])),(4,(.st [(.sc (.bool y6)),(.sc (.string y7)),(.sc (.int .i64 y8))]))]⟩
theorem Gc (fu:Nat)(call:Am)(a0:ByteArray)(nn:Nat)(y0:ByteArray)(y1 y2:Int)(y3:Bool)(y4:ByteArray)(y5:Int)(y6:Bool)(y7:ByteArray)(y8:Int):Bj fu call a0 (nn+1) y0 y1 y2 y3 y4 y5 y6 y7 y8=(Ba (decide (y2>=0)) (A2 (decide (0<=y2))<|C5 ((Array.toList (ByteArray.data y0))[Int.toNat y2]?) fun I6=>Ba ((↑(UInt8.toNat I6):Int)==58) (Ac (wrap .i64 (y2-1)) fun H9=>Bj fu call a0 (nn) (y0) (y2) H9 (y3) (y4) (y5) (y6) (y7) (y8)) (Ac (wrap .i64 (y2-1)) fun I9=>Bj fu call a0 (nn) (y0) (y1) I9 (y3) (y4) (y5) (y6) (y7) (y8))) (A2 (decide (0<=y1))<|A2 (decide (Int.toNat y1<=ByteArray.size y0))<|Ac (ByteArray.extract y0 0 y1.toNat) fun I5=>Ah (call 38 [.sc (.string I5)]) fun Jr I4=>Ad I4<|Aa Jr fun Hw Iz=>Aj .i64 Hw fun Kr=>Ad Iz<|Ba (Kr != 0) (some (Ap.mk [.agg [.sc (.bool false),.sc (.string (ByteArray.mk #[])),.sc (.int .i64 0)],.sc (.int .i64 Kr)] [])) (A2 (decide (0<=y1))<|A2 (decide (Int.toNat y1<=ByteArray.size y0))<|Ac (ByteArray.extract y0 0 y1.toNat) fun L1=>Ah (call 39 [.sc (.bool y6)]) fun Ms L6=>Ad L6<|Aa Ms fun N4 N1=>Aj .i64 N4 fun Pf=>Ad N1<|Ba (decide (y1<(↑(ByteArray.size y0):Int))) (Ac (wrap .i64 (y1+1)) fun N6=>A2 (decide (0<=N6))<|A2 (decide (Int.toNat N6<=ByteArray.size y0)&&decide (ByteArray.size y0<=ByteArray.size y0))<|Ac (ByteArray.extract y0 N6.toNat (ByteArray.size y0)) fun O4=>Ah (call 40 [.sc (.string O4),.sc (.bool y6)]) fun Pq Pm=>Ad Pm<|Aa Pq fun Q2 Qs=>Aj .i64 Q2 fun Pi=>Aa Qs fun Vw Xj=>Aq Vw fun Pb=>Ad Xj<|Ba (!Pb) (some (Ap.mk [.agg [.sc (.bool false),.sc (.string (ByteArray.mk #[])),.sc (.int .i64 0)],.sc (.int .i64 2)] [])) (some (Ap.mk [.agg [.sc (.bool y6),.sc (.string L1),.sc (.int .i64 Pi)],.sc (.int .i64 0)] []))) (some (Ap.mk [.agg [.sc (.bool y6),.sc (.string L1),.sc (.int .i64 Pf)],.sc (.int .i64 0)] []))))):=by kernel_rfl
theorem Ny {p:Option (List PV->Option Ap)} (fu d:Nat)(a0:ByteArray):Ae (CP p) prog fu (d+1) G8 [.sc (.string a0)]=(fun (call:Am)=>Ba (decide ((↑(ByteArray.size a0):Int)>=8)) (A2 (decide (8<=ByteArray.size a0))<|Ac (ByteArray.extract a0 0 8) fun x1=>Ah (call 37 [.sc (.bool (Array.toList (ByteArray.data x1)==Array.toList (ByteArray.data (ByteArray.mk #[104,116,116,112,115,58,47,47]))))]) fun x2 x3=>Ad x3<|Aa x2 fun x4 x5=>Ar x4 fun x6=>Ad x5<|Ba (decide ((↑(ByteArray.size a0):Int)<(↑(ByteArray.size x6):Int))) (some (Ap.mk [.agg [.sc (.bool false),.sc (.string (ByteArray.mk #[])),.sc (.int .i64 0)],.sc (.int .i64 2)] [])) (A2 (decide (Int.toNat (↑(ByteArray.size x6):Int)<=ByteArray.size a0))<|Ac (ByteArray.extract a0 0 (Int.toNat (↑(ByteArray.size x6):Int))) fun x7=>Ba (!Array.toList (ByteArray.data x7)==Array.toList (ByteArray.data x6)) (some (Ap.mk [.agg [.sc (.bool false),.sc (.string (ByteArray.mk #[])),.sc (.int .i64 0)],.sc (.int .i64 2)] [])) (A2 (decide (Int.toNat (↑(ByteArray.size x6):Int)<=ByteArray.size a0)&&decide (ByteArray.size a0<=ByteArray.size a0))<|Ac (ByteArray.extract a0 (Int.toNat (↑(ByteArray.size x6):Int)) (ByteArray.size a0)) fun x8=>Ac (wrap .i64 ((↑(ByteArray.size x8):Int)-1)) fun x9=>Bj fu call a0 (fu) x8 ((↑(ByteArray.size x8):Int)) x9 (false) (ByteArray.mk #[]) 0 (Array.toList (ByteArray.data x1)==Array.toList (ByteArray.data (ByteArray.mk #[104,116,116,112,115,58,47,47]))) (ByteArray.mk #[]) 0))) (Ah (call 37 [.sc (.bool false)]) fun E4 Is=>Ad Is<|Aa E4 fun Iu Ey=>Ar Iu fun Gt=>Ad Ey<|Ba (decide ((↑(ByteArray.size a0):Int)<(↑(ByteArray.size Gt):Int))) (some (Ap.mk [.agg [.sc (.bool false),.sc (.string (ByteArray.mk #[])),.sc (.int .i64 0)],.sc (.int .i64 2)] [])) (A2 (decide (Int.toNat (↑(ByteArray.size Gt):Int)<=ByteArray.size a0))<|Ac (ByteArray.extract a0 0 (Int.toNat (↑(ByteArray.size Gt):Int))) fun Ja=>Ba (!Array.toList (ByteArray.data Ja)==Array.toList (ByteArray.data Gt)) (some (Ap.mk [.agg [.sc (.bool false),.sc (.string (ByteArray.mk #[])),.sc (.int .i64 0)],.sc (.int .i64 2)] [])) (A2 (decide (Int.toNat (↑(ByteArray.size Gt):Int)<=ByteArray.size a0)&&decide (ByteArray.size a0<=ByteArray.size a0))<|Ac (ByteArray.extract a0 (Int.toNat (↑(ByteArray.size Gt):Int)) (ByteArray.size a0)) fun Gs=>Ac (wrap .i64 ((↑(ByteArray.size Gs):Int)-1)) fun Hk=>Bj fu call a0 (fu) Gs ((↑(ByteArray.size Gs):Int)) Hk (false) (ByteArray.mk #[]) 0 (false) (ByteArray.mk #[]) 0)))) (Ae (CP p) prog fu d):=by kernel_rfl
abbrev N9:FuncId:=12
theorem Og {p:Option (List PV->Option Ap)} (fu d:Nat)(Bg:Int)(K3:Nat)(Bf:List PV)(Oe:ByteArray)(Tp:Bool)(Mb:ByteArray):Ae (CP p) prog fu (d+1) N9 [.agg [.sc (.int .i64 Bg),.lst false 1 K3 Bf,.sc (.string Oe),.sc (.bool Tp),.sc (.string Mb)]]=(fun (call:Am)=>Ah (call 25 [.sc (.int .i64 Bg)]) fun x1 x2=>Ad x2<|Aa x1 fun x3 x4=>Ar x3 fun x5=>Ad x4<|Ba (Array.toList (ByteArray.data x5)==Array.toList (ByteArray.data (ByteArray.mk #[]))) (some (Ap.mk [.sc (.string (ByteArray.mk #[])),.sc (.int .i64 3)] [])) (Ba (decide ((↑K3:Int)<1)) (some (Ap.mk [.sc (.string (ByteArray.mk #[])),.sc (.int .i64 9)] [])) (Ba (decide ((↑K3:Int)>64)) (some (Ap.mk [.sc (.string (ByteArray.mk #[])),.sc (.int .i64 9)] [])) (Ah (call 26 [.sc (.string Oe)]) fun x6 x7=>Ad x7<|Aa x6 fun x8 x9=>F7 x8 fun E4=>Aa E4 fun Is Iu=>Aq Is fun Ey=>Aa Iu fun Gt Ja=>Ar Gt fun Gs=>Aa Ja fun Hk I6=>Aj .i64 Hk fun H9=>Ad I6<|Aa x9 fun I9 I5=>Aj .i64 I9 fun Jr=>Ad I5<|Ba (Jr != 0) (some (Ap.mk [.sc (.string (ByteArray.mk #[])),.sc (.int .i64 Jr)] [])) (Ah (call 25 [.sc (.int .i64 Bg)]) fun I4 Hw=>Ad Hw<|Aa I4 fun Iz Kr=>Ar Iz fun L1=>Ad Kr<|A2 (decide (9+ByteArray.size L1<=9223372036854775807))<|Ac (ByteArray.mk #[123,34,116,121,112,101,34,58,34]++L1) fun Ms=>A2 (decide (ByteArray.size Ms+15<=9223372036854775807))<|Ac (Ms++ByteArray.mk #[34,44,34,99,104,97,108,108,101,110,103,101,34,58,34]) fun L6=>Ah (call 19 [.lst false 1 K3 Bf]) fun N4 N1=>Ad N1<|Aa N4 fun Pf N6=>Ar Pf fun O4=>Ad N6<|A2 (decide (ByteArray.size L6+ByteArray.size O4<=9223372036854775807))<|Ac (L6++O4) fun Pq=>A2 (decide (ByteArray.size Pq+12<=9223372036854775807))<|Ac (Pq++ByteArray.mk #[34,44,34,111,114,105,103,105,110,34,58,34]) fun Pm=>A2 (decide (ByteArray.size Pm+ByteArray.size Oe<=9223372036854775807))<|Ac (Pm++Oe) fun Q2=>A2 (decide (ByteArray.size Q2+16<=9223372036854775807))<|Ac (Q2++ByteArray.mk #[34,44,34,99,114,111,115,115,79,114,105,103,105,110,34,58]) fun Qs=>Ba (!Tp) (Ba (!Array.toList (ByteArray.data Mb)==Array.toList (ByteArray.data (ByteArray.mk #[]))) (some (Ap.mk [.sc (.string (ByteArray.mk #[])),.sc (.int .i64 4)] [])) (A2 (decide (ByteArray.size Qs+6<=9223372036854775807))<|Ac (Qs++ByteArray.mk #[102,97,108,115,101,125]) fun Pi=>some (Ap.mk [.sc (.string Pi),.sc (.int .i64 0)] []))) (Ah (call 26 [.sc (.string Mb)]) fun Vw Xj=>Ad Xj<|Aa Vw fun Pb Pp=>F7 Pb fun V7=>Aa V7 fun Vn Xv=>Aq Vn fun Yb=>Aa Xv fun X9 Vp=>Ar X9 fun Wb=>Aa Vp fun Xh Oa=>Aj .i64 Xh fun R8=>Ad Oa<|Aa Pp fun Xk DJ=>Aj .i64 Xk fun BW=>Ad DJ<|Ba (BW != 0) (some (Ap.mk [.sc (.string (ByteArray.mk #[])),.sc (.int .i64 BW)] [])) (A2 (decide (ByteArray.size Qs+18<=9223372036854775807))<|Ac (Qs++ByteArray.mk #[116,114,117,101,44,34,116,111,112,79,114,105,103,105,110,34,58,34]) fun Z9=>A2 (decide (ByteArray.size Z9+ByteArray.size Mb<=9223372036854775807))<|Ac (Z9++Mb) fun Z5=>A2 (decide (ByteArray.size Z5+2<=9223372036854775807))<|Ac (Z5++ByteArray.mk #[34,125]) fun EJ=>some (Ap.mk [.sc (.string EJ),.sc (.int .i64 0)] [])))))))) (Ae (CP p) prog fu d):=by kernel_rfl
end
section
open Go.Proofs.Tryz (prog)
open Go.IntKind (wrap)
set_option maxRecDepth 100000
theorem Ach {l:List Int}(hl:Cx l)(a b:Nat):(Ab l).extract a b=Ab ((l.drop a).take (b-a)):=by
 have h:(Ab l).extract a b=Ab (Fn ((Ab l).extract a b)):=(Hl _).symm;rw[h]
 congr 1
 unfold Fn;rw[ByteArray.data_extract,Array.toList_extract,List.extract_eq_take_drop,List.map_take,List.map_drop];have:(List.map (fun b:UInt8=>(b.toNat:Int)) (Ab l).data.toList)=l:=Cd hl
 rw[this]
theorem Yk {a b:List Int}(ha:Cx a)(hb:Cx b):(Array.toList (Ab a).data==Array.toList (Ab b).data)=decide (a=b):=by
 rw[Bool.eq_iff_iff,beq_iff_eq,decide_eq_true_iff];constructor
 ·intro h
  have h2:Ab a=Ab b:=by
   cases hx:Ab a;cases hy:Ab b;rw[hx,hy] at h;exact congrArg ByteArray.mk (Array.toList_inj.1 h)
  have h3:=congrArg Fn h2
  rwa [Cd ha,Cd hb] at h3
 ·rintro rfl;rfl
theorem RI {w l:List Int}(h:w.length<=l.length):decide (l.take w.length=w)=w.isPrefixOf l:=by
 rw[Bool.eq_iff_iff,decide_eq_true_iff,List.isPrefixOf_iff_prefix,List.prefix_iff_eq_take];exact⟨fun h=>h.symm,fun h=>h.symm⟩
theorem LL (c:Int):∀{cur:List Int},(∀x∈cur,x≠c)->∀r,A1 c (cur++c::r)=cur::A1 c r
 |[],_,r=>by
  show (if c=c then []::A1 c r else _)=_
  rw[Dy rfl]
 |x::cur,h,r=>by
  have hx:=h x (by simp)
  have ih:=LL c (cur:=cur) (fun y hy=>h y (by simp[hy])) r
  show (if x=c then []::A1 c (cur++c::r) else match A1 c (cur++c::r) with|a::t=>(x::a)::t|[]=>[[x]])=_
  rw[Ct hx,ih]
theorem GW (c:Int):∀{cur:List Int},(∀x∈cur,x≠c)->A1 c cur=[cur]
 |[],_=>rfl
 |x::cur,h=>by
  have hx:=h x (by simp)
  have ih:=GW c (cur:=cur) (fun y hy=>h y (by simp[hy]))
  show (if x=c then []::A1 c cur else match A1 c cur with|a::t=>(x::a)::t|[]=>[[x]])=_
  rw[Ct hx,ih]
section
variable {fu d:Nat} {p:Option (List PV->Option Ap)}
theorem Abh {c:Int}:Ae (CP p) prog fu (d+1) Ku [.sc (.int .u8 c)]=some ⟨[.sc (.bool (Vh c))],[]⟩:=by
 rw[Ta];unfold Vh;by_cases h:48<=c
 ·have a1:=dT (q:=c>=48) h;have a2:=dT h;simp only[B4,a1,a2,Zzm]
 ·have a1:=dF (q:=c>=48) h;have a2:=dF h;simp only[B4,a1,a2,OC]
def lbB (x:Int):Bool:=XI x||x==45
theorem Ac7 {a0:ByteArray}{l:List Int}(hB:Cx l)(hs:l.length<=63):∀(r:List Int)(i nn:Nat),l.drop i=r->r.length+1<=nn ->
  Cn fu (Ae (CP p) prog fu (d+1)) a0 nn (Ab l) (i:Int)=some ⟨[.sc (.bool (r.all lbB))],[]⟩
 |[],i,nn,hd,hn=>by
  obtain⟨k,rfl⟩:∃k,nn=k+1:=⟨nn-1,by omega⟩
  have hi:=drop_nil hd;have a1:decide ((i:Int)<(l.length:Int))=false:=dF (by omega)
  rw[Ik];simp only[B4,Af,a1];rfl
 |c::r,i,nn,hd,hn=>by
  obtain⟨k,rfl⟩:∃k,nn=k+1:=⟨nn-1,by omega⟩
  obtain⟨hi,hc,Il⟩:=Ff hd;have ih:=Ac7 (a0:=a0) hB hs r (i+1) k Il (by simp at hn;omega)
  have JA:=hB c (List.mem_of_getElem? hc);have a1:decide ((i:Int)<(l.length:Int))=true:=dT (by omega)
  have a2:decide ((0:Int)<=(i:Int))=true:=by simp
  have a3:(Array.toList (Ab l).data)[Int.toNat (i:Int)]?=some c.toNat.toUInt8:=by
   rw[Kj];show (l.map fun n=>n.toNat.toUInt8)[i]?=_
   rw[List.getElem?_map,hc];rfl
  have a4:=Jh JA;have a5:wrap .i64 ((i:Int)+1)=((i+1:Nat):Int):=by rw[Au (by omega) (by omega)];omega
  have e:Ae (CP p) prog fu (d+1) 63 [.sc (.int .u8 c)]=_:=Abh (fu:=fu) (d:=d) (p:=p) (c:=c);have step:(c::r).all lbB=(lbB c&&r.all lbB):=List.all_cons;rw[Ik,step];by_cases hA:97<=c∧c<=122
  ·have q1:=dT (q:=c>=97) hA.1;have q2:=bT hA.2;have hl:lbB c=true:=by unfold lbB XI;simp[hA]
   rw[hl,Zzm];simp only[B4,Af,a1,a2,a3,a4,a5,q1,q2];exact ih
  cases hD:Vh c
  ·rw[hD] at e
   have Cb:XI c=false:=by
    unfold XI;rw[hD,Bool.or_false];simp;omega
   by_cases hM:c=45
   ·subst hM;have q1:decide ((45:Int)>=97)=false:=rfl;have q3:((45:Int) != 45)=false:=rfl;have hl:lbB 45=true:=rfl;rw[hl,Zzm];simp only[B4,Af,a1,a2,a3,a4,a5,q1,e,D6,q3];exact ih
   ·have q3:(c != 45)=true:=by simp[hM]
    have hl:lbB c=false:=by unfold lbB;simp[Cb,hM]
    rw[hl,OC];by_cases h97:97<=c
    ·have q1:=dT (q:=c>=97) h97;have q2:=bF (q:=c<=122) (by omega)
     simp only[B4,Af,a1,a2,a3,a4,a5,q1,q2,e,D6,q3]
    ·have q1:=dF (q:=c>=97) h97;simp only[B4,Af,a1,a2,a3,a4,a5,q1,e,D6,q3]
  ·rw[hD] at e;have h48:=(Zd c).1 hD;have hl:lbB c=true:=by unfold lbB XI;simp[hD]
   have q1:=dF (q:=c>=97) (by omega)
   rw[hl,Zzm];simp only[B4,Af,a1,a2,a3,a4,a5,q1,e,Dk];exact ih
theorem Aig {l:List Int}(hB:Cx l)(Eu:100<=fu):Ae (CP p) prog fu (d+2) Kt [.sc (.string (Ab l))]=some ⟨[.sc (.bool (Ie l))],[]⟩:=by
 rw[Tn];by_cases h1:1<=l.length
 ·have a1:decide (((l.length:Nat):Int)<1)=false:=dF (by omega)
  by_cases h2:l.length<=63
  ·have a2:decide (((l.length:Nat):Int)>63)=false:=dF (by omega)
   have e0:Ie l=(!(l.head?==some 45) && !(l.getLast?==some 45)&&l.all lbB):=by
    unfold Ie;rw[dT h1,dT h2];rfl
   cases l with
   |nil=>simp at h1
   |cons c r=>
    have JA:=hB c (by simp)
    have a3:(Array.toList (Ab (c::r)).data)[0]?=some c.toNat.toUInt8:=rfl;have a4:=Jh JA;by_cases h0:c=45
    ·subst h0;have q:((45:Int)==45)=true:=rfl;have e:Ie (45::r)=false:=by rw[e0];simp
     rw[e];simp only[B4,Af,a1,a2,a3,a4,q]
    ·have q:(c==45)=false:=by simp[h0]
     obtain⟨z,hz⟩:∃z,(c::r).getLast?=some z:=⟨_,List.getLast?_eq_some_getLast (by simp)⟩
     have Nn:(c::r)[(c::r).length-1]?=some z:=by rw[←List.getLast?_eq_getElem?];exact hz
     have hzB:=hB z (List.mem_of_getElem? Nn);have b1:wrap .i64 (((c::r).length:Int)-1)=(((c::r).length-1:Nat):Int):=by rw[Au (by omega) (by omega)];omega
     have b2:decide ((0:Int)<=(((c::r).length-1:Nat):Int))=true:=dT (by omega)
     have b3:(Array.toList (Ab (c::r)).data)[Int.toNat (((c::r).length-1:Nat):Int)]?=some z.toNat.toUInt8:=by
      rw[Kj];show ((c::r).map fun n=>n.toNat.toUInt8)[(c::r).length-1]?=_
      rw[List.getElem?_map,Nn];rfl
     have b4:=Jh hzB;by_cases Ays:z=45
     ·subst Ays;have q2:((45:Int)==45)=true:=rfl;have e:Ie (c::r)=false:=by rw[e0,hz];simp
      rw[e];simp only[B4,Af,a1,a2,a3,a4,q,b1,b2,b3,b4,q2]
     ·have q2:(z==45)=false:=by simp[Ays]
      have e:Ie (c::r)=(c::r).all lbB:=by rw[e0,hz];simp[h0,Ays]
      have hl:=Ac7 (fu:=fu) (d:=d) (p:=p) (a0:=Ab (c::r)) hB h2 (c::r) 0 fu rfl (by omega)
      rw[e];simp only[B4,Af,a1,a2,a3,a4,q,b1,b2,b3,b4,q2];rw[Qr (N7:=by omega)]
      exact hl
  ·have a2:decide (((l.length:Nat):Int)>63)=true:=dT (by omega)
   have e:Ie l=false:=by unfold Ie;simp[h2]
   rw[e];simp only[B4,Af,a1,a2]
 ·have a1:decide (((l.length:Nat):Int)<1)=true:=dT (by omega)
  have e:Ie l=false:=by unfold Ie;simp[h1]
  rw[e];simp only[B4,Af,a1]
theorem QD {call:Am}{a0:ByteArray}{a1 c:Int}{l:List Int}(hB:Cx l)(hl:l.length<=100000):∀(r cur:List Int)(done:List (List Int)) (f nn:Nat),l.drop f=cur++r->(∀x∈cur,x≠c)->done.length<=f->f<=l.length->r.length+1<=nn ->
  Eb fu call a0 a1 nn (Ab l) c done.length (f:Int) ((f+cur.length:Nat):Int) (done.map Rw)=some ⟨[.own 1 (done++A1 c (cur++r)).length ((done++A1 c (cur++r)).map Rw)],[]⟩
 |[],cur,done,f,nn,hd,hc,U7,hf,hn=>by
  obtain⟨k,rfl⟩:∃k,nn=k+1:=⟨nn-1,by omega⟩
  rw[List.append_nil] at hd;have C6:=congrArg List.length hd;rw[List.length_drop] at C6;have b1:decide (((f+cur.length:Nat):Int)<(l.length:Int))=false:=dF (by omega)
  have b2:decide ((0:Int)<=(f:Int))=true:=by simp
  have b3:decide (Int.toNat (f:Int)<=l.length)=true:=dT (by omega)
  have b4:(Ab l).extract (Int.toNat (f:Int)) l.length=Ab cur:=by
   rw[Ach hB,Kj,hd,QT (by omega)]
  have b5:decide (done.length*1<=List.length (done.map Rw))=true:=by simp
  have b6:decide ((done.length+1)*16<=1099511627776)=true:=dT (by omega)
  have b7:decide (done.length+1<=1099511627776)=true:=dT (by omega)
  have b8:List.take (done.length*1) (done.map Rw)++[PV.sc (.string (Ab cur))]=(done++[cur]).map Rw:=by
   rw[QT (by simp)];simp[Rw]
  have b9:decide ((done.length+1)*1<=List.length ((done++[cur]).map Rw))=true:=by simp
  have c1:List.take ((done.length+1)*1) ((done++[cur]).map Rw)=(done++[cur]).map Rw:=QT (by simp)
  rw[Iv,List.append_nil,GW c hc];simp only[B4,Af,dle,b1,b2,b3,b4,b5,b6,b7,b8,b9,c1];simp
 |x::r,cur,done,f,nn,hd,hc,U7,hf,hn=>by
  obtain⟨k,rfl⟩:∃k,nn=k+1:=⟨nn-1,by omega⟩
  have C6:=congrArg List.length hd;rw[List.length_drop] at C6;simp only[BZ,Uk] at C6
  have hx:l[f+cur.length]?=some x:=by
   have:(l.drop f)[cur.length]?=some x:=by rw[hd];simp
   rwa [List.getElem?_drop] at this
  have hxB:=hB x (List.mem_of_getElem? hx);have b1:decide (((f+cur.length:Nat):Int)<(l.length:Int))=true:=dT (by omega)
  have b2:decide ((0:Int)<=((f+cur.length:Nat):Int))=true:=dT (by omega)
  have b2':decide ((0:Int)<=(f:Int))=true:=by simp
  have b3:(Array.toList (Ab l).data)[Int.toNat ((f+cur.length:Nat):Int)]?=some x.toNat.toUInt8:=by
   rw[Kj];show (l.map fun n=>n.toNat.toUInt8)[f+cur.length]?=_
   rw[List.getElem?_map,hx];rfl
  have b4:=Jh hxB;have b5:wrap .i64 (((f+cur.length:Nat):Int)+1)=((f+cur.length+1:Nat):Int):=by rw[Au (by omega) (by omega)];omega
  rw[Iv];by_cases hxc:x=c
  ·subst hxc;have q:(x==x)=true:=by simp
   have c1:decide (Int.toNat (f:Int)<=Int.toNat ((f+cur.length:Nat):Int))=true:=dT (by omega)
   have c2:decide (Int.toNat ((f+cur.length:Nat):Int)<=l.length)=true:=dT (by omega)
   have c3:(Ab l).extract (Int.toNat (f:Int)) (Int.toNat ((f+cur.length:Nat):Int))=Ab cur:=by
    rw[Ach hB,Kj,Kj,hd,Nat.add_sub_cancel_left,List.take_left]
   have c4:decide (done.length*1<=List.length (done.map Rw))=true:=by simp
   have c5:decide ((done.length+1)*16<=1099511627776)=true:=dT (by omega)
   have c6:decide (done.length+1<=1099511627776)=true:=dT (by omega)
   have c7:List.take (done.length*1) (done.map Rw)++[PV.sc (.string (Ab cur))]=(done++[cur]).map Rw:=by
    rw[QT (by simp)];simp[Rw]
   have Il:l.drop (f+cur.length+1)=[]++r:=by
    rw[←List.drop_drop,←List.drop_drop,hd,List.drop_left];rfl
   have ih:=QD (call:=call) (a0:=a0) (a1:=a1) (c:=x) hB hl r [] (done++[cur]) (f+cur.length+1) k Il (fun y hy=>nomatch hy) (by simp;omega) (by omega) (by simp at hn;omega)
   rw[LL x hc];simp only[B4,Af,b1,b2,b2',b3,b4,q,c1,c2,c3,c4,c5,c6,c7,b5];rw[show (done++[cur]).length=done.length+1 by simp,show f+cur.length+1+([]:List Int).length=f+cur.length+1 from rfl] at ih
   refine ih.trans ?_;simp
  ·have q:(x==c)=false:=by simp[hxc]
   have ih:=QD (call:=call) (a0:=a0) (a1:=a1) hB hl r (cur++[x]) done f k (by rw[hd];simp) (fun y hy=>by
    rcases List.mem_append.1 hy with hy|hy
    ·exact hc y hy
    ·simp at hy;subst hy;exact hxc) U7 hf (by simp at hn;omega)
   simp only[B4,Af,b1,b2,b3,b4,q,b5];rw[show f+(cur++[x]).length=f+cur.length+1 by simp;omega] at ih
   refine ih.trans ?_;simp
theorem Ak5 {c:Int}{l:List Int}(hB:Cx l)(hl:l.length<=100000)(Eu:l.length+1<=fu):Ae (CP p) prog fu (d+1) Lh [.sc (.string (Ab l)),.sc (.int .u8 c)]=some ⟨[.own 1 (A1 c l).length ((A1 c l).map Rw)],[]⟩:=by
 rw[S5];have:=QD (fu:=fu) (call:=Ae (CP p) prog fu d) (a0:=Ab l) (a1:=c) (c:=c) hB hl l [] [] 0 fu rfl (fun y hy=>nomatch hy) (Nat.le_refl _) (by omega) Eu
 exact this
theorem UO {a0:ByteArray}{l:List Int}(hB:Cx l)(hs:l.length<=100000):∀(r:List Int)(i nn:Nat),l.drop i=r->r.length+1<=nn ->
  Ej fu (Ae (CP p) prog fu (d+1)) a0 nn (Ab l) (i:Int)=some ⟨[.sc (.int .i64 (if r.all Vh=true then 2 else 0))],[]⟩
 |[],i,nn,hd,hn=>by
  obtain⟨k,rfl⟩:∃k,nn=k+1:=⟨nn-1,by omega⟩
  have hi:=drop_nil hd;have a1:decide ((i:Int)<(l.length:Int))=false:=dF (by omega)
  rw[G9];simp only[B4,Af,a1];rfl
 |c::r,i,nn,hd,hn=>by
  obtain⟨k,rfl⟩:∃k,nn=k+1:=⟨nn-1,by omega⟩
  obtain⟨hi,hc,Il⟩:=Ff hd;have ih:=UO (a0:=a0) hB hs r (i+1) k Il (by simp at hn;omega)
  have JA:=hB c (List.mem_of_getElem? hc);have a1:decide ((i:Int)<(l.length:Int))=true:=dT (by omega)
  have a2:decide ((0:Int)<=(i:Int))=true:=by simp
  have a3:(Array.toList (Ab l).data)[Int.toNat (i:Int)]?=some c.toNat.toUInt8:=by
   rw[Kj];show (l.map fun n=>n.toNat.toUInt8)[i]?=_
   rw[List.getElem?_map,hc];rfl
  have a4:=Jh JA;have a5:wrap .i64 ((i:Int)+1)=((i+1:Nat):Int):=by rw[Au (by omega) (by omega)];omega
  have e:Ae (CP p) prog fu (d+1) 63 [.sc (.int .u8 c)]=_:=Abh (fu:=fu) (d:=d) (p:=p) (c:=c);rw[G9,List.all_cons];cases hD:Vh c
  ·rw[hD] at e;simp only[B4,Af,a1,a2,a3,a4,e,D6,OC,Bool.false_eq_true,if_false]
  ·rw[hD] at e;simp only[B4,Af,a1,a2,a3,a4,e,Dk,Zzm,a5];exact ih
theorem LV {a0:ByteArray}(Eu:2000<=fu){ls:List (List Int)} (hB:∀x∈ls,Cx x∧x.length<=1000)(h0:ls≠[]) (hN:ls.length<=1000):∀(r:List (List Int)) (i nn:Nat),ls.drop i=r->r.length+1<=nn ->
  Eh fu (Ae (CP p) prog fu (d+2)) a0 nn ls.length (i:Int) (ls.map Rw)=some ⟨[.sc (.int .i64 (if r.all Ie=false then 2 else if (ls.getLastD []).all Vh=true then 2 else 0))],[]⟩
 |[],i,nn,hd,hn=>by
  obtain⟨k,rfl⟩:∃k,nn=k+1:=⟨nn-1,by omega⟩
  have hi:=drop_nil hd;have Afb:0<ls.length:=List.length_pos_iff.2 h0;have a1:decide ((i:Int)<(ls.length:Int))=false:=dF (by omega)
  have a2:wrap .i64 ((ls.length:Int)-1)=((ls.length-1:Nat):Int):=by rw[Au (by omega) (by omega)];omega
  have a3:decide ((0:Int)<=((ls.length-1:Nat):Int))=true:=dT (by omega)
  have a4:decide (((ls.length-1:Nat):Int)<(ls.length:Int))=true:=dT (by omega)
  have WF:ls.getLastD []=ls[ls.length-1]'(by omega):=by
   rw[List.getLastD_eq_getLast?,List.getLast?_eq_getElem?,List.getElem?_eq_getElem (by omega)]
   rfl
  have a5:List.getD (ls.map Rw) (0+Int.toNat ((ls.length-1:Nat):Int)*1) PV.top=.sc (.string (Ab (ls.getLastD []))):=by
   rw[Kj,WS,EB,List.getD_eq_getElem?_getD,List.getElem?_map,List.getElem?_eq_getElem (by omega),WF]
   rfl
  have hm:=hB (ls.getLastD []) (by rw[WF];exact List.getElem_mem _)
  have hdl:=UO (fu:=fu) (d:=d+1) (p:=p) (a0:=a0) hm.1 (by omega) (ls.getLastD []) 0 fu rfl (by omega)
  rw[He];simp only[B4,a1,a2,a3,a4,a5,List.all_nil,Bool.true_eq_false,if_false];exact hdl
 |x::r,i,nn,hd,hn=>by
  obtain⟨k,rfl⟩:∃k,nn=k+1:=⟨nn-1,by omega⟩
  obtain⟨hi,hc,Il⟩:=Ff hd;have ih:=LV (a0:=a0) Eu hB h0 hN r (i+1) k Il (by simp at hn;omega)
  have hm:=hB x (List.mem_of_getElem? hc);have e:Ae (CP p) prog fu (d+2) 62 [.sc (.string (Ab x))]=_:=Aig (fu:=fu) (d:=d) (p:=p) hm.1 (by omega)
  have a1:decide ((i:Int)<(ls.length:Int))=true:=dT (by omega)
  have a2:decide ((0:Int)<=(i:Int))=true:=by simp
  have a5:List.getD (ls.map Rw) (0+Int.toNat (i:Int)*1) PV.top=.sc (.string (Ab x)):=by
   rw[Kj,WS,EB,List.getD_eq_getElem?_getD,List.getElem?_map,hc];rfl
  have a6:wrap .i64 ((i:Int)+1)=((i+1:Nat):Int):=by rw[Au (by omega) (by omega)];omega
  rw[He];cases hq:Ie x
  ·rw[hq] at e;have:((x::r).all Ie=false):=by simp[hq]
   rw[Dy this];simp only[B4,a1,a2,a5,e,D6]
  ·rw[hq] at e;have:(x::r).all Ie=r.all Ie:=by simp[hq]
   rw[this];simp only[B4,a1,a2,a5,e,Dk,a6];exact ih
theorem Ap5 {l:List Int}(hB:Cx l)(hs:l.length<=1000000)(Eu:2000<=fu):Ae (CP p) prog fu (d+4) Im [.sc (.string (Ab l))]=some ⟨[.sc (.int .i64 (Oq l))],[]⟩:=by
 rw[Py];unfold Oq;by_cases h:100<l.length
 ·have a1:decide (((l.length:Nat):Int)>100)=true:=dT (by omega)
  rw[Dy h];simp only[B4,Af,a1]
 ·have a1:decide (((l.length:Nat):Int)>100)=false:=dF (by omega)
  have e:Ae (CP p) prog fu (d+3) 61 [.sc (.string (Ab l)),.sc (.int .u8 46)]=_:=Ak5 (fu:=fu) (d:=d+2) (p:=p) (c:=46) hB (by omega) (by omega)
  have hn:=T8 46 l;have hd:=LV (a0:=Ab l) (fu:=fu) (d:=d+1) (p:=p) (by omega) (ls:=A1 46 l) (fun x hx=>⟨(Sx 46 hB x hx).1,by have:=(Sx 46 hB x hx).2;omega⟩) (Mw 46 l) (by omega) (A1 46 l) 0 fu rfl (by omega)
  rw[Ct h];simp only[B4,Af,a1,e];exact hd
end
end
section
open Go.Proofs.Tryz (prog)
open Go.IntKind (wrap)
set_option maxRecDepth 100000
section
variable {fu d:Nat} {p:Option (List PV->Option Ap)}
theorem UZ (s:Bool):Ae (CP p) prog fu (d+1) G5 [.sc (.bool s)]=some ⟨[.sc (.int .i64 (dfl s))],[]⟩:=by
 rw[M1];cases s<;>simp only[B4]<;>rfl
theorem FK {a0:ByteArray}{l:List Int}{s a1:Bool}(hB:Cx l)(hs:l.length<=5):∀(r:List Int)(i nn:Nat)(n:Int),l.drop i=r->r.length+1<=nn->0<=n->n<10 ^ i ->
  Fo fu (Ae (CP p) prog fu (d+1)) a0 a1 nn (Ab l) s n (i:Int)=some (if r.all Vh=true then ⟨[.sc (.int .i64 (r.foldl (fun n x=>10*n+(x-48)) n)),.sc (.bool (decide (r.foldl (fun n x=>10*n+(x-48)) n<=65535)&&decide (r.foldl (fun n x=>10*n+(x-48)) n≠dfl s)))],[]⟩ else ⟨[.sc (.int .i64 0),.sc (.bool false)],[]⟩)
 |[],i,nn,n,hd,hn,h0,h1=>by
  obtain⟨k,rfl⟩:∃k,nn=k+1:=⟨nn-1,by omega⟩
  have hi:=drop_nil hd;have a1':decide ((i:Int)<(l.length:Int))=false:=dF (by omega)
  have e:Ae (CP p) prog fu (d+1) 39 [.sc (.bool s)]=_:=UZ (fu:=fu) (d:=d) (p:=p) s;rw[Jj];show _=some (Ap.mk [.sc (.int .i64 n),.sc (.bool (decide (n<=65535)&&decide (n≠dfl s)))] []);by_cases hv:n<=65535
  ·have q:=dT hv
   have q2:(n != dfl s)=decide (n≠dfl s):=by
    by_cases h:n=dfl s<;>simp[h]
   simp only[B4,Af,a1',q,e,q2,Zzm]
  ·have q:=dF hv;simp only[B4,Af,a1',q,OC]
 |c::r,i,nn,n,hd,hn,h0,h1=>by
  obtain⟨k,rfl⟩:∃k,nn=k+1:=⟨nn-1,by omega⟩
  obtain⟨hi,hc,Il⟩:=Ff hd;have JA:=hB c (List.mem_of_getElem? hc)
  have hp:(10:Int) ^ i<=10 ^ 4:=by
   have h:=Nat.pow_le_pow_right (n:=10) (by omega) (show i<=4 by omega)
   exact_mod_cast h
  have hp2:(10:Int) ^ (i+1)=10 ^ i*10:=Int.pow_succ ..;have a1':decide ((i:Int)<(l.length:Int))=true:=dT (by omega)
  have a2:decide ((0:Int)<=(i:Int))=true:=by simp
  have a3:(Array.toList (Ab l).data)[Int.toNat (i:Int)]?=some c.toNat.toUInt8:=by
   rw[Kj];show (l.map fun n=>n.toNat.toUInt8)[i]?=_
   rw[List.getElem?_map,hc];rfl
  have a4:=Jh JA;have e:Ae (CP p) prog fu (d+1) 63 [.sc (.int .u8 c)]=_:=Abh (fu:=fu) (d:=d) (p:=p) (c:=c);rw[Jj];cases hD:Vh c
  ·rw[hD] at e;have ea:(c::r).all Vh=false:=by rw[List.all_cons,hD,OC]
   rw[ea];simp only[B4,Af,a1',a2,a3,a4,e,D6,Bool.false_eq_true,if_false]
  ·rw[hD] at e;have hq:=(Zd c).1 hD;have a5:wrap .i64 (10*n)=10*n:=Au (by omega) (by omega)
   have a6:wrap .u8 (c-48)=c-48:=Ol (by omega) (by omega)
   have a7:wrap .i64 (c-48)=c-48:=Au (by omega) (by omega)
   have a8:wrap .i64 (10*n+(c-48))=10*n+(c-48):=Au (by omega) (by omega)
   have a9:wrap .i64 ((i:Int)+1)=((i+1:Nat):Int):=by rw[Au (by omega) (by omega)];omega
   have ih:=FK (a0:=a0) (s:=s) (a1:=a1) hB hs r (i+1) k (10*n+(c-48)) Il (by simp at hn;omega) (by omega) (by omega)
   have ea:(c::r).all Vh=r.all Vh:=by rw[List.all_cons,hD,Zzm]
   simp only[B4,Af,a1',a2,a3,a4,e,Dk,a5,a6,a7,a8,a9];rw[ih,ea];rfl
theorem Aqz {l:List Int}{s:Bool}(hB:Cx l)(Eu:100<=fu):Ae (CP p) prog fu (d+2) Ly [.sc (.string (Ab l)),.sc (.bool s)]=some (if Hu l=true then ⟨[.sc (.int .i64 (V9 l)),.sc (.bool (decide (V9 l<=65535)&&decide (V9 l≠dfl s)))],[]⟩ else ⟨[.sc (.int .i64 0),.sc (.bool false)],[]⟩):=by
 rw[Us];by_cases h1:1<=l.length
 ·by_cases h2:l.length<=5
  ·have a1:decide (((l.length:Nat):Int)<1)=false:=dF (by omega)
   have a2:decide (((l.length:Nat):Int)>5)=false:=dF (by omega)
   cases l with
   |nil=>simp at h1
   |cons c r=>
    have JA:=hB c (by simp)
    have a3:(Array.toList (Ab (c::r)).data)[0]?=some c.toNat.toUInt8:=rfl;have a4:=Jh JA;by_cases h0:c=48
    ·subst h0;have e:Hu (48::r)=false:=by unfold Hu;simp
     have q:((48:Int)==48)=true:=rfl;rw[e];simp only[B4,Af,a1,a2,a3,a4,q,Bool.false_eq_true,if_false]
    ·have q:(c==48)=false:=by simp[h0]
     have e:Hu (c::r)=(c::r).all Vh:=by
      unfold Hu;rw[dT h1,dT h2];simp[h0]
     have hl:=FK (fu:=fu) (d:=d) (p:=p) (a0:=Ab (c::r)) (a1:=s) (s:=s) hB h2 (c::r) 0 fu 0 rfl (by omega) (by omega) (by decide)
     rw[e];simp only[B4,Af,a1,a2,a3,a4,q];exact hl
  ·have a1:decide (((l.length:Nat):Int)<1)=false:=dF (by omega)
   have a2:decide (((l.length:Nat):Int)>5)=true:=dT (by omega)
   have e:Hu l=false:=by unfold Hu;simp[h2]
   rw[e];simp only[B4,Af,a1,a2,Bool.false_eq_true,if_false]
 ·have a1:decide (((l.length:Nat):Int)<1)=true:=dT (by omega)
  have e:Hu l=false:=by unfold Hu;simp[h1]
  rw[e];simp only[B4,Af,a1,Bool.false_eq_true,if_false]
theorem Avy {a0 s4 s7:ByteArray}{y3 y6:Bool}{y5 y8:Int}{r:List Int}(hr:Cx r)(hrl:r.length<=1000000)(Eu:2000<=fu){nn:Nat}:∃o1 o2 o3,Bj fu (Ae (CP p) prog fu (d+4)) a0 (nn+1) (Ab r) ((Bi 58 r).length:Int) (-1) y3 s4 y5 y6 s7 y8=some ⟨[.agg [.sc (.bool o1),.sc (.string o2),.sc (.int .i64 o3)],.sc (.int .i64 (Sj y6 r))],[]⟩:=by
 have Qt:=EQ 58 r;have hbB:Cx (Bi 58 r):=by rw[Nw];exact fun x hx=>hr x (List.mem_of_mem_take hx)
 have hdB:Cx (r.drop ((Bi 58 r).length+1)):=fun x hx=>hr x (List.mem_of_mem_drop hx)
 have c2:Ae (CP p) prog fu (d+4) 38 [.sc (.string (Ab (Bi 58 r)))]=_:=Ap5 (fu:=fu) (d:=d) (p:=p) hbB (by omega) Eu
 have c3:Ae (CP p) prog fu (d+4) 39 [.sc (.bool y6)]=_:=UZ (fu:=fu) (d:=d+3) (p:=p) y6;have c4:Ae (CP p) prog fu (d+4) 40 [.sc (.string (Ab (r.drop ((Bi 58 r).length+1)))),.sc (.bool y6)]=_:=Aqz (fu:=fu) (d:=d+2) (p:=p) (s:=y6) hdB (by omega)
 have a1:decide ((-1:Int)>=0)=false:=rfl;have a2:decide ((0:Int)<=((Bi 58 r).length:Int))=true:=by simp
 have a3:decide (Int.toNat ((Bi 58 r).length:Int)<=r.length)=true:=dT (by omega)
 have a4:(Ab r).extract 0 (Int.toNat ((Bi 58 r).length:Int))=Ab (Bi 58 r):=by rw[Kj,P6 hr,←Nw]
 rw[Gc];unfold Sj;by_cases hh:Oq (Bi 58 r)=0
 ·have z:((0:Int) != 0)=false:=rfl;rw[hh] at c2;simp only[ne_eq,hh,not_true_eq_false,if_false];by_cases hw:(Bi 58 r).length<r.length
  ·have a5:=dT (q:=((Bi 58 r).length:Int)<(r.length:Int)) (by omega)
   have a6:wrap .i64 (((Bi 58 r).length:Int)+1)=(((Bi 58 r).length+1:Nat):Int):=by rw[Au (by omega) (by omega)];omega
   have a7:decide ((0:Int)<=(((Bi 58 r).length+1:Nat):Int))=true:=dT (by omega)
   have a8:decide (Int.toNat (((Bi 58 r).length+1:Nat):Int)<=r.length)=true:=dT (by omega)
   have a9:(Ab r).extract (Int.toNat (((Bi 58 r).length+1:Nat):Int)) r.length=Ab (r.drop ((Bi 58 r).length+1)):=by rw[Kj,Rc hr]
   rw[Ct (show ¬(Bi 58 r).length=r.length by omega)]
   by_cases hp:Hu (r.drop ((Bi 58 r).length+1))=true
   ·rw[Dy hp] at c4;by_cases hv:V9 (r.drop ((Bi 58 r).length+1))<=65535∧V9 (r.drop ((Bi 58 r).length+1))≠dfl y6
    ·rw[dT hv.1,dT hv.2] at c4;rw[Dy ⟨hp,hv.1,hv.2⟩];exact⟨_,_,_,by simp only[B4,Af,dle,a1,a2,a3,a4,c2,z,c3,a5,a6,a7,a8,a9,c4,Bool.and_true,Dk];rfl⟩
    ·have hb:(decide (V9 (r.drop ((Bi 58 r).length+1))<=65535)&&decide (V9 (r.drop ((Bi 58 r).length+1))≠dfl y6))=false:=by
      rw[Bool.eq_false_iff];intro h;rw[Bool.and_eq_true,decide_eq_true_iff,decide_eq_true_iff] at h;exact hv h
     rw[hb] at c4;rw[Ct (by rintro⟨_,h1,h2⟩;exact hv ⟨h1,h2⟩)]
     exact⟨_,_,_,by simp only[B4,Af,dle,a1,a2,a3,a4,c2,z,c3,a5,a6,a7,a8,a9,c4,D6];rfl⟩
   ·rw[Ct hp] at c4;rw[Ct (by rintro⟨h,_,_⟩;exact hp h)]
    exact⟨_,_,_,by simp only[B4,Af,dle,a1,a2,a3,a4,c2,z,c3,a5,a6,a7,a8,a9,c4,D6];rfl⟩
  ·have a5:=dF (q:=((Bi 58 r).length:Int)<(r.length:Int)) (by omega)
   rw[Dy (show (Bi 58 r).length=r.length by omega)]
   exact⟨_,_,_,by simp only[B4,Af,a1,a2,a3,a4,c2,z,c3,a5];rfl⟩
 ·have b1:(Oq (Bi 58 r) != 0)=true:=by simp[hh]
  simp only[ne_eq,hh,not_false_eq_true,if_true];exact⟨_,_,_,by simp only[B4,Af,a1,a2,a3,a4,c2,b1];rfl⟩
theorem Al3 {r:List Int}{k:Nat}(hk:k<r.length){c:Int}(hc:r[k]?=some c):(Bi 58 (r.drop k)).length=if c=58 then 0 else (Bi 58 (r.drop (k+1))).length+1:=by
 have e:r.drop k=c::r.drop (k+1):=by
  rw[List.drop_eq_getElem_cons hk];rw[List.getElem?_eq_getElem hk] at hc;cases hc;rfl
 rw[e];by_cases h:c=58
 ·subst h;rw[OH,Dy rfl];rfl
 ·rw[SN _ h,Ct h];rfl
theorem Apb {a0 s4 s7:ByteArray}{y3 y6:Bool}{y5 y8:Int}{r:List Int}(hr:Cx r)(hrl:r.length<=1000000)(Eu:2000<=fu):∀(k nn:Nat),k<=r.length->k+1<=nn->∃o1 o2 o3,Bj fu (Ae (CP p) prog fu (d+4)) a0 nn (Ab r) ((k+(Bi 58 (r.drop k)).length:Nat):Int) ((k:Int)-1) y3 s4 y5 y6 s7 y8=some ⟨[.agg [.sc (.bool o1),.sc (.string o2),.sc (.int .i64 o3)],.sc (.int .i64 (Sj y6 r))],[]⟩:=by
 intro k
 induction k with
 |zero=>
  intro nn hk N7;obtain⟨q,rfl⟩:∃q,nn=q+1:=⟨nn-1,by omega⟩
  have:=Avy (fu:=fu) (d:=d) (p:=p) (a0:=a0) (s4:=s4) (s7:=s7) (y3:=y3) (y6:=y6) (y5:=y5) (y8:=y8) hr hrl Eu (nn:=q);rw[Zze,WS];exact this
 |succ k ih=>
  intro nn hk N7;obtain⟨q,rfl⟩:∃q,nn=q+1:=⟨nn-1,by omega⟩
  obtain⟨c,hc⟩:∃c,r[k]?=some c:=⟨_,List.getElem?_eq_getElem (by omega)⟩
  have JA:=hr c (List.mem_of_getElem? hc);have WP:=Al3 (show k<r.length by omega) hc
  obtain⟨o1,o2,o3,h⟩:=ih q (by omega) (by omega)
  refine⟨o1,o2,o3,?_⟩;have a1:decide (((k+1:Nat):Int)-1>=0)=true:=dT (by omega)
  have a2:decide ((0:Int)<=((k+1:Nat):Int)-1)=true:=dT (by omega)
  have a3:(Array.toList (Ab r).data)[Int.toNat (((k+1:Nat):Int)-1)]?=some c.toNat.toUInt8:=by
   rw[show Int.toNat (((k+1:Nat):Int)-1)=k by omega]
   show (r.map fun n=>n.toNat.toUInt8)[k]?=_
   rw[List.getElem?_map,hc];rfl
  have a4:=Jh JA;have a5:wrap .i64 (((k+1:Nat):Int)-1-1)=(k:Int)-1:=by rw[Au (by omega) (by omega)];omega
  rw[Gc];by_cases h58:c=58
  ·rw[Dy h58] at WP;have q1:(c==58)=true:=by simp[h58]
   rw[WP] at h;simp only[B4,a1,a2,a3,a4,q1,a5];rw[show ((k+1:Nat):Int)-1=((k+0:Nat):Int) by omega]
   exact h
  ·rw[Ct h58] at WP;have q1:(c==58)=false:=by simp[h58]
   rw[WP] at h;simp only[B4,a1,a2,a3,a4,q1,a5];rw[show k+1+(Bi 58 (r.drop (k+1))).length=k+((Bi 58 (r.drop (k+1))).length+1) by omega]
   exact h
theorem Ajx {l:List Int}(hB:Cx l)(hs:l.length<=1000000)(Eu:2000<=fu)(EE:l.length+1<=fu):∃o1 o2 o3,Ae (CP p) prog fu (d+5) G8 [.sc (.string (Ab l))]=some ⟨[.agg [.sc (.bool o1),.sc (.string o2),.sc (.int .i64 o3)],.sc (.int .i64 (Ec l))],[]⟩:=by
  have er:=Ny (p:=p) fu (d+4) (Ab l)
  have sT:Ae (CP p) prog fu (d+4) 37 [.sc (.bool true)]=some ⟨[.sc (.string (Ab [104,116,116,112,115,58,47,47]))],[]⟩:=by
    refine (J0 (p:=p) fu (d+3) true).trans ?_
    simp only[B4]
    rfl
  have sF:Ae (CP p) prog fu (d+4) 37 [.sc (.bool false)]=some ⟨[.sc (.string (Ab [104,116,116,112,58,47,47]))],[]⟩:=by
    refine (J0 (p:=p) fu (d+3) false).trans ?_
    simp only[B4]
    rfl
  have hB8:Cx [104,116,116,112,115,58,47,47]:=fun x hx=>by simp at hx;omega
  have hB7:Cx [104,116,116,112,58,47,47]:=fun x hx=>by simp at hx;omega
  have l8:(Ab [104,116,116,112,115,58,47,47]).size=8:=rfl
  have l7:(Ab [104,116,116,112,58,47,47]).size=7:=rfl
  have n8:([104,116,116,112,115,58,47,47]:List Int).length=8:=rfl
  have n7:([104,116,116,112,58,47,47]:List Int).length=7:=rfl
  have e8:(ByteArray.mk #[(104:UInt8),(116:UInt8),(116:UInt8),(112:UInt8),(115:UInt8),(58:UInt8),(47:UInt8),(47:UInt8)])=Ab [104,116,116,112,115,58,47,47]:=rfl
  have tk:∀n,Cx (l.take n):=fun n x hx=>hB x (List.mem_of_mem_take hx)
  have loop:∀(m:Nat) (s:Bool),m<=l.length->∃o1 o2 o3,Bj fu (Ae (CP p) prog fu (d+4)) (Ab l) fu (Ab (l.drop m)) (((Ab (l.drop m)).size:Nat):Int) (wrap .i64 ((((Ab (l.drop m)).size:Nat):Int)-1)) false (ByteArray.mk #[]) 0 s (ByteArray.mk #[]) 0=some ⟨[.agg [.sc (.bool o1),.sc (.string o2),.sc (.int .i64 o3)],.sc (.int .i64 (Sj s (l.drop m)))],[]⟩:=by
    intro m s hm
    have hd:Cx (l.drop m):=fun x hx=>hB x (List.mem_of_mem_drop hx)
    have hdl:(l.drop m).length=l.length-m:=List.length_drop
    obtain⟨o1,o2,o3,h⟩:=Apb (fu:=fu) (d:=d) (p:=p) (a0:=Ab l) (s4:=ByteArray.mk #[]) (s7:=ByteArray.mk #[]) (y3:=false) (y6:=s) (y5:=0) (y8:=0) hd (by omega) Eu (l.drop m).length fu (Nat.le_refl _) (by omega)
    refine⟨o1,o2,o3,?_⟩
    rw[Af,Au (by omega) (by omega)]
    have e:(l.drop m).length+(Bi 58 ((l.drop m).drop (l.drop m).length)).length=(l.drop m).length:=by
      rw[List.drop_length];rfl
    rw[e] at h
    exact h
  unfold Ec
  have plain:∀(h7:List.isPrefixOf [104,116,116,112,115,58,47,47] l=false),∃o1 o2 o3,(Ba (decide (((l.length:Nat):Int)<((7:Nat):Int)))
    (some (Ap.mk [PV.agg [PV.sc (Value.bool false),PV.sc (Value.string (ByteArray.mk #[])),PV.sc (Value.int IntKind.i64 (0:Int))],PV.sc (Value.int IntKind.i64 (2:Int))] []))
    (Ba (!decide (l.take 7=[104,116,116,112,58,47,47]))
     (some (Ap.mk [PV.agg [PV.sc (Value.bool false),PV.sc (Value.string (ByteArray.mk #[])),PV.sc (Value.int IntKind.i64 (0:Int))],PV.sc (Value.int IntKind.i64 (2:Int))] []))
     (Bj fu (Ae (CP p) prog fu (d+4)) (Ab l) fu (Ab (l.drop 7)) (((Ab (l.drop 7)).size:Nat):Int) (wrap .i64 ((((Ab (l.drop 7)).size:Nat):Int)-1)) false (ByteArray.mk #[]) 0 false (ByteArray.mk #[]) 0)))=some ⟨[.agg [.sc (.bool o1),.sc (.string o2),.sc (.int .i64 o3)],.sc (.int .i64 (if List.isPrefixOf [104,116,116,112,58,47,47] l=true then Sj false (l.drop 7) else 2))],[]⟩:=by
    intro _
    by_cases hl7:l.length<7
    · have hn:List.isPrefixOf [104,116,116,112,58,47,47] l=false:=by
        rw[Bool.eq_false_iff,ne_eq,List.isPrefixOf_iff_prefix]
        intro h
        have:=h.length_le
        simp at this
        omega
      rw[dT (show ((l.length:Nat):Int)<((7:Nat):Int) by omega),hn]
      exact⟨_,_,_,rfl⟩
    · rw[dF (show ¬((l.length:Nat):Int)<((7:Nat):Int) by omega)]
      have hp:=RI (w:=[104,116,116,112,58,47,47]) (l:=l) (by simp;omega)
      rw[show ([104,116,116,112,58,47,47]:List Int).length=7 from rfl] at hp
      rw[hp]
      cases List.isPrefixOf [104,116,116,112,58,47,47] l
      · exact⟨_,_,_,rfl⟩
      · obtain⟨o1,o2,o3,h⟩:=loop 7 false (by omega)
        exact⟨o1,o2,o3,h⟩
  have x7:(Ab l).extract 0 (Int.toNat ((7:Nat):Int))=Ab (l.take 7):=P6 hB 7
  have y7:(Ab l).extract (Int.toNat ((7:Nat):Int)) l.length=Ab (l.drop 7):=Rc hB 7
  have x8:(Ab l).extract 0 8=Ab (l.take 8):=P6 hB 8
  have x8':(Ab l).extract 0 (Int.toNat ((8:Nat):Int))=Ab (l.take 8):=P6 hB 8
  have y8:(Ab l).extract (Int.toNat ((8:Nat):Int)) l.length=Ab (l.drop 8):=Rc hB 8
  have q7:=Yk (tk 7) hB7
  have q8:=Yk (tk 8) hB8
  by_cases h8:l.length>=8
  · have a1:=dT (q:=((l.length:Nat):Int)>=8) (by omega)
    have a2:=dT (q:=8<=l.length) h8
    have hp:=RI (w:=[104,116,116,112,115,58,47,47]) (l:=l) (by simp;omega)
    rw[show ([104,116,116,112,115,58,47,47]:List Int).length=8 from rfl] at hp
    rw[hp] at q8
    have a3:=dT (q:=Int.toNat ((7:Nat):Int)<=l.length) (by omega)
    have a4:=dT (q:=Int.toNat ((8:Nat):Int)<=l.length) (by omega)
    cases h1:List.isPrefixOf [104,116,116,112,115,58,47,47] l
    · rw[h1] at q8
      simp only[Bool.false_eq_true,if_false]
      obtain⟨o1,o2,o3,Qu⟩:=plain h1
      refine⟨o1,o2,o3,er.trans ?_⟩
      rw[e8]
      simp only[B4,Af,dle,a1,a2,x8,q8,sF]
      simp only[B4,l7,n7,a3,x7,q7,y7] at Qu ⊢
      exact Qu
    · rw[h1] at q8
      simp only[if_true]
      have a5:=dF (q:=((l.length:Nat):Int)<((8:Nat):Int)) (by omega)
      obtain⟨o1,o2,o3,h⟩:=loop 8 true h8
      refine⟨o1,o2,o3,er.trans ?_⟩
      rw[e8]
      simp only[B4,Af,dle,a1,a2,x8,q8,sT]
      simp only[B4,l8,n8,a5,a4,x8',q8,y8,Dk]
      exact h
  · have a1:=dF (q:=((l.length:Nat):Int)>=8) (by omega)
    have h1:List.isPrefixOf [104,116,116,112,115,58,47,47] l=false:=by
      rw[Bool.eq_false_iff,ne_eq,List.isPrefixOf_iff_prefix]
      intro h
      have:=h.length_le
      simp at this
      omega
    rw[h1]
    simp only[Bool.false_eq_true,if_false]
    obtain⟨o1,o2,o3,Qu⟩:=plain h1
    refine⟨o1,o2,o3,er.trans ?_⟩
    simp only[B4,Af,dle,a1,sF]
    by_cases h7:l.length<7
    · have a2:=dT (q:=((l.length:Nat):Int)<((7:Nat):Int)) (by omega)
      rw[a2] at Qu
      simp only[B4,l7,n7,a2] at Qu ⊢
      exact Qu
    · have a2:=dF (q:=((l.length:Nat):Int)<((7:Nat):Int)) (by omega)
      have a3:=dT (q:=Int.toNat ((7:Nat):Int)<=l.length) (by omega)
      rw[a2] at Qu
      simp only[B4,l7,n7,a2,a3,x7,q7,y7] at Qu ⊢
      exact Qu
end
end
section
open Go.Proofs.Tryz (prog)
open Go.IntKind (wrap)
set_option maxRecDepth 100000
def IW:List Int:=[123,34,116,121,112,101,34,58,34]
def MA:List Int:=[34,44,34,99,104,97,108,108,101,110,103,101,34,58,34]
def WV:List Int:=[34,44,34,111,114,105,103,105,110,34,58,34]
def fA4:List Int:=[34,44,34,99,114,111,115,115,79,114,105,103,105,110,34,58,102,97,108,115,101,125]
def fA5:List Int:=[34,44,34,99,114,111,115,115,79,114,105,103,105,110,34,58,116,114,117,101,44,34,116,111,112,79,114,105,103,105,110,34,58,34]
def fA6:List Int:=[34,125]
def fA7:List Int:=[34,44,34,99,114,111,115,115,79,114,105,103,105,110,34,58]
def fA8:List Int:=[102,97,108,115,101,125]
def fA9:List Int:=[116,114,117,101,44,34,116,111,112,79,114,105,103,105,110,34,58,34]
theorem NI:(ByteArray.mk #[(123:UInt8),(34:UInt8),(116:UInt8),(121:UInt8),(112:UInt8),(101:UInt8),(34:UInt8),(58:UInt8),(34:UInt8)])=Ab IW:=rfl
theorem OT:(ByteArray.mk #[(34:UInt8),(44:UInt8),(34:UInt8),(99:UInt8),(104:UInt8),(97:UInt8),(108:UInt8),(108:UInt8),(101:UInt8),(110:UInt8),(103:UInt8),(101:UInt8),(34:UInt8),(58:UInt8),(34:UInt8)])=Ab MA:=rfl
theorem NO:(ByteArray.mk #[(34:UInt8),(44:UInt8),(34:UInt8),(111:UInt8),(114:UInt8),(105:UInt8),(103:UInt8),(105:UInt8),(110:UInt8),(34:UInt8),(58:UInt8),(34:UInt8)])=Ab WV:=rfl
theorem Akh:(ByteArray.mk #[(34:UInt8),(125:UInt8)])=Ab fA6:=rfl
theorem NP:(ByteArray.mk #[(34:UInt8),(44:UInt8),(34:UInt8),(99:UInt8),(114:UInt8),(111:UInt8),(115:UInt8),(115:UInt8),(79:UInt8),(114:UInt8),(105:UInt8),(103:UInt8),(105:UInt8),(110:UInt8),(34:UInt8),(58:UInt8)])=Ab fA7:=rfl
theorem Als:(ByteArray.mk #[(102:UInt8),(97:UInt8),(108:UInt8),(115:UInt8),(101:UInt8),(125:UInt8)])=Ab fA8:=rfl
theorem Aho:(ByteArray.mk #[(116:UInt8),(114:UInt8),(117:UInt8),(101:UInt8),(44:UInt8),(34:UInt8),(116:UInt8),(111:UInt8),(112:UInt8),(79:UInt8),(114:UInt8),(105:UInt8),(103:UInt8),(105:UInt8),(110:UInt8),(34:UInt8),(58:UInt8),(34:UInt8)])=Ab fA9:=rfl
theorem OU:(ByteArray.mk #[(112:UInt8),(97:UInt8),(115:UInt8),(115:UInt8),(107:UInt8),(101:UInt8),(121:UInt8),(46:UInt8),(99:UInt8),(114:UInt8),(101:UInt8),(97:UInt8),(116:UInt8),(101:UInt8)])=Ab tyC:=rfl
theorem OD:(ByteArray.mk #[(112:UInt8),(97:UInt8),(115:UInt8),(115:UInt8),(107:UInt8),(101:UInt8),(121:UInt8),(46:UInt8),(103:UInt8),(101:UInt8),(116:UInt8)])=Ab tyG:=rfl
theorem CW:(ByteArray.mk #[])=Ab []:=rfl
theorem An2:fA4=fA7++fA8:=rfl
theorem Apo:fA5=fA7++fA9:=rfl
theorem A2u:Cx []:=fun x hx=>by cases hx
def tyS (k:Int):Option (List Int):=if k=1 then some tyC else if k=2 then some tyG else none
def fmH (ty ch o:List Int):List Int:=IW++ty++MA++Ef ch++WV++o
def WG (k:Int)(ch o t:List Int)(x:Bool):JR (List Int):=
 match tyS k with
 |none=>.error 3
 |some ty=>if ch.length<1∨64<ch.length then .error 9 else if Ec o≠0 then .error (Ec o)
  else if x=false then (if t=[] then .ok (fmH ty ch o++fA4) else .error 4)
  else if Ec t≠0 then .error (Ec t) else .ok (fmH ty ch o++fA5++t++fA6)
def Axt (r:JR (List Int)):Ap:=match r with | .ok s=>⟨[.sc (.string (Ab s)),.sc (.int .i64 0)],[]⟩ | .error e=>⟨[.sc (.string (Ab [])),.sc (.int .i64 e)],[]⟩
section
variable {fu d:Nat} {p:Option (List PV->Option Ap)}
abbrev cdA (k:Int)(ch o t:List Int)(x:Bool):PV:=.agg [.sc (.int .i64 k),.lst false 1 ch.length (Bl .u8 ch),.sc (.string (Ab o)),.sc (.bool x),.sc (.string (Ab t))]
theorem nn0 (e:Int)(h:e≠0):(e != 0)=true:=by simp[h]
theorem Ao1 (k:Int):Ae (CP p) prog fu (d+1) Jz [.sc (.int .i64 k)]=some ⟨[.sc (.string (Ab ((tyS k).getD [])))],[]⟩:=by
 rw[R4];unfold tyS;by_cases h1:k=1
 ·subst h1;have k1:((1:Int)==1)=true:=rfl;rw[Dy rfl];simp only[B4,k1];rfl
 have k1:(k==1)=false:=by simp[h1]
 by_cases h2:k=2
 ·subst h2;have k2:((2:Int)==2)=true:=rfl;rw[Ct h1,Dy rfl];simp only[B4,k1,k2];rfl
 have k2:(k==2)=false:=by simp[h2]
 rw[Ct h1,Ct h2];simp only[B4,k1,k2];rfl
theorem SQ {k:Int}{ty:List Int}(h:tyS k=some ty):Cx ty∧ty≠[]∧ty.length<=14:=by
 unfold tyS at h;split at h
 ·cases h;exact⟨fun x hx=>by simp[tyC] at hx;omega,by decide,by decide⟩
 split at h
 ·cases h;exact⟨fun x hx=>by simp[tyG] at hx;omega,by decide,by decide⟩
 ·cases h
set_option maxHeartbeats 4000000 in
theorem Aee {k:Int}{ch o t:List Int}{x:Bool}(ED:Cx ch)(ho:Cx o)(ht:Cx t)(I7:ch.length<=100000)(hol:o.length<=1000000)(htl:t.length<=1000000)(Eu:2000<=fu)(hfc:ch.length+1<=fu)(hfo:o.length+1<=fu)(hft:t.length+1<=fu):
  Ae (CP p) prog fu (d+6) 12 [cdA k ch o t x]=some (Axt (WG k ch o t x)):=by
 have er:=Og (p:=p) fu (d+5) k ch.length (Bl .u8 ch) (Ab o) x (Ab t);refine er.trans ?_;obtain⟨o1,o2,o3,eo⟩:=Ajx (fu:=fu) (d:=d) (p:=p) ho hol (by omega) hfo
 obtain⟨t1,t2,t3,et⟩:=Ajx (fu:=fu) (d:=d) (p:=p) ht htl (by omega) hft
 have eo:Ae (CP p) prog fu (d+5) 26 [.sc (.string (Ab o))]=_:=eo;have et:Ae (CP p) prog fu (d+5) 26 [.sc (.string (Ab t))]=_:=et;have ee:Ae (CP p) prog fu (d+5) 19 [.lst false 1 ch.length (Bl .u8 ch)]=_:=Acf (fu:=fu) (d:=d+4) (p:=p) ED I7 (by omega) hfc
 have ek:Ae (CP p) prog fu (d+5) 25 [.sc (.int .i64 k)]=_:=Ao1 (fu:=fu) (d:=d+4) (p:=p) k;have hel:=PT ch;have z0:((0:Int) != 0)=false:=rfl;have tq:(Array.toList (Ab t).data==[])=decide (t=[]):=Yk (b:=[]) ht A2u;unfold WG;cases hty:tyS k with
 |none=>
  rw[hty] at ek;have q:((([]:List UInt8)==[])=true):=rfl;simp only[B4,ek,Option.getD_none,CW,q];rfl
 |some ty=>
  rw[hty] at ek;obtain⟨htB,htn,Bch⟩:=SQ hty;have q:(Array.toList (Ab ty).data==[])=false:=(Yk (b:=[]) htB A2u).trans (dF htn);have c1:decide (9+ty.length<=9223372036854775807)=true:=dT (by omega)
  have c2:decide ((IW++ty).length+15<=9223372036854775807)=true:=dT (by simp[IW];omega)
  have c3:decide ((IW++ty++MA).length+(Ef ch).length<=9223372036854775807)=true:=dT (by simp[IW,MA];omega)
  have c4:decide ((IW++ty++MA++Ef ch).length+12<=9223372036854775807)=true:=dT (by simp[IW,MA];omega)
  have c5:decide ((IW++ty++MA++Ef ch++WV).length+o.length<=9223372036854775807)=true:=dT (by simp[IW,MA,WV];omega)
  have c6:decide ((IW++ty++MA++Ef ch++WV++o).length+16<=9223372036854775807)=true:=dT (by simp[IW,MA,WV];omega)
  have c7:decide ((IW++ty++MA++Ef ch++WV++o++fA7).length+6<=9223372036854775807)=true:=dT (by simp[IW,MA,WV,fA7];omega)
  have c8:decide ((IW++ty++MA++Ef ch++WV++o++fA7).length+18<=9223372036854775807)=true:=dT (by simp[IW,MA,WV,fA7];omega)
  have c9:decide ((IW++ty++MA++Ef ch++WV++o++fA7++fA9).length+t.length<=9223372036854775807)=true:=dT (by simp[IW,MA,WV,fA7,fA9];omega)
  have d1:decide ((IW++ty++MA++Ef ch++WV++o++fA7++fA9++t).length+2<=9223372036854775807)=true:=dT (by simp[IW,MA,WV,fA7,fA9];omega)
  simp only;by_cases h1:ch.length<1
  ·have a1:=dT (q:=((ch.length:Nat):Int)<1) (by omega)
   rw[Dy (.inl h1)];simp only[B4,ek,Option.getD_some,CW,q,a1];rfl
  have a1:=dF (q:=((ch.length:Nat):Int)<1) (by omega)
  by_cases h2:64<ch.length
  ·have a2:=dT (q:=((ch.length:Nat):Int)>64) (by omega)
   rw[Dy (.inr h2)];simp only[B4,ek,Option.getD_some,CW,q,a1,a2];rfl
  have a2:=dF (q:=((ch.length:Nat):Int)>64) (by omega)
  rw[Ct (by omega)]
  by_cases hoE:Ec o=0
  rotate_left
  ·have a3:=nn0 _ hoE;rw[Dy hoE];simp only[B4,ek,Option.getD_some,CW,q,a1,a2,eo,a3];rfl
  rw[Ct (by simp[hoE])]
  rw[hoE] at eo;cases x with
  |false=>
   rw[Dy rfl];by_cases hte:t=[]
   ·rw[dT hte] at tq;rw[Dy hte];simp only[B4,ek,Option.getD_some,CW,q,a1,a2,eo,z0,tq,Dk,D6,ee,Af,NI,OT,NO,NP,Als,Br,c1,c2,c3,c4,c5,c6,c7];show some (Ap.mk _ [])=_;unfold Axt fmH;rw[An2];simp only[Zzv]
   ·rw[dF hte] at tq;rw[Ct hte];simp only[B4,ek,Option.getD_some,CW,q,a1,a2,eo,z0,tq,Dk,D6,ee,Af,NI,OT,NO,NP,Als,Br,c1,c2,c3,c4,c5,c6,c7];rfl
  |true=>
   rw[Ct (by decide)]
   by_cases htE:Ec t=0
   ·rw[htE] at et;rw[Ct (by simp[htE])]
    simp only[B4,ek,Option.getD_some,CW,q,a1,a2,eo,et,z0,Dk,D6,ee,Af,NI,OT,NO,Akh,NP,Aho,Br,c1,c2,c3,c4,c5,c6,c8,c9,d1];show some (Ap.mk _ [])=_;unfold Axt fmH;rw[Apo];simp only[Zzv]
   ·have a4:=nn0 _ htE;rw[Dy htE];simp only[B4,ek,Option.getD_some,CW,q,a1,a2,eo,et,z0,a4,Dk,D6,ee,Af,NI,OT,NO,Akh,NP,Aho,Br,c1,c2,c3,c4,c5,c6,c8,c9,d1];rfl
end
end
section
open Go.Proofs.Tryz (prog)
open Go.IntKind (wrap)
set_option maxRecDepth 100000
abbrev Lf:FuncId:=32
noncomputable def Fb (fu:Nat)(call:Am)(a0 a1 a2:Int)(nn:Nat)(y0 y1 y2:Int)(y3:Nat)(y4:Int)(y5:List PV):Option Ap:=Fh CB prog fu call 32 Tryz.f32 (D2 Tryz.f32) [.sc (.int .u64 a0),.sc (.int .u64 a1),.sc (.int .i64 a2)] [.r,.r,.r,.l,.r,.l] nn ⟨lk [(0,(.sc (.int .u64 y0))),(1,(.sc (.int .u64 y1))),(2,(.sc (.int .i64 y2))),(7,(.view 7 1 0 y3)),(8,(.sc (.int .i64 y4)))],Iw [(7,(.ar false y5))]⟩
theorem F5 (fu:Nat)(call:Am)(a0 a1 a2:Int)(nn:Nat)(y0 y1 y2:Int)(y3:Nat)(y4:Int)(y5:List PV):Fb fu call a0 a1 a2 (nn+1) y0 y1 y2 y3 y4 y5=(Ba (decide ((↑y3:Int)<y2)) (Ac (wrap .u64 y4) fun x3=>Ah (call 52 [.lst false 1 2 [.sc (.int .u64 y1),.sc (.int .u64 x3)]]) fun x4 x5=>Ad x5<|Aa x4 fun x6 x7=>IU 1 x6 fun x8 x9=>Ad x7<|A2 (decide (0+x8*1<=x9.length))<|Ah (call 53 [.sc (.int .u64 y0),.sc (.int .i64 5),.lst false 1 x8 (List.take (x8*1) (List.drop 0 x9))]) fun E4 Is=>Ad Is<|Aa E4 fun Iu Ey=>Aj .u64 Iu fun Gt=>Ad Ey<|Ah (call 52 [.lst false 1 1 [.sc (.int .u64 Gt)]]) fun Ja Gs=>Ad Gs<|Aa Ja fun Hk I6=>IU 1 Hk fun H9 I9=>Ad I6<|A2 (decide (0+H9*1<=I9.length))<|A2 (decide (y3*1<=y5.length)&&decide (List.length (List.take (H9*1) (List.drop 0 I9))=H9*1)&&decide ((y3+H9)*1<=1099511627776)&&decide (y3+H9<=1099511627776))<|Ac (y3+H9) fun I5=>Ac (List.take (y3*1) y5++List.take (H9*1) (List.drop 0 I9)) fun Jr=>Ac (wrap .i64 (y4+1)) fun I4=>Fb fu call a0 a1 a2 (nn) (y0) (y1) (y2) I5 I4 Jr) (A2 (decide (0<=y2))<|A2 (decide (Int.toNat y2<=y3))<|Ac (Int.toNat y2-0) fun Hw=>A2 (decide (Hw*1<=y5.length))<|some (Ap.mk [.own 1 Hw (List.take (Hw*1) y5)] []))):=by kernel_rfl
theorem Tq {p:Option (List PV->Option Ap)} (fu d:Nat)(a0 a1 a2:Int):Ae (CP p) prog fu (d+1) Lf [.sc (.int .u64 a0),.sc (.int .u64 a1),.sc (.int .i64 a2)]=(fun (call:Am)=>Ac (if a2<0 then 0 else a2) fun x1=>Ac (if 1024<x1 then 1024 else x1) fun x2=>Fb fu call a0 a1 a2 (fu) (a0) (a1) x2 0 0 ([])) (Ae (CP p) prog fu d):=by kernel_rfl
abbrev L0:FuncId:=21
theorem Ur {p:Option (List PV->Option Ap)} (fu d:Nat)(a0 a1:Int):Ae (CP p) prog fu (d+1) L0 [.sc (.int .i64 a0),.sc (.int .i64 a1)]=(fun (call:Am)=>Ac (wrap .u64 a0) fun x1=>Ac (wrap .u64 (x1+1)) fun x2=>Ac (if 1024<a1 then 1024 else a1) fun x3=>Ac (if x3<0 then 0 else x3) fun x4=>Ah (call 32 [.sc (.int .u64 x2),.sc (.int .u64 7),.sc (.int .i64 x4)]) fun x5 x6=>Ad x6<|Aa x5 fun x7 x8=>IU 1 x7 fun x9 E4=>Ad x8<|A2 (decide (x9*1<=E4.length))<|some (Ap.mk [.own 1 x9 (List.take (x9*1) E4)] [])) (Ae (CP p) prog fu d):=by kernel_rfl
end
end Go.Proofs.YtodnjibebeghjaaGreatDoor.Pv
