/-
  The proof of DataBack, part 5.
-/
import Derived.Test.YtodnjibebeghjaaDoorND
import Derived.Test.YtodnjibebeghjaaDoorRows
import Derived.Laws.ResultCell
import Derived.Lib.ValidLaws
set_option linter.unusedSimpArgs false
set_option linter.unusedVariables false
namespace Go.Proofs.YtodnjibebeghjaaDoor.Pv
section
open Go.Proofs.Tryd (prog)
open Go.IntKind (wrap)
set_option maxRecDepth 100000
abbrev M2:FuncId:=62
theorem My {p:Option (List PV->Option Ay)} (fu d:Nat)(a0 a1:ByteArray):Ae (CP p) prog fu (d+1) M2 [.sc (.string a0),.sc (.string a1)]=(fun (call:Ax)=>Ah (call 77 [.sc (.string a0),.sc (.string a1)]) fun x1 x2=>Ad x2<|Aa x1 fun x3 x4=>Ao x3 fun x5=>Ad x4<|Bf (!x5) (some (Ay.mk [.sc (.string a0),.sc (.bool false)] [])) (Be (decide (Int.toNat (↑(ByteArray.size a1):Int)<=ByteArray.size a0)&&decide (ByteArray.size a0<=ByteArray.size a0))<|Ac (ByteArray.extract a0 (Int.toNat (↑(ByteArray.size a1):Int)) (ByteArray.size a0)) fun x6=>some (Ay.mk [.sc (.string x6),.sc (.bool true)] []))) (Ae (CP p) prog fu d):=by kernel_rfl
abbrev J5:FuncId:=44
theorem Rp {p:Option (List PV->Option Ay)} (fu d:Nat)(a0 a1:ByteArray):Ae (CP p) prog fu (d+1) J5 [.sc (.string a0),.sc (.string a1)]=(fun (call:Ax)=>Ah (call 62 [.sc (.string a0),.sc (.string a1)]) fun x1 x2=>Ad x2<|Aa x1 fun x3 x4=>Az x3 fun x5=>Aa x4 fun x6 x7=>Ao x6 fun x8=>Ad x7<|some (Ay.mk [.sc (.string x5),.sc (.bool x8)] [])) (Ae (CP p) prog fu d):=by kernel_rfl
abbrev Ug:FuncId:=63
theorem Uv {p:Option (List PV->Option Ay)} (fu d:Nat)(a0 a1:ByteArray):Ae (CP p) prog fu (d+1) Ug [.sc (.string a0),.sc (.string a1)]=(fun (call:Ax)=>Ah (call 78 [.sc (.string a0),.sc (.string a1)]) fun x1 x2=>Ad x2<|Aa x1 fun x3 x4=>Ak .i64 x3 fun x5=>Ad x4<|Bf (decide (x5>=0)) (Be (decide (0<=x5))<|Be (decide (Int.toNat x5<=ByteArray.size a0))<|Ac (ByteArray.extract a0 0 x5.toNat) fun x6=>Ac (wrap .i64 (x5+(↑(ByteArray.size a1):Int))) fun x7=>Be (decide (0<=x7))<|Be (decide (Int.toNat x7<=ByteArray.size a0)&&decide (ByteArray.size a0<=ByteArray.size a0))<|Ac (ByteArray.extract a0 x7.toNat (ByteArray.size a0)) fun x8=>some (Ay.mk [.sc (.string x6),.sc (.string x8),.sc (.bool true)] [])) (some (Ay.mk [.sc (.string a0),.sc (.string (ByteArray.mk #[])),.sc (.bool false)] []))) (Ae (CP p) prog fu d):=by kernel_rfl
abbrev Sf:FuncId:=45
theorem GL {p:Option (List PV->Option Ay)} (fu d:Nat)(a0 a1:ByteArray):Ae (CP p) prog fu (d+1) Sf [.sc (.string a0),.sc (.string a1)]=(fun (call:Ax)=>Ah (call 63 [.sc (.string a0),.sc (.string a1)]) fun x1 x2=>Ad x2<|Aa x1 fun x3 x4=>Az x3 fun x5=>Aa x4 fun x6 x7=>Az x6 fun x8=>Aa x7 fun x9 F9=>Ao x9 fun M8=>Ad F9<|some (Ay.mk [.sc (.string x5),.sc (.string x8),.sc (.bool M8)] [])) (Ae (CP p) prog fu d):=by kernel_rfl
abbrev O4:FuncId:=100
theorem Zl {p:Option (List PV->Option Ay)} (fu d:Nat)(a0 a1:ByteArray):Ae (CP p) prog fu (d+1) O4 [.sc (.string a0),.sc (.string a1)]=(fun (call:Ax)=>Ah (call 78 [.sc (.string a0),.sc (.string a1)]) fun x1 x2=>Ad x2<|Aa x1 fun x3 x4=>Ak .i64 x3 fun x5=>Ad x4<|some (Ay.mk [.sc (.int .i64 x5)] [])) (Ae (CP p) prog fu d):=by kernel_rfl
abbrev J3:FuncId:=78
theorem R7 {p:Option (List PV->Option Ay)} (fu d:Nat)(a0 a1:ByteArray):Ae (CP p) prog fu (d+1) J3 [.sc (.string a0),.sc (.string a1)]=(fun (call:Ax)=>Bf ((↑(ByteArray.size a1):Int)==0) (some (Ay.mk [.sc (.int .i64 0)] [])) (Bf (Array.toList (ByteArray.data a1)==Array.toList (ByteArray.data a0)) (some (Ay.mk [.sc (.int .i64 0)] [])) (Bf ((↑(ByteArray.size a1):Int)==1) (Do ((Array.toList (ByteArray.data a1))[0]?) fun x1=>Ah (call 40 [.sc (.string a0),.sc (.int .u8 (↑(UInt8.toNat x1):Int))]) fun x2 x3=>Ad x3<|Aa x2 fun x4 x5=>Ak .i64 x4 fun x6=>Ad x5<|some (Ay.mk [.sc (.int .i64 x6)] [])) (Bf (decide ((↑(ByteArray.size a1):Int)>=(↑(ByteArray.size a0):Int))) (some (Ay.mk [.sc (.int .i64 (-1))] [])) (none))))) (Ae (CP p) prog fu d):=by kernel_rfl
abbrev Tj:FuncId:=79
noncomputable def Ec (fu:Nat)(call:Ax)(a0 a1:ByteArray)(a2 a3:Int)(nn:Nat)(y0 y1:ByteArray)(y2 y3:Int)(y4:Nat)(y5:Int)(y6:List PV):Option Ay:=H9 CB prog fu call 79 Tryd.f79 (F1 Tryd.f79) [.sc (.string a0),.sc (.string a1),.sc (.int .i64 a2),.sc (.int .i64 a3)] [.r,.r,.r,.r,.r,.r,.r,.r,.l,.l] nn ⟨lk [(0,(.sc (.string y0))),(1,(.sc (.string y1))),(2,(.sc (.int .i64 y2))),(3,(.sc (.int .i64 y3))),(9,(.view 9 1 0 y4)),(10,(.sc (.int .i64 y5)))],Jt [(9,(.ar false y6))]⟩
theorem O6 (fu:Nat)(call:Ax)(a0 a1:ByteArray)(a2 a3:Int)(nn:Nat)(y0 y1:ByteArray)(y2 y3:Int)(y4:Nat)(y5:Int)(y6:List PV):Ec fu call a0 a1 a2 a3 (nn+1) y0 y1 y2 y3 y4 y5 y6=(Bf (decide (y5<y3)) (Ah (call 100 [.sc (.string y0),.sc (.string y1)]) fun Lg Mv=>Ad Mv<|Aa Lg fun Mu Ov=>Ak .i64 Mu fun Lv=>Ad Ov<|Bf (decide (Lv<0)) (Be (decide (0<=y5)&&decide (y5<(↑y4:Int)))<|Be (decide (0+Int.toNat y5*1+1<=y6.length))<|Ac (Ca y6 [.sc (.string y0)] (0+Int.toNat y5*1)) fun Ly=>Ac (wrap .i64 (y5+1)) fun Mr=>Be (decide (0<=Mr))<|Be (decide (Int.toNat Mr<=y4))<|Ac (Int.toNat Mr-0) fun Oh=>Be (decide (Oh*1<=Ly.length))<|some (Ay.mk [.own 1 Oh (List.take (Oh*1) Ly)] [])) (Ac (wrap .i64 (Lv+y2)) fun O3=>Be (decide (0<=O3))<|Be (decide (Int.toNat O3<=ByteArray.size y0))<|Ac (ByteArray.extract y0 0 O3.toNat) fun Pd=>Be (decide (0<=y5)&&decide (y5<(↑y4:Int)))<|Be (decide (0+Int.toNat y5*1+1<=y6.length))<|Ac (Ca y6 [.sc (.string Pd)] (0+Int.toNat y5*1)) fun N4=>Ac (wrap .i64 (Lv+(↑(ByteArray.size y1):Int))) fun Pr=>Be (decide (0<=Pr))<|Be (decide (Int.toNat Pr<=ByteArray.size y0)&&decide (ByteArray.size y0<=ByteArray.size y0))<|Ac (ByteArray.extract y0 Pr.toNat (ByteArray.size y0)) fun Pq=>Ac (wrap .i64 (y5+1)) fun Qo=>Ec fu call a0 a1 a2 a3 (nn) Pq (y1) (y2) (y3) (y4) Qo N4)) (Be (decide (0<=y5)&&decide (y5<(↑y4:Int)))<|Be (decide (0+Int.toNat y5*1+1<=y6.length))<|Ac (Ca y6 [.sc (.string y0)] (0+Int.toNat y5*1)) fun Q1=>Ac (wrap .i64 (y5+1)) fun Qu=>Be (decide (0<=Qu))<|Be (decide (Int.toNat Qu<=y4))<|Ac (Int.toNat Qu-0) fun Ry=>Be (decide (Ry*1<=Q1.length))<|some (Ay.mk [.own 1 Ry (List.take (Ry*1) Q1)] []))):=by kernel_rfl
theorem Tc {p:Option (List PV->Option Ay)} (fu d:Nat)(a0 a1:ByteArray)(a2 a3:Int):Ae (CP p) prog fu (d+1) Tj [.sc (.string a0),.sc (.string a1),.sc (.int .i64 a2),.sc (.int .i64 a3)]=(fun (call:Ax)=>Bf (a3==0) (some (Ay.mk [.own 1 0 []] [])) (Bf (Array.toList (ByteArray.data a1)==Array.toList (ByteArray.data (ByteArray.mk #[]))) (Ah (call 98 [.sc (.string a0),.sc (.int .i64 a3)]) fun x1 x2=>Ad x2<|Aa x1 fun x3 x4=>FE 1 x3 fun x5 x6=>Ad x4<|Be (decide (x5*1<=x6.length))<|some (Ay.mk [.own 1 x5 (List.take (x5*1) x6)] [])) (Bf (decide (a3<0)) (Ah (call 99 [.sc (.string a0),.sc (.string a1)]) fun x7 x8=>Ad x8<|Aa x7 fun x9 F9=>Ak .i64 x9 fun M8=>Ad F9<|Ac (wrap .i64 (M8+1)) fun Nw=>Ac (wrap .i64 ((↑(ByteArray.size a0):Int)+1)) fun Fv=>Ac (if Fv<Nw then Fv else Nw) fun Ks=>Be (decide (0<=Ks)&&decide (Ks<=Ks)&&decide (Ks*16<=1099511627776)&&decide (Ks<=1099511627776))<|Ac (wrap .i64 (Ks-1)) fun Oa=>Ec fu call a0 a1 a2 a3 (fu) (a0) (a1) (a2) Oa Ks.toNat 0 (Om Ks.toNat [.sc (.string (ByteArray.mk #[]))])) (Ac (wrap .i64 ((↑(ByteArray.size a0):Int)+1)) fun Ka=>Ac (if Ka<a3 then Ka else a3) fun Km=>Be (decide (0<=Km)&&decide (Km<=Km)&&decide (Km*16<=1099511627776)&&decide (Km<=1099511627776))<|Ac (wrap .i64 (Km-1)) fun Nl=>Ec fu call a0 a1 a2 a3 (fu) (a0) (a1) (a2) Nl Km.toNat 0 (Om Km.toNat [.sc (.string (ByteArray.mk #[]))]))))) (Ae (CP p) prog fu d):=by kernel_rfl
abbrev Ow:FuncId:=64
theorem Zu {p:Option (List PV->Option Ay)} (fu d:Nat)(a0 a1:ByteArray):Ae (CP p) prog fu (d+1) Ow [.sc (.string a0),.sc (.string a1)]=(fun (call:Ax)=>Ah (call 79 [.sc (.string a0),.sc (.string a1),.sc (.int .i64 0),.sc (.int .i64 (-1))]) fun x1 x2=>Ad x2<|Aa x1 fun x3 x4=>FE 1 x3 fun x5 x6=>Ad x4<|Be (decide (x5*1<=x6.length))<|some (Ay.mk [.own 1 x5 (List.take (x5*1) x6)] [])) (Ae (CP p) prog fu d):=by kernel_rfl
abbrev Md:FuncId:=65
noncomputable def A9 (fu:Nat)(call:Ax)(a0:ByteArray)(nn:Nat)(y0:ByteArray)(y1 y2:Int):Option Ay:=H9 CB prog fu call 65 Tryd.f65 (F1 Tryd.f65) [.sc (.string a0)] [.r,.r,.l,.r,.l] nn ⟨lk [(0,(.sc (.string y0))),(16,(.sc (.int .i64 y1))),(17,(.sc (.int .i64 y2)))],Jt []⟩
theorem I1 (fu:Nat)(call:Ax)(a0:ByteArray)(nn:Nat)(y0:ByteArray)(y1 y2:Int):A9 fu call a0 (nn+1) y0 y1 y2=(Bf (decide (y2<y1)) (Be (decide (0<=y2))<|Do ((Array.toList (ByteArray.data y0))[Int.toNat y2]?) fun x1=>Bf (decide (97<=(↑(UInt8.toNat x1):Int))) (Bf (decide ((↑(UInt8.toNat x1):Int)<=122)) (Bf ((↑(UInt8.toNat x1):Int)==45) (Bf (decide (y2>0)) (Ac (wrap .i64 ((↑(ByteArray.size y0):Int)-1)) fun x2=>Ac (wrap .i64 (y2+1)) fun x3=>A9 fu call a0 (nn) (y0) (y1) x3) (Ac (wrap .i64 (y2+1)) fun x4=>A9 fu call a0 (nn) (y0) (y1) x4)) (Ac (wrap .i64 (y2+1)) fun x5=>A9 fu call a0 (nn) (y0) (y1) x5)) (Bf (decide (48<=(↑(UInt8.toNat x1):Int))) (Bf ((↑(UInt8.toNat x1):Int)==45) (Bf (decide (y2>0)) (Ac (wrap .i64 ((↑(ByteArray.size y0):Int)-1)) fun x6=>Bf (!decide ((↑(UInt8.toNat x1):Int)<=57)) (Bf (!decide (y2<x6)) (some (Ay.mk [.sc (.bool false)] [])) (Ac (wrap .i64 (y2+1)) fun x7=>A9 fu call a0 (nn) (y0) (y1) x7)) (Ac (wrap .i64 (y2+1)) fun x8=>A9 fu call a0 (nn) (y0) (y1) x8)) (Bf (!decide ((↑(UInt8.toNat x1):Int)<=57)) (some (Ay.mk [.sc (.bool false)] [])) (Ac (wrap .i64 (y2+1)) fun x9=>A9 fu call a0 (nn) (y0) (y1) x9))) (Bf (!decide ((↑(UInt8.toNat x1):Int)<=57)) (some (Ay.mk [.sc (.bool false)] [])) (Ac (wrap .i64 (y2+1)) fun F9=>A9 fu call a0 (nn) (y0) (y1) F9))) (Bf ((↑(UInt8.toNat x1):Int)==45) (Bf (decide (y2>0)) (Ac (wrap .i64 ((↑(ByteArray.size y0):Int)-1)) fun M8=>Bf (!decide (y2<M8)) (some (Ay.mk [.sc (.bool false)] [])) (Ac (wrap .i64 (y2+1)) fun Nw=>A9 fu call a0 (nn) (y0) (y1) Nw)) (some (Ay.mk [.sc (.bool false)] []))) (some (Ay.mk [.sc (.bool false)] []))))) (Bf (decide (48<=(↑(UInt8.toNat x1):Int))) (Bf ((↑(UInt8.toNat x1):Int)==45) (Bf (decide (y2>0)) (Ac (wrap .i64 ((↑(ByteArray.size y0):Int)-1)) fun Fv=>Bf (!decide ((↑(UInt8.toNat x1):Int)<=57)) (Bf (!decide (y2<Fv)) (some (Ay.mk [.sc (.bool false)] [])) (Ac (wrap .i64 (y2+1)) fun Ks=>A9 fu call a0 (nn) (y0) (y1) Ks)) (Ac (wrap .i64 (y2+1)) fun Oa=>A9 fu call a0 (nn) (y0) (y1) Oa)) (Bf (!decide ((↑(UInt8.toNat x1):Int)<=57)) (some (Ay.mk [.sc (.bool false)] [])) (Ac (wrap .i64 (y2+1)) fun Ka=>A9 fu call a0 (nn) (y0) (y1) Ka))) (Bf (!decide ((↑(UInt8.toNat x1):Int)<=57)) (some (Ay.mk [.sc (.bool false)] [])) (Ac (wrap .i64 (y2+1)) fun Km=>A9 fu call a0 (nn) (y0) (y1) Km))) (Bf ((↑(UInt8.toNat x1):Int)==45) (Bf (decide (y2>0)) (Ac (wrap .i64 ((↑(ByteArray.size y0):Int)-1)) fun Nl=>Bf (!decide (y2<Nl)) (some (Ay.mk [.sc (.bool false)] [])) (Ac (wrap .i64 (y2+1)) fun Lg=>A9 fu call a0 (nn) (y0) (y1) Lg)) (some (Ay.mk [.sc (.bool false)] []))) (some (Ay.mk [.sc (.bool false)] []))))) (some (Ay.mk [.sc (.bool true)] []))):=by kernel_rfl
theorem Vg {p:Option (List PV->Option Ay)} (fu d:Nat)(a0:ByteArray):Ae (CP p) prog fu (d+1) Md [.sc (.string a0)]=(fun (call:Ax)=>Bf (decide ((↑(ByteArray.size a0):Int)<1)) (some (Ay.mk [.sc (.bool false)] [])) (Bf (decide ((↑(ByteArray.size a0):Int)>63)) (some (Ay.mk [.sc (.bool false)] [])) (A9 fu call a0 (fu) (a0) ((↑(ByteArray.size a0):Int)) 0))) (Ae (CP p) prog fu d):=by kernel_rfl
abbrev Oz:FuncId:=46
noncomputable def Gs (fu:Nat)(call:Ax)(a0:ByteArray)(nn y0 y1:Nat)(y2 y3:Int)(y4:List PV):Option Ay:=H9 CB prog fu call 46 Tryd.f46 (F1 Tryd.f46) [.sc (.string a0)] [.r,.r,.r,.l,.r,.l] nn ⟨lk [(3,(.view 3 1 0 y0)),(11,(.view 3 1 0 y1)),(12,(.sc (.int .i64 y2))),(13,(.sc (.int .i64 y3)))],Jt [(3,(.ar false y4))]⟩
theorem K1 (fu:Nat)(call:Ax)(a0:ByteArray)(nn y0 y1:Nat)(y2 y3:Int)(y4:List PV):Gs fu call a0 (nn+1) y0 y1 y2 y3 y4=(Bf (decide (y3<y2)) (Be (decide (0<=y3)&&decide (y3<(↑y1:Int)))<|Az (List.getD y4 (0+Int.toNat y3*1) .top) fun x7=>Ah (call 65 [.sc (.string x7)]) fun x8 x9=>Ad x9<|Aa x8 fun F9 M8=>Ao F9 fun Nw=>Ad M8<|Bf (!Nw) (some (Ay.mk [.sc (.int .i64 2)] [])) (Ac (wrap .i64 (y3+1)) fun Fv=>Gs fu call a0 (nn) (y0) (y1) (y2) Fv (y4))) (Ac (wrap .i64 ((↑y0:Int)-1)) fun Ks=>Be (decide (0<=Ks)&&decide (Ks<(↑y0:Int)))<|Az (List.getD y4 (0+Int.toNat Ks*1) .top) fun Oa=>Ah (call 66 [.sc (.string Oa),.sc (.string (ByteArray.mk #[48,49,50,51,52,53,54,55,56,57]))]) fun Ka Km=>Ad Km<|Aa Ka fun Nl Lg=>Az Nl fun Mv=>Ad Lg<|Bf (Array.toList (ByteArray.data Mv)==Array.toList (ByteArray.data (ByteArray.mk #[]))) (some (Ay.mk [.sc (.int .i64 2)] [])) (some (Ay.mk [.sc (.int .i64 0)] [])))):=by kernel_rfl
theorem Zf {p:Option (List PV->Option Ay)} (fu d:Nat)(a0:ByteArray):Ae (CP p) prog fu (d+1) Oz [.sc (.string a0)]=(fun (call:Ax)=>Bf (decide ((↑(ByteArray.size a0):Int)>100)) (some (Ay.mk [.sc (.int .i64 8)] [])) (Ah (call 64 [.sc (.string a0),.sc (.string (ByteArray.mk #[46]))]) fun x1 x2=>Ad x2<|Aa x1 fun x3 x4=>FE 1 x3 fun x5 x6=>Ad x4<|Gs fu call a0 (fu) x5 x5 ((↑x5:Int)) 0 x6)) (Ae (CP p) prog fu d):=by kernel_rfl
abbrev Ja:FuncId:=47
theorem Ph {p:Option (List PV->Option Ay)} (fu d:Nat)(a0:Bool):Ae (CP p) prog fu (d+1) Ja [.sc (.bool a0)]=(fun (call:Ax)=>Bf (a0) (some (Ay.mk [.sc (.int .i64 443)] [])) (some (Ay.mk [.sc (.int .i64 80)] []))) (Ae (CP p) prog fu d):=by kernel_rfl
abbrev K6:FuncId:=48
noncomputable def E6 (fu:Nat)(call:Ax)(a0:ByteArray)(nn:Nat)(y0:ByteArray)(y1 y2 y3:Int):Option Ay:=H9 CB prog fu call 48 Tryd.f48 (F1 Tryd.f48) [.sc (.string a0)] [.r,.r,.r,.l,.r,.l] nn ⟨lk [(0,(.sc (.string y0))),(4,(.sc (.int .i64 y1))),(21,(.sc (.int .i64 y2))),(22,(.sc (.int .i64 y3)))],Jt []⟩
theorem H8 (fu:Nat)(call:Ax)(a0:ByteArray)(nn:Nat)(y0:ByteArray)(y1 y2 y3:Int):E6 fu call a0 (nn+1) y0 y1 y2 y3=(Bf (decide (y3<y2)) (Be (decide (0<=y3))<|Do ((Array.toList (ByteArray.data y0))[Int.toNat y3]?) fun x2=>Bf (decide ((↑(UInt8.toNat x2):Int)<48)) (some (Ay.mk [.sc (.int .i64 0),.sc (.bool false)] [])) (Bf (decide ((↑(UInt8.toNat x2):Int)>57)) (some (Ay.mk [.sc (.int .i64 0),.sc (.bool false)] [])) (Ac (wrap .i64 (10*y1)) fun x3=>Ac (wrap .u8 ((↑(UInt8.toNat x2):Int)-48)) fun x4=>Ac (wrap .i64 x4) fun x5=>Ac (wrap .i64 (x3+x5)) fun x6=>Ac (wrap .i64 (y3+1)) fun x7=>E6 fu call a0 (nn) (y0) x6 (y2) x7))) (some (Ay.mk [.sc (.int .i64 y1),.sc (.bool (decide (y1<=65535)))] []))):=by kernel_rfl
theorem S9 {p:Option (List PV->Option Ay)} (fu d:Nat)(a0:ByteArray):Ae (CP p) prog fu (d+1) K6 [.sc (.string a0)]=(fun (call:Ax)=>Bf (decide ((↑(ByteArray.size a0):Int)<1)) (some (Ay.mk [.sc (.int .i64 0),.sc (.bool false)] [])) (Bf (decide ((↑(ByteArray.size a0):Int)>5)) (some (Ay.mk [.sc (.int .i64 0),.sc (.bool false)] [])) (Do ((Array.toList (ByteArray.data a0))[0]?) fun x1=>Bf ((↑(UInt8.toNat x1):Int)==48) (some (Ay.mk [.sc (.int .i64 0),.sc (.bool false)] [])) (E6 fu call a0 (fu) (a0) 0 ((↑(ByteArray.size a0):Int)) 0)))) (Ae (CP p) prog fu d):=by kernel_rfl
abbrev Pn:FuncId:=32
theorem BI {p:Option (List PV->Option Ay)} (fu d:Nat)(a0:ByteArray):Ae (CP p) prog fu (d+1) Pn [.sc (.string a0)]=(fun (call:Ax)=>Ah (call 44 [.sc (.string a0),.sc (.string (ByteArray.mk #[104,116,116,112,115,58,47,47]))]) fun x1 x2=>Ad x2<|Aa x1 fun x3 x4=>Az x3 fun x5=>Aa x4 fun x6 x7=>Ao x6 fun x8=>Ad x7<|Bf (!x8) (Ah (call 44 [.sc (.string a0),.sc (.string (ByteArray.mk #[104,116,116,112,58,47,47]))]) fun x9 F9=>Ad F9<|Aa x9 fun M8 Nw=>Az M8 fun Fv=>Aa Nw fun Ks Oa=>Ao Ks fun Ka=>Ad Oa<|Bf (!Ka) (some (Ay.mk [.agg [.sc (.bool false),.sc (.string (ByteArray.mk #[])),.sc (.int .i64 0)],.sc (.int .i64 2)] [])) (Ah (call 45 [.sc (.string Fv),.sc (.string (ByteArray.mk #[58]))]) fun Km Nl=>Ad Nl<|Aa Km fun Lg Mv=>Az Lg fun Mu=>Aa Mv fun Ov Lv=>Az Ov fun Ly=>Aa Lv fun Mr Oh=>Ao Mr fun O3=>Ad Oh<|Ah (call 46 [.sc (.string Mu)]) fun Pd N4=>Ad N4<|Aa Pd fun Pr Pq=>Ak .i64 Pr fun Qo=>Ad Pq<|Bf (Qo != 0) (some (Ay.mk [.agg [.sc (.bool false),.sc (.string (ByteArray.mk #[])),.sc (.int .i64 0)],.sc (.int .i64 Qo)] [])) (Ah (call 47 [.sc (.bool x8)]) fun Q1 Qu=>Ad Qu<|Aa Q1 fun Ry Q8=>Ak .i64 Ry fun Tm=>Ad Q8<|Bf O3 (Ah (call 48 [.sc (.string Ly)]) fun Ud Q5=>Ad Q5<|Aa Ud fun EJ EU=>Ak .i64 EJ fun Ps=>Aa EU fun Pe AN=>Ao Pe fun Y7=>Ad AN<|Bf (!Y7) (some (Ay.mk [.agg [.sc (.bool false),.sc (.string (ByteArray.mk #[])),.sc (.int .i64 0)],.sc (.int .i64 2)] [])) (Bf (Ps==Tm) (some (Ay.mk [.agg [.sc (.bool false),.sc (.string (ByteArray.mk #[])),.sc (.int .i64 0)],.sc (.int .i64 2)] [])) (some (Ay.mk [.agg [.sc (.bool x8),.sc (.string Mu),.sc (.int .i64 Ps)],.sc (.int .i64 0)] [])))) (some (Ay.mk [.agg [.sc (.bool x8),.sc (.string Mu),.sc (.int .i64 Tm)],.sc (.int .i64 0)] []))))) (Ah (call 45 [.sc (.string x5),.sc (.string (ByteArray.mk #[58]))]) fun EN AH=>Ad AH<|Aa EN fun CH Zd=>Az CH fun Za=>Aa Zd fun Z4 M3=>Az Z4 fun Q7=>Aa M3 fun Zm FI=>Ao Zm fun FD=>Ad FI<|Ah (call 46 [.sc (.string Za)]) fun FA EV=>Ad EV<|Aa FA fun ET FB=>Ak .i64 ET fun FN=>Ad FB<|Bf (FN != 0) (some (Ay.mk [.agg [.sc (.bool false),.sc (.string (ByteArray.mk #[])),.sc (.int .i64 0)],.sc (.int .i64 FN)] [])) (Ah (call 47 [.sc (.bool x8)]) fun MT UF=>Ad UF<|Aa MT fun OS MK=>Ak .i64 OS fun OV=>Ad MK<|Bf FD (Ah (call 48 [.sc (.string Q7)]) fun MJ RM=>Ad RM<|Aa MJ fun RZ MS=>Ak .i64 RZ fun MW=>Aa MS fun LR HL=>Ao LR fun MO=>Ad HL<|Bf (!MO) (some (Ay.mk [.agg [.sc (.bool false),.sc (.string (ByteArray.mk #[])),.sc (.int .i64 0)],.sc (.int .i64 2)] [])) (Bf (MW==OV) (some (Ay.mk [.agg [.sc (.bool false),.sc (.string (ByteArray.mk #[])),.sc (.int .i64 0)],.sc (.int .i64 2)] [])) (some (Ay.mk [.agg [.sc (.bool x8),.sc (.string Za),.sc (.int .i64 MW)],.sc (.int .i64 0)] [])))) (some (Ay.mk [.agg [.sc (.bool x8),.sc (.string Za),.sc (.int .i64 OV)],.sc (.int .i64 0)] []))))) (Ae (CP p) prog fu d):=by kernel_rfl
abbrev Hl:FuncId:=15
noncomputable def Cb (fu:Nat)(call:Ax)(a0:ByteArray)(nn:Nat)(y0:ByteArray)(y1:Nat)(y2:List PV):Option Ay:=H9 CB prog fu call 15 Tryd.f15 (F1 Tryd.f15) [.sc (.string a0)] [.r,.r,.r,.l,.l] nn ⟨lk [(0,(.sc (.string y0))),(4,(.view 4 1 0 y1))],Jt [(4,(.ar false y2))]⟩
noncomputable def B9 (fu:Nat)(call:Ax)(a0:ByteArray)(m0 nn:Nat)(y0:ByteArray)(y1:Nat)(y2 y3:Int)(y4 y5:Int)(y6:List PV):Option Ay:=H9 CB prog fu call 15 Tryd.f15 (F1 Tryd.f15) [.sc (.string a0)] [.r,.r,.r,.l,.l,.i m0,.r,.l,.r,.r,.l,.r,.l] nn ⟨lk [(0,(.sc (.string y0))),(4,(.view 4 1 0 y1)),(5,(.sc (.int .i64 y2))),(6,(.sc (.int .u32 y3))),(28,(.sc (.int .i64 y4))),(29,(.sc (.int .i64 y5)))],Jt [(4,(.ar false y6))]⟩
noncomputable def Cc (fu:Nat)(call:Ax)(a0:ByteArray)(m0 nn:Nat)(y0:ByteArray)(y1:Nat)(y2:Int)(y3 y4:Nat)(y5 y6:Int)(y7 y8:List PV):Option Ay:=H9 CB prog fu call 15 Tryd.f15 (F1 Tryd.f15) [.sc (.string a0)] [.r,.r,.r,.l,.l,.i m0,.r,.l,.r,.r,.r,.r,.l,.r,.l] nn ⟨lk [(0,(.sc (.string y0))),(4,(.view 4 1 0 y1)),(5,(.sc (.int .i64 y2))),(9,(.ptr 9 0)),(58,(.view 9 1 y3 y4)),(59,(.sc (.int .i64 y5))),(60,(.sc (.int .i64 y6)))],Jt [(4,(.ar false y7)),(9,(.ar false y8))]⟩
theorem Gh (fu:Nat)(call:Ax)(a0:ByteArray)(nn:Nat)(y0:ByteArray)(y1:Nat)(y2:List PV):Cb fu call a0 (nn+1) y0 y1 y2=(Bf (decide ((↑(ByteArray.size y0):Int)>0)) (Ac (if (↑(ByteArray.size y0):Int)<4 then (↑(ByteArray.size y0):Int) else 4) fun x5=>B9 fu call a0 nn (fu) (y0) (y1) x5 0 x5 0 (y2)) (Be (decide (y1*1<=y2.length))<|some (Ay.mk [.own 1 y1 (List.take (y1*1) y2),.sc (.int .i64 0)] []))):=by kernel_rfl
theorem Gc (fu:Nat)(call:Ax)(a0:ByteArray)(m0 nn:Nat)(y0:ByteArray)(y1:Nat)(y2 y3:Int)(y4 y5:Int)(y6:List PV):B9 fu call a0 m0 (nn+1) y0 y1 y2 y3 y4 y5 y6=(Bf (decide (y5<y4)) (Be (decide (0<=y5))<|Do ((Array.toList (ByteArray.data y0))[Int.toNat y5]?) fun x6=>Ah (call 27 [.sc (.string (ByteArray.mk #[65,66,67,68,69,70,71,72,73,74,75,76,77,78,79,80,81,82,83,84,85,86,87,88,89,90,97,98,99,100,101,102,103,104,105,106,107,108,109,110,111,112,113,114,115,116,117,118,119,120,121,122,48,49,50,51,52,53,54,55,56,57,45,95])),.sc (.int .u8 (↑(UInt8.toNat x6):Int))]) fun x7 x8=>Ad x8<|Aa x7 fun x9 F9=>Ak .i64 x9 fun M8=>Ad F9<|Bf (decide (M8<0)) (some (Ay.mk [.own 1 0 [],.sc (.int .i64 2)] [])) (Ac (wrap .u32 M8) fun Nw=>Ac (wrap .i64 (6*y5)) fun Fv=>Ac (wrap .i64 (18-Fv)) fun Ks=>Be (decide (0<=Ks))<|Ac (La .u32 Nw Ks) fun Oa=>Ac (ior .u32 y3 Oa) fun Ka=>Ac (wrap .i64 (y5+1)) fun Km=>B9 fu call a0 m0 (nn) (y0) (y1) (y2) Ka (y4) Km (y6))) (Ac (FK .u32 y3 16) fun Nl=>Ac (wrap .u8 Nl) fun Lg=>Ac (FK .u32 y3 8) fun Mv=>Ac (wrap .u8 Mv) fun Mu=>Ac (wrap .u8 y3) fun Ov=>Ac (wrap .i64 (y2-1)) fun Lv=>Be (decide (0<=Lv))<|Be (decide (Int.toNat Lv<=3)&&true)<|Ac (0+Int.toNat Lv*1) fun Ly=>Ac (3-Int.toNat Lv) fun Mr=>Cc fu call a0 m0 (fu) (y0) (y1) (y2) Ly Mr ((↑Mr:Int)) 0 (y6) ([.sc (.int .u8 Lg),.sc (.int .u8 Mu),.sc (.int .u8 Ov)]))):=by kernel_rfl
theorem Gd (fu:Nat)(call:Ax)(a0:ByteArray)(m0 nn:Nat)(y0:ByteArray)(y1:Nat)(y2:Int)(y3 y4:Nat)(y5 y6:Int)(y7 y8:List PV):Cc fu call a0 m0 (nn+1) y0 y1 y2 y3 y4 y5 y6 y7 y8=(Bf (decide (y6<y5)) (Be (decide (0<=y6)&&decide (y6<(↑y4:Int)))<|Ak .u8 (List.getD y8 (y3+Int.toNat y6*1) .top) fun Oh=>Bf (Oh != 0) (some (Ay.mk [.own 1 0 [],.sc (.int .i64 2)] [])) (Ac (wrap .i64 (y6+1)) fun O3=>Cc fu call a0 m0 (nn) (y0) (y1) (y2) (y3) (y4) (y5) O3 (y7) (y8))) (Ac (wrap .i64 (y2-1)) fun Pd=>Be (decide (3<=y8.length)&&true)<|Be (decide (0<=Pd))<|Be (decide (Int.toNat Pd<=3))<|Ac (Int.toNat Pd-0) fun N4=>Be (decide (0+N4*1<=y8.length))<|Be (decide (y1*1<=y7.length)&&decide (List.length (List.take (N4*1) (List.drop 0 y8))=N4*1)&&decide ((y1+N4)*1<=1099511627776)&&decide (y1+N4<=1099511627776))<|Ac (y1+N4) fun Pr=>Ac (List.take (y1*1) y7++List.take (N4*1) (List.drop 0 y8)) fun Pq=>Be (decide (0<=y2))<|Be (decide (Int.toNat y2<=ByteArray.size y0)&&decide (ByteArray.size y0<=ByteArray.size y0))<|Ac (ByteArray.extract y0 y2.toNat (ByteArray.size y0)) fun Qo=>Cb fu call a0 (m0) Qo Pr Pq)):=by kernel_rfl
theorem Nm {p:Option (List PV->Option Ay)} (fu d:Nat)(a0:ByteArray):Ae (CP p) prog fu (d+1) Hl [.sc (.string a0)]=(fun (call:Ax)=>Ac (Int.tmod (↑(ByteArray.size a0):Int) 4) fun x1=>Bf (x1==1) (some (Ay.mk [.own 1 0 [],.sc (.int .i64 2)] [])) (Ac (wrap .i64 (Int.tdiv (↑(ByteArray.size a0):Int) 4)) fun x2=>Ac (wrap .i64 (x2*3)) fun x3=>Ac (wrap .i64 (x3+2)) fun x4=>Be (decide (0<=x4)&&decide (x4*1<=1099511627776)&&decide (x4<=1099511627776))<|Cb fu call a0 (fu) (a0) 0 ([]))) (Ae (CP p) prog fu d):=by kernel_rfl
end
section
open Go.Proofs.Tryd (prog)
open Go.IntKind (wrap)
set_option maxRecDepth 100000
theorem Afq {a b:Int}(ha:0<=a∧a<=255)(hb:0<=b∧b<=255):(a.toNat.toUInt8==b.toNat.toUInt8)=decide (a=b):=by
 rw[Bool.eq_iff_iff,beq_iff_eq,decide_eq_true_iff];constructor
 ·intro h;have:=congrArg UInt8.toNat h;have e1:a.toNat.toUInt8.toNat=a.toNat % 256:=by rw[Nat.toUInt8,UInt8.toNat_ofNat']
  have e2:b.toNat.toUInt8.toNat=b.toNat % 256:=by rw[Nat.toUInt8,UInt8.toNat_ofNat']
  rw[e1,e2] at this;omega
 ·rintro rfl;rfl
theorem CK {c:Int}(hc:0<=c∧c<=255):((c.toNat.toUInt8.toNat:Nat):Int)=c:=by
 rw[Nat.toUInt8,UInt8.toNat_ofNat'];omega
theorem Ae0 {c x:Int}(r:List Int)(e:x≠c):Bn c (x::r)=x::Bn c r:=by unfold Bn;rw[List.takeWhile_cons_of_pos (by simp[e])]
theorem YO {c:Int}(r:List Int):Bn c (c::r)=[]:=by unfold Bn;rw[List.takeWhile_cons_of_neg (by simp)]
theorem Px (c:Int)(l:List Int):Bn c l=l.take (Bn c l).length:=by
 have h:Bn c l <+: l:=List.takeWhile_prefix _;exact List.prefix_iff_eq_take.1 h
theorem MC (c:Int)(l:List Int):(Bn c l).length<=l.length:=by
 have h:Bn c l <+: l:=List.takeWhile_prefix _;exact h.length_le
theorem WM (c:Int)(l:List Int)(h:¬(Bn c l).length<l.length):Bn c l=l:=by
 have:=MC c l;rw[Px c l,Zzf (by omega)]
def We (c:Int)(l:List Int):Int:=if (Bn c l).length<l.length then ((Bn c l).length:Int) else -1
theorem YA {c:Int}(hc:0<=c∧c<=255):∀{l:List Int},C8 l->Lib.indexByte (l.map fun n=>n.toNat.toUInt8) c.toNat.toUInt8=We c l
 |[],_=>rfl
 |x::r,h=>by
  obtain⟨hx,hr⟩:=Bm h;have ih:=YA hc hr;show (if (x.toNat.toUInt8==c.toNat.toUInt8)=true then (0:Int) else if (Lib.indexByte (r.map fun n=>n.toNat.toUInt8) c.toNat.toUInt8 == -1)=true then -1 else Lib.indexByte (r.map fun n=>n.toNat.toUInt8) c.toNat.toUInt8+1)=_
  rw[Afq hx hc,ih];by_cases e:x=c
  ·subst e;unfold We;rw[YO];simp
  ·unfold We;rw[Ae0 r e];simp only[decide_eq_true_eq,e,if_false,LB];by_cases g:(Bn c r).length<r.length
   ·simp only[Dw g,Dw (show (Bn c r).length+1<r.length+1 by omega)]
    rw[Cr (show ¬(((((Bn c r).length:Int)) == -1)=true) by rw[beq_iff_eq];omega)]
    omega
   ·simp only[Cr g,Cr (show ¬(Bn c r).length+1<r.length+1 by omega)]
    rfl
theorem GY {c:Int}(hc:0<=c∧c<=255):∀{l:List Int},C8 l->(l.map fun n=>n.toNat.toUInt8).count c.toNat.toUInt8+1=(A6 c l).length
 |[],_=>rfl
 |x::r,h=>by
  obtain⟨hx,hr⟩:=Bm h;have ih:=GY hc hr;rw[List.map_cons,List.count_cons,Afq hx hc];unfold A6;by_cases e:x=c
  ·rw[Dw e,Dw (by simp[e]),LB,←ih]
  ·rw[Cr e,Cr (by simp[e])]
   cases hs:A6 c r with
   |nil=>exact absurd hs (Nv c r)
   |cons a t=>
    rw[hs] at ih
    simpa using ih
theorem Wh (c:Int):∀(l:List Int),(A6 c l).length<=l.length+1
 |[]=>Nat.le_refl _
 |x::r=>by
  have ih:=Wh c r;unfold A6;split
  ·simp;omega
  ·cases hs:A6 c r with
   |nil=>simp
   |cons a t=>rw[hs] at ih;simp at ih ⊢;omega
theorem IP (c:Int)(l:List Int):1<=(A6 c l).length:=by
 have:=Nv c l;cases hs:A6 c l with
 |nil=>exact absurd hs this
 |cons a t=>simp
theorem XI {a:List PV}{n:Nat}{x y:PV}{r:List PV}(h:a.length=n):(a++x::r).set n y=a++y::r:=by
 subst h
 induction a with
 |nil=>rfl
 |cons z a ih=>simp[ih]
theorem dle (n:Nat):decide (n<=n)=true:=by simp
section
variable {fu d:Nat} {p:Option (List PV->Option Ay)}
theorem XA {c:Int}(hc:0<=c∧c<=255){l:List Int}(hl:C8 l):Ae (CP p) prog fu (d+2) J3 [.sc (.string (Ab l)),.sc (.string (Ab [c]))]=some ⟨[.sc (.int .i64 (We c l))],[]⟩:=by
 have e:Ae (CP p) prog fu (d+1) 40 [.sc (.string (Ab l)),.sc (.int .u8 c)]=some ⟨[.sc (.int .i64 (Lib.indexByte (Ab l).data.toList c.toNat.toUInt8))],[]⟩:=rfl;have e0:(Ab l).data.toList=l.map fun n=>n.toNat.toUInt8:=rfl
 rw[e0,YA hc hl] at e;have h0:((((Ab [c]).size:Nat):Int)==0)=false:=by rw[Aj];rfl
 have h1:((((Ab [c]).size:Nat):Int)==1)=true:=by rw[Aj];rfl
 have h2:(Array.toList (Ab [c]).data)[0]?=some c.toNat.toUInt8:=rfl;have h3:=CK hc;rw[R7];by_cases g:[c]=l
 ·subst g;have h4:(Array.toList (Ab [c]).data==Array.toList (Ab [c]).data)=true:=by simp
  have h5:We c [c]=0:=by unfold We;rw[YO];rfl
  simp only[Dg,h0,h4,h5]
 ·have h4:(Array.toList (Ab [c]).data==Array.toList (Ab l).data)=false:=by
   rw[Bool.eq_false_iff,ne_eq,beq_iff_eq];intro q;apply g
   have q2:Ab [c]=Ab l:=by
    cases hx:Ab [c];cases hy:Ab l;rw[hx,hy] at q;exact congrArg ByteArray.mk (Array.toList_inj.1 q)
   have q3:=congrArg E4 q2
   rwa [Ck hl,Ck (fun x hx=>by simp at hx;omega)] at q3
  simp only[Dg,h0,h4,h1,h2,h3,e]
theorem Adr {c:Int}(hc:0<=c∧c<=255){l:List Int}(hl:C8 l):Ae (CP p) prog fu (d+3) O4 [.sc (.string (Ab l)),.sc (.string (Ab [c]))]=some ⟨[.sc (.int .i64 (We c l))],[]⟩:=by
 have e:Ae (CP p) prog fu (d+2) 78 [.sc (.string (Ab l)),.sc (.string (Ab [c]))]=_:=XA (fu:=fu) (d:=d) (p:=p) hc hl;rw[Zl];simp only[Dg,e]
theorem QC {l:List Int}(hl:C8 l)(n:Nat):(Ab l).extract 0 n=Ab (l.take n):=by rw[Ul,Ck hl]
theorem AL {l:List Int}(hl:C8 l)(n:Nat):(Ab l).extract n l.length=Ab (l.drop n):=by
 have:=Ym (s:=Ab l) (a:=n)
 rwa [Aj,Ck hl] at this
theorem As2 {c:Int}(hc:0<=c∧c<=255){l:List Int}(hl:C8 l)(hs:l.length<=1000000):Ae (CP p) prog fu (d+4) Sf [.sc (.string (Ab l)),.sc (.string (Ab [c]))]=some ⟨[.sc (.string (Ab (Bn c l))),.sc (.string (Ab (l.drop ((Bn c l).length+1)))),.sc (.bool (decide ((Bn c l).length<l.length)))],[]⟩:=by
 have e:Ae (CP p) prog fu (d+2) 78 [.sc (.string (Ab l)),.sc (.string (Ab [c]))]=_:=XA (fu:=fu) (d:=d) (p:=p) hc hl
 have e2:Ae (CP p) prog fu (d+3) 63 [.sc (.string (Ab l)),.sc (.string (Ab [c]))]=some ⟨[.sc (.string (Ab (Bn c l))),.sc (.string (Ab (l.drop ((Bn c l).length+1)))),.sc (.bool (decide ((Bn c l).length<l.length)))],[]⟩:=by
  refine (Uv (p:=p) fu (d+2) _ _).trans ?_;by_cases g:(Bn c l).length<l.length
  ·have hi:We c l=(Bn c l).length:=by unfold We;rw[Dw g]
   rw[hi] at e;have a1:decide (((Bn c l).length:Int)>=0)=true:=by simp
   have a2:decide ((0:Int)<=((Bn c l).length:Int))=true:=by simp
   have a3:decide (Int.toNat ((Bn c l).length:Int)<=l.length)=true:=by simp;omega
   have a4:(Ab l).extract 0 (Int.toNat ((Bn c l).length:Int))=Ab (Bn c l):=by
    rw[O8,QC hl,←Px]
   have a5:wrap .i64 (((Bn c l).length:Int)+(([c].length:Nat):Int))=(((Bn c l).length+1:Nat):Int):=by
    rw[Bd (by simp;omega) (by simp;omega)];simp
   have a6:decide ((0:Int)<=(((Bn c l).length+1:Nat):Int))=true:=by simp;omega
   have a7:decide (Int.toNat (((Bn c l).length+1:Nat):Int)<=l.length)=true:=by simp;omega
   have a8:(Ab l).extract (Int.toNat (((Bn c l).length+1:Nat):Int)) l.length=Ab (l.drop ((Bn c l).length+1)):=by
    rw[O8,AL hl]
   have a9:decide ((Bn c l).length<l.length)=true:=by simpa using g
   simp only[Dg,e,Aj,dle,a1,a2,a3,a4,a5,a6,a7,a8,a9]
  ·have hi:We c l = -1:=by unfold We;rw[Cr g]
   rw[hi] at e;have a1:decide ((-1:Int)>=0)=false:=rfl;have a9:decide ((Bn c l).length<l.length)=false:=by simpa using g
   have a10:l.drop ((Bn c l).length+1)=[]:=List.drop_eq_nil_of_le (by omega)
   have a11:(ByteArray.mk #[])=Ab []:=rfl;rw[a9,a10,WM c l g];simp only[Dg,e,a1,a11]
 rw[GL];simp only[Dg,e2]
theorem Akz {l w:List Int}(hl:C8 l)(hw:C8 w):Ae (CP p) prog fu (d+4) J5 [.sc (.string (Ab l)),.sc (.string (Ab w))]=some ⟨[.sc (.string (Ab (if w.isPrefixOf l=true then l.drop w.length else l))),.sc (.bool (w.isPrefixOf l))],[]⟩:=by
 have e:Ae (CP p) prog fu (d+2) 77 [.sc (.string (Ab l)),.sc (.string (Ab w))]=some ⟨[.sc (.bool (w.isPrefixOf l))],[]⟩:=Ala (xs:=NU p) (fu:=fu) (d:=d+1) hl hw
 have e2:Ae (CP p) prog fu (d+3) 62 [.sc (.string (Ab l)),.sc (.string (Ab w))]=some ⟨[.sc (.string (Ab (if w.isPrefixOf l=true then l.drop w.length else l))),.sc (.bool (w.isPrefixOf l))],[]⟩:=by
  refine (My (p:=p) fu (d+2) _ _).trans ?_;cases hp:w.isPrefixOf l
  ·rw[hp] at e;simp only[Dg,e,Ds,Bool.false_eq_true,if_false]
  ·rw[hp] at e;have Y6:w.length<=l.length:=(List.isPrefixOf_iff_prefix.1 hp).length_le;have a1:decide (Int.toNat ((w.length:Nat):Int)<=l.length)=true:=by simp;omega
   have a2:(Ab l).extract (Int.toNat ((w.length:Nat):Int)) l.length=Ab (l.drop w.length):=by rw[O8,AL hl]
   simp only[Dg,e,Aj,dle,a1,a2,C6,if_true]
 rw[Rp];simp only[Dg,e2]
def GK (x:List Int):PV:=.sc (.string (Ab x))
theorem SU {c:Int}(hc:0<=c∧c<=255){a0 a1:ByteArray}{a2 a3:Int}{N:Nat}(hN:N<=1000000):∀(nn:Nat)(r:List Int)(done:List (List Int)),r.length+1<=nn->r.length<=1000000->C8 r->done.length+(A6 c r).length=N ->
  Ec fu (Ae (CP p) prog fu (d+3)) a0 a1 a2 a3 nn (Ab r) (Ab [c]) 0 ((N:Int)-1) N (done.length:Int) (done.map GK++List.replicate (A6 c r).length (.sc (.string ⟨#[]⟩)))=some ⟨[.own 1 N ((done++A6 c r).map GK)],[]⟩:=by
 intro nn
 induction nn with
 |zero=>intro r done h;omega
 |succ k ih=>
  intro r done hk hr6 hr hn;have e:Ae (CP p) prog fu (d+3) 100 [.sc (.string (Ab r)),.sc (.string (Ab [c]))]=_:=Adr (fu:=fu) (d:=d) (p:=p) hc hr;rw[O6];have Fh:=Y5 c r;by_cases g:(Bn c r).length<r.length
  ·rw[Dw g] at Fh;have hi:We c r=(Bn c r).length:=by unfold We;rw[Dw g]
   rw[hi] at e;have hp:=IP c (r.drop ((Bn c r).length+1));have Pg:(A6 c r).length=(A6 c (r.drop ((Bn c r).length+1))).length+1:=by rw[Fh];simp
   have a0:decide ((done.length:Int)<(N:Int)-1)=true:=by simp;omega
   have a1:decide (((Bn c r).length:Int)<0)=false:=by simp
   have a2:wrap .i64 (((Bn c r).length:Int)+0)=((Bn c r).length:Int):=by rw[Bd (by omega) (by omega)];omega
   have a3:decide ((0:Int)<=((Bn c r).length:Int))=true:=by simp
   have a4:decide (Int.toNat ((Bn c r).length:Int)<=r.length)=true:=by simp;omega
   have a5:(Ab r).extract 0 (Int.toNat ((Bn c r).length:Int))=Ab (Bn c r):=by rw[O8,QC hr,←Px]
   have a6:(decide ((0:Int)<=(done.length:Int))&&decide ((done.length:Int)<(N:Int)))=true:=by simp;omega
   have a7:decide (0+Int.toNat (done.length:Int)*1+1<=List.length (done.map GK++List.replicate (A6 c r).length (PV.sc (.string ⟨#[]⟩))))=true:=by simp;omega
   have a8:Ca (done.map GK++List.replicate (A6 c r).length (PV.sc (.string ⟨#[]⟩))) [PV.sc (.string (Ab (Bn c r)))] (0+Int.toNat (done.length:Int)*1)=(done++[Bn c r]).map GK++List.replicate (A6 c (r.drop ((Bn c r).length+1))).length (PV.sc (.string ⟨#[]⟩)):=by
    rw[AR (by simp;omega),Pg,List.replicate_succ,O8,Zzd,HD,XI (by simp)]
    simp[GK]
   have a9:wrap .i64 (((Bn c r).length:Int)+(([c].length:Nat):Int))=(((Bn c r).length+1:Nat):Int):=by
    rw[Bd (by simp;omega) (by simp;omega)];simp
   have b1:decide ((0:Int)<=(((Bn c r).length+1:Nat):Int))=true:=by simp;omega
   have b2:decide (Int.toNat (((Bn c r).length+1:Nat):Int)<=r.length)=true:=by simp;omega
   have b3:(Ab r).extract (Int.toNat (((Bn c r).length+1:Nat):Int)) r.length=Ab (r.drop ((Bn c r).length+1)):=by rw[O8,AL hr]
   have b4:wrap .i64 ((done.length:Int)+1)=(((done++[Bn c r]).length:Nat):Int):=by
    rw[Bd (by omega) (by omega)];simp
   have hd:=ih (r.drop ((Bn c r).length+1)) (done++[Bn c r]) (by simp;omega) (by simp;omega) ((fun x hx=>hr x (List.mem_of_mem_drop hx))) (by simp;omega)
   simp only[Dg,e,Aj,dle,a0,a1,a2,a3,a4,a5,a6,a7,a8,a9,b1,b2,b3,b4];rw[hd,Fh];simp
  ·rw[Cr g] at Fh;have Pg:(A6 c r).length=1:=by rw[Fh];rfl
   have a0:decide ((done.length:Int)<(N:Int)-1)=false:=by simp;omega
   have a6:(decide ((0:Int)<=(done.length:Int))&&decide ((done.length:Int)<(N:Int)))=true:=by simp;omega
   have a7:decide (0+Int.toNat (done.length:Int)*1+1<=List.length (done.map GK++List.replicate (A6 c r).length (PV.sc (.string ⟨#[]⟩))))=true:=by simp;omega
   have a8:Ca (done.map GK++List.replicate (A6 c r).length (PV.sc (.string ⟨#[]⟩))) [PV.sc (.string (Ab r))] (0+Int.toNat (done.length:Int)*1)=(done++[r]).map GK:=by
    rw[AR (by simp;omega),Pg,show List.replicate 1 (PV.sc (Value.string ⟨#[]⟩))=[PV.sc (.string ⟨#[]⟩)] from rfl,O8,Zzd,HD,XI (by simp)]
    simp[GK]
   have b4:wrap .i64 ((done.length:Int)+1)=(N:Int):=by
    rw[Bd (by omega) (by omega)];omega
   have b5:decide ((0:Int)<=(N:Int))=true:=by simp
   have b6:decide (Int.toNat (N:Int)<=N)=true:=by simp
   have b7:Int.toNat (N:Int)-0=N:=by simp
   have b8:decide (N*1<=List.length ((done++[r]).map GK))=true:=by simp;omega
   have b9:List.take (N*1) ((done++[r]).map GK)=(done++[r]).map GK:=Zzf (by simp;omega)
   simp only[Dg,a0,a6,a7,a8,b4,b5,b6,b7,b8,b9];rw[Fh]
theorem Ain {c:Int}(hc:0<=c∧c<=255){l:List Int}(hl:C8 l)(hs:l.length<=999999)(E9:l.length+1<=fu):Ae (CP p) prog fu (d+5) Ow [.sc (.string (Ab l)),.sc (.string (Ab [c]))]=some ⟨[.own 1 (A6 c l).length ((A6 c l).map GK)],[]⟩:=by
 have e:Ae (CP p) prog fu (d+4) 79 [.sc (.string (Ab l)),.sc (.string (Ab [c])),.sc (.int .i64 0),.sc (.int .i64 (-1))]=some ⟨[.own 1 (A6 c l).length ((A6 c l).map GK)],[]⟩:=by
  refine (Tc (p:=p) fu (d+3) _ _ _ _).trans ?_;have hn:=Wh c l;have hp:=IP c l;have hcn:=GY hc hl
  have e1:Ae (CP p) prog fu (d+3) 99 [.sc (.string (Ab l)),.sc (.string (Ab [c]))]=some ⟨[.sc (.int .i64 (((A6 c l).length:Int)-1))],[]⟩:=by
   have:Ae (CP p) prog fu (d+3) 99 [.sc (.string (Ab l)),.sc (.string (Ab [c]))]=some ⟨[.sc (.int .i64 (Lib.countByte (Ab l).data.toList c.toNat.toUInt8))],[]⟩:=rfl;rw[this]
   have e0:(Lib.countByte (Ab l).data.toList c.toNat.toUInt8:Int)=((A6 c l).length:Int)-1:=by
    have:Lib.countByte (Ab l).data.toList c.toNat.toUInt8+1=(A6 c l).length:=hcn;omega
   rw[e0]
  have a1:(((-1:Int))==0)=false:=rfl;have a2:(Array.toList (Ab [c]).data==Array.toList (ByteArray.mk #[]).data)=false:=rfl;have a3:decide ((-1:Int)<0)=true:=rfl;have a4:wrap .i64 (((A6 c l).length:Int)-1+1)=(A6 c l).length:=by rw[Bd (by omega) (by omega)];omega
  have a5:wrap .i64 ((l.length:Int)+1)=l.length+1:=by rw[Bd (by omega) (by omega)]
  have a6:(if ((l.length:Int)+1)<((A6 c l).length:Int) then ((l.length:Int)+1) else ((A6 c l).length:Int))=(A6 c l).length:=by rw[Cr (by omega)]
  have a7:decide ((0:Int)<=((A6 c l).length:Int))=true:=by simp
  have b7:decide (((A6 c l).length:Int)<=((A6 c l).length:Int))=true:=by simp
  have c7:decide (((A6 c l).length:Int)*16<=1099511627776)=true:=by simp;omega
  have d7:decide (((A6 c l).length:Int)<=1099511627776)=true:=by simp;omega
  have a8:wrap .i64 (((A6 c l).length:Int)-1)=((A6 c l).length:Int)-1:=Bd (by omega) (by omega)
  have a9:Om (A6 c l).length [PV.sc (.string ⟨#[]⟩)]=List.replicate (A6 c l).length (PV.sc (.string ⟨#[]⟩)):=by
   unfold Om
   induction (A6 c l).length with
   |zero=>rfl
   |succ k ih=>rw[List.replicate_succ,List.flatten_cons,ih];rfl
  have a10:Int.toNat ((A6 c l).length:Int)=(A6 c l).length:=O8 _;have hd:=SU (fu:=fu) (d:=d) (p:=p) hc (a0:=Ab l) (a1:=Ab [c]) (a2:=0) (a3:= -1) (N:=(A6 c l).length) (by omega) fu l [] E9 (by omega) hl (by simp)
  simp only[Dg,e1,Aj,dle,a1,a2,a3,a4,a5,a6,a7,b7,c7,d7,a8,a9,a10];exact hd
 have b1:decide ((A6 c l).length*1<=List.length ((A6 c l).map GK))=true:=by simp
 have b2:List.take ((A6 c l).length*1) ((A6 c l).map GK)=(A6 c l).map GK:=Zzf (by simp)
 rw[Zu];simp only[Dg,e,b1,b2]
end
end
section
open Go.Proofs.Tryd (prog)
open Go.IntKind (wrap)
set_option maxRecDepth 100000
theorem LY:∀n:Fin 256,Lib.indexByte FH.data.toList (n.val:Int).toNat.toUInt8=if Bq (n.val:Int)<64 then Bq (n.val:Int) else -1:=by decide +kernel
theorem Acp {c:Int}(hc:0<=c∧c<=255):Lib.indexByte FH.data.toList c.toNat.toUInt8=if Bq c<64 then Bq c else -1:=by
 obtain⟨n,rfl⟩:=Int.eq_ofNat_of_zero_le hc.1;exact LY ⟨n,by omega⟩
theorem At3 {y v:Int}(k:Nat)(hk:k<=18)(h0:0<=y)(hm:y % ((2 ^ (k+6):Nat):Int)=0) (hy:y<16777216)(hv0:0<=v)(hv:v<64):ior .u32 y (La .u32 (wrap .u32 v) (k:Int))=y+v*((2 ^ k:Nat):Int):=by
 obtain⟨y,rfl⟩:=Int.eq_ofNat_of_zero_le h0;obtain⟨v,rfl⟩:=Int.eq_ofNat_of_zero_le hv0
 have e1:wrap .u32 (v:Int)=v:=by
  simp only[wrap,IntKind.bits,IntKind.signed,Zzs,Bool.false_eq_true,if_false];omega
 have Bae:2 ^ k<=2 ^ 18:=Nat.pow_le_pow_right (by omega) hk
 have hvk:v*2 ^ k<2 ^ k*64:=by
  rw[Nat.mul_comm];exact Nat.mul_lt_mul_of_pos_left (by omega) (Nat.pos_of_ne_zero (by simp))
 have e2:La .u32 (v:Int) (k:Int)=((v*2 ^ k:Nat):Int):=by
  show wrap .u32 ((v:Int)*2 ^ (min (k:Int).toNat IntKind.u32.bits))=_
  have:min (k:Int).toNat IntKind.u32.bits=k:=by
   rw[O8];exact Nat.min_eq_left (by show k<=32;omega)
  rw[this];have:(v:Int)*2 ^ k=((v*2 ^ k:Nat):Int):=by simp
  rw[this];simp only[wrap,IntKind.bits,IntKind.signed,Zzs,Bool.false_eq_true,if_false];omega
 rw[e1,e2];have e3:=Anx y (v*2 ^ k) (by omega) (by omega)
 refine e3.trans ?_
 have hd:y=y / 2 ^ (k+6)*2 ^ (k+6):=by
  have:y % 2 ^ (k+6)=0:=by exact_mod_cast hm
  have:=Nat.div_add_mod y (2 ^ (k+6));rw[Nat.mul_comm] at this;omega
 have B5:v*2 ^ k<2 ^ (k+6):=by rw[Nat.pow_add];exact hvk
 have:=Nat.shiftLeft_add_eq_or_of_lt B5 (y / 2 ^ (k+6));rw[Nat.shiftLeft_eq,←hd] at this;rw[←this];simp
section
variable {fu d:Nat} {p:Option (List PV->Option Ay)}
theorem Ap9 {c:Int}(hc:0<=c∧c<=255):Ae (CP p) prog fu (d+2) 27 [.sc (.string FH),.sc (.int .u8 c)]=some ⟨[.sc (.int .i64 (if Bq c<64 then Bq c else -1))],[]⟩:=by
 have e:Ae (CP p) prog fu (d+1) 40 [.sc (.string FH),.sc (.int .u8 c)]=some ⟨[.sc (.int .i64 (Lib.indexByte FH.data.toList c.toNat.toUInt8))],[]⟩:=rfl;rw[Acp hc] at e;refine (J7 (p:=p) fu (d+1) _ _).trans ?_;simp only[Dg,e]
theorem J9 {a0:ByteArray}{m0 nn:Nat}{l:List Int}{y1:Nat}{y6:List PV}{i n:Nat}{y3 c:Int}(DN:i<n)(hn:n<=4)(hl:C8 l)(hc:l[i]?=some c) (h0:0<=y3)(hm:y3 % ((2 ^ (24-6*i):Nat):Int)=0) (hy:y3<16777216):
  B9 fu (Ae (CP p) prog fu (d+2)) a0 m0 (nn+1) (Ab l) y1 (n:Int) y3 (n:Int) (i:Int) y6=if Bq c<64 then B9 fu (Ae (CP p) prog fu (d+2)) a0 m0 nn (Ab l) y1 (n:Int) (y3+Bq c*((2 ^ (18-6*i):Nat):Int)) (n:Int) ((i+1:Nat):Int) y6 else some ⟨[.own 1 0 [],.sc (.int .i64 2)],[]⟩:=by
 have hcB:=hl c (List.mem_of_getElem? hc);have hv:=Mm c;have e:=Ap9 (fu:=fu) (d:=d) (p:=p) hcB;have a1:decide ((i:Int)<(n:Int))=true:=by simp;omega
 have a2:decide ((0:Int)<=(i:Int))=true:=by simp
 have a3:(Array.toList (Ab l).data)[Int.toNat (i:Int)]?=some c.toNat.toUInt8:=by
  rw[O8];show (l.map fun n=>n.toNat.toUInt8)[i]?=_
  rw[List.getElem?_map,hc];rfl
 have a4:=CK hcB;have ea:(ByteArray.mk #[(65:UInt8),(66:UInt8),(67:UInt8),(68:UInt8),(69:UInt8),(70:UInt8),(71:UInt8),(72:UInt8),(73:UInt8),(74:UInt8),(75:UInt8),(76:UInt8),(77:UInt8),(78:UInt8),(79:UInt8),(80:UInt8),(81:UInt8),(82:UInt8),(83:UInt8),(84:UInt8),(85:UInt8),(86:UInt8),(87:UInt8),(88:UInt8),(89:UInt8),(90:UInt8),(97:UInt8),(98:UInt8),(99:UInt8),(100:UInt8),(101:UInt8),(102:UInt8),(103:UInt8),(104:UInt8),(105:UInt8),(106:UInt8),(107:UInt8),(108:UInt8),(109:UInt8),(110:UInt8),(111:UInt8),(112:UInt8),(113:UInt8),(114:UInt8),(115:UInt8),(116:UInt8),(117:UInt8),(118:UInt8),(119:UInt8),(120:UInt8),(121:UInt8),(122:UInt8),(48:UInt8),(49:UInt8),(50:UInt8),(51:UInt8),(52:UInt8),(53:UInt8),(54:UInt8),(55:UInt8),(56:UInt8),(57:UInt8),(45:UInt8),(95:UInt8)])=FH:=rfl;rw[Gc,ea];by_cases hv6:Bq c<64
 ·rw[Dw hv6] at e;have b1:decide (Bq c<0)=false:=by simp;omega
  have b2:wrap .i64 (6*(i:Int))=6*(i:Int):=Bd (by omega) (by omega)
  have b3:wrap .i64 (18-6*(i:Int))=((18-6*i:Nat):Int):=by rw[Bd (by omega) (by omega)];omega
  have b4:decide ((0:Int)<=((18-6*i:Nat):Int))=true:=by simp
  have b5:=At3 (y:=y3) (v:=Bq c) (18-6*i) (by omega) h0 (by rw[show 18-6*i+6=24-6*i by omega];exact hm) hy hv.1 hv6
  have b6:wrap .i64 ((i:Int)+1)=((i+1:Nat):Int):=by rw[Bd (by omega) (by omega)];omega
  rw[Dw hv6];simp only[Dg,a1,a2,a3,a4,e,b1,b2,b3,b4,b5,b6]
 ·rw[Cr hv6] at e;have b1:decide ((-1:Int)<0)=true:=rfl;rw[Cr hv6];simp only[Dg,a1,a2,a3,a4,e,b1]
theorem Ar5 {y:Int}(h0:0<=y)(hy:y<16777216):wrap .u8 (FK .u32 y 16)=y / 65536 % 256:=by
 show wrap .u8 (y.fdiv (2 ^ (min (16:Int).toNat IntKind.u32.bits)))=_;have:(2:Int) ^ (min (16:Int).toNat IntKind.u32.bits)=65536:=by decide
 rw[this,Int.fdiv_eq_ediv_of_nonneg _ (by omega)]
 simp only[wrap,IntKind.bits,IntKind.signed,Zzs,Bool.false_eq_true,if_false];omega
theorem Az1 {y:Int}(h0:0<=y)(hy:y<16777216):wrap .u8 (FK .u32 y 8)=y / 256 % 256:=by
 show wrap .u8 (y.fdiv (2 ^ (min (8:Int).toNat IntKind.u32.bits)))=_;have:(2:Int) ^ (min (8:Int).toNat IntKind.u32.bits)=256:=by decide
 rw[this,Int.fdiv_eq_ediv_of_nonneg _ (by omega)]
 simp only[wrap,IntKind.bits,IntKind.signed,Zzs,Bool.false_eq_true,if_false];omega
theorem Ayv {y:Int}(h0:0<=y)(hy:y<16777216):wrap .u8 y=y % 256:=by
 simp only[wrap,IntKind.bits,IntKind.signed,Zzs,Bool.false_eq_true,if_false];omega
theorem UM {a0:ByteArray}{m0 nn:Nat}{s:ByteArray}{y1:Nat}{y6:List PV}{n:Nat}{y3:Int}(hn:2<=n)(hn4:n<=4)(h0:0<=y3)(hy:y3<16777216):
  B9 fu (Ae (CP p) prog fu (d+2)) a0 m0 (nn+1) s y1 (n:Int) y3 (n:Int) (n:Int) y6=Cc fu (Ae (CP p) prog fu (d+2)) a0 m0 fu s y1 (n:Int) (n-1) (4-n) ((4-n:Nat):Int) 0 y6 [.sc (.int .u8 (y3 / 65536 % 256)),.sc (.int .u8 (y3 / 256 % 256)),.sc (.int .u8 (y3 % 256))]:=by
 have a1:decide ((n:Int)<(n:Int))=false:=by simp
 have e1:=Ar5 h0 hy;have e2:=Az1 h0 hy;have e3:=Ayv h0 hy;have b1:wrap .i64 ((n:Int)-1)=((n-1:Nat):Int):=by rw[Bd (by omega) (by omega)];omega
 have b2:decide ((0:Int)<=((n-1:Nat):Int))=true:=by simp
 have b3:decide (Int.toNat ((n-1:Nat):Int)<=3)=true:=by simp;omega
 have b4:0+Int.toNat ((n-1:Nat):Int)*1=n-1:=by rw[O8];omega
 have b5:3-Int.toNat ((n-1:Nat):Int)=4-n:=by rw[O8];omega
 rw[Gc];simp only[Dg,a1,e1,e2,e3,b1,b2,b3,b4,b5]
end
end
section
open Go.Proofs.Tryd (prog)
open Go.IntKind (wrap)
set_option maxRecDepth 100000
section
variable {fu d:Nat} {p:Option (List PV->Option Ay)}
abbrev grp (A B C:Int):List PV:=[.sc (.int .u8 A),.sc (.int .u8 B),.sc (.int .u8 C)]
abbrev A1f:Option Ay:=some ⟨[.own 1 0 [],.sc (.int .i64 2)],[]⟩
theorem Aor {call:Ax}{a0 s:ByteArray}{m0 nn y1:Nat}{n i j:Nat}{y7:List PV}{A B C X:Int}(hij:i<j)(hj:j<=4)(h:List.getD (grp A B C) (n+i) .top=.sc (.int .u8 X)) {q:Int}:
  Cc fu call a0 m0 (nn+1) s y1 q n j (j:Int) (i:Int) y7 (grp A B C)=if X=0 then Cc fu call a0 m0 nn s y1 q n j (j:Int) ((i+1:Nat):Int) y7 (grp A B C) else A1f:=by
 have a1:decide ((i:Int)<(j:Int))=true:=by simp;omega
 have a2:(decide ((0:Int)<=(i:Int))&&decide ((i:Int)<(j:Int)))=true:=by simp;omega
 have a2':decide ((0:Int)<=(i:Int))=true:=by simp
 have a3:List.getD (grp A B C) (n+Int.toNat (i:Int)*1) PV.top=.sc (.int .u8 X):=by rw[O8,HD];exact h
 have a4:wrap .i64 ((i:Int)+1)=((i+1:Nat):Int):=by rw[Bd (by omega) (by omega)];omega
 rw[Gd];by_cases hx:X=0
 ·subst hx;have a5:((0:Int) != 0)=false:=rfl;rw[Dw rfl];simp only[Dg,a1,a2,a2',a3,a4,a5]
 ·have a5:(X != 0)=true:=by simp[hx]
  rw[Cr hx];simp only[Dg,a1,a2,a2',a3,a5]
theorem UB {call:Ax}{a0:ByteArray}{m0 nn:Nat}{n j:Nat}{l acc:List Int}{A B C:Int}(hn:2<=n)(hn4:n<=4)(hl:C8 l)(hnl:n<=l.length)(BB:acc.length<=1000000){st:Nat}:
  Cc fu call a0 m0 (nn+1) (Ab l) acc.length (n:Int) st j (j:Int) (j:Int) (Bk .u8 acc) (grp A B C)=Cb fu call a0 m0 (Ab (l.drop n)) (acc++[A,B,C].take (n-1)).length (Bk .u8 (acc++[A,B,C].take (n-1))):=by
 have a1:decide ((j:Int)<(j:Int))=false:=by simp
 have a2:wrap .i64 ((n:Int)-1)=((n-1:Nat):Int):=by rw[Bd (by omega) (by omega)];omega
 have a3:(decide (3<=List.length (grp A B C))&&true)=true:=rfl;have a4:decide ((0:Int)<=((n-1:Nat):Int))=true:=by simp
 have a5:decide (Int.toNat ((n-1:Nat):Int)<=3)=true:=by simp;omega
 have a6:Int.toNat ((n-1:Nat):Int)-0=n-1:=by rw[O8];omega
 have a7:decide (0+(n-1)*1<=List.length (grp A B C))=true:=by simp;omega
 have a8:decide (acc.length*1<=List.length (Bk .u8 acc))=true:=by rw[Dh];simp
 have a9:decide (List.length (List.take ((n-1)*1) (List.drop 0 (grp A B C)))=(n-1)*1)=true:=by simp;omega
 have b1:decide ((acc.length+(n-1))*1<=1099511627776)=true:=by simp;omega
 have b2:decide (acc.length+(n-1)<=1099511627776)=true:=by simp;omega
 have b3:List.take (acc.length*1) (Bk .u8 acc)++List.take ((n-1)*1) (List.drop 0 (grp A B C))=Bk .u8 (acc++[A,B,C].take (n-1)):=by
  have e0:Bk .u8 (acc++[A,B,C].take (n-1))=Bk .u8 acc++Bk .u8 ([A,B,C].take (n-1)):=List.flatMap_append;rw[Zzf (by rw[Dh];omega),e0,Zze,HD]
  congr 1
  match n,hn,hn4 with
  |2,_,_=>rfl
  |3,_,_=>rfl
  |4,_,_=>rfl
 have b4:decide ((0:Int)<=(n:Int))=true:=by simp
 have b5:decide (Int.toNat (n:Int)<=l.length)=true:=by simp;omega
 have b6:(Ab l).extract (Int.toNat (n:Int)) l.length=Ab (l.drop n):=by rw[O8,AL hl]
 have b7:acc.length+(n-1)=(acc++[A,B,C].take (n-1)).length:=by simp;omega
 rw[Gd];simp only[Dg,Aj,dle,a1,a2,a3,a4,a5,a6,a7,a8,a9,b1,b2,b3,b4,b5,b6];rw[b7]
theorem Ae3 {a0:ByteArray}(E9:10<=fu):∀(m:Nat)(l acc:List Int)(nn:Nat),l.length<=4*m->m+1<=nn->C8 l->l.length % 4≠1->acc.length+l.length<=1000000 ->
  Cb fu (Ae (CP p) prog fu (d+2)) a0 nn (Ab l) acc.length (Bk .u8 acc)=some (match K5 l with|none=>⟨[.own 1 0 [],.sc (.int .i64 2)],[]⟩|some b=>⟨[.own 1 (acc++b).length (Bk .u8 (acc++b)),.sc (.int .i64 0)],[]⟩):=by
 obtain⟨fu,rfl⟩:∃k,fu=k+10:=⟨fu-10,by omega⟩
 have zero:∀(acc:List Int) (nn:Nat),acc.length<=1000000->Cb (fu+10) (Ae (CP p) prog (fu+10) (d+2)) a0 (nn+1) (Ab []) acc.length (Bk .u8 acc)=some ⟨[.own 1 acc.length (Bk .u8 acc),.sc (.int .i64 0)],[]⟩:=by
  intro acc nn h;have a1:decide ((((Ab []).size:Nat):Int)>0)=false:=rfl;have a2:decide (acc.length*1<=List.length (Bk .u8 acc))=true:=by rw[Dh];simp
  have a3:List.take (acc.length*1) (Bk .u8 acc)=Bk .u8 acc:=Zzf (by rw[Dh];omega)
  rw[Gh];simp only[Dg,a1,a2,a3]
 intro m
 induction m with
 |zero=>
  intro l acc nn hl Q3 hB h1 BB;have:l=[]:=List.eq_nil_of_length_eq_zero (by omega)
  subst this;obtain⟨k,rfl⟩:∃k,nn=k+1:=⟨nn-1,by omega⟩
  rw[zero acc k (by omega)]
  simp[K5]
 |succ m ih=>
  intro l acc nn hl Q3 hB h1 BB;obtain⟨k,rfl⟩:∃k,nn=k+1:=⟨nn-1,by omega⟩
  have head:∀(n:Nat),l.length>0->n=min l.length 4->Cb (fu+10) (Ae (CP p) prog (fu+10) (d+2)) a0 (k+1) (Ab l) acc.length (Bk .u8 acc)=B9 (fu+10) (Ae (CP p) prog (fu+10) (d+2)) a0 k (fu+10) (Ab l) acc.length (n:Int) 0 (n:Int) 0 (Bk .u8 acc):=by
   intro n hp hn;have a1:decide (((l.length:Nat):Int)>0)=true:=by simp;omega
   have a2:(if ((l.length:Nat):Int)<4 then ((l.length:Nat):Int) else 4)=(n:Int):=by split<;>omega
   rw[Gh];simp only[Dg,Aj,a1,a2]
  match l,hl,hB,h1,BB,head with
  |[],_,_,_,BB,_=>
   rw[zero acc k (by simpa using BB)]
   simp[K5]
  |[x],_,_,h1,_,_=>exact absurd rfl h1
  |[a,b],_,hB,_,BB,head=>
   have va:=Mm a;have vb:=Mm b;rw[head 2 (by simp) rfl,show (0:Int)=((0:Nat):Int) from rfl]
   rw[J9 (c:=a) (by omega) (by omega) hB rfl (by simp) (by simp) (by simp)]
   unfold K5;by_cases ha:Bq a<64
   ·rw[Dw ha,J9 (c:=b) (by omega) (by omega) hB rfl (by simp<;>omega) (by simp<;>omega) (by simp<;>omega)]
    by_cases hb:Bq b<64
    ·rw[Dw hb,UM (by omega) (by omega) (by simp<;>omega) (by simp<;>omega)]
     rw[show (0:Int)=((0:Nat):Int) from rfl]
     rw[Aor (X:=(((0:Nat):Int)+Bq a*((2 ^ (18-6*0):Nat):Int)+Bq b*((2 ^ (18-6*1):Nat):Int)) / 256 % 256) (by omega) (by omega) rfl]
     by_cases hz:Bq b % 16=0
     ·rw[Dw (by simp<;>omega)]
      rw[Aor (X:=(((0:Nat):Int)+Bq a*((2 ^ (18-6*0):Nat):Int)+Bq b*((2 ^ (18-6*1):Nat):Int)) % 256) (by omega) (by omega) rfl]
      rw[Dw (by simp<;>omega),UB (by omega) (by omega) hB (by simp) (by omega)]
      rw[Dw ⟨ha,hb,hz⟩];have hr:=ih [] (acc++[Bq a*4+Bq b / 16]) k (by simp) (by omega) (fun x hx=>by cases hx) (by simp) (by simp at BB ⊢;omega)
      have e:(((0:Nat):Int)+Bq a*((2 ^ (18-6*0):Nat):Int)+Bq b*((2 ^ (18-6*1):Nat):Int)) / 65536 % 256=Bq a*4+Bq b / 16:=by simp;omega
      rw[e];refine hr.trans ?_;simp[K5]
     ·rw[Cr (by simp<;>omega),Cr (fun h=>hz h.2.2)]
    ·rw[Cr hb,Cr (fun h=>hb h.2.1)]
   ·rw[Cr ha,Cr (fun h=>ha h.1)]
  |[a,b,c],_,hB,_,BB,head=>
   have va:=Mm a;have vb:=Mm b;have vc:=Mm c;rw[head 3 (by simp) rfl,show (0:Int)=((0:Nat):Int) from rfl]
   rw[J9 (c:=a) (by omega) (by omega) hB rfl (by simp) (by simp) (by simp)]
   unfold K5;by_cases ha:Bq a<64
   ·rw[Dw ha,J9 (c:=b) (by omega) (by omega) hB rfl (by simp<;>omega) (by simp<;>omega) (by simp<;>omega)]
    by_cases hb:Bq b<64
    ·rw[Dw hb,J9 (c:=c) (by omega) (by omega) hB rfl (by simp<;>omega) (by simp<;>omega) (by simp<;>omega)]
     by_cases hc:Bq c<64
     ·rw[Dw hc,UM (by omega) (by omega) (by simp<;>omega) (by simp<;>omega)]
      rw[show (0:Int)=((0:Nat):Int) from rfl]
      rw[Aor (X:=(((0:Nat):Int)+Bq a*((2 ^ (18-6*0):Nat):Int)+Bq b*((2 ^ (18-6*1):Nat):Int)+Bq c*((2 ^ (18-6*2):Nat):Int)) % 256) (by omega) (by omega) rfl]
      by_cases hz:Bq c % 4=0
      ·rw[Dw (by simp<;>omega),UB (by omega) (by omega) hB (by simp) (by omega)]
       rw[Dw ⟨ha,hb,hc,hz⟩];have hr:=ih [] (acc++[Bq a*4+Bq b / 16,Bq b % 16*16+Bq c / 4]) k (by simp) (by omega) (fun x hx=>by cases hx) (by simp) (by simp at BB ⊢;omega)
       have e:(((0:Nat):Int)+Bq a*((2 ^ (18-6*0):Nat):Int)+Bq b*((2 ^ (18-6*1):Nat):Int)+Bq c*((2 ^ (18-6*2):Nat):Int)) / 65536 % 256=Bq a*4+Bq b / 16:=by simp;omega
       have e2:(((0:Nat):Int)+Bq a*((2 ^ (18-6*0):Nat):Int)+Bq b*((2 ^ (18-6*1):Nat):Int)+Bq c*((2 ^ (18-6*2):Nat):Int)) / 256 % 256=Bq b % 16*16+Bq c / 4:=by simp;omega
       rw[e,e2];refine hr.trans ?_;simp[K5]
      ·rw[Cr (by simp<;>omega),Cr (fun h=>hz h.2.2.2)]
     ·rw[Cr hc,Cr (fun h=>hc h.2.2.1)]
    ·rw[Cr hb,Cr (fun h=>hb h.2.1)]
   ·rw[Cr ha,Cr (fun h=>ha h.1)]
  |a::b::c::e::t,hl,hB,h1,BB,head=>
   have va:=Mm a;have vb:=Mm b;have vc:=Mm c;have ve:=Mm e;rw[head 4 (by simp) (by simp<;>omega),show (0:Int)=((0:Nat):Int) from rfl]
   rw[J9 (c:=a) (by omega) (by omega) hB rfl (by simp) (by simp) (by simp)]
   unfold K5;by_cases ha:Bq a<64
   ·rw[Dw ha,J9 (c:=b) (by omega) (by omega) hB rfl (by simp<;>omega) (by simp<;>omega) (by simp<;>omega)]
    by_cases hb:Bq b<64
    ·rw[Dw hb,J9 (c:=c) (by omega) (by omega) hB rfl (by simp<;>omega) (by simp<;>omega) (by simp<;>omega)]
     by_cases hc:Bq c<64
     ·rw[Dw hc,J9 (c:=e) (by omega) (by omega) hB rfl (by simp<;>omega) (by simp<;>omega) (by simp<;>omega)]
      by_cases he:Bq e<64
      ·rw[Dw he,UM (by omega) (by omega) (by simp<;>omega) (by simp<;>omega)]
       rw[show (0:Int)=((4-4:Nat):Int) from rfl,UB (by omega) (by omega) hB (by simp) (by omega)]
       rw[Dw ⟨ha,hb,hc,he⟩];have hr:=ih t (acc++[Bq a*4+Bq b / 16,Bq b % 16*16+Bq c / 4,Bq c % 4*64+Bq e]) k (by simp at hl;omega) (by omega) (fun x hx=>hB x (by simp[hx])) (by simp at h1;omega) (by simp at BB ⊢;omega)
       have e1:(((4-4:Nat):Int)+Bq a*((2 ^ (18-6*0):Nat):Int)+Bq b*((2 ^ (18-6*1):Nat):Int)+Bq c*((2 ^ (18-6*2):Nat):Int)+Bq e*((2 ^ (18-6*3):Nat):Int)) / 65536 % 256=Bq a*4+Bq b / 16:=by simp;omega
       have e2:(((4-4:Nat):Int)+Bq a*((2 ^ (18-6*0):Nat):Int)+Bq b*((2 ^ (18-6*1):Nat):Int)+Bq c*((2 ^ (18-6*2):Nat):Int)+Bq e*((2 ^ (18-6*3):Nat):Int)) / 256 % 256=Bq b % 16*16+Bq c / 4:=by simp;omega
       have e3:(((4-4:Nat):Int)+Bq a*((2 ^ (18-6*0):Nat):Int)+Bq b*((2 ^ (18-6*1):Nat):Int)+Bq c*((2 ^ (18-6*2):Nat):Int)+Bq e*((2 ^ (18-6*3):Nat):Int)) % 256=Bq c % 4*64+Bq e:=by simp;omega
       rw[e1,e2,e3];refine hr.trans ?_;cases K5 t<;>simp
      ·rw[Cr he,Cr (fun h=>he h.2.2.2)]
     ·rw[Cr hc,Cr (fun h=>hc h.2.2.1)]
    ·rw[Cr hb,Cr (fun h=>hb h.2.1)]
   ·rw[Cr ha,Cr (fun h=>ha h.1)]
theorem Agw:∀{l:List Int},l.length % 4=1->K5 l=none
 |[],h=>by simp at h
 |[_],_=>rfl
 |[_,_],h=>by simp at h
 |[_,_,_],h=>by simp at h
 |p::q::r::s::t,h=>by
  have:=Agw (l:=t) (by simp at h;omega)
  unfold K5;rw[this];simp
theorem Al4 {l:List Int}(hB:C8 l)(hl:l.length<=1000000)(E9:10<=fu)(FU:l.length<=fu):Ae (CP p) prog fu (d+3) Hl [.sc (.string (Ab l))]=some (match K5 l with|none=>⟨[.own 1 0 [],.sc (.int .i64 2)],[]⟩|some b=>⟨[.own 1 b.length (Bk .u8 b),.sc (.int .i64 0)],[]⟩):=by
 rw[Nm];have a0:Int.tmod ((l.length:Nat):Int) 4=((l.length % 4:Nat):Int):=by rw[Int.tmod_eq_emod_of_nonneg (by omega)];omega
 by_cases h1:l.length % 4=1
 ·have a1:(((l.length % 4:Nat):Int)==1)=true:=by rw[h1];rfl
  rw[Agw h1];simp only[Dg,Aj,a0,a1]
 ·have a1:(((l.length % 4:Nat):Int)==1)=false:=by simp;omega
  have a2:Int.tdiv ((l.length:Nat):Int) 4=((l.length / 4:Nat):Int):=by rw[Int.tdiv_eq_ediv_of_nonneg (by omega)];omega
  have a3:wrap .i64 ((l.length / 4:Nat):Int)=((l.length / 4:Nat):Int):=Bd (by omega) (by omega)
  have a4:wrap .i64 (((l.length / 4:Nat):Int)*3)=((l.length / 4:Nat):Int)*3:=Bd (by omega) (by omega)
  have a5:wrap .i64 (((l.length / 4:Nat):Int)*3+2)=((l.length / 4:Nat):Int)*3+2:=Bd (by omega) (by omega)
  have a6:decide ((0:Int)<=((l.length / 4:Nat):Int)*3+2)=true:=by simp;omega
  have a7:decide ((((l.length / 4:Nat):Int)*3+2)*1<=1099511627776)=true:=by simp;omega
  have a8:decide (((l.length / 4:Nat):Int)*3+2<=1099511627776)=true:=by simp;omega
  have hd:=Ae3 (d:=d) (p:=p) (a0:=Ab l) E9 (l.length / 4+1) l [] fu (by omega) (by omega) hB h1 (by simp<;>omega)
  simp only[Dg,Aj,a0,a1,a2,a3,a4,a5,a6,a7,a8];refine hd.trans ?_;cases K5 l<;>simp
end
end
section
open Go.Proofs.Tryd (prog)
open Go.IntKind (wrap)
set_option maxRecDepth 100000
theorem dT {q:Prop} [Decidable q] (h:q):decide q=true:=decide_eq_true h
theorem dF {q:Prop} [Decidable q] (h:¬q):decide q=false:=decide_eq_false h
theorem bT {q:Prop} [Decidable q] (h:q):(!decide q)=false:=by simp[h]
theorem bF {q:Prop} [Decidable q] (h:¬q):(!decide q)=true:=by simp[h]
def okB (n i:Nat)(c:Int):Bool:=ltB c||(c==45&&decide (0<i)&&decide (i+1<n))
def X6 (n:Nat):Nat->List Int->Bool
 |_,[]=>true
 |i,c::r=>okB n i c&&X6 n (i+1) r
theorem IB (n i:Nat)(c:Int)(r:List Int):X6 n i (c::r)=(okB n i c&&X6 n (i+1) r):=rfl
theorem Ac8:ltB 45=false:=rfl
theorem XV (n:Nat):∀(r:List Int)(i:Nat),i+r.length=n->X6 n i r=(r.all (fun x=>ltB x||x==45) && !(decide (i=0)&&r.head?==some 45) && !(r.getLast?==some 45))
 |[],i,_=>by simp[X6]
 |[c],i,h=>by
  simp only[LB,List.length_nil] at h;unfold X6 okB;by_cases hc:c=45
  ·subst hc;have:¬i+1<n:=by omega
   simp[X6,Ac8,this]
  ·have hcb:(c==45)=false:=by simp[hc]
   simp[X6,hcb]
 |c::x::r,i,h=>by
  have ih:=XV n (x::r) (i+1) (by simp at h ⊢;omega)
  have hl:(c::x::r).getLast?=(x::r).getLast?:=by simp
  unfold X6;rw[ih,hl];have h1:i+1<n:=by simp at h;omega
  unfold okB;by_cases hc:c=45
  ·subst hc;by_cases hi:i=0
   ·subst hi;simp[Ac8]
   ·have:0<i:=by omega
    simp[Ac8,h1,hi,this]
  ·have hcb:(c==45)=false:=by simp[hc]
   simp[hcb,Bool.and_assoc]
theorem Ah3 {l:List Int}(h1:1<=l.length)(h2:l.length<=63):Rn l=X6 l.length 0 l:=by
 rw[XV _ l 0 (by simp)]
 unfold Rn;rw[dT h1,dT h2];cases l.all (fun x=>ltB x||x==45)<;>cases (l.head?==some 45)<;>cases (l.getLast?==some 45)<;>rfl
section
variable {fu d:Nat} {p:Option (List PV->Option Ay)}
theorem QG {call:Ax}{a0:ByteArray}{l:List Int}(hB:C8 l)(hs:l.length<=63):∀(r:List Int)(i nn:Nat),l.drop i=r->r.length+1<=nn ->
  A9 fu call a0 nn (Ab l) (l.length:Int) (i:Int)=some ⟨[.sc (.bool (X6 l.length i r))],[]⟩
 |[],i,nn,hd,hn=>by
  obtain⟨k,rfl⟩:∃k,nn=k+1:=⟨nn-1,by omega⟩
  have hi:=drop_nil hd;have a1:decide ((i:Int)<(l.length:Int))=false:=by simp;omega
  rw[I1];simp only[Dg,a1];rfl
 |c::r,i,nn,hd,hn=>by
  obtain⟨k,rfl⟩:∃k,nn=k+1:=⟨nn-1,by omega⟩
  obtain⟨hi,hc,Lu⟩:=Rb hd;have ih:=QG (call:=call) (a0:=a0) hB hs r (i+1) k Lu (by simp at hn;omega)
  have hcB:=hB c (List.mem_of_getElem? hc);have a1:decide ((i:Int)<(l.length:Int))=true:=by simp;omega
  have a2:decide ((0:Int)<=(i:Int))=true:=by simp
  have a3:(Array.toList (Ab l).data)[Int.toNat (i:Int)]?=some c.toNat.toUInt8:=by
   rw[O8];show (l.map fun n=>n.toNat.toUInt8)[i]?=_
   rw[List.getElem?_map,hc];rfl
  have a4:=CK hcB;have a5:wrap .i64 ((i:Int)+1)=((i+1:Nat):Int):=by rw[Bd (by omega) (by omega)];omega
  have a6:wrap .i64 ((l.length:Int)-1)=(l.length:Int)-1:=Bd (by omega) (by omega)
  have good:okB l.length i c=true->(A9 fu call a0 k (Ab l) (l.length:Int) ((i+1:Nat):Int)=some ⟨[.sc (.bool (X6 l.length i (c::r)))],[]⟩):=by
   intro h;rw[ih,IB,h,Bool.true_and]
  have bad:okB l.length i c=false->some (Ay.mk [PV.sc (.bool false)] [])=some ⟨[.sc (.bool (X6 l.length i (c::r)))],[]⟩:=by
   intro h;rw[IB,h,Zzs]
  rw[I1];by_cases hA:97<=c∧c<=122
  ·have q1:=dT hA.1;have q2:=dT hA.2;have q3:(c==45)=false:=by simp;omega
   have q4:=dT (q:=(48:Int)<=c) (by omega)
   have q5:=bF (q:=c<=57) (by omega)
   simp only[Dg,a1,a2,a3,a4,a5,a6,Aj,q1,q2,q3,q4,q5];exact good (by unfold okB ltB;simp[hA])
  by_cases hD:48<=c∧c<=57
  ·have q1:=dF (q:=(97:Int)<=c) (by omega)
   have q2:=dT (q:=c<=122) (by omega)
   have q3:(c==45)=false:=by simp;omega
   have q4:=dT hD.1;have q5:=bT hD.2;simp only[Dg,a1,a2,a3,a4,a5,a6,Aj,q1,q2,q3,q4,q5];exact good (by unfold okB ltB FO;simp[hD])
  have B5:ltB c=false:=by
   unfold ltB FO;simp;exact⟨fun h=>by omega,fun h=>by omega⟩
  by_cases hM:c=45
  ·subst hM;have q1:decide ((97:Int)<=45)=false:=rfl;have q2:decide ((45:Int)<=122)=true:=rfl;have q3:((45:Int)==45)=true:=rfl;have q4:decide ((48:Int)<=45)=false:=rfl;have q5:(!decide ((45:Int)<=57))=false:=rfl;by_cases h0:0<i
   ·have q6:=dT (q:=(i:Int)>0) (by omega)
    by_cases h1:i+1<l.length
    ·have q7:=bT (q:=(i:Int)<(l.length:Int)-1) (by omega)
     simp only[Dg,a1,a2,a3,a4,a5,a6,Aj,q1,q2,q3,q4,q5,q6,q7];exact good (by unfold okB;simp[h0,h1])
    ·have q7:=bF (q:=(i:Int)<(l.length:Int)-1) (by omega)
     simp only[Dg,a1,a2,a3,a4,a5,a6,Aj,q1,q2,q3,q4,q5,q6,q7];exact bad (by unfold okB;simp[h1,B5])
   ·have q6:=dF (q:=(i:Int)>0) (by omega)
    simp only[Dg,a1,a2,a3,a4,a5,a6,Aj,q1,q2,q3,q4,q5,q6];exact bad (by unfold okB;simp[h0,B5])
  have q3:(c==45)=false:=by simp[hM]
  have Aa0:okB l.length i c=false:=by unfold okB;simp[B5,hM]
  by_cases h97:97<=c
  ·have q1:=dT h97;have q2:=dF (q:=c<=122) (by omega)
   have q4:=dT (q:=(48:Int)<=c) (by omega)
   have q5:=bF (q:=c<=57) (by omega)
   simp only[Dg,a1,a2,a3,a4,a5,a6,Aj,q1,q2,q3,q4,q5];exact bad Aa0
  ·have q1:=dF h97;have q2:=dT (q:=c<=122) (by omega)
   by_cases h48:48<=c
   ·have q4:=dT h48;have q5:=bF (q:=c<=57) (by omega)
    simp only[Dg,a1,a2,a3,a4,a5,a6,Aj,q1,q2,q3,q4,q5];exact bad Aa0
   ·have q4:=dF h48;have q5:=bT (q:=c<=57) (by omega)
    simp only[Dg,a1,a2,a3,a4,a5,a6,Aj,q1,q2,q3,q4,q5];exact bad Aa0
theorem Aia {l:List Int}(hB:C8 l)(E9:100<=fu):Ae (CP p) prog fu (d+1) Md [.sc (.string (Ab l))]=some ⟨[.sc (.bool (Rn l))],[]⟩:=by
 rw[Vg];by_cases h1:1<=l.length
 ·by_cases h2:l.length<=63
  ·have a1:decide (((l.length:Nat):Int)<1)=false:=by simp;omega
   have a2:decide (((l.length:Nat):Int)>63)=false:=by simp;omega
   rw[Ah3 h1 h2];simp only[Dg,Aj,a1,a2];exact QG hB h2 l 0 fu rfl (by omega)
  ·have a1:decide (((l.length:Nat):Int)<1)=false:=by simp;omega
   have a2:decide (((l.length:Nat):Int)>63)=true:=by simp;omega
   have e:Rn l=false:=by unfold Rn;simp[h2]
   rw[e];simp only[Dg,Aj,a1,a2]
 ·have a1:decide (((l.length:Nat):Int)<1)=true:=by simp;omega
  have e:Rn l=false:=by unfold Rn;simp[h1]
  rw[e];simp only[Dg,Aj,a1]
theorem Adq (l cs:List UInt8):(Lib.trimS l cs==[])=l.all (cs.contains ·):=by
 have key:∀(q:UInt8->Bool) (m:List UInt8),m.dropWhile q=[]↔m.all q=true:=by
  intro q m
  induction m with
  |nil=>simp
  |cons x m ih=>
   by_cases hx:q x=true
   ·rw[List.dropWhile_cons_of_pos hx,ih];simp[hx]
   ·rw[List.dropWhile_cons_of_neg hx];simp[hx]
 unfold Lib.trimS Lib.trimLeftS Lib.trimRightS;rw[Bool.eq_iff_iff,beq_iff_eq,key,List.all_reverse,←key,key,List.all_eq_true]
 have h2:∀(q:UInt8->Bool) (m:List UInt8),(m.dropWhile q).all q=true↔m.all q=true:=by
  intro q m
  induction m with
  |nil=>simp
  |cons x m ih=>
   by_cases hx:q x=true
   ·rw[List.dropWhile_cons_of_pos hx,ih];simp[hx]
   ·rw[List.dropWhile_cons_of_neg hx]
 rw[←List.all_eq_true,h2,List.all_reverse]
def Qc:ByteArray:=⟨#[48,49,50,51,52,53,54,55,56,57]⟩
theorem Al9:∀n:Fin 256,Qc.data.toList.contains (n.val:Int).toNat.toUInt8=FO (n.val:Int):=by decide +kernel
theorem Ap6 {l:List Int}(h:C8 l):((l.map fun n=>n.toNat.toUInt8).all (Qc.data.toList.contains ·))=l.all FO:=by
 induction l with
 |nil=>rfl
 |cons c r ih=>
  obtain⟨hc,hr⟩:=Bm h;obtain⟨n,rfl⟩:=Int.eq_ofNat_of_zero_le hc.1;rw[List.map_cons,List.all_cons,List.all_cons,ih hr]
  congr 1
  exact Al9 ⟨n,by omega⟩
theorem Anr {l:List Int}(hB:C8 l)(hs:l.length<=1000000):∃x,Ae (CP p) prog fu (d+1) 66 [.sc (.string (Ab l)),.sc (.string Qc)]=some ⟨[.sc (.string x)],[]⟩∧(Array.toList x.data==Array.toList (ByteArray.mk #[]).data)=l.all FO:=by
 refine⟨⟨(Lib.trimS (Ab l).data.toList Qc.data.toList).toArray⟩,?_,?_⟩
 ·have e:Ae (CP p) prog fu (d+1) 66 [.sc (.string (Ab l)),.sc (.string Qc)]=QR [.sc (.string (Ab l)),.sc (.string Qc)]:=rfl;rw[e];unfold QR
  have:(Nat.ble Qc.size 1000&&Qc.data.toList.all (fun b=>decide (b.toNat<128))&&decide ((Ab l).size<=1000000000))=true:=by
   rw[Aj];have h1:(Nat.ble Qc.size 1000&&Qc.data.toList.all (fun b=>decide (b.toNat<128)))=true:=by decide +kernel
   rw[h1,dT (q:=l.length<=1000000000) (by omega)]
   rfl
  simp only[this,cond_true]
 ·show (Lib.trimS (Ab l).data.toList Qc.data.toList==[])=_;rw[Adq];exact Ap6 hB
theorem EP (c:Int):∀{l:List Int},C8 l->∀x∈A6 c l,C8 x∧x.length<=l.length
 |[],_,x,hx=>by simp[A6] at hx;subst hx;exact⟨(fun y hy=>nomatch hy),Nat.le_refl _⟩
 |a::r,h,x,hx=>by
  obtain⟨ha,hr⟩:=Bm h;have ih:=EP c hr;unfold A6 at hx;split at hx
  ·rcases List.mem_cons.1 hx with rfl|hx
   ·exact⟨(fun y hy=>nomatch hy),Nat.zero_le _⟩
   ·exact⟨(ih x hx).1,Nat.le_succ_of_le (ih x hx).2⟩
  ·cases hs:A6 c r with
   |nil=>exact absurd hs (Nv c r)
   |cons b t=>
    rw[hs] at hx ih;rcases List.mem_cons.1 hx with rfl|hx
    ·obtain⟨q1,q2⟩:=ih b (by simp)
     refine⟨fun y hy=>?_,by simp;omega⟩
     rcases List.mem_cons.1 hy with rfl|hy
     ·exact ha
     ·exact q1 y hy
    ·exact⟨(ih x (by simp[hx])).1,Nat.le_succ_of_le (ih x (by simp[hx])).2⟩
theorem PX {a0:ByteArray}(E9:200<=fu){ls:List (List Int)} (hB:∀x∈ls,C8 x∧x.length<=1000)(h0:ls≠[]) (hN:ls.length<=1000):∀(r:List (List Int)) (i nn:Nat),ls.drop i=r->r.length+1<=nn ->
  Gs fu (Ae (CP p) prog fu (d+1)) a0 nn ls.length ls.length (ls.length:Int) (i:Int) (ls.map GK)=some ⟨[.sc (.int .i64 (if r.all Rn=false then 2 else if (ls.getLastD []).all FO=true then 2 else 0))],[]⟩
 |[],i,nn,hd,hn=>by
  obtain⟨k,rfl⟩:∃k,nn=k+1:=⟨nn-1,by omega⟩
  have hi:=drop_nil hd;have Ads:0<ls.length:=List.length_pos_iff.2 h0;have a1:decide ((i:Int)<(ls.length:Int))=false:=by simp;omega
  have a2:wrap .i64 ((ls.length:Int)-1)=((ls.length-1:Nat):Int):=by rw[Bd (by omega) (by omega)];omega
  have a3:decide ((0:Int)<=((ls.length-1:Nat):Int))=true:=by simp
  have a4:decide (((ls.length-1:Nat):Int)<(ls.length:Int))=true:=by simp;omega
  have Al0:ls.getLastD []=ls[ls.length-1]'(by omega):=by
   rw[List.getLastD_eq_getLast?,List.getLast?_eq_getElem?,List.getElem?_eq_getElem (by omega)]
   rfl
  have a5:List.getD (ls.map GK) (0+Int.toNat ((ls.length-1:Nat):Int)*1) PV.top=.sc (.string (Ab (ls.getLastD []))):=by
   rw[O8,Zzd,HD,List.getD_eq_getElem?_getD,List.getElem?_map,List.getElem?_eq_getElem (by omega),Al0]
   rfl
  have hm:=hB (ls.getLastD []) (by rw[Al0];exact List.getElem_mem _)
  obtain⟨x,e,hx⟩:=Anr (fu:=fu) (d:=d) (p:=p) hm.1 (by omega)
  have e2:Ae (CP p) prog fu (d+1) 66 [.sc (.string (Ab (ls.getLastD []))),.sc (.string (ByteArray.mk #[(48:UInt8),(49:UInt8),(50:UInt8),(51:UInt8),(52:UInt8),(53:UInt8),(54:UInt8),(55:UInt8),(56:UInt8),(57:UInt8)]))]=some ⟨[.sc (.string x)],[]⟩:=e;rw[K1];cases hq:(ls.getLastD []).all FO
  ·rw[hq] at hx;simp only[Dg,a1,a2,a3,a4,a5,e2,hx,List.all_nil,Bool.true_eq_false,if_false,Bool.false_eq_true]
  ·rw[hq] at hx;simp only[Dg,a1,a2,a3,a4,a5,e2,hx,List.all_nil,Bool.true_eq_false,if_false,if_true]
 |x::r,i,nn,hd,hn=>by
  obtain⟨k,rfl⟩:∃k,nn=k+1:=⟨nn-1,by omega⟩
  obtain⟨hi,hc,Lu⟩:=Rb hd;have ih:=PX (a0:=a0) E9 hB h0 hN r (i+1) k Lu (by simp at hn;omega)
  have hm:=hB x (List.mem_of_getElem? hc);have e:Ae (CP p) prog fu (d+1) 65 [.sc (.string (Ab x))]=_:=Aia (fu:=fu) (d:=d) (p:=p) hm.1 (by omega)
  have a1:decide ((i:Int)<(ls.length:Int))=true:=by simp;omega
  have a2:decide ((0:Int)<=(i:Int))=true:=by simp
  have a5:List.getD (ls.map GK) (0+Int.toNat (i:Int)*1) PV.top=.sc (.string (Ab x)):=by
   rw[O8,Zzd,HD,List.getD_eq_getElem?_getD,List.getElem?_map,hc];rfl
  have a6:wrap .i64 ((i:Int)+1)=((i+1:Nat):Int):=by rw[Bd (by omega) (by omega)];omega
  rw[K1];cases hq:Rn x
  ·rw[hq] at e;have:((x::r).all Rn=false):=by simp[hq]
   rw[Dw this];simp only[Dg,a1,a2,a5,e,Ds]
  ·rw[hq] at e;have:(x::r).all Rn=r.all Rn:=by simp[hq]
   rw[this];simp only[Dg,a1,a2,a5,e,C6,a6];exact ih
theorem Al6 {l:List Int}(hB:C8 l)(hs:l.length<=1000000)(E9:200<=fu):Ae (CP p) prog fu (d+6) Oz [.sc (.string (Ab l))]=some ⟨[.sc (.int .i64 (Sj l))],[]⟩:=by
 rw[Zf];unfold Sj;by_cases h:100<l.length
 ·have a1:decide (((l.length:Nat):Int)>100)=true:=by simp;omega
  rw[Dw h];simp only[Dg,Aj,a1]
 ·have a1:decide (((l.length:Nat):Int)>100)=false:=by simp;omega
  have e:Ae (CP p) prog fu (d+5) 64 [.sc (.string (Ab l)),.sc (.string (ByteArray.mk #[(46:UInt8)]))]=_:=Ain (fu:=fu) (d:=d) (p:=p) (c:=46) (by omega) hB (by omega) (by omega)
  have hn:=Wh 46 l;have hd:=PX (a0:=Ab l) (fu:=fu) (d:=d+4) (p:=p) (by omega) (ls:=A6 46 l) (fun x hx=>⟨(EP 46 hB x hx).1,by have:=(EP 46 hB x hx).2;omega⟩) (Nv 46 l) (by omega) (A6 46 l) 0 fu rfl (by omega)
  rw[Cr h];simp only[Dg,Aj,a1,e];exact hd
theorem Ai2 (s:Bool):Ae (CP p) prog fu (d+1) Ja [.sc (.bool s)]=some ⟨[.sc (.int .i64 (dfl s))],[]⟩:=by
 rw[Ph];cases s<;>simp only[Dg]<;>rfl
theorem KR (c:Int):FO c=true↔48<=c∧c<=57:=by unfold FO;simp
theorem HY {call:Ax}{a0:ByteArray}{l:List Int}(hB:C8 l)(hs:l.length<=5):∀(r:List Int)(i nn:Nat)(n:Int),l.drop i=r->r.length+1<=nn->0<=n->n<10 ^ i ->
  E6 fu call a0 nn (Ab l) n (l.length:Int) (i:Int)=some (if r.all FO=true then ⟨[.sc (.int .i64 (r.foldl (fun n x=>10*n+(x-48)) n)),.sc (.bool (decide (r.foldl (fun n x=>10*n+(x-48)) n<=65535)))],[]⟩ else ⟨[.sc (.int .i64 0),.sc (.bool false)],[]⟩)
 |[],i,nn,n,hd,hn,h0,h1=>by
  obtain⟨k,rfl⟩:∃k,nn=k+1:=⟨nn-1,by omega⟩
  have hi:=drop_nil hd;have a1:decide ((i:Int)<(l.length:Int))=false:=by simp;omega
  rw[H8];simp only[Dg,a1];rfl
 |c::r,i,nn,n,hd,hn,h0,h1=>by
  obtain⟨k,rfl⟩:∃k,nn=k+1:=⟨nn-1,by omega⟩
  obtain⟨hi,hc,Lu⟩:=Rb hd;have hcB:=hB c (List.mem_of_getElem? hc)
  have hp:(10:Int) ^ i<=10 ^ 4:=by
   have h:=Nat.pow_le_pow_right (n:=10) (by omega) (show i<=4 by omega)
   exact_mod_cast h
  have hp2:(10:Int) ^ (i+1)=10 ^ i*10:=Int.pow_succ ..;have a1:decide ((i:Int)<(l.length:Int))=true:=by simp;omega
  have a2:decide ((0:Int)<=(i:Int))=true:=by simp
  have a3:(Array.toList (Ab l).data)[Int.toNat (i:Int)]?=some c.toNat.toUInt8:=by
   rw[O8];show (l.map fun n=>n.toNat.toUInt8)[i]?=_
   rw[List.getElem?_map,hc];rfl
  have a4:=CK hcB;rw[H8];by_cases hq:48<=c∧c<=57
  ·have q1:=dF (q:=c<48) (by omega)
   have q2:=dF (q:=c>57) (by omega)
   have a5:wrap .i64 (10*n)=10*n:=Bd (by omega) (by omega)
   have a6:wrap .u8 (c-48)=c-48:=AD (by omega) (by omega)
   have a7:wrap .i64 (c-48)=c-48:=Bd (by omega) (by omega)
   have a8:wrap .i64 (10*n+(c-48))=10*n+(c-48):=Bd (by omega) (by omega)
   have a9:wrap .i64 ((i:Int)+1)=((i+1:Nat):Int):=by rw[Bd (by omega) (by omega)];omega
   have ih:=HY (call:=call) (a0:=a0) hB hs r (i+1) k (10*n+(c-48)) Lu (by simp at hn;omega) (by omega) (by omega)
   have e:(c::r).all FO=r.all FO:=by rw[List.all_cons,(KR c).2 hq,Bool.true_and]
   simp only[Dg,a1,a2,a3,a4,q1,q2,a5,a6,a7,a8,a9];rw[ih,e];rfl
  ·have e:(c::r).all FO=false:=by
    have:FO c=false:=by
     cases hb:FO c
     ·rfl
     ·exact absurd ((KR c).1 hb) hq
    rw[List.all_cons,this,Zzs]
   rw[e];by_cases h48:c<48
   ·have q1:=dT h48;simp only[Dg,a1,a2,a3,a4,q1,Bool.false_eq_true,if_false]
   ·have q1:=dF h48;have q2:=dT (q:=c>57) (by omega)
    simp only[Dg,a1,a2,a3,a4,q1,q2,Bool.false_eq_true,if_false]
theorem And {l:List Int}(hB:C8 l)(E9:100<=fu):Ae (CP p) prog fu (d+1) K6 [.sc (.string (Ab l))]=some (if Ou l=true then ⟨[.sc (.int .i64 (QS l)),.sc (.bool (decide (QS l<=65535)))],[]⟩ else ⟨[.sc (.int .i64 0),.sc (.bool false)],[]⟩):=by
 rw[S9];by_cases h1:1<=l.length
 ·by_cases h2:l.length<=5
  ·have a1:decide (((l.length:Nat):Int)<1)=false:=by simp;omega
   have a2:decide (((l.length:Nat):Int)>5)=false:=by simp;omega
   cases l with
   |nil=>simp at h1
   |cons c r=>
    have hcB:=hB c (by simp)
    have a3:(Array.toList (Ab (c::r)).data)[0]?=some c.toNat.toUInt8:=rfl;have a4:=CK hcB;by_cases h0:c=48
    ·subst h0;have e:Ou (48::r)=false:=by unfold Ou;simp
     have q:((48:Int)==48)=true:=rfl;rw[e];simp only[Dg,Aj,a1,a2,a3,a4,q,Bool.false_eq_true,if_false]
    ·have q:(c==48)=false:=by simp[h0]
     have e:Ou (c::r)=(c::r).all FO:=by
      unfold Ou;rw[dT h1,dT h2];simp[h0]
     have hl:=HY (call:=Ae (CP p) prog fu d) (fu:=fu) (a0:=Ab (c::r)) hB h2 (c::r) 0 fu 0 rfl (by omega) (by omega) (by decide)
     rw[e];simp only[Dg,Aj,a1,a2,a3,a4,q];exact hl
  ·have a1:decide (((l.length:Nat):Int)<1)=false:=by simp;omega
   have a2:decide (((l.length:Nat):Int)>5)=true:=by simp;omega
   have e:Ou l=false:=by unfold Ou;simp[h2]
   rw[e];simp only[Dg,Aj,a1,a2,Bool.false_eq_true,if_false]
 ·have a1:decide (((l.length:Nat):Int)<1)=true:=by simp;omega
  have e:Ou l=false:=by unfold Ou;simp[h1]
  rw[e];simp only[Dg,Aj,a1,Bool.false_eq_true,if_false]
theorem WX {l:List Int}(hB:C8 l)(hs:l.length<=1000000)(E9:200<=fu):∃o1 o2 o3,Ae (CP p) prog fu (d+7) Pn [.sc (.string (Ab l))]=some ⟨[.agg [.sc (.bool o1),.sc (.string o2),.sc (.int .i64 o3)],.sc (.int .i64 (D3 l))],[]⟩:=by
  have hsp:=Akz (fu:=fu) (d:=d+2) (p:=p) hB (w:=[104,116,116,112,115,58,47,47]) (fun x hx=>by simp at hx;omega)
  have Tn:=Akz (fu:=fu) (d:=d+2) (p:=p) hB (w:=[104,116,116,112,58,47,47]) (fun x hx=>by simp at hx;omega)
  have e1:Ae (CP p) prog fu (d+6) 44 [.sc (.string (Ab l)),.sc (.string (ByteArray.mk #[(104:UInt8),(116:UInt8),(116:UInt8),(112:UInt8),(115:UInt8),(58:UInt8),(47:UInt8),(47:UInt8)]))]=_:=hsp
  have e2:Ae (CP p) prog fu (d+6) 44 [.sc (.string (Ab l)),.sc (.string (ByteArray.mk #[(104:UInt8),(116:UInt8),(116:UInt8),(112:UInt8),(58:UInt8),(47:UInt8),(47:UInt8)]))]=_:=Tn
  have tail:∀(s:Bool) (r:List Int),C8 r->r.length<=1000000->∃o1 o2 o3,(Ah (Ae (CP p) prog fu (d+6) 45 [PV.sc (Value.string (Ab r)),PV.sc (Value.string (ByteArray.mk #[(58:UInt8)]))]) fun Km Nl=>
    Ad (Nl) <|
    Aa (Km) fun Lg Mv=>
    Az (Lg) fun Mu=>
    Aa (Mv) fun Ov Lv=>
    Az (Ov) fun Ly=>
    Aa (Lv) fun Mr Oh=>
    Ao (Mr) fun O3=>
    Ad (Oh) <|
    Ah (Ae (CP p) prog fu (d+6) 46 [PV.sc (Value.string Mu)]) fun Pd N4=>
    Ad (N4) <|
    Aa (Pd) fun Pr Pq=>
    Ak (IntKind.i64) (Pr) fun Qo=>
    Ad (Pq) <|
    Bf (Qo != (0:Int))
     (
     some (Ay.mk [PV.agg [PV.sc (Value.bool false),PV.sc (Value.string (ByteArray.mk #[])),PV.sc (Value.int IntKind.i64 (0:Int))],PV.sc (Value.int IntKind.i64 Qo)] []))
     (
     Ah (Ae (CP p) prog fu (d+6) 47 [PV.sc (Value.bool s)]) fun Q1 Qu=>
     Ad (Qu) <|
     Aa (Q1) fun Ry Q8=>
     Ak (IntKind.i64) (Ry) fun Tm=>
     Ad (Q8) <|
     Bf (O3)
      (
      Ah (Ae (CP p) prog fu (d+6) 48 [PV.sc (Value.string Ly)]) fun Ud Q5=>
      Ad (Q5) <|
      Aa (Ud) fun EJ EU=>
      Ak (IntKind.i64) (EJ) fun Ps=>
      Aa (EU) fun Pe AN=>
      Ao (Pe) fun Y7=>
      Ad (AN) <|
      Bf (!Y7)
       (
       some (Ay.mk [PV.agg [PV.sc (Value.bool false),PV.sc (Value.string (ByteArray.mk #[])),PV.sc (Value.int IntKind.i64 (0:Int))],PV.sc (Value.int IntKind.i64 (2:Int))] []))
       (
       Bf (Ps==Tm)
        (
        some (Ay.mk [PV.agg [PV.sc (Value.bool false),PV.sc (Value.string (ByteArray.mk #[])),PV.sc (Value.int IntKind.i64 (0:Int))],PV.sc (Value.int IntKind.i64 (2:Int))] []))
        (
        some (Ay.mk [PV.agg [PV.sc (Value.bool s),PV.sc (Value.string Mu),PV.sc (Value.int IntKind.i64 Ps)],PV.sc (Value.int IntKind.i64 (0:Int))] []))))
      (
      some (Ay.mk [PV.agg [PV.sc (Value.bool s),PV.sc (Value.string Mu),PV.sc (Value.int IntKind.i64 Tm)],PV.sc (Value.int IntKind.i64 (0:Int))] []))))=some ⟨[.agg [.sc (.bool o1),.sc (.string o2),.sc (.int .i64 o3)],.sc (.int .i64 (HN s r))],[]⟩:=by
    intro s r hr hrl
    have c1:Ae (CP p) prog fu (d+6) 45 [.sc (.string (Ab r)),.sc (.string (ByteArray.mk #[(58:UInt8)]))]=_:=As2 (fu:=fu) (d:=d+2) (p:=p) (c:=58) (by omega) hr hrl
    have Oj:=MC 58 r
    have hbB:C8 (Bn 58 r):=by rw[Px];exact fun x hx=>hr x (List.mem_of_mem_take hx)
    have hdB:C8 (r.drop ((Bn 58 r).length+1)):=fun x hx=>hr x (List.mem_of_mem_drop hx)
    have c2:Ae (CP p) prog fu (d+6) 46 [.sc (.string (Ab (Bn 58 r)))]=_:=Al6 (fu:=fu) (d:=d) (p:=p) hbB (by omega) E9
    have c3:Ae (CP p) prog fu (d+6) 47 [.sc (.bool s)]=_:=Ai2 (fu:=fu) (d:=d+5) (p:=p) s
    have c4:Ae (CP p) prog fu (d+6) 48 [.sc (.string (Ab (r.drop ((Bn 58 r).length+1))))]=_:=And (fu:=fu) (d:=d+5) (p:=p) hdB (by omega)
    unfold HN
    by_cases hh:Sj (Bn 58 r)=0
    · have b1:(Sj (Bn 58 r) != 0)=false:=by simp[hh]
      simp only[ne_eq,hh,not_true_eq_false,if_false]
      by_cases hw:(Bn 58 r).length<r.length
      · rw[dT hw] at c1
        rw[Cr (show ¬(Bn 58 r).length=r.length by omega)]
        by_cases hp:Ou (r.drop ((Bn 58 r).length+1))=true
        · rw[Dw hp] at c4
          by_cases hv:QS (r.drop ((Bn 58 r).length+1))<=65535
          · rw[dT hv] at c4
            by_cases hdp:QS (r.drop ((Bn 58 r).length+1))=dfl s
            · have b2:(QS (r.drop ((Bn 58 r).length+1))==dfl s)=true:=by simp[hdp]
              rw[Cr (by rintro⟨_,_,h⟩;exact h hdp)]
              exact⟨_,_,_,by simp only[Dg,c1,c2,hh,c3,c4,b2,C6,show ((0:Int) != 0)=false from rfl];rfl⟩
            · have b2:(QS (r.drop ((Bn 58 r).length+1))==dfl s)=false:=by simp[hdp]
              rw[Dw ⟨hp,hv,hdp⟩]
              exact⟨_,_,_,by simp only[Dg,c1,c2,hh,c3,c4,b2,C6,show ((0:Int) != 0)=false from rfl];rfl⟩
          · rw[dF hv] at c4
            rw[Cr (by rintro⟨_,h,_⟩;exact hv h)]
            exact⟨_,_,_,by simp only[Dg,c1,c2,hh,c3,c4,Ds,show ((0:Int) != 0)=false from rfl];rfl⟩
        · rw[Cr hp] at c4
          rw[Cr (by rintro⟨h,_,_⟩;exact hp h)]
          exact⟨_,_,_,by simp only[Dg,c1,c2,hh,c3,c4,Ds,show ((0:Int) != 0)=false from rfl];rfl⟩
      · rw[dF hw] at c1
        rw[Dw (show (Bn 58 r).length=r.length by omega)]
        exact⟨_,_,_,by simp only[Dg,c1,c2,hh,c3,show ((0:Int) != 0)=false from rfl];rfl⟩
    · have b1:(Sj (Bn 58 r) != 0)=true:=by simp[hh]
      simp only[ne_eq,hh,not_false_eq_true,if_true]
      exact⟨_,_,_,by simp only[Dg,c1,c2,b1];rfl⟩
  have er:=BI (p:=p) fu (d+6) (Ab l)
  unfold D3
  cases h1:List.isPrefixOf [104,116,116,112,115,58,47,47] l
  · rw[h1] at e1
    simp only[Bool.false_eq_true,if_false] at e1 ⊢
    cases h2:List.isPrefixOf [104,116,116,112,58,47,47] l
    · rw[h2] at e2
      simp only[Bool.false_eq_true,if_false] at e2 ⊢
      exact⟨_,_,_,er.trans (by simp only[Dg,e1,e2,Ds];rfl)⟩
    · rw[h2] at e2
      simp only[if_true] at e2 ⊢
      obtain⟨o1,o2,o3,ht⟩:=tail false (l.drop 7) (fun x hx=>hB x (List.mem_of_mem_drop hx)) (by simp;omega)
      refine⟨o1,o2,o3,er.trans ?_⟩
      simp only[Z8,LU,Z5,AJ,JT,JX,JL,e1,e2,Ds,C6]
      exact ht
  · rw[h1] at e1
    simp only[if_true] at e1 ⊢
    obtain⟨o1,o2,o3,ht⟩:=tail true (l.drop 8) (fun x hx=>hB x (List.mem_of_mem_drop hx)) (by simp;omega)
    refine⟨o1,o2,o3,er.trans ?_⟩
    simp only[Z8,LU,Z5,AJ,JT,JX,JL,e1,Ds,C6]
    exact ht
end
end
section
open Go.Proofs.Tryd (prog)
open Go.IntKind (wrap)
set_option maxRecDepth 1000000
open Go Go.RowKit Go.Lib
def RtP (w':World)(l:List Int)(e:Ending):Prop:=
 match NR 8 l with
 |.ok ms=>∃mb,e=.returned (.tuple #[.map (some mb),.int .i64 0])∧BA w' mb ms
 |.error er=>er≠0∧∃m,e=.returned (.tuple #[m,.int .i64 er])
theorem Xm (l:List Int):NR 8 l=match Aq [123] (Bb l) with
  |some r=>(match Vp (E1 8) true r with
   |.error e=>.error e
   |.ok (ms,r')=>if Bb r'=[] then .ok ms else .error 2)
  |none=>.error 2:=by
 unfold NR;rw[D9];cases Bb l with
 |nil=>rfl
 |cons y s=>
  by_cases hy:y=123
  ·subst hy;rfl
  ·simp only[Cr hy];split
   ·rename_i e;injection e with e1 _;exact absurd e1 hy
   ·rfl
theorem Dp.toBelow {w w':World}{b mb B:Nat}(k:Dp w w' b mb)(hb:B<=b)(JW:B<=mb)(hB:B<=w.heap.size):Below B w w':=
 ⟨k.os,k.tape,k.output,k.size,fun i hi=>k.other i (by omega) (by omega) (by omega)⟩
theorem BJ {w:World}(hU:gU.ok w)(hUl:∀k,gU.bl k->k<w.heap.size){w':World}(hb:Below w.heap.size w w'){b:Nat}(hbb:w.heap.size<=b):J6 w' b:=
 ⟨gU.stable w w' (fun j _ hl=>hb.block j hl) hU,fun k hk=>⟨Nat.lt_of_lt_of_le (hUl k hk) hb.size,by have:=hUl k hk;omega⟩⟩
set_option maxHeartbeats 4000000 in
theorem Ajo {t:ByteArray}(ht:t.size<=1000000){w:World}(hU:gU.ok w)(hUl:∀k,gU.bl k->k<w.heap.size):
  Calls prog 34 #[.string t] w fun e w'=>Below w.heap.size w w'∧RtP w' (E4 t) e:=by
 have mixed:prog.follows Departure.mixedOrders=true:=by kernel_rfl
 have RO:=@run_makeMap prog;have En:Below w.heap.size w (w.alloc (.cells #[.string t,.int .i64 0] 92)):=(Below.refl _ w).alloc (Nat.le_refl _) _;have G3:Below w.heap.size w ((w.alloc (.cells #[.string t,.int .i64 0] 92)).alloc (.map #[] 0)):=En.alloc En.size _;have hs1:(w.alloc (.cells #[.string t,.int .i64 0] 92)).heap.size=w.heap.size+1:=Array.size_push _
 have h2:Vs ((w.alloc (.cells #[.string t,.int .i64 0] 92)).alloc (.map #[] 0)) w.heap.size 0 t (E4 t):=by
  have hg:((w.alloc (.cells #[.string t,.int .i64 0] 92)).alloc (.map #[] 0)).heap[w.heap.size]?=some (.cells #[.string t,.int .i64 0] 92):=by
   show ((w.heap.push _).push _)[w.heap.size]?=_;rw[Array.getElem?_push_lt (by simp)]
   simp
  have hp:Bs t (E4 t)=0:=by unfold Bs;rw[Nj];omega
  refine⟨?_,?_,?_,?_,?_⟩
  ·show w.heap.size<((w.heap.push _).push _).size;rw[Array.size_push,Array.size_push];omega
  ·unfold World.cell?;simp only[hg];rfl
  ·unfold World.cell?;simp only[hg,hp];rfl
  ·unfold World.frozen?;simp only[hg];rfl
  ·unfold World.frozen?;simp only[hg];rfl
 have hM2:BA ((w.alloc (.cells #[.string t,.int .i64 0] 92)).alloc (.map #[] 0)) (w.heap.size+1) []:=by
  show ((w.heap.push _).push (Obj.map #[] 0))[w.heap.size+1]?=some (.map #[] 0);have:w.heap.size+1=(w.heap.push (Obj.cells #[.string t,.int .i64 0] 92)).size:=by simp
  rw[this];exact Array.getElem?_push_size
 have hU2:=BJ hU hUl G3 (Nat.le_refl _);have hmU:¬gU.bl (w.heap.size+1):=fun h=>by have:=hUl _ h;omega
 have hS:=C7.all t;have hsk:=G9 hS ht hU2 h2
 go_enter Tryd.func34,Tryd.ntmps34
 go_wp2_with (go_at_call 50;refine hsk.mono ?_)
 rintro e W3 ⟨rfl,h3,k3⟩
 have hS3:=Bp hS;have hM3:=hM2.keep k3 (by omega)
 have hU3:=hU2.keep k3;have hro:=Ahz hS3 ht hU3 h3 hM3 (by omega) hmU
 have Jn:Below w.heap.size w W3:=G3.trans ((Dp.of (mb:=w.heap.size+1) k3).toBelow (Nat.le_refl _) (by omega) G3.size)
 go_wp2_with (go_at_call 51;refine hro.mono ?_)
 rintro e W4 ⟨k4,r4,Z2,h4,MQ⟩
 have Rw:Below w.heap.size w W4:=Jn.trans (k4.toBelow (Nat.le_refl _) (by omega) Jn.size)
 have hU4:J6 W4 w.heap.size:=BJ hU hUl Rw (Nat.le_refl _)
 have hRt:∀W e,(match Aq [123] (Bb (E4 t)) with
  |some r=>(match Vp (E1 8) true r with
   |.error er=>er≠0∧∃m,e=.returned (.tuple #[m,.int .i64 er])
   |.ok (ms,r')=>if Bb r'=[] then ∃mb,e=.returned (.tuple #[.map (some mb),.int .i64 0])∧BA W mb ms else ∃m,e=.returned (.tuple #[m,.int .i64 2]))
  |none=>∃m,e=.returned (.tuple #[m,.int .i64 2]))->RtP W (E4 t) e:=by
  intro W e;unfold RtP;rw[Xm];cases Aq [123] (Bb (E4 t)) with
  |none=>exact fun h=>⟨by decide,h⟩
  |some r=>
   cases hob:Vp (E1 8) true r with
   |error er=>simp only[hob];exact id
   |ok x=>
    obtain⟨ms,r'⟩:=x;simp only[hob];by_cases g:Bb r'=[]
    ·simp only[Dw g];exact id
    ·simp only[Cr g];exact fun h=>⟨by decide,h⟩
 unfold RoP at MQ;cases hq:Aq [123] (Bb (E4 t)) with
 |none=>
  rw[hq] at MQ hRt;subst MQ
  go_wp2
  go_ret2
  exact⟨Rw,hRt _ _ ⟨_,rfl⟩⟩
 |some r=>
  rw[hq] at MQ hRt;simp only at MQ hRt;cases ho:Vp (E1 8) true r with
  |error er=>
   rw[ho] at MQ hRt;obtain⟨he,rfl⟩:=MQ;have hbe:(er != (0:Int))=true:=by simp[he]
   go_wp2
   go_ret2
   exact⟨Rw,hRt _ _ ⟨he,_,rfl⟩⟩
  |ok x=>
   obtain⟨ms,r'⟩:=x;rw[ho] at MQ hRt;obtain⟨rfl,rfl,hM4⟩:=MQ;have Amw:=G9 Z2 ht hU4 h4
   go_wp2_with (go_at_call 50;refine Amw.mono ?_)
   rintro e W5 ⟨rfl,h5,k5⟩
   have UQ:Below w.heap.size w W5:=Rw.trans ((Dp.of (mb:=w.heap.size+1) k5).toBelow (Nat.le_refl _) (by omega) Rw.size)
   have hM5:=hM4.keep k5 (by omega)
   obtain⟨B5,ZE,EZ,hf0,hf1⟩:=h5;have H5:=Bp Z2;have hl5:=H5.len;cases hx:Bb r4 with
   |nil=>
    rw[hx] at EZ hRt;rw[Uu] at EZ
    go_wp2
    go_region_o
    go_wp2
    go_ret2
    exact⟨UQ.drew,hRt _ _ (by rw[Dw trivial];exact⟨_,rfl,hM5⟩)⟩
   |cons c q=>
    rw[hx] at EZ hRt hl5
    have A9t:(Bs t (c::q):Int)<t.size:=by
     unfold Bs;rw[LB] at hl5 ⊢;omega
    have A09:¬(c::q=[]):=by simp
    go_wp2
    go_region_o
    go_wp2
    go_ret2
    exact⟨UQ.drew,hRt _ _ (by rw[Cr A09];exact⟨_,rfl⟩)⟩
end
section
open Go.Proofs.Tryd (prog)
open Go.IntKind (wrap)
set_option maxRecDepth 1000000
open Go Go.RowKit Go.Lib
def Me:List Int:=[116,121,112,101]
def Pi:List Int:=[99,104,97,108,108,101,110,103,101]
def QX:List Int:=[111,114,105,103,105,110]
def Cj (nm:List Int)(ms:List (List Int × JV)):JV:=(Jy nm ms).getD (0,[],false)
theorem EQ {w:World}{b:Nat}{ms:List (List Int × JV)} (h:BA w b ms)(hB:∀m∈ms,C8 m.1){nm:List Int}(hn:C8 nm):(Instr.lookup 68 (.map (some b)) (.string (Ab nm)) false).run prog w=.ok (.agg #[.int .i64 (Cj nm ms).1,.string (Ab (Cj nm ms).2.1),.bool (Cj nm ms).2.2]) w:=by
 have:=DO h hB hn false;rw[this];unfold PG Cj;cases Jy nm ms<;>rfl
theorem al4 (w:World)(o0 x1 x2 x3:Obj):((((w.alloc o0).alloc x1).alloc x2).alloc x3).drew.heap[w.heap.size]?=some o0∧((((w.alloc o0).alloc x1).alloc x2).alloc x3).drew.heap[w.heap.size+1]?=some x1∧((((w.alloc o0).alloc x1).alloc x2).alloc x3).drew.heap[w.heap.size+1+1]?=some x2∧((((w.alloc o0).alloc x1).alloc x2).alloc x3).drew.heap[w.heap.size+1+1+1]?=some x3:=by
 show ((((w.heap.push o0).push x1).push x2).push x3)[w.heap.size]?=some o0∧((((w.heap.push o0).push x1).push x2).push x3)[w.heap.size+1]?=some x1∧((((w.heap.push o0).push x1).push x2).push x3)[w.heap.size+1+1]?=some x2∧((((w.heap.push o0).push x1).push x2).push x3)[w.heap.size+1+1+1]?=some x3;refine⟨?_,?_,?_,?_⟩
 ·rw[Array.getElem?_push_lt (by simp;omega),Array.getElem_push_lt (by simp;omega),Array.getElem_push_lt (by simp),Array.getElem_push_eq]
 ·have:w.heap.size+1=(w.heap.push o0).size:=by simp
  rw[Array.getElem?_push_lt (by simp),Array.getElem_push_lt (by simp)]
  simp only[this,Array.getElem_push_eq]
 ·have:w.heap.size+1+1=((w.heap.push o0).push x1).size:=by simp
  rw[Array.getElem?_push_lt (by simp)]
  simp only[this,Array.getElem_push_eq]
 ·have:w.heap.size+1+1+1=(((w.heap.push o0).push x1).push x2).size:=by simp
  rw[this];exact Array.getElem?_push_size
theorem al2 (w:World)(x1 x2:Obj):((w.alloc x1).alloc x2).drew.heap[w.heap.size]?=some x1∧((w.alloc x1).alloc x2).drew.heap[w.heap.size+1]?=some x2:=by
 show ((w.heap.push x1).push x2)[w.heap.size]?=some x1∧((w.heap.push x1).push x2)[w.heap.size+1]?=some x2;refine⟨?_,?_⟩
 ·simp[Array.getElem?_push]
 ·have:w.heap.size+1=(w.heap.push x1).size:=by simp
  rw[this];exact Array.getElem?_push_size
def QE:List Int:=[99,114,111,115,115,79,114,105,103,105,110]
def MY:List Int:=[116,111,112,79,114,105,103,105,110]
def YZ (v:JV):Obj:=.cells #[.int .i64 v.1,.string (Ab v.2.1),.bool v.2.2] 95
def cd0:Obj:=.cells #[.int .i64 0,.slice none 0 0,.string ⟨#[]⟩,.bool false,.string ⟨#[]⟩] 36
def FM:List Int:=[112,97,115,115,107,101,121,46,99,114,101,97,116,101]
def FT:List Int:=[112,97,115,115,107,101,121,46,103,101,116]
abbrev CD:=Int × List Int × List Int × Bool × List Int
def Ue (k:Int)(C O X P:JV):JR CD:=
 match K5 C.2.1 with
 |none=>.error 2
 |some b=>if b.length<1∨64<b.length then .error 9 else if D3 O.2.1≠0 then .error (D3 O.2.1) else if X.2.2=true∧D3 P.2.1≠0 then .error (D3 P.2.1) else .ok (k,b,O.2.1,X.2.2,P.2.1)
def G8 (T C O X P:JV):JR CD:=
 if T.1≠4∨C.1≠4∨O.1≠4 then .error 4
 else if X.1≠0∧X.1≠2 then .error 4
 else if (X.2.2=true∧P.1≠4)∨(X.2.2=false∧P.1≠0) then .error 4
 else if T.2.1=FM then Ue 1 C O X P else if T.2.1=FT then Ue 2 C O X P else .error 3
def Ui (w:World)(a:Addr)(b:List Int):Prop:=a.spot=none∧a.block<w.heap.size∧∀j x,b[j]?=some x->w.cell? (a.add j)=some (.int .u8 x)
def ItP (w w':World)(r:JR CD)(e:Ending):Prop:=
 match r with
 |.ok (k,b,o,x,p)=>∃ad cap,e=.returned (.tuple #[.agg #[.int .i64 k,.slice (some ad) b.length cap,.string (Ab o),.bool x,.string (Ab p)],.int .i64 0])∧b.length<=cap∧w.heap.size<=ad.block∧Ui w' ad b
 |.error er=>er≠0∧e=.returned (.tuple #[.agg #[.int .i64 0,.slice none 0 0,.string ⟨#[]⟩,.bool false,.string ⟨#[]⟩],.int .i64 er])
def DbP (w w':World)(s:List Int)(e:Ending):Prop:=
 match K5 s with
 |none=>∃ad cap,e=.returned (.tuple #[.slice ad 0 cap,.int .i64 2])
 |some b=>∃ad cap,e=.returned (.tuple #[.slice ad b.length cap,.int .i64 0])∧(b≠[]->∃a,ad=some a∧b.length<=cap∧w.heap.size<=a.block∧Ui w' a b)
theorem BH {w:World}{b:Nat}{v:JV}(h:w.heap[b]?=some (YZ v)):w.cell? ⟨b,0,none⟩=some (.int .i64 v.1)∧w.cell? ⟨b,1,none⟩=some (.string (Ab v.2.1))∧w.cell? ⟨b,2,none⟩=some (.bool v.2.2):=by
 refine⟨?_,?_,?_⟩<;>(unfold World.cell?;simp only[h];rfl)
theorem Ac7 {w:World}{b:Nat}(h:w.heap[b]?=some cd0):(w.cell? ⟨b,0,none⟩=some (.int .i64 0)∧w.cell? ⟨b,1,none⟩=some (.slice none 0 0)∧w.cell? ⟨b,2,none⟩=some (.string ⟨#[]⟩)∧w.cell? ⟨b,3,none⟩=some (.bool false)∧w.cell? ⟨b,4,none⟩=some (.string ⟨#[]⟩))∧w.frozen? ⟨b,0,none⟩=false∧w.frozen? ⟨b,1,none⟩=false∧w.frozen? ⟨b,2,none⟩=false∧w.frozen? ⟨b,3,none⟩=false∧w.frozen? ⟨b,4,none⟩=false:=by
 refine⟨⟨?_,?_,?_,?_,?_⟩,?_,?_,?_,?_,?_⟩<;>first|(unfold World.cell?;simp only[h];rfl)|(unfold World.frozen?;simp only[h];rfl)
theorem Aah (s:ByteArray):s.toList=s.data.toList:=by
 have h:∀(n i:Nat) (r:List UInt8),n=s.size-i->ByteArray.toList.loop s i r=r.reverse++s.data.toList.drop i:=by
  intro n
  induction n with
  |zero=>
   intro i r hn;unfold ByteArray.toList.loop;rw[Cr (by omega),List.drop_eq_nil_of_le (by rw[←Lib.size_eq];omega),List.append_nil]
  |succ n ih=>
   intro i r hn;have hi:i<s.size:=by omega
   unfold ByteArray.toList.loop;rw[Dw hi,ih (i+1) _ (by omega),List.reverse_cons,List.append_assoc]
   congr 1
   have hl:i<s.data.toList.length:=by rw[←Lib.size_eq];exact hi
   rw[List.drop_eq_getElem_cons hl]
   have e:s.get! i=s.data.toList[i]:=by
    show (s.data[i]!)=_;rw[getElem!_pos s.data i hi];rfl
   rw[e];rfl
 have:=h _ 0 [] rfl;exact this
theorem EI {a b:List Int}(ha:C8 a)(hb:C8 b):((Ab a).toList==b.map fun n=>n.toNat.toUInt8)=decide (a=b):=by
 rw[Aah,Bool.eq_iff_iff,beq_iff_eq,decide_eq_true_iff];constructor
 ·intro h;have e:Ab a=Ab b:=congrArg (fun l:List UInt8=>(⟨l.toArray⟩:ByteArray)) (show (Ab a).data.toList=(Ab b).data.toList from h)
  exact Yf ha hb e
 ·rintro rfl;rfl
def A4t (w:World)(vT vC vO:JV)(s4 s5 s6:Value)(wx:World):Prop:=
 ∃bT bC bO,s4=.pointer (some ⟨bT,0,none⟩)∧s5=.pointer (some ⟨bC,0,none⟩)∧s6=.pointer (some ⟨bO,0,none⟩)∧w.heap.size<bT∧w.heap.size<bC∧w.heap.size<bO∧wx.heap[w.heap.size]?=some cd0∧wx.heap[bT]?=some (YZ vT)∧wx.heap[bC]?=some (YZ vC)∧wx.heap[bO]?=some (YZ vO)∧Below w.heap.size w wx
def Axt (w wc:World)(vX vP:JV)(s7 s8:Value)(wx:World):Prop:=
 ∃bX bP,s7=.pointer (some ⟨bX,0,none⟩)∧s8=.pointer (some ⟨bP,0,none⟩)∧wc.heap.size<=bX∧wc.heap.size<=bP∧wx.heap[bX]?=some (YZ vX)∧wx.heap[bP]?=some (YZ vP)∧Below wc.heap.size wc wx
theorem Agk {w:World}{b:Nat}{x0 x1 x2 x3 x4:Value}(h:w.heap[b]?=some (.cells #[x0,x1,x2,x3,x4] 36)):(w.cell? ⟨b,0,none⟩=some x0∧w.cell? ⟨b,1,none⟩=some x1∧w.cell? ⟨b,2,none⟩=some x2∧w.cell? ⟨b,3,none⟩=some x3∧w.cell? ⟨b,4,none⟩=some x4)∧w.frozen? ⟨b,0,none⟩=false∧w.frozen? ⟨b,1,none⟩=false∧w.frozen? ⟨b,2,none⟩=false∧w.frozen? ⟨b,3,none⟩=false∧w.frozen? ⟨b,4,none⟩=false:=by
 refine⟨⟨?_,?_,?_,?_,?_⟩,?_,?_,?_,?_,?_⟩<;>first|(unfold World.cell?;simp only[h];rfl)|(unfold World.frozen?;simp only[h];rfl)
theorem LA {w:World}{b:Nat}{x0 x1 x2 x3 x4:Value}(h0:w.cell? ⟨b,0,none⟩=some x0)(h1:w.cell? ⟨b,1,none⟩=some x1)(h2:w.cell? ⟨b,2,none⟩=some x2)(h3:w.cell? ⟨b,3,none⟩=some x3)(h4:w.cell? ⟨b,4,none⟩=some x4):(loadVar 36 ⟨b,0,none⟩).run prog w=.ok (.agg #[x0,x1,x2,x3,x4]) w:=by
 have hf:∀j,j<5->w.cell? ((⟨b,0,none⟩:Addr).add j)=some (([x0,x1,x2,x3,x4][j]?).getD undef):=by
  intro j hj;rw[Eb,Zzd]
  match j,hj with
  |0,_=>exact h0
  |1,_=>exact h1
  |2,_=>exact h2
  |3,_=>exact h3
  |4,_=>exact h4
 simp only[loadVar,Sem.run_bind,Tryd.isAgg36,Result.andThen_ok,if_true,Tryd.sizeOf36,run_loadCells w _ 5 _ hf];rfl
theorem Ef {w:World}{b i j:Nat}{v:Value}(h:i≠j):(w.setCell ⟨b,j,none⟩ v).cell? ⟨b,i,none⟩=w.cell? ⟨b,i,none⟩:=World.cell?_setCell_other _ _ _ _ (fun e=>h (by injection e with _ e2;exact e2.symm))
theorem Yd (w:World)(b:Nat)(x0 x1 x2 x3 x4:Value)(h:(w.cell? ⟨b,0,none⟩).isSome=true∧(w.cell? ⟨b,1,none⟩).isSome=true∧(w.cell? ⟨b,2,none⟩).isSome=true∧(w.cell? ⟨b,3,none⟩).isSome=true∧(w.cell? ⟨b,4,none⟩).isSome=true):(loadVar 36 ⟨b,0,none⟩).run prog (((((w.setCell ⟨b,0,none⟩ x0).setCell ⟨b,1,none⟩ x1).setCell ⟨b,2,none⟩ x2).setCell ⟨b,3,none⟩ x3).setCell ⟨b,4,none⟩ x4)=.ok (.agg #[x0,x1,x2,x3,x4]) (((((w.setCell ⟨b,0,none⟩ x0).setCell ⟨b,1,none⟩ x1).setCell ⟨b,2,none⟩ x2).setCell ⟨b,3,none⟩ x3).setCell ⟨b,4,none⟩ x4):=by
 obtain⟨g0,g1,g2,g3,g4⟩:=h;obtain⟨y0,g0⟩:=Option.isSome_iff_exists.1 g0;obtain⟨y1,g1⟩:=Option.isSome_iff_exists.1 g1;obtain⟨y2,g2⟩:=Option.isSome_iff_exists.1 g2;obtain⟨y3,g3⟩:=Option.isSome_iff_exists.1 g3;obtain⟨y4,g4⟩:=Option.isSome_iff_exists.1 g4;apply LA
 ·rw[Ef (by decide),Ef (by decide),Ef (by decide),Ef (by decide)]
  exact World.cell?_setCell_same _ _ _ g0
 ·rw[Ef (by decide),Ef (by decide),Ef (by decide)]
  exact World.cell?_setCell_same _ _ _ ((Ef (by decide)).trans g1)
 ·rw[Ef (by decide),Ef (by decide)]
  exact World.cell?_setCell_same _ _ _ ((Ef (by decide)).trans ((Ef (by decide)).trans g2))
 ·rw[Ef (by decide)]
  exact World.cell?_setCell_same _ _ _ ((Ef (by decide)).trans ((Ef (by decide)).trans ((Ef (by decide)).trans g3)))
 ·exact World.cell?_setCell_same _ _ _ ((Ef (by decide)).trans ((Ef (by decide)).trans ((Ef (by decide)).trans ((Ef (by decide)).trans g4))))
theorem H0 {B:Nat}{a w:World}(h:Below B a w){b:Nat}(hb:B<=b)(x0 x1 x2 x3 x4:Value):Below B a (((((w.setCell ⟨b,0,none⟩ x0).setCell ⟨b,1,none⟩ x1).setCell ⟨b,2,none⟩ x2).setCell ⟨b,3,none⟩ x3).setCell ⟨b,4,none⟩ x4):=
 ((((h.setCell (p:=⟨b,0,none⟩) hb x0).setCell (p:=⟨b,1,none⟩) hb x1).setCell (p:=⟨b,2,none⟩) hb x2).setCell (p:=⟨b,3,none⟩) hb x3).setCell (p:=⟨b,4,none⟩) hb x4
theorem Hk {R:Ending->World->Prop}{a:Act}{W:World}{v:Value}{b:Nat}(h2:a.tmps.getD 2 undef=.pointer (some ⟨b,0,none⟩)) (hd:a.defers=[]) (hl:(loadVar 36 ⟨b,0,none⟩).run prog W=.ok v W) (hR:R (.returned (.tuple #[v,a.tmps.getD 3 undef])) W):bodyPost prog Tryd.f35 R .ret a W:=by
 refine bodyPost_ret ?_ hd hR;rw[results_cell_tmp rfl,h2];have e:(asAddr (.pointer (some ⟨b,0,none⟩))).run prog W=.ok ⟨b,0,none⟩ W:=rfl;rw[e,Result.andThen_ok,hl,Result.andThen_ok]
theorem Ui.below {w w':World}{a:Addr}{b:List Int}{B:Nat}(h:Ui w a b)(k:Below B w w')(ha:a.block<B):Ui w' a b:=
 ⟨h.1,Nat.lt_of_lt_of_le h.2.1 k.size,fun j x hx=>(k.cell (p:=a.add j) (by rw[Eg];exact ha)).trans (h.2.2 j x hx)⟩
theorem Ui.set {w:World}{a:Addr}{b:List Int}{b0 j:Nat}{v:Value}(h:Ui w a b)(Ei:a.block≠b0):Ui (w.setCell ⟨b0,j,none⟩ v) a b:=
 ⟨h.1,by rw[World.size_setCell];exact h.2.1,fun i x hx=>(World.cell?_setCell_other _ _ _ _ (fun e=>Ei (by rw[←Eg a i,←e]))).trans (h.2.2 i x hx)⟩
theorem Ui.set5 {w:World}{a:Addr}{b:List Int}{b0:Nat}{x0 x1 x2 x3 x4:Value}(h:Ui w a b)(Ei:a.block≠b0):Ui (((((w.setCell ⟨b0,0,none⟩ x0).setCell ⟨b0,1,none⟩ x1).setCell ⟨b0,2,none⟩ x2).setCell ⟨b0,3,none⟩ x3).setCell ⟨b0,4,none⟩ x4) a b:=
 ((((h.set Ei).set Ei).set Ei).set Ei).set Ei
def RC (w:World)(b:Nat):Prop:=(w.cell? ⟨b,0,none⟩=some (.int .i64 0)∧w.cell? ⟨b,1,none⟩=some (.slice none 0 0)∧w.cell? ⟨b,2,none⟩=some (.string ⟨#[]⟩)∧w.cell? ⟨b,3,none⟩=some (.bool false)∧w.cell? ⟨b,4,none⟩=some (.string ⟨#[]⟩))∧w.frozen? ⟨b,0,none⟩=false∧w.frozen? ⟨b,1,none⟩=false∧w.frozen? ⟨b,2,none⟩=false∧w.frozen? ⟨b,3,none⟩=false∧w.frozen? ⟨b,4,none⟩=false
theorem RC.below {w w':World}{b B:Nat}(h:RC w b)(k:Below B w w')(hb:b<B):RC w' b:=by
 have e:∀j,w'.cell? ⟨b,j,none⟩=w.cell? ⟨b,j,none⟩:=fun j=>k.cell (p:=⟨b,j,none⟩) hb
 have f:∀j,w'.frozen? ⟨b,j,none⟩=w.frozen? ⟨b,j,none⟩:=fun j=>k.frozen (p:=⟨b,j,none⟩) hb
 unfold RC;rw[e,e,e,e,e,f,f,f,f,f];exact h
theorem RC.some {w:World}{b:Nat}(h:RC w b):(w.cell? ⟨b,0,none⟩).isSome=true∧(w.cell? ⟨b,1,none⟩).isSome=true∧(w.cell? ⟨b,2,none⟩).isSome=true∧(w.cell? ⟨b,3,none⟩).isSome=true∧(w.cell? ⟨b,4,none⟩).isSome=true:=by
 obtain⟨⟨h0,h1,h2,h3,h4⟩,_⟩:=h;rw[h0,h1,h2,h3,h4];exact⟨rfl,rfl,rfl,rfl,rfl⟩
theorem Ah1 {w:World}{b:Nat}{v:Value}{x:Obj}(hb:b<w.heap.size)(h:∃x0 x1 x2 x3 x4,v=.agg #[x0,x1,x2,x3,x4]∧w.cell? ⟨b,0,none⟩=some x0∧w.cell? ⟨b,1,none⟩=some x1∧w.cell? ⟨b,2,none⟩=some x2∧w.cell? ⟨b,3,none⟩=some x3∧w.cell? ⟨b,4,none⟩=some x4):(loadVar 36 ⟨b,0,none⟩).run prog (w.alloc x)=.ok v (w.alloc x):=by
 obtain⟨x0,x1,x2,x3,x4,rfl,h0,h1,h2,h3,h4⟩:=h;have k:Below w.heap.size w (w.alloc x):=(Below.refl _ w).alloc (Nat.le_refl _) _;exact LA ((k.cell (p:=⟨b,0,none⟩) hb).trans h0) ((k.cell (p:=⟨b,1,none⟩) hb).trans h1) ((k.cell (p:=⟨b,2,none⟩) hb).trans h2) ((k.cell (p:=⟨b,3,none⟩) hb).trans h3) ((k.cell (p:=⟨b,4,none⟩) hb).trans h4)
theorem Lm (w:World)(b:Nat)(hb:b<w.heap.size)(x0 x1 x2 x3 x4:Value)(x:Obj)(h:RC w b):(loadVar 36 ⟨b,0,none⟩).run prog ((((((w.setCell ⟨b,0,none⟩ x0).setCell ⟨b,1,none⟩ x1).setCell ⟨b,2,none⟩ x2).setCell ⟨b,3,none⟩ x3).setCell ⟨b,4,none⟩ x4).alloc x)=.ok (.agg #[x0,x1,x2,x3,x4]) ((((((w.setCell ⟨b,0,none⟩ x0).setCell ⟨b,1,none⟩ x1).setCell ⟨b,2,none⟩ x2).setCell ⟨b,3,none⟩ x3).setCell ⟨b,4,none⟩ x4).alloc x):=by
 refine Ah1 (by simp only[World.size_setCell];exact hb) ⟨x0,x1,x2,x3,x4,rfl,?_⟩
 obtain⟨⟨g0,g1,g2,g3,g4⟩,_⟩:=h;refine⟨?_,?_,?_,?_,?_⟩
 ·rw[Ef (by decide),Ef (by decide),Ef (by decide),Ef (by decide)]
  exact World.cell?_setCell_same _ _ _ g0
 ·rw[Ef (by decide),Ef (by decide),Ef (by decide)]
  exact World.cell?_setCell_same _ _ _ ((Ef (by decide)).trans g1)
 ·rw[Ef (by decide),Ef (by decide)]
  exact World.cell?_setCell_same _ _ _ ((Ef (by decide)).trans ((Ef (by decide)).trans g2))
 ·rw[Ef (by decide)]
  exact World.cell?_setCell_same _ _ _ ((Ef (by decide)).trans ((Ef (by decide)).trans ((Ef (by decide)).trans g3)))
 ·exact World.cell?_setCell_same _ _ _ ((Ef (by decide)).trans ((Ef (by decide)).trans ((Ef (by decide)).trans ((Ef (by decide)).trans g4))))
theorem Gg {B:Nat}{a w:World}(h:Below B a w){b:Nat}(hb:B<=b)(hB:B<=w.heap.size)(x0 x1 x2 x3 x4:Value)(x:Obj):Below B a ((((((w.setCell ⟨b,0,none⟩ x0).setCell ⟨b,1,none⟩ x1).setCell ⟨b,2,none⟩ x2).setCell ⟨b,3,none⟩ x3).setCell ⟨b,4,none⟩ x4).alloc x):=
 have k:=H0 h hb x0 x1 x2 x3 x4
 k.alloc (by simp only[World.size_setCell];exact hB) _
theorem Ui.set5al {w:World}{a:Addr}{b:List Int}{b0:Nat}{x0 x1 x2 x3 x4:Value}{x:Obj}(h:Ui w a b)(Ei:a.block≠b0):Ui ((((((w.setCell ⟨b0,0,none⟩ x0).setCell ⟨b0,1,none⟩ x1).setCell ⟨b0,2,none⟩ x2).setCell ⟨b0,3,none⟩ x3).setCell ⟨b0,4,none⟩ x4).alloc x) a b:=
 have q:=h.set5 (x0:=x0) (x1:=x1) (x2:=x2) (x3:=x3) (x4:=x4) Ei
 q.below ((Below.refl _ _).alloc (Nat.le_refl _) _) q.2.1
theorem al1 (w:World)(x:Obj):(w.alloc x).heap[w.heap.size]?=some x:=Array.getElem?_push_size
def okW (w:World):Prop:=gU.ok w∧∀k,gU.bl k->k<w.heap.size
theorem okW.below {w w':World}(h:okW w)(k:Below w.heap.size w w'):okW w':=⟨gU.stable w w' (fun j hj hl=>k.block j hl) h.1,fun j hj=>Nat.lt_of_lt_of_le (h.2 j hj) k.size⟩
set_option maxHeartbeats 8000000 in
theorem Ahy (Ar0:∀(W:World)(s:List Int),okW W->C8 s->s.length<=1000000->Calls prog 15 #[.string (Ab s)] W fun e w'=>Below W.heap.size W w'∧DbP W w' s e)
  (Ahm:∀(W:World)(s:List Int),okW W->C8 s->s.length<=1000000->Calls prog 32 #[.string (Ab s)] W fun e w'=>Below W.heap.size W w'∧∃o1 o2 o3,e=.returned (.tuple #[.agg #[.bool o1,.string o2,.int .i64 o3],.int .i64 (D3 s)]))
  {ms:List (List Int × JV)} (hB:∀m∈ms,C8 m.1) (hB2:∀m∈ms,C8 m.2.2.1∧m.2.2.1.length<=1000000) {mb:Nat} {w:World} (hU:okW w) (hM:BA w mb ms):
  Calls prog 35 #[.map (some mb)] w fun e w'=>Below w.heap.size w w'∧ItP w w' (G8 (Cj Me ms) (Cj Pi ms) (Cj QX ms) (Cj QE ms) (Cj MY ms)) e:=by
 have hgB:∀nm,C8 (Cj nm ms).2.1∧(Cj nm ms).2.1.length<=1000000:=by
  intro nm;unfold Cj Jy;cases hq:ms.find? fun m=>m.1==nm with
  |none=>exact⟨(fun x hx=>nomatch hx),Nat.zero_le _⟩
  |some m=>exact hB2 m (List.mem_of_find?_eq_some hq)
 obtain⟨hTB,hTL⟩:=hgB Me;obtain⟨hCB,hCL⟩:=hgB Pi;obtain⟨hOB,hOL⟩:=hgB QX;obtain⟨hXB,hXL⟩:=hgB QE;obtain⟨hPB,hPL⟩:=hgB MY;clear hgB;have mixed:prog.follows Departure.mixedOrders=true:=by kernel_rfl
 have key:∀{W:World},BA W mb ms->(Instr.lookup 68 (.map (some mb)) (.string ⟨#[116,121,112,101]⟩) false).run prog W=.ok (.agg #[.int .i64 (Cj Me ms).1,.string (Ab (Cj Me ms).2.1),.bool (Cj Me ms).2.2]) W∧(Instr.lookup 68 (.map (some mb)) (.string ⟨#[99,104,97,108,108,101,110,103,101]⟩) false).run prog W=.ok (.agg #[.int .i64 (Cj Pi ms).1,.string (Ab (Cj Pi ms).2.1),.bool (Cj Pi ms).2.2]) W∧(Instr.lookup 68 (.map (some mb)) (.string ⟨#[111,114,105,103,105,110]⟩) false).run prog W=.ok (.agg #[.int .i64 (Cj QX ms).1,.string (Ab (Cj QX ms).2.1),.bool (Cj QX ms).2.2]) W:=
  fun h=>⟨EQ h hB (nm:=Me) (fun x hx=>by simp[Me] at hx;omega),EQ h hB (nm:=Pi) (fun x hx=>by simp[Pi] at hx;omega),EQ h hB (nm:=QX) (fun x hx=>by simp[QX] at hx;omega)⟩
 have key2:∀{W:World},BA W mb ms->(Instr.lookup 68 (.map (some mb)) (.string ⟨#[99,114,111,115,115,79,114,105,103,105,110]⟩) false).run prog W=.ok (.agg #[.int .i64 (Cj QE ms).1,.string (Ab (Cj QE ms).2.1),.bool (Cj QE ms).2.2]) W∧(Instr.lookup 68 (.map (some mb)) (.string ⟨#[116,111,112,79,114,105,103,105,110]⟩) false).run prog W=.ok (.agg #[.int .i64 (Cj MY ms).1,.string (Ab (Cj MY ms).2.1),.bool (Cj MY ms).2.2]) W:=
  fun h=>⟨EQ h hB (nm:=QE) (fun x hx=>by simp[QE] at hx;omega),EQ h hB (nm:=MY) (fun x hx=>by simp[MY] at hx;omega)⟩
 have b0:Below w.heap.size w (w.alloc (.cells #[.int .i64 0,.slice none 0 0,.string ⟨#[]⟩,.bool false,.string ⟨#[]⟩] 36)):=(Below.refl _ w).alloc (Nat.le_refl _) _;have b1:=b0.alloc b0.size (.cells #[.int .i64 0,.string ⟨#[]⟩,.bool false] 95);have b2:=b1.alloc b1.size (.cells #[.int .i64 0,.string ⟨#[]⟩,.bool false] 95);have b3:=b2.alloc b2.size (.cells #[.int .i64 0,.string ⟨#[]⟩,.bool false] 95);obtain⟨k0,k1,k2⟩:=key (hM.below b0.drew);obtain⟨l0,l1,l2⟩:=key (hM.below b1.drew);obtain⟨m0,m1,m2⟩:=key (hM.below b2.drew);obtain⟨n0,n1,n2⟩:=key (hM.below b3.drew)
 have bb:∀x1 x2 x3,Below w.heap.size w ((((w.alloc (.cells #[.int .i64 0,.slice none 0 0,.string ⟨#[]⟩,.bool false,.string ⟨#[]⟩] 36)).alloc x1).alloc x2).alloc x3).drew:=fun x1 x2 x3=>by
  have c1:=b0.alloc b0.size x1;have c2:=c1.alloc c1.size x2;exact (c2.alloc c2.size x3).drew
 obtain⟨_,p1,q1⟩:=key (hM.below (bb (.cells #[.int .i64 (Cj Me ms).1,.string (Ab (Cj Me ms).2.1),.bool (Cj Me ms).2.2] 95) (.cells #[.int .i64 0,.string ⟨#[]⟩,.bool false] 95) (.cells #[.int .i64 0,.string ⟨#[]⟩,.bool false] 95)));obtain⟨_,p2,q2⟩:=key (hM.below (bb (.cells #[.int .i64 0,.string ⟨#[]⟩,.bool false] 95) (.cells #[.int .i64 (Cj Me ms).1,.string (Ab (Cj Me ms).2.1),.bool (Cj Me ms).2.2] 95) (.cells #[.int .i64 0,.string ⟨#[]⟩,.bool false] 95)));obtain⟨_,p3,q3⟩:=key (hM.below (bb (.cells #[.int .i64 0,.string ⟨#[]⟩,.bool false] 95) (.cells #[.int .i64 0,.string ⟨#[]⟩,.bool false] 95) (.cells #[.int .i64 (Cj Me ms).1,.string (Ab (Cj Me ms).2.1),.bool (Cj Me ms).2.2] 95)))
 obtain⟨_,_,q4⟩:=key (hM.below (bb (.cells #[.int .i64 (Cj Me ms).1,.string (Ab (Cj Me ms).2.1),.bool (Cj Me ms).2.2] 95) (.cells #[.int .i64 (Cj Pi ms).1,.string (Ab (Cj Pi ms).2.1),.bool (Cj Pi ms).2.2] 95) (.cells #[.int .i64 0,.string ⟨#[]⟩,.bool false] 95)));obtain⟨_,_,q5⟩:=key (hM.below (bb (.cells #[.int .i64 (Cj Me ms).1,.string (Ab (Cj Me ms).2.1),.bool (Cj Me ms).2.2] 95) (.cells #[.int .i64 0,.string ⟨#[]⟩,.bool false] 95) (.cells #[.int .i64 (Cj Pi ms).1,.string (Ab (Cj Pi ms).2.1),.bool (Cj Pi ms).2.2] 95)));obtain⟨_,_,q6⟩:=key (hM.below (bb (.cells #[.int .i64 (Cj Pi ms).1,.string (Ab (Cj Pi ms).2.1),.bool (Cj Pi ms).2.2] 95) (.cells #[.int .i64 (Cj Me ms).1,.string (Ab (Cj Me ms).2.1),.bool (Cj Me ms).2.2] 95) (.cells #[.int .i64 0,.string ⟨#[]⟩,.bool false] 95)))
 obtain⟨_,_,q7⟩:=key (hM.below (bb (.cells #[.int .i64 (Cj Pi ms).1,.string (Ab (Cj Pi ms).2.1),.bool (Cj Pi ms).2.2] 95) (.cells #[.int .i64 0,.string ⟨#[]⟩,.bool false] 95) (.cells #[.int .i64 (Cj Me ms).1,.string (Ab (Cj Me ms).2.1),.bool (Cj Me ms).2.2] 95)));obtain⟨_,_,q8⟩:=key (hM.below (bb (.cells #[.int .i64 0,.string ⟨#[]⟩,.bool false] 95) (.cells #[.int .i64 (Cj Me ms).1,.string (Ab (Cj Me ms).2.1),.bool (Cj Me ms).2.2] 95) (.cells #[.int .i64 (Cj Pi ms).1,.string (Ab (Cj Pi ms).2.1),.bool (Cj Pi ms).2.2] 95)));obtain⟨_,_,q9⟩:=key (hM.below (bb (.cells #[.int .i64 0,.string ⟨#[]⟩,.bool false] 95) (.cells #[.int .i64 (Cj Pi ms).1,.string (Ab (Cj Pi ms).2.1),.bool (Cj Pi ms).2.2] 95) (.cells #[.int .i64 (Cj Me ms).1,.string (Ab (Cj Me ms).2.1),.bool (Cj Me ms).2.2] 95)))
 have hbb:∀x1 x2 x3,Below w.heap.size w ((((w.alloc cd0).alloc x1).alloc x2).alloc x3).drew:=bb;clear key bb;generalize Cj Me ms=vT at *
 generalize Cj Pi ms=vC at *
 generalize Cj QX ms=vO at *
 generalize Cj QE ms=vX at *
 generalize Cj MY ms=vP at *
 go_enter Tryd.func35,Tryd.ntmps35
 go_upto_region 1 with fail
 go_cut [4,5,6] (fun s4 s5 s6 wx=>A4t w vT vC vO s4 s5 s6 wx)
 case first=>
  go_region_o
  all_goals (go_wp2_with fail;go_meet;(refine⟨_,_,_,rfl,rfl,rfl,by omega,by omega,by omega,?_,?_,?_,?_,hbb _ _ _⟩<;>first|exact (al4 _ _ _ _ _).1|exact (al4 _ _ _ _ _).2.1|exact (al4 _ _ _ _ _).2.2.1|exact (al4 _ _ _ _ _).2.2.2))
 case rest=>
  rename World=>w2
  obtain⟨bT,bC,bO,rfl,rfl,rfl,hbT,hbC,hbO,hc,hT,hC,hO,hbw⟩:=hcut;clear k0 k1 k2 l0 l1 l2 m0 m1 m2 n0 n1 n2 p1 p2 p3 q1 q2 q3 q4 q5 q6 q7 q8 q9;have hMc:=hM.below hbw;have d1:Below w2.heap.size w2 (w2.alloc (.cells #[.int .i64 0,.string ⟨#[]⟩,.bool false] 95)):=(Below.refl _ w2).alloc (Nat.le_refl _) _;have d2:=d1.alloc d1.size (.cells #[.int .i64 0,.string ⟨#[]⟩,.bool false] 95)
  have dd:∀x1 x2,Below w2.heap.size w2 ((w2.alloc x1).alloc x2).drew:=fun x1 x2=>by
   have c1:Below w2.heap.size w2 (w2.alloc x1):=(Below.refl _ w2).alloc (Nat.le_refl _) _;exact (c1.alloc c1.size x2).drew
  obtain⟨k0,k1⟩:=key2 (hMc.below (Below.refl w2.heap.size w2).drew);obtain⟨l0,l1⟩:=key2 (hMc.below d1.drew);obtain⟨m0,m1⟩:=key2 (hMc.below d2.drew);obtain⟨_,p1⟩:=key2 (hMc.below (dd (.cells #[.int .i64 vX.1,.string (Ab vX.2.1),.bool vX.2.2] 95) (.cells #[.int .i64 0,.string ⟨#[]⟩,.bool false] 95)));obtain⟨_,p2⟩:=key2 (hMc.below (dd (.cells #[.int .i64 0,.string ⟨#[]⟩,.bool false] 95) (.cells #[.int .i64 vX.1,.string (Ab vX.2.1),.bool vX.2.2] 95)));clear key2
  go_upto_region 2 with fail
  go_cut [7,8] (fun s7 s8 wx=>Axt w w2 vX vP s7 s8 wx)
  case first=>
   go_region_o
   all_goals (go_wp2_with fail;go_meet;(refine⟨_,_,rfl,rfl,by omega,by omega,?_,?_,dd _ _⟩<;>first|exact (al2 _ _ _).1|exact (al2 _ _ _).2))
  case rest=>
   clear k0 k1 l0 l1 m0 m1 p1 p2;obtain⟨bX,bP,rfl,rfl,hbX,hbP,hX,hP,PJ⟩:=hcut
   rename World=>wd
   have hwc:w.heap.size<w2.heap.size:=by
    rcases Nat.lt_or_ge w.heap.size w2.heap.size with q|q
    ·exact q
    ·rw[Array.getElem?_eq_none q] at hc;cases hc
   have B5:∀{b:Nat} {o:Obj},w2.heap[b]?=some o->b<w2.heap.size:=fun {b o} h=>by
    rcases Nat.lt_or_ge b w2.heap.size with q|q
    ·exact q
    ·rw[Array.getElem?_eq_none q] at h;cases h
   obtain⟨⟨c0,c1,c2,c3,c4⟩,f0,f1,f2,f3,f4⟩:=Ac7 ((PJ.block _ (B5 hc)).trans hc);have hrc:RC wd w.heap.size:=⟨⟨c0,c1,c2,c3,c4⟩,f0,f1,f2,f3,f4⟩;have hsm:=hrc.some;obtain⟨T0,T1,T2⟩:=BH ((PJ.block _ (B5 hT)).trans hT);obtain⟨C0,C1,C2⟩:=BH ((PJ.block _ (B5 hC)).trans hC);obtain⟨O0,O1,O2⟩:=BH ((PJ.block _ (B5 hO)).trans hO);obtain⟨X0,X1,X2⟩:=BH hX;obtain⟨P0,P1,P2⟩:=BH hP;have hbd:Below w.heap.size w wd:=hbw.trans ((PJ).mono hbw.size);by_cases hT4:vT.1=4
   rotate_left
   ·have hq:(vT.1 != 4)=true:=by simp[hT4]
    have hI:G8 vT vC vO vX vP=.error 4:=by unfold G8;rw[Dw (.inl hT4)]
    go_wp2
    (try simp only[Exit.inBlock,Exit.then])
    exact Hk (b:=w.heap.size) rfl rfl (Yd wd w.heap.size _ _ _ _ _ hsm) ⟨H0 hbd (Nat.le_refl _) _ _ _ _ _,by rw[hI];exact⟨by decide,rfl⟩⟩
   by_cases hC4:vC.1=4
   rotate_left
   ·have hq:(vC.1 != 4)=true:=by simp[hC4]
    have hI:G8 vT vC vO vX vP=.error 4:=by unfold G8;rw[Dw (.inr (.inl hC4))]
    go_wp2
    (try simp only[Exit.inBlock,Exit.then])
    exact Hk (b:=w.heap.size) rfl rfl (Yd wd w.heap.size _ _ _ _ _ hsm) ⟨H0 hbd (Nat.le_refl _) _ _ _ _ _,by rw[hI];exact⟨by decide,rfl⟩⟩
   by_cases hO4:vO.1=4
   rotate_left
   ·have hq:(vO.1 != 4)=true:=by simp[hO4]
    have hI:G8 vT vC vO vX vP=.error 4:=by unfold G8;rw[Dw (.inr (.inr hO4))]
    go_wp2
    (try simp only[Exit.inBlock,Exit.then])
    exact Hk (b:=w.heap.size) rfl rfl (Yd wd w.heap.size _ _ _ _ _ hsm) ⟨H0 hbd (Nat.le_refl _) _ _ _ _ _,by rw[hI];exact⟨by decide,rfl⟩⟩
   have AC:G8 vT vC vO vX vP=if vX.1≠0∧vX.1≠2 then .error 4
    else if (vX.2.2=true∧vP.1≠4)∨(vX.2.2=false∧vP.1≠0) then .error 4
    else if vT.2.1=FM then Ue 1 vC vO vX vP else if vT.2.1=FT then Ue 2 vC vO vX vP else .error 3:=by
    unfold G8;rw[Cr (by rintro (h|h|h)<;>first|exact h hT4|exact h hC4|exact h hO4)]
   go_upto_region 5 with fail
   go_cut [47] (fun s47 wx=>∃q:Bool,s47=.bool q∧(q=true↔(vX.1≠0∧vX.1≠2))∧wx=wd)
   case first=>
    by_cases h0:vX.1=0
    ·have h1:(vX.1 != 0)=false:=by simp[h0]
     go_wp2_with fail
     go_meet
     exact⟨false,rfl,by simp[h0],rfl⟩
    ·have h1:(vX.1 != 0)=true:=by simp[h0]
     by_cases h2:vX.1=2
     ·have h3:(vX.1 != 2)=false:=by simp[h2]
      go_wp2_with fail
      go_meet
      exact⟨false,rfl,by simp[h2],rfl⟩
     ·have h3:(vX.1 != 2)=true:=by simp[h2]
      go_wp2_with fail
      go_meet
      exact⟨true,rfl,by simp[h0,h2],rfl⟩
   case rest=>
    obtain⟨q5,rfl,hq5,hwe⟩:=hcut;subst hwe;cases q5 with
    |true=>
     have hx1:=hq5.1 rfl;have hI:G8 vT vC vO vX vP=.error 4:=by rw[AC,Dw hx1]
     go_wp2
     (try simp only[Exit.inBlock,Exit.then])
     exact Hk (b:=w.heap.size) rfl rfl (Yd wc w.heap.size _ _ _ _ _ hsm) ⟨H0 hbd (Nat.le_refl _) _ _ _ _ _,by rw[hI];exact⟨by decide,rfl⟩⟩
    |false=>
     have hx1:¬(vX.1≠0∧vX.1≠2):=fun h=>Bool.noConfusion (hq5.2 h)
     rw[Cr hx1] at AC
     go_upto_region 7 with fail
     go_cut [65] (fun s65 wx=>∃q:Bool,s65=.bool q∧(q=true↔((vX.2.2=true∧vP.1≠4)∨(vX.2.2=false∧vP.1≠0)))∧wx=wc)
     case first=>
      cases JI:vX.2.2 with
      |true=>
       rw[JI] at X2;by_cases h4:vP.1=4
       ·have h1:(vP.1 != 4)=false:=by simp[h4]
        go_wp2_with fail
        go_meet
        exact⟨false,rfl,by simp[h4,JI],rfl⟩
       ·have h1:(vP.1 != 4)=true:=by simp[h4]
        go_wp2_with fail
        go_meet
        exact⟨true,rfl,by simp[h4,JI],rfl⟩
      |false=>
       rw[JI] at X2;by_cases h4:vP.1=0
       ·have h1:(vP.1 != 0)=false:=by simp[h4]
        go_wp2_with fail
        go_meet
        exact⟨false,rfl,by simp[h4,JI],rfl⟩
       ·have h1:(vP.1 != 0)=true:=by simp[h4]
        go_wp2_with fail
        go_meet
        exact⟨true,rfl,by simp[h4,JI],rfl⟩
     case rest=>
      obtain⟨q7,rfl,hq7,hwe⟩:=hcut;subst hwe;cases q7 with
      |true=>
       have Pf:=hq7.1 rfl;have hI:G8 vT vC vO vX vP=.error 4:=by rw[AC,Dw Pf]
       go_wp2
       (try simp only[Exit.inBlock,Exit.then])
       exact Hk (b:=w.heap.size) rfl rfl (Yd wc w.heap.size _ _ _ _ _ hsm) ⟨H0 hbd (Nat.le_refl _) _ _ _ _ _,by rw[hI];exact⟨by decide,rfl⟩⟩
      |false=>
       have Pf:¬((vX.2.2=true∧vP.1≠4)∨(vX.2.2=false∧vP.1≠0)):=fun h=>Bool.noConfusion (hq7.2 h)
       rw[Cr Pf] at AC;clear hq5 hq7 hx1 Pf;have hwd:w.heap.size<wc.heap.size:=Nat.lt_of_lt_of_le hwc PJ.size;have A99:bT<wc.heap.size:=Nat.lt_of_lt_of_le (B5 hT) PJ.size;have Ba4:bC<wc.heap.size:=Nat.lt_of_lt_of_le (B5 hC) PJ.size;have hbC:((Ab vT.2.1).toList==[112,97,115,115,107,101,121,46,99,114,101,97,116,101])=decide (vT.2.1=FM):=EI hTB (b:=FM) (fun x hx=>by simp[FM] at hx;omega)
       have hbG:((Ab vT.2.1).toList==[112,97,115,115,107,101,121,46,103,101,116])=decide (vT.2.1=FT):=EI hTB (b:=FT) (fun x hx=>by simp[FT] at hx;omega)
       by_cases hTc:vT.2.1=FM
       rotate_left
       ·rw[decide_eq_false hTc] at hbC;rw[Cr hTc] at AC;by_cases hTg:vT.2.1=FT
        rotate_left
        ·rw[decide_eq_false hTg] at hbG;have hI:G8 vT vC vO vX vP=.error 3:=by rw[AC,Cr hTg]
         go_wp2
         (try simp only[Exit.inBlock,Exit.then])
         exact Hk (b:=w.heap.size) rfl rfl (Lm wc w.heap.size hwd _ _ _ _ _ _ hrc) ⟨Gg hbd (Nat.le_refl _) hbd.size _ _ _ _ _ _,by rw[hI];exact⟨by decide,rfl⟩⟩
        ·rw[decide_eq_true hTg] at hbG;rw[Dw hTg] at AC;clear hTg hTc;have hbA:=hbd.alloc hbd.size (.cells #[.int .i64 2,.slice none 0 0,.string (Ab vO.2.1),.bool vX.2.2,.string (Ab vP.2.1)] 36);have hsA:(wc.alloc (.cells #[.int .i64 2,.slice none 0 0,.string (Ab vO.2.1),.bool vX.2.2,.string (Ab vP.2.1)] 36)).heap.size=wc.heap.size+1:=Array.size_push _;have hkA:=al1 wc (.cells #[.int .i64 2,.slice none 0 0,.string (Ab vO.2.1),.bool vX.2.2,.string (Ab vP.2.1)] 36);have hrA:=hrc.below ((Below.refl wc.heap.size wc).alloc (Nat.le_refl _) (.cells #[.int .i64 2,.slice none 0 0,.string (Ab vO.2.1),.bool vX.2.2,.string (Ab vP.2.1)] 36)) hwd
         go_wp2_with (go_at_call 15;refine (Ar0 _ vC.2.1 (hU.below hbA) hCB hCL).mono ?_)
         rintro e W3 ⟨Sk,KI⟩
         have Vw:Below w.heap.size w W3:=hbA.trans (Sk.mono hbA.size);have XC:=hrA.below Sk (by rw[hsA];omega)
         have hm3:=XC.some;obtain⟨⟨r30,r31,r32,r33,r34⟩,s30,s31,s32,s33,s34⟩:=XC;have MP:wc.heap.size+1<=W3.heap.size:=by have:=Sk.size;rw[hsA] at this;exact this
         have Jn:=(Sk.block _ (by rw[hsA];omega)).trans hkA
         obtain⟨⟨k0,k1,k2,k3,k4⟩,kf0,kf1,kf2,kf3,kf4⟩:=Agk Jn;unfold DbP at KI;cases hdc:K5 vC.2.1 with
         |none=>
          rw[hdc] at KI;obtain⟨ad,capN,rfl⟩:=KI;have hI:G8 vT vC vO vX vP=.error 2:=by rw[AC];unfold Ue;rw[hdc]
          go_wp2
          (try simp only[Exit.inBlock,Exit.then])
          exact Hk (b:=w.heap.size) rfl rfl (Yd W3 w.heap.size _ _ _ _ _ hm3) ⟨H0 Vw (Nat.le_refl _) _ _ _ _ _,by rw[hI];exact⟨by decide,rfl⟩⟩
         |some b=>
          rw[hdc] at KI;obtain⟨ad,cap,rfl,Oj⟩:=KI;by_cases En:b.length<1
          ·have hI:G8 vT vC vO vX vP=.error 9:=by rw[AC];unfold Ue;rw[hdc];simp only;rw[Dw (.inl En)]
           have Rv:(b.length:Int)<1:=by omega
           go_wp2
           (try simp only[Exit.inBlock,Exit.then])
           exact Hk (b:=w.heap.size) rfl rfl (Yd W3 w.heap.size _ _ _ _ _ hm3) ⟨H0 Vw (Nat.le_refl _) _ _ _ _ _,by rw[hI];exact⟨by decide,rfl⟩⟩
          by_cases G3:64<b.length
          ·have hI:G8 vT vC vO vX vP=.error 9:=by rw[AC];unfold Ue;rw[hdc];simp only;rw[Dw (.inr G3)]
           have Rv:¬(b.length:Int)<1:=by omega
           have Kp:(b.length:Int)>64:=by omega
           go_wp2
           (try simp only[Exit.inBlock,Exit.then])
           exact Hk (b:=w.heap.size) rfl rfl (Yd W3 w.heap.size _ _ _ _ _ hm3) ⟨H0 Vw (Nat.le_refl _) _ _ _ _ _,by rw[hI];exact⟨by decide,rfl⟩⟩
          have Rv:¬(b.length:Int)<1:=by omega
          have Kp:¬(b.length:Int)>64:=by omega
          obtain⟨a,rfl,hac,haw,hla⟩:=Oj (by rintro rfl;exact En (by decide))
          have Awy:wc.heap.size+1<=a.block:=by rw[hsA] at haw;exact haw
          have SI:G8 vT vC vO vX vP=if D3 vO.2.1≠0 then .error (D3 vO.2.1) else if vX.2.2=true∧D3 vP.2.1≠0 then .error (D3 vP.2.1) else .ok (2,b,vO.2.1,vX.2.2,vP.2.1):=by
           rw[AC];unfold Ue;rw[hdc];simp only;rw[Cr (by omega)]
          have Zn:Below w.heap.size w (W3.setCell ⟨wc.heap.size,1,none⟩ (.slice (some a) b.length cap)):=Vw.setCell (p:=⟨wc.heap.size,1,none⟩) (Nat.le_of_lt hwd) _;have Ana:Below wc.heap.size W3 (W3.setCell ⟨wc.heap.size,1,none⟩ (.slice (some a) b.length cap)):=(Below.refl wc.heap.size W3).setCell (p:=⟨wc.heap.size,1,none⟩) (Nat.le_refl _) _;have MQ:=(show RC W3 w.heap.size from ⟨⟨r30,r31,r32,r33,r34⟩,s30,s31,s32,s33,s34⟩).below Ana hwd
          have Apw:=hla.set (b0:=wc.heap.size) (j:=1) (v:=.slice (some a) b.length cap) (by omega)
          have JQ:(W3.setCell ⟨wc.heap.size,1,none⟩ (.slice (some a) b.length cap)).heap.size=W3.heap.size:=World.size_setCell ..;have j0:(W3.setCell ⟨wc.heap.size,1,none⟩ (.slice (some a) b.length cap)).cell? ⟨wc.heap.size,0,none⟩=some (.int .i64 2):=(Ef (by decide)).trans k0
          have j1:(W3.setCell ⟨wc.heap.size,1,none⟩ (.slice (some a) b.length cap)).cell? ⟨wc.heap.size,1,none⟩=some (.slice (some a) b.length cap):=World.cell?_setCell_same _ _ _ k1;have j2:(W3.setCell ⟨wc.heap.size,1,none⟩ (.slice (some a) b.length cap)).cell? ⟨wc.heap.size,2,none⟩=some (.string (Ab vO.2.1)):=(Ef (by decide)).trans k2
          have j3:(W3.setCell ⟨wc.heap.size,1,none⟩ (.slice (some a) b.length cap)).cell? ⟨wc.heap.size,3,none⟩=some (.bool vX.2.2):=(Ef (by decide)).trans k3
          have j4:(W3.setCell ⟨wc.heap.size,1,none⟩ (.slice (some a) b.length cap)).cell? ⟨wc.heap.size,4,none⟩=some (.string (Ab vP.2.1)):=(Ef (by decide)).trans k4
          go_wp2_with (go_at_call 32;refine (Ahm _ vO.2.1 (hU.below Zn) hOB hOL).mono ?_)
          rintro e W5 ⟨KT,o1,o2,o3,rfl⟩
          have hs5:W3.heap.size<=W5.heap.size:=by have:=KT.size;rw[JQ] at this;exact this
          have Wf:Below w.heap.size w W5:=Zn.trans (KT.mono Zn.size);have hr5:=MQ.below KT (by rw[JQ];omega)
          have Amu:=hr5;obtain⟨⟨r50,r51,r52,r53,r54⟩,s50,s51,s52,s53,s54⟩:=Amu;have hw5:w.heap.size<W5.heap.size:=by omega
          have hc5:wc.heap.size<W5.heap.size:=by omega
          have VS:=Apw.below KT (by rw[JQ];exact hla.2.1)
          have Jg:wc.heap.size<(W3.setCell ⟨wc.heap.size,1,none⟩ (.slice (some a) b.length cap)).heap.size:=by rw[JQ];omega
          have i0:=(KT.cell (p:=⟨wc.heap.size,0,none⟩) Jg).trans j0;have i1:=(KT.cell (p:=⟨wc.heap.size,1,none⟩) Jg).trans j1;have i2:=(KT.cell (p:=⟨wc.heap.size,2,none⟩) Jg).trans j2;have i3:=(KT.cell (p:=⟨wc.heap.size,3,none⟩) Jg).trans j3;have i4:=(KT.cell (p:=⟨wc.heap.size,4,none⟩) Jg).trans j4;have hbL:=(Below.refl W5.heap.size W5).alloc (Nat.le_refl _) (.cells #[.bool o1,.string o2,.int .i64 o3] 65);have VE:Below w.heap.size w (W5.alloc (.cells #[.bool o1,.string o2,.int .i64 o3] 65)):=Wf.alloc Wf.size _;by_cases ho:D3 vO.2.1=0
          rotate_left
          ·have hoB:(D3 vO.2.1 != 0)=true:=by simp[ho]
           have hI:G8 vT vC vO vX vP=.error (D3 vO.2.1):=by rw[SI,Dw ho]
           go_wp2
           (try simp only[Exit.inBlock,Exit.then])
           exact Hk (b:=w.heap.size) rfl rfl (Lm W5 w.heap.size hw5 _ _ _ _ _ _ hr5) ⟨Gg Wf (Nat.le_refl _) Wf.size _ _ _ _ _ _,by rw[hI];exact⟨ho,rfl⟩⟩
          have hoB:(D3 vO.2.1 != 0)=false:=by simp[ho]
          rw[Cr (by simp[ho])] at SI
          have Acs:=VS.below hbL (by have:=VS.2.1;exact this)
          cases JI:vX.2.2 with
          |false=>
           rw[JI] at i3;have hI:G8 vT vC vO vX vP=.ok (2,b,vO.2.1,false,vP.2.1):=by rw[SI,Cr (by simp[JI]),JI]
           go_wp2
           (try simp only[Exit.inBlock,Exit.then])
           exact Hk (b:=w.heap.size) rfl rfl (Lm W5 w.heap.size hw5 _ _ _ _ _ _ hr5) ⟨Gg Wf (Nat.le_refl _) Wf.size _ _ _ _ _ _,by rw[hI];exact⟨a,cap,rfl,hac,by omega,VS.set5al (by omega)⟩⟩
          |true=>
           rw[JI] at i3
           go_wp2_with (go_at_call 32;refine (Ahm _ vP.2.1 (hU.below VE) hPB hPL).mono ?_)
           rintro e W7 ⟨hb7,p1,p2,p3,rfl⟩
           have hsL:(W5.alloc (.cells #[.bool o1,.string o2,.int .i64 o3] 65)).heap.size=W5.heap.size+1:=Array.size_push _;have Xx:Below w.heap.size w W7:=VE.trans (hb7.mono VE.size);have hr7:=(hr5.below hbL hw5).below hb7 (by rw[hsL];omega)
           have Ap7:=hr7;obtain⟨⟨r70,r71,r72,r73,r74⟩,s70,s71,s72,s73,s74⟩:=Ap7;have SL:=Acs.below hb7 (by have:=Acs.2.1;exact this)
           have X3:=(hbL.trans (hb7.mono hbL.size));have l0:=(X3.cell (p:=⟨wc.heap.size,0,none⟩) (show wc.heap.size<W5.heap.size by omega)).trans i0
           have l1:=(X3.cell (p:=⟨wc.heap.size,1,none⟩) (show wc.heap.size<W5.heap.size by omega)).trans i1
           have l2:=(X3.cell (p:=⟨wc.heap.size,2,none⟩) (show wc.heap.size<W5.heap.size by omega)).trans i2
           have l3:=(X3.cell (p:=⟨wc.heap.size,3,none⟩) (show wc.heap.size<W5.heap.size by omega)).trans i3
           have l4:=(X3.cell (p:=⟨wc.heap.size,4,none⟩) (show wc.heap.size<W5.heap.size by omega)).trans i4
           have hs7:=X3.size;have hw7:w.heap.size<W7.heap.size:=by omega
           have hc7:wc.heap.size<W7.heap.size:=by omega
           have hbM:=(Below.refl W7.heap.size W7).alloc (Nat.le_refl _) (.cells #[.bool p1,.string p2,.int .i64 p3] 65);have A2f:Below w.heap.size w (W7.alloc (.cells #[.bool p1,.string p2,.int .i64 p3] 65)):=Xx.alloc Xx.size _;by_cases hp:D3 vP.2.1=0
           rotate_left
           ·have hoB:(D3 vP.2.1 != 0)=true:=by simp[hp]
            have hI:G8 vT vC vO vX vP=.error (D3 vP.2.1):=by rw[SI,Dw ⟨JI,hp⟩]
            go_wp2
            (try simp only[Exit.inBlock,Exit.then])
            exact Hk (b:=w.heap.size) rfl rfl (Lm W7 w.heap.size hw7 _ _ _ _ _ _ hr7) ⟨Gg Xx (Nat.le_refl _) Xx.size _ _ _ _ _ _,by rw[hI];exact⟨hp,rfl⟩⟩
           have hpB:(D3 vP.2.1 != 0)=false:=by simp[hp]
           have Awq:=SL.below hbM (by have:=SL.2.1;exact this)
           have hI:G8 vT vC vO vX vP=.ok (2,b,vO.2.1,true,vP.2.1):=by rw[SI,Cr (by simp[hp]),JI]
           go_wp2
           (try simp only[Exit.inBlock,Exit.then])
           exact Hk (b:=w.heap.size) rfl rfl (Lm W7 w.heap.size hw7 _ _ _ _ _ _ hr7) ⟨Gg Xx (Nat.le_refl _) Xx.size _ _ _ _ _ _,by rw[hI];exact⟨a,cap,rfl,hac,by omega,SL.set5al (by omega)⟩⟩
       ·rw[decide_eq_true hTc] at hbC;rw[Dw hTc] at AC;clear hTc hbG;have hbA:=hbd.alloc hbd.size (.cells #[.int .i64 1,.slice none 0 0,.string (Ab vO.2.1),.bool vX.2.2,.string (Ab vP.2.1)] 36);have hsA:(wc.alloc (.cells #[.int .i64 1,.slice none 0 0,.string (Ab vO.2.1),.bool vX.2.2,.string (Ab vP.2.1)] 36)).heap.size=wc.heap.size+1:=Array.size_push _;have hkA:=al1 wc (.cells #[.int .i64 1,.slice none 0 0,.string (Ab vO.2.1),.bool vX.2.2,.string (Ab vP.2.1)] 36);have hrA:=hrc.below ((Below.refl wc.heap.size wc).alloc (Nat.le_refl _) (.cells #[.int .i64 1,.slice none 0 0,.string (Ab vO.2.1),.bool vX.2.2,.string (Ab vP.2.1)] 36)) hwd
        go_wp2_with (go_at_call 15;refine (Ar0 _ vC.2.1 (hU.below hbA) hCB hCL).mono ?_)
        rintro e W3 ⟨Sk,KI⟩
        have Vw:Below w.heap.size w W3:=hbA.trans (Sk.mono hbA.size);have XC:=hrA.below Sk (by rw[hsA];omega)
        have hm3:=XC.some;obtain⟨⟨r30,r31,r32,r33,r34⟩,s30,s31,s32,s33,s34⟩:=XC;have MP:wc.heap.size+1<=W3.heap.size:=by have:=Sk.size;rw[hsA] at this;exact this
        have Jn:=(Sk.block _ (by rw[hsA];omega)).trans hkA
        obtain⟨⟨k0,k1,k2,k3,k4⟩,kf0,kf1,kf2,kf3,kf4⟩:=Agk Jn;unfold DbP at KI;cases hdc:K5 vC.2.1 with
        |none=>
         rw[hdc] at KI;obtain⟨ad,capN,rfl⟩:=KI;have hI:G8 vT vC vO vX vP=.error 2:=by rw[AC];unfold Ue;rw[hdc]
         go_wp2
         (try simp only[Exit.inBlock,Exit.then])
         exact Hk (b:=w.heap.size) rfl rfl (Yd W3 w.heap.size _ _ _ _ _ hm3) ⟨H0 Vw (Nat.le_refl _) _ _ _ _ _,by rw[hI];exact⟨by decide,rfl⟩⟩
        |some b=>
         rw[hdc] at KI;obtain⟨ad,cap,rfl,Oj⟩:=KI;by_cases En:b.length<1
         ·have hI:G8 vT vC vO vX vP=.error 9:=by rw[AC];unfold Ue;rw[hdc];simp only;rw[Dw (.inl En)]
          have Rv:(b.length:Int)<1:=by omega
          go_wp2
          (try simp only[Exit.inBlock,Exit.then])
          exact Hk (b:=w.heap.size) rfl rfl (Yd W3 w.heap.size _ _ _ _ _ hm3) ⟨H0 Vw (Nat.le_refl _) _ _ _ _ _,by rw[hI];exact⟨by decide,rfl⟩⟩
         by_cases G3:64<b.length
         ·have hI:G8 vT vC vO vX vP=.error 9:=by rw[AC];unfold Ue;rw[hdc];simp only;rw[Dw (.inr G3)]
          have Rv:¬(b.length:Int)<1:=by omega
          have Kp:(b.length:Int)>64:=by omega
          go_wp2
          (try simp only[Exit.inBlock,Exit.then])
          exact Hk (b:=w.heap.size) rfl rfl (Yd W3 w.heap.size _ _ _ _ _ hm3) ⟨H0 Vw (Nat.le_refl _) _ _ _ _ _,by rw[hI];exact⟨by decide,rfl⟩⟩
         have Rv:¬(b.length:Int)<1:=by omega
         have Kp:¬(b.length:Int)>64:=by omega
         obtain⟨a,rfl,hac,haw,hla⟩:=Oj (by rintro rfl;exact En (by decide))
         have Awy:wc.heap.size+1<=a.block:=by rw[hsA] at haw;exact haw
         have SI:G8 vT vC vO vX vP=if D3 vO.2.1≠0 then .error (D3 vO.2.1) else if vX.2.2=true∧D3 vP.2.1≠0 then .error (D3 vP.2.1) else .ok (1,b,vO.2.1,vX.2.2,vP.2.1):=by
          rw[AC];unfold Ue;rw[hdc];simp only;rw[Cr (by omega)]
         have Zn:Below w.heap.size w (W3.setCell ⟨wc.heap.size,1,none⟩ (.slice (some a) b.length cap)):=Vw.setCell (p:=⟨wc.heap.size,1,none⟩) (Nat.le_of_lt hwd) _;have Ana:Below wc.heap.size W3 (W3.setCell ⟨wc.heap.size,1,none⟩ (.slice (some a) b.length cap)):=(Below.refl wc.heap.size W3).setCell (p:=⟨wc.heap.size,1,none⟩) (Nat.le_refl _) _;have MQ:=(show RC W3 w.heap.size from ⟨⟨r30,r31,r32,r33,r34⟩,s30,s31,s32,s33,s34⟩).below Ana hwd
         have Apw:=hla.set (b0:=wc.heap.size) (j:=1) (v:=.slice (some a) b.length cap) (by omega)
         have JQ:(W3.setCell ⟨wc.heap.size,1,none⟩ (.slice (some a) b.length cap)).heap.size=W3.heap.size:=World.size_setCell ..;have j0:(W3.setCell ⟨wc.heap.size,1,none⟩ (.slice (some a) b.length cap)).cell? ⟨wc.heap.size,0,none⟩=some (.int .i64 1):=(Ef (by decide)).trans k0
         have j1:(W3.setCell ⟨wc.heap.size,1,none⟩ (.slice (some a) b.length cap)).cell? ⟨wc.heap.size,1,none⟩=some (.slice (some a) b.length cap):=World.cell?_setCell_same _ _ _ k1;have j2:(W3.setCell ⟨wc.heap.size,1,none⟩ (.slice (some a) b.length cap)).cell? ⟨wc.heap.size,2,none⟩=some (.string (Ab vO.2.1)):=(Ef (by decide)).trans k2
         have j3:(W3.setCell ⟨wc.heap.size,1,none⟩ (.slice (some a) b.length cap)).cell? ⟨wc.heap.size,3,none⟩=some (.bool vX.2.2):=(Ef (by decide)).trans k3
         have j4:(W3.setCell ⟨wc.heap.size,1,none⟩ (.slice (some a) b.length cap)).cell? ⟨wc.heap.size,4,none⟩=some (.string (Ab vP.2.1)):=(Ef (by decide)).trans k4
         go_wp2_with (go_at_call 32;refine (Ahm _ vO.2.1 (hU.below Zn) hOB hOL).mono ?_)
         rintro e W5 ⟨KT,o1,o2,o3,rfl⟩
         have hs5:W3.heap.size<=W5.heap.size:=by have:=KT.size;rw[JQ] at this;exact this
         have Wf:Below w.heap.size w W5:=Zn.trans (KT.mono Zn.size);have hr5:=MQ.below KT (by rw[JQ];omega)
         have Amu:=hr5;obtain⟨⟨r50,r51,r52,r53,r54⟩,s50,s51,s52,s53,s54⟩:=Amu;have hw5:w.heap.size<W5.heap.size:=by omega
         have hc5:wc.heap.size<W5.heap.size:=by omega
         have VS:=Apw.below KT (by rw[JQ];exact hla.2.1)
         have Jg:wc.heap.size<(W3.setCell ⟨wc.heap.size,1,none⟩ (.slice (some a) b.length cap)).heap.size:=by rw[JQ];omega
         have i0:=(KT.cell (p:=⟨wc.heap.size,0,none⟩) Jg).trans j0;have i1:=(KT.cell (p:=⟨wc.heap.size,1,none⟩) Jg).trans j1;have i2:=(KT.cell (p:=⟨wc.heap.size,2,none⟩) Jg).trans j2;have i3:=(KT.cell (p:=⟨wc.heap.size,3,none⟩) Jg).trans j3;have i4:=(KT.cell (p:=⟨wc.heap.size,4,none⟩) Jg).trans j4;have hbL:=(Below.refl W5.heap.size W5).alloc (Nat.le_refl _) (.cells #[.bool o1,.string o2,.int .i64 o3] 65);have VE:Below w.heap.size w (W5.alloc (.cells #[.bool o1,.string o2,.int .i64 o3] 65)):=Wf.alloc Wf.size _;by_cases ho:D3 vO.2.1=0
         rotate_left
         ·have hoB:(D3 vO.2.1 != 0)=true:=by simp[ho]
          have hI:G8 vT vC vO vX vP=.error (D3 vO.2.1):=by rw[SI,Dw ho]
          go_wp2
          (try simp only[Exit.inBlock,Exit.then])
          exact Hk (b:=w.heap.size) rfl rfl (Lm W5 w.heap.size hw5 _ _ _ _ _ _ hr5) ⟨Gg Wf (Nat.le_refl _) Wf.size _ _ _ _ _ _,by rw[hI];exact⟨ho,rfl⟩⟩
         have hoB:(D3 vO.2.1 != 0)=false:=by simp[ho]
         rw[Cr (by simp[ho])] at SI
         have Acs:=VS.below hbL (by have:=VS.2.1;exact this)
         cases JI:vX.2.2 with
         |false=>
          rw[JI] at i3;have hI:G8 vT vC vO vX vP=.ok (1,b,vO.2.1,false,vP.2.1):=by rw[SI,Cr (by simp[JI]),JI]
          go_wp2
          (try simp only[Exit.inBlock,Exit.then])
          exact Hk (b:=w.heap.size) rfl rfl (Lm W5 w.heap.size hw5 _ _ _ _ _ _ hr5) ⟨Gg Wf (Nat.le_refl _) Wf.size _ _ _ _ _ _,by rw[hI];exact⟨a,cap,rfl,hac,by omega,VS.set5al (by omega)⟩⟩
         |true=>
          rw[JI] at i3
          go_wp2_with (go_at_call 32;refine (Ahm _ vP.2.1 (hU.below VE) hPB hPL).mono ?_)
          rintro e W7 ⟨hb7,p1,p2,p3,rfl⟩
          have hsL:(W5.alloc (.cells #[.bool o1,.string o2,.int .i64 o3] 65)).heap.size=W5.heap.size+1:=Array.size_push _;have Xx:Below w.heap.size w W7:=VE.trans (hb7.mono VE.size);have hr7:=(hr5.below hbL hw5).below hb7 (by rw[hsL];omega)
          have Ap7:=hr7;obtain⟨⟨r70,r71,r72,r73,r74⟩,s70,s71,s72,s73,s74⟩:=Ap7;have SL:=Acs.below hb7 (by have:=Acs.2.1;exact this)
          have X3:=(hbL.trans (hb7.mono hbL.size));have l0:=(X3.cell (p:=⟨wc.heap.size,0,none⟩) (show wc.heap.size<W5.heap.size by omega)).trans i0
          have l1:=(X3.cell (p:=⟨wc.heap.size,1,none⟩) (show wc.heap.size<W5.heap.size by omega)).trans i1
          have l2:=(X3.cell (p:=⟨wc.heap.size,2,none⟩) (show wc.heap.size<W5.heap.size by omega)).trans i2
          have l3:=(X3.cell (p:=⟨wc.heap.size,3,none⟩) (show wc.heap.size<W5.heap.size by omega)).trans i3
          have l4:=(X3.cell (p:=⟨wc.heap.size,4,none⟩) (show wc.heap.size<W5.heap.size by omega)).trans i4
          have hs7:=X3.size;have hw7:w.heap.size<W7.heap.size:=by omega
          have hc7:wc.heap.size<W7.heap.size:=by omega
          have hbM:=(Below.refl W7.heap.size W7).alloc (Nat.le_refl _) (.cells #[.bool p1,.string p2,.int .i64 p3] 65);have A2f:Below w.heap.size w (W7.alloc (.cells #[.bool p1,.string p2,.int .i64 p3] 65)):=Xx.alloc Xx.size _;by_cases hp:D3 vP.2.1=0
          rotate_left
          ·have hoB:(D3 vP.2.1 != 0)=true:=by simp[hp]
           have hI:G8 vT vC vO vX vP=.error (D3 vP.2.1):=by rw[SI,Dw ⟨JI,hp⟩]
           go_wp2
           (try simp only[Exit.inBlock,Exit.then])
           exact Hk (b:=w.heap.size) rfl rfl (Lm W7 w.heap.size hw7 _ _ _ _ _ _ hr7) ⟨Gg Xx (Nat.le_refl _) Xx.size _ _ _ _ _ _,by rw[hI];exact⟨hp,rfl⟩⟩
          have hpB:(D3 vP.2.1 != 0)=false:=by simp[hp]
          have Awq:=SL.below hbM (by have:=SL.2.1;exact this)
          have hI:G8 vT vC vO vX vP=.ok (1,b,vO.2.1,true,vP.2.1):=by rw[SI,Cr (by simp[hp]),JI]
          go_wp2
          (try simp only[Exit.inBlock,Exit.then])
          exact Hk (b:=w.heap.size) rfl rfl (Lm W7 w.heap.size hw7 _ _ _ _ _ _ hr7) ⟨Gg Xx (Nat.le_refl _) Xx.size _ _ _ _ _ _,by rw[hI];exact⟨a,cap,rfl,hac,by omega,SL.set5al (by omega)⟩⟩
end
section
open Go.Proofs.Tryd (prog)
open Go.IntKind (wrap)
set_option maxRecDepth 1000000
open Go Go.RowKit Go.Lib
def MN (L:Nat)(s:List Int):Prop:=C8 s∧s.length<=4*L
theorem BS:∀(n:Nat)(out l s q:List Int),C8 l->Hm n out l=(some s,q)->s.length<=out.length+4*l.length
  |0,_,_,_,_,_,h=>by cases h
  |_+1,_,[],_,_,_,h=>by cases h
  |n+1,out,c::l,s,q,hl,h=>by
    have e:Hm (n+1) out (c::l)=if c<32 then (none,c::l) else if c=34 then (some out,l) else if c=92 then
        (match Lp l with
         |(some x,r')=>Hm n (out++Lib.encodeRuneZ x) r'
         |(none,r')=>(none,r')) else Hm n (out++[c]) l:=rfl
    have Pg:=Bm hl
    rw[e] at h
    split at h
    · cases h
    split at h
    · cases h;simp
    split at h
    · have h2:=P3 (C7.self Pg.2)
      rcases hq:Lp l with⟨o,r⟩
      rw[hq] at h2 h
      cases o with
      |none=>cases h
      |some x=>
        have:=BS n _ r s q h2.B h
        have h3:=Lib.encodeRuneZ_length x
        have h4:r.length<=l.length:=h2.le
        simp at this ⊢
        omega
    · have:=BS n _ l s q Pg.2 h
      simp at this ⊢
      omega
theorem PI {l s q:List Int}(hl:C8 l)(h:Eo l=(some s,q)):MN l.length s:=by
 refine⟨XP hl h,?_⟩;cases l with
 |nil=>cases h
 |cons c l=>
  have e:Eo (c::l)=if c=34 then Hm (l.length+1) [] l else (none,c::l):=rfl
  rw[e] at h;split at h
  ·have:=BS _ _ _ _ _ (Bm hl).2 h;simp at this ⊢;omega
  ·cases h
theorem MN.mono {L M:Nat}{s:List Int}(h:MN L s)(hm:L<=M):MN M s:=⟨h.1,by have:=h.2;omega⟩
theorem MN.nil (L:Nat):MN L []:=⟨(fun x hx=>nomatch hx),Nat.zero_le _⟩
theorem Agb {l r:List Int}{v:JV}(hl:C8 l)(hs:l.length<=1000000)(h:E1 8 l=.ok (v,r)):C7 (Ab l) r:=by
 obtain⟨res,_,hr⟩:=Alp (fu:=1000001) (d:=0) (t:=Ab l) (by rw[Aj];exact hs) (by rw[Aj];omega) 8 1 (by omega) (by omega) l (C7.self hl)
 rw[h] at hr;exact hr.1
theorem Ajw:∀{k:Nat}{l r:List Int}{v:JV},C8 l->E1 k l=.ok (v,r)->MN l.length v.2.1:=by
 intro k l r v hl h;unfold E1 at h;split at h
 ·split at h
  ·cases h
  ·split at h
   ·cases h
   ·cases h;exact MN.nil _
 ·split at h
  ·cases h
  ·split at h
   ·cases h
   ·cases h;exact MN.nil _
 ·rename_i r0;unfold Uk at h;rcases hq:Eo (34::r0) with⟨o,q⟩;rw[hq] at h;cases o with
  |none=>cases h
  |some s=>cases h;exact PI hl hq
 ·repeat' split at h
  all_goals first|(cases h;exact MN.nil _)|cases h
theorem Ahg {L:Nat}(hL:L<=1000000):∀(n:Nat)(ms:List (List Int × JV)) (l r:List Int)(ms':List (List Int × JV)),C8 l->l.length<=L->(∀m∈ms,MN L m.1∧MN L m.2.2.1)->O5 (E1 8) true n ms l=.ok (ms',r)->∀m∈ms',MN L m.1∧MN L m.2.2.1:=by
 intro n
 induction n with
 |zero=>intro ms l r ms' _ _ _ h;cases h
 |succ n ih=>
  intro ms l r ms' hl hs hm h;rw[Ut] at h;rcases hx:Eo l with⟨o,q⟩;rw[hx] at h;cases o with
  |none=>cases h
  |some nm=>
   have FY:=PI hl hx;have hq:=Gn (C7.self hl);rw[hx] at hq;simp only at h;split at h
   ·cases h
   cases h1:Aq [58] (Bb q) with
   |none=>rw[h1] at h;cases h
   |some r1=>
    rw[h1] at h;have EX:=Bp (Ar (Bp hq) h1);simp only at h;cases hv:E1 8 (Bb r1) with
    |error e=>rw[hv] at h;cases h
    |ok x=>
     obtain⟨v,r2⟩:=x;rw[hv] at h;have Y6:=EX.le;have hvo:=Ajw EX.B hv;have HH:=EX.trans (Agb EX.B (by omega) hv)
     have Lt:∀m∈ms++[(nm,v)],MN L m.1∧MN L m.2.2.1:=by
      intro m Ia;rcases List.mem_append.1 Ia with Ia|Ia
      ·exact hm m Ia
      ·simp at Ia;subst Ia;exact⟨FY.mono hs,hvo.mono (by omega)⟩
     simp only at h;cases h2:Aq [125] (Bb r2) with
     |some r3=>rw[h2] at h;cases h;exact Lt
     |none=>
      rw[h2] at h;simp only at h;cases h3:Aq [44] (Bb r2) with
      |none=>rw[h3] at h;cases h
      |some r3=>
       rw[h3] at h;have XC:=Bp (Ar (Bp HH) h3);exact ih _ _ _ _ XC.B (by have:=XC.le;omega) Lt h
theorem Ajy {l:List Int}{ms:List (List Int × JV)} (hl:C8 l)(hs:l.length<=1000000)(h:NR 8 l=.ok ms):∀m∈ms,MN l.length m.1∧MN l.length m.2.2.1:=by
 rw[Xm] at h;have h0:=Bp (C7.self hl);cases h1:Aq [123] (Bb l) with
 |none=>rw[h1] at h;cases h
 |some r=>
  rw[h1] at h;have hr:=Ar h0 h1;simp only at h;rw[Q4] at h;have HH:=Bp hr;cases h2:Aq [125] (Bb r) with
  |some r'=>
   rw[h2] at h;simp only at h;split at h
   ·cases h;exact fun m hm=>by cases hm
   ·cases h
  |none=>
   rw[h2] at h;simp only at h;cases h3:O5 (E1 8) true ((Bb r).length+1) [] (Bb r) with
   |error e=>rw[h3] at h;cases h
   |ok x=>
    obtain⟨ms',r'⟩:=x;rw[h3] at h;simp only at h;split at h
    ·cases h;exact Ahg hs _ _ _ _ _ HH.B HH.le (fun m hm=>by cases hm) h3
    ·cases h
def JJ (ms:List (List Int × JV)):JR CD:=G8 (Cj Me ms) (Cj Pi ms) (Cj QX ms) (Cj QE ms) (Cj MY ms)
def H2 (t:ByteArray):JR CD:=
 if 1024<t.size then .error 8 else if Lib.validD t.data.toList=false then .error 6 else match NR 8 (E4 t) with
  |.error e=>.error e
  |.ok ms=>JJ ms
theorem Aj2 {G:S2}{P:Program}{f:FuncId}{args vals:List PV}{us rs:List Value}(hs:C4 G P f args ⟨vals,[]⟩) (ha:Bc DV args us)(hr:Bc DV vals rs)
  {w:World} (hG:G.ok w) (hGl:∀k,G.bl k->k<w.heap.size):Calls P f us.toArray w fun e w'=>e=.returned (Gv rs)∧Below w.heap.size w w':=by
 have hi:Ins w (fun _=>False) QA args us:=⟨fun _ h=>h.elim,fun _ h=>h.elim,fun k h=>absurd h (Nt k),fun i j i' j' b o o' h=>(by cases h),fun i q h=>(by cases h),Vd ha⟩
 refine (hs.2 w _ _ _ hi hG (fun k hk=>⟨hGl k hk,Nt k⟩)).mono ?_
 rintro e w' ⟨ws,own,rfl,out⟩
 have hv:=DD hr out.vals;subst hv;exact⟨rfl,out.os,out.tape,out.output,out.ext.size,fun k hk=>out.ext.keep k hk (Nt k)⟩
theorem ZJ (W:World)(s:List Int)(hW:okW W)(hB:C8 s)(hs:s.length<=1000000):Calls prog 32 #[.string (Ab s)] W fun e w'=>Below W.heap.size W w'∧∃o1 o2 o3,e=.returned (.tuple #[.agg #[.bool o1,.string o2,.int .i64 o3],.int .i64 (D3 s)]):=by
 obtain⟨o1,o2,o3,e⟩:=WX (fu:=1000001) (d:=0) (p:=none) hB hs (by omega)
 have hsd:C4 gU prog 32 [.sc (.string (Ab s))] ⟨[.agg ([Value.bool o1,.string o2,.int .i64 o3].map .sc),.sc (.int .i64 (D3 s))],[]⟩:=He ngR mxR Ap0 7 _ _ _ e;refine (Aj2 (us:=[.string (Ab s)]) (rs:=[.agg #[.bool o1,.string o2,.int .i64 o3],.int .i64 (D3 s)]) hsd ⟨.inl rfl,trivial⟩ ⟨.inr ⟨_,rfl,rfl⟩,.inl rfl,trivial⟩ hW.1 hW.2).mono ?_
 rintro e w' ⟨rfl,hb⟩
 exact⟨hb,o1,o2,o3,rfl⟩
theorem YW (W:World)(s:List Int)(hW:okW W)(hB:C8 s)(hs:s.length<=1000000):Calls prog 15 #[.string (Ab s)] W fun e w'=>Below W.heap.size W w'∧DbP W w' s e:=by
 have e:=Al4 (fu:=1000001) (d:=0) (p:=none) hB hs (by omega) (by omega)
 have hi:Ins W (fun _=>False) QA [.sc (.string (Ab s))] [.string (Ab s)]:=⟨fun _ h=>h.elim,fun _ h=>h.elim,fun k h=>absurd h (Nt k),fun i j i' j' b o o' h=>(by cases h),fun i q h=>(by cases h),Vd (show Bc DV [.sc (.string (Ab s))] [.string (Ab s)] from ⟨.inl rfl,trivial⟩)⟩
 have hsd:C4 gU prog 15 [.sc (.string (Ab s))] _:=He ngR mxR Ap0 3 _ _ _ e;refine (hsd.2 W _ _ _ hi hW.1 (fun k hk=>⟨hW.2 k hk,Nt k⟩)).mono ?_
 rintro e w' ⟨ws,own,rfl,out⟩
 refine⟨⟨out.os,out.tape,out.output,out.ext.size,fun k hk=>out.ext.keep k hk (Nt k)⟩,?_⟩
 have hv:=out.vals;have hfr:=out.fresh;generalize hA:CM QA own (fun _=>False)=A at hv
 unfold DbP;cases hd:K5 s with
 |none=>
  rw[hd] at hv
  match ws,hv with
  |[u1,u2],hv=>
   obtain⟨h1,h2,_⟩:=hv;have e2:u2=.int .i64 2:=Au.val (show Au w' A (.sc (.int .i64 2)) u2 from h2)
   rcases (show Fm w' A (own 0) (.own 1 0 []) u1 from h1) with⟨_,_,_,ad,rfl⟩|⟨b,o,cap,ho,rfl,h⟩
   ·rw[e2];exact⟨ad,0,rfl⟩
   ·rw[e2];exact⟨_,cap,rfl⟩
  |[],hv=>exact hv.elim
  |[_],hv=>exact hv.2.elim
  |_::_::_::_,hv=>exact hv.2.2.elim
 |some b=>
  rw[hd] at hv
  match ws,hv with
  |[u1,u2],hv=>
   obtain⟨h1,h2,_⟩:=hv;have e2:u2=.int .i64 0:=Au.val (show Au w' A (.sc (.int .i64 0)) u2 from h2)
   rw[e2];rcases (show Fm w' A (own 0) (.own 1 b.length (Bk .u8 b)) u1 from h1) with⟨_,hn,_,ad,rfl⟩|⟨bb,o,cap,ho,rfl,hc,hf,B5,hr,hz⟩
   ·have FJ:b=[]:=List.eq_nil_of_length_eq_zero hn;subst FJ;exact⟨ad,0,rfl,fun h=>absurd rfl h⟩
   ·refine⟨some ⟨bb,o,none⟩,cap,rfl,fun _=>⟨⟨bb,o,none⟩,rfl,hc,?_,rfl,B5,fun j x hx=>?_⟩⟩
    ·have:=(hfr 0 bb o ho).2;rcases Nat.lt_or_ge bb W.heap.size with q|q
     ·obtain⟨⟨i,k,o',h⟩,_⟩:=this q;cases h
     ·exact q
    ·have hj:(Bk .u8 b)[j]?=some (.sc (.int .u8 x)):=by
      rw[M5,List.getElem?_map,hx];rfl
     obtain⟨v,hv1,_,hv2⟩:=hr j _ hj;rw[hv1];exact congrArg some hv2.val
  |[],hv=>exact hv.elim
  |[_],hv=>exact hv.2.elim
  |_::_::_::_,hv=>exact hv.2.2.elim
def PaP (w w':World)(t:ByteArray)(e:Ending):Prop:=ItP w w' (H2 t) e
theorem QV {R:Ending->World->Prop}{a:Act}{W:World}{v:Value}{b:Nat}(h2:a.tmps.getD 2 undef=.pointer (some ⟨b,0,none⟩)) (hd:a.defers=[]) (hl:(loadVar 36 ⟨b,0,none⟩).run prog W=.ok v W) (hR:R (.returned (.tuple #[v,a.tmps.getD 3 undef])) W):bodyPost prog Tryd.f19 R .ret a W:=by
 refine bodyPost_ret ?_ hd hR;rw[results_cell_tmp rfl,h2];have e:(asAddr (.pointer (some ⟨b,0,none⟩))).run prog W=.ok ⟨b,0,none⟩ W:=rfl;rw[e,Result.andThen_ok,hl,Result.andThen_ok]
def VsP (w w':World)(t:ByteArray)(e:Ending):Prop:=e=.returned (.bool (Lib.validD t.data.toList))∧Below w.heap.size w w'
def RtQ (w w':World)(t:ByteArray)(e:Ending):Prop:=Below w.heap.size w w'∧RtP w' (E4 t) e
def ItQ (w w':World)(r:JR CD)(e:Ending):Prop:=Below w.heap.size w w'∧ItP w w' r e
set_option maxHeartbeats 4000000 in
theorem Ajz {t:ByteArray}(ht:t.size<=9223372036854775807){w:World}(hU:okW w):Calls prog 19 #[.string t] w fun e w'=>Below w.heap.size w w'∧PaP w w' t e:=by
 have mixed:prog.follows Departure.mixedOrders=true:=by kernel_rfl
 have En:Below w.heap.size w (w.alloc (.cells #[.int .i64 0,.slice none 0 0,.string ⟨#[]⟩,.bool false,.string ⟨#[]⟩] 36)):=(Below.refl _ w).alloc (Nat.le_refl _) _;have hg1:=al1 w (.cells #[.int .i64 0,.slice none 0 0,.string ⟨#[]⟩,.bool false,.string ⟨#[]⟩] 36);have hs1:(w.alloc (.cells #[.int .i64 0,.slice none 0 0,.string ⟨#[]⟩,.bool false,.string ⟨#[]⟩] 36)).heap.size=w.heap.size+1:=Array.size_push _;have EX:RC (w.alloc (.cells #[.int .i64 0,.slice none 0 0,.string ⟨#[]⟩,.bool false,.string ⟨#[]⟩] 36)) w.heap.size:=Ac7 hg1;have hU1:=hU.below En
 have hvc:Calls prog 33 #[.string t] (w.alloc (.cells #[.int .i64 0,.slice none 0 0,.string ⟨#[]⟩,.bool false,.string ⟨#[]⟩] 36)) fun e w'=>VsP (w.alloc (.cells #[.int .i64 0,.slice none 0 0,.string ⟨#[]⟩,.bool false,.string ⟨#[]⟩] 36)) w' t e:=(Any.utf8_ValidString laysVS t (w.alloc (.cells #[.int .i64 0,.slice none 0 0,.string ⟨#[]⟩,.bool false,.string ⟨#[]⟩] 36)) ht hU1.1.2.2).mono (fun _ _ h=>h)
 go_enter Tryd.func19,Tryd.ntmps19
 by_cases Dj:1024<t.size
 ·have hI:H2 t=.error 8:=by unfold H2;rw[Dw Dj]
  have hq:(t.size:Int)>1024:=by omega
  go_wp2
  (try simp only[Exit.inBlock,Exit.then])
  obtain⟨⟨r0,r1,r2,r3,r4⟩,_⟩:=EX;exact QV (b:=w.heap.size) rfl rfl (LA r0 r1 r2 r3 r4) ⟨En,by unfold PaP;rw[hI];exact⟨by decide,rfl⟩⟩
 have hq:¬(t.size:Int)>1024:=by omega
 go_wp2_with (go_at_call 33;refine hvc.mono ?_)
 rintro e W2 ⟨rfl,G3⟩
 have Aip:Below w.heap.size w W2:=En.trans (G3.mono En.size);have HH:=EX.below G3 (by rw[hs1];omega)
 have Sd:w.heap.size+1<=W2.heap.size:=by have:=G3.size;rw[hs1] at this;exact this
 have hw2:w.heap.size<W2.heap.size:=by omega
 have hU2:=hU.below Aip;cases hvd:Lib.validD t.data.toList with
 |false=>
  have hI:H2 t=.error 6:=by unfold H2;rw[Cr Dj,hvd,Dw rfl]
  obtain⟨⟨r0,r1,r2,r3,r4⟩,s0,s1,s2,s3,s4⟩:=id HH
  go_wp2
  (try simp only[Exit.inBlock,Exit.then])
  exact QV (b:=w.heap.size) rfl rfl (Yd W2 w.heap.size _ _ _ _ _ HH.some) ⟨H0 Aip (Nat.le_refl _) _ _ _ _ _,by unfold PaP;rw[hI];exact⟨by decide,rfl⟩⟩
 |true=>
  have AC:H2 t=match NR 8 (E4 t) with | .error e=>.error e | .ok ms=>JJ ms:=by unfold H2;rw[Cr Dj,hvd,Cr (by decide)]
  have hrt:Calls prog 34 #[.string t] W2 fun e w'=>RtQ W2 w' t e:=Ajo (by omega) hU2.1 hU2.2
  go_wp2_with (go_at_call 34;refine hrt.mono ?_)
  rintro e W3 ⟨Sk,KI⟩
  have Vw:Below w.heap.size w W3:=Aip.trans (Sk.mono Aip.size);have XC:=HH.below Sk hw2;have hw3:w.heap.size<W3.heap.size:=Nat.lt_of_lt_of_le hw2 Sk.size;have hU3:=hU.below Vw;unfold RtP at KI;cases Am5:NR 8 (E4 t) with
  |error er=>
   rw[Am5] at KI AC;obtain⟨he,m,rfl⟩:=KI;have hbe:(er != (0:Int))=true:=by simp[he]
   obtain⟨⟨r0,r1,r2,r3,r4⟩,s0,s1,s2,s3,s4⟩:=id XC
   go_wp2
   (try simp only[Exit.inBlock,Exit.then])
   exact QV (b:=w.heap.size) rfl rfl (Yd W3 w.heap.size _ _ _ _ _ XC.some) ⟨H0 Vw (Nat.le_refl _) _ _ _ _ _,by unfold PaP;rw[AC];exact⟨he,rfl⟩⟩
  |ok ms=>
   rw[Am5] at KI AC;obtain⟨mb,rfl,hM3⟩:=KI;have Ln:(E4 t).length<=1000000:=by rw[Nj];omega
   have hok:=Ajy (LD t) Ln Am5;have hl4:4*(E4 t).length<=1000000:=by rw[Nj];omega
   have DN:Calls prog 35 #[.map (some mb)] W3 fun e w'=>ItQ W3 w' (JJ ms) e:=Ahy YW ZJ (fun m hm=>(hok m hm).1.1) (fun m hm=>⟨(hok m hm).2.1,by have:=(hok m hm).2.2;omega⟩) hU3 hM3
   go_wp2_with (go_at_call 35;refine DN.mono ?_)
   rintro e W4 ⟨hb4,hp4⟩
   have Zn:Below w.heap.size w W4:=Vw.trans (hb4.mono Vw.size);have MQ:=XC.below hb4 hw3;have hw4:w.heap.size<W4.heap.size:=Nat.lt_of_lt_of_le hw3 hb4.size;unfold ItP at hp4;cases RO:JJ ms with
   |error er=>
    rw[RO] at hp4 AC;obtain⟨he,rfl⟩:=hp4;have hbe:(er != (0:Int))=true:=by simp[he]
    obtain⟨⟨r0,r1,r2,r3,r4⟩,s0,s1,s2,s3,s4⟩:=id MQ
    go_wp2
    (try simp only[Exit.inBlock,Exit.then])
    exact QV (b:=w.heap.size) rfl rfl (Lm W4 w.heap.size hw4 _ _ _ _ _ _ MQ) ⟨Gg Zn (Nat.le_refl _) Zn.size _ _ _ _ _ _,by unfold PaP;rw[AC];exact⟨he,rfl⟩⟩
   |ok x=>
    obtain⟨k,b,o,x,p⟩:=x;rw[RO] at hp4 AC;obtain⟨ad,cap,rfl,hc,hwa,hla⟩:=hp4;obtain⟨⟨r0,r1,r2,r3,r4⟩,s0,s1,s2,s3,s4⟩:=id MQ
    go_wp2
    (try simp only[Exit.inBlock,Exit.then])
    exact QV (b:=w.heap.size) rfl rfl (Lm W4 w.heap.size hw4 _ _ _ _ _ _ MQ) ⟨Gg Zn (Nat.le_refl _) Zn.size _ _ _ _ _ _,by unfold PaP;rw[AC];exact⟨ad,cap,rfl,hc,by omega,hla.set5al (by omega)⟩⟩
def G0 (args:List PV):Option Ay:=
 match args with
 |[.sc (.string t)]=>bif decide (t.size<=9223372036854775807) then some (match H2 t with
  |.ok (k,b,o,x,p)=>⟨[.agg [.sc (.int .i64 k),.lst false 1 b.length (Bk .u8 b),.sc (.string (Ab o)),.sc (.bool x),.sc (.string (Ab p))],.sc (.int .i64 0)],[]⟩
  |.error e=>⟨[.agg [.sc (.int .i64 0),.lst false 1 0 [],.sc (.string ⟨#[]⟩),.sc (.bool false),.sc (.string ⟨#[]⟩)],.sc (.int .i64 e)],[]⟩) else none
 |_=>none
theorem BM {w w':World}{Y:Nat->Prop}{bt:V6}{args vals:List PV}{vs:List Value}(hb:Below w.heap.size w w')(hv:GM w' (CM bt (fun _=>none) Y) (fun _=>none) w.heap.size 0 vals vs) (ho:Sb w' (CM bt (fun _=>none) Y) (fun _=>none) bt (Jv vals) 0 args []):
  Out w w' Y bt args (fun _=>none) ⟨vals,[]⟩ vs where
 os:=hb.os
 tape:=hb.tape
 output:=hb.output
 ext:=⟨hb.size,fun b h _=>hb.block b h,fun b h=>Gf.same (hb.block b h)⟩
 rng:=fun b j h _=>⟨by unfold World.cell?;simp only[hb.block b h],by unfold World.frozen?;simp only[hb.block b h]⟩
 vals:=hv
 outs:=ho
 fresh:=fun j b o h=>by cases h
 inj:=fun j j' b o o' h=>by cases h
theorem RA (args:List PV)(res:Ay)(h:G0 args=some res):C4 gU prog 19 args res:=by
 refine⟨⟨_,Tryd.func19,by kernel_rfl⟩,fun w Y bt us hi hok hgl=>?_⟩
 unfold G0 at h;split at h
 rotate_left
 ·cases h
 rename_i t;cases hq:decide (t.size<=9223372036854775807)
 ·rw[hq] at h;cases h
 rw[hq,cond_true] at h;have hs:=of_decide_eq_true hq;have ps:=hi.args
 match us,ps with
 |[u],ps=>
  have hu:u=.string t:=Au.val (show Au w _ (.sc (.string t)) u from ps.1.2)
  subst hu;refine (Ajz hs ⟨hok,fun k hk=>(hgl k hk).1⟩).mono ?_
  rintro e w' ⟨hb,hp⟩
  unfold PaP at hp;unfold ItP at hp;cases Zk:H2 t with
  |error er=>
   rw[Zk] at hp h;obtain⟨_,rfl⟩:=hp;cases h;refine⟨[.agg #[.int .i64 0,.slice none 0 0,.string ⟨#[]⟩,.bool false,.string ⟨#[]⟩],.int .i64 er],fun _=>none,rfl,BM hb ⟨⟨_,rfl,?_⟩,Au.sc _,trivial⟩ rfl⟩
   exact⟨Au.sc _,Au.lnil _ _,Au.sc _,Au.sc _,Au.sc _,trivial⟩
  |ok x=>
   obtain⟨k,b,o,x,p⟩:=x;rw[Zk] at hp h;obtain⟨ad,cap,rfl,hc,hwa,hla⟩:=hp;cases h;refine⟨[.agg #[.int .i64 k,.slice (some ad) b.length cap,.string (Ab o),.bool x,.string (Ab p)],.int .i64 0],fun _=>none,rfl,BM hb ⟨⟨_,rfl,?_⟩,Au.sc _,trivial⟩ rfl⟩
   refine⟨Au.sc _,?_,Au.sc _,Au.sc _,Au.sc _,trivial⟩;refine Au.lst 1 b.length (Bk .u8 b) ad cap (fun j=>.int .u8 (b.getD j 0)) hla.1 hla.2.1 ?_ hc ?_ ?_ ?_
   ·rintro (⟨j,o,h⟩|⟨i,o,h⟩|h)
    ·cases h
    ·have:=hi.lt ad.block ⟨i,0,o,h⟩;omega
    ·have:=hi.Ylt _ h;omega
   ·intro j c hj;rw[M5,List.getElem?_map] at hj;obtain⟨y,hy,rfl⟩:=Option.map_eq_some_iff.1 hj;rw[hla.2.2 j y hy];simp[List.getD_eq_getElem?_getD,hy]
   ·intro j c hj;rfl
   ·intro j c hj;rw[M5,List.getElem?_map] at hj;obtain⟨y,hy,rfl⟩:=Option.map_eq_some_iff.1 hj;have:b.getD j 0=y:=by simp[List.getD_eq_getElem?_getD,hy]
    rw[this];exact Au.sc _
 |[],ps=>exact ps.elim
 |_::_::_,ps=>exact ps.2.elim
abbrev C1:F4:=CP (some G0)
theorem extV:HQ gU prog C1:=Ak5 (fun g h args res hg=>by cases h;exact RA args res hg)
end
section
open Go.Proofs.Tryd (prog)
open Go.IntKind (wrap)
set_option maxRecDepth 100000
abbrev Nn:FuncId:=20
theorem Hc {p:Option (List PV->Option Ay)} (fu d:Nat)(B1:Int)(Ot:Nat)(Bu:List PV)(Qe:ByteArray)(Ua:Bool)(O7:ByteArray)(Ate:Int)(Alg:Nat)(Anp:List PV)(Aue:ByteArray)(As1:Bool)(Aui:ByteArray):Ae (CP p) prog fu (d+1) Nn [.agg [.sc (.int .i64 B1),.lst false 1 Ot Bu,.sc (.string Qe),.sc (.bool Ua),.sc (.string O7)],.agg [.sc (.int .i64 Ate),.lst false 1 Alg Anp,.sc (.string Aue),.sc (.bool As1),.sc (.string Aui)]]=(fun (call:Ax)=>Bf (B1==Ate) (Be (decide (Bu.length=Ot))<|Do (Ix Bu) fun x1=>Be (decide (Anp.length=Alg))<|Do (Ix Anp) fun x2=>Bf (Array.toList (ByteArray.data (ByteArray.mk (List.toArray x1)))==Array.toList (ByteArray.data (ByteArray.mk (List.toArray x2)))) (Bf (Array.toList (ByteArray.data Qe)==Array.toList (ByteArray.data Aue)) (Bf (Ua==As1) (some (Ay.mk [.sc (.bool (Array.toList (ByteArray.data O7)==Array.toList (ByteArray.data Aui)))] [])) (some (Ay.mk [.sc (.bool false)] []))) (some (Ay.mk [.sc (.bool false)] []))) (some (Ay.mk [.sc (.bool false)] []))) (some (Ay.mk [.sc (.bool false)] []))) (Ae (CP p) prog fu d):=by kernel_rfl
abbrev Rl:FuncId:=18
theorem J1 {p:Option (List PV->Option Ay)} (fu d:Nat)(B1:Int)(Ot:Nat)(Bu:List PV)(Qe:ByteArray)(Ua:Bool)(O7:ByteArray):Ae (CP p) prog fu (d+1) Rl [.agg [.sc (.int .i64 B1),.lst false 1 Ot Bu,.sc (.string Qe),.sc (.bool Ua),.sc (.string O7)]]=(fun (call:Ax)=>Bf (B1==1) (Bf (decide ((↑Ot:Int)<1)) (some (Ay.mk [.sc (.string (ByteArray.mk #[])),.sc (.int .i64 9)] [])) (Bf (decide ((↑Ot:Int)>64)) (some (Ay.mk [.sc (.string (ByteArray.mk #[])),.sc (.int .i64 9)] [])) (Ah (call 32 [.sc (.string Qe)]) fun x1 x2=>Ad x2<|Aa x1 fun x3 x4=>E3 x3 fun x5=>Aa x5 fun x6 x7=>Ao x6 fun x8=>Aa x7 fun x9 F9=>Az x9 fun M8=>Aa F9 fun Nw Fv=>Ak .i64 Nw fun Ks=>Ad Fv<|Aa x4 fun Oa Ka=>Ak .i64 Oa fun Km=>Ad Ka<|Bf (Km != 0) (some (Ay.mk [.sc (.string (ByteArray.mk #[])),.sc (.int .i64 Km)] [])) (Bf (!Array.toList (ByteArray.data O7)==Array.toList (ByteArray.data (ByteArray.mk #[]))) (Bf (!Ua) (some (Ay.mk [.sc (.string (ByteArray.mk #[])),.sc (.int .i64 4)] [])) (Ah (call 12 [.lst false 1 Ot Bu]) fun Nl Lg=>Ad Lg<|Aa Nl fun Mv Mu=>Az Mv fun Ov=>Ad Mu<|Be (decide (38+ByteArray.size Ov<=9223372036854775807))<|Ac (ByteArray.mk #[123,34,116,121,112,101,34,58,34]++ByteArray.mk #[112,97,115,115,107,101,121,46,99,114,101,97,116,101]++ByteArray.mk #[34,44,34,99,104,97,108,108,101,110,103,101,34,58,34]++Ov) fun Lv=>Be (decide (ByteArray.size Lv+12<=9223372036854775807))<|Ac (Lv++ByteArray.mk #[34,44,34,111,114,105,103,105,110,34,58,34]) fun Ly=>Be (decide (ByteArray.size Ly+ByteArray.size Qe<=9223372036854775807))<|Ac (Ly++Qe) fun Mr=>Bf (!Ua) (Be (decide (ByteArray.size Mr+22<=9223372036854775807))<|Ac (Mr++ByteArray.mk #[34,44,34,99,114,111,115,115,79,114,105,103,105,110,34,58,102,97,108,115,101,125]) fun Oh=>some (Ay.mk [.sc (.string Oh),.sc (.int .i64 0)] [])) (Ah (call 32 [.sc (.string O7)]) fun O3 Pd=>Ad Pd<|Aa O3 fun N4 Pr=>E3 N4 fun Pq=>Aa Pq fun Qo Q1=>Ao Qo fun Qu=>Aa Q1 fun Ry Q8=>Az Ry fun Tm=>Aa Q8 fun Ud Q5=>Ak .i64 Ud fun EJ=>Ad Q5<|Aa Pr fun EU Ps=>Ak .i64 EU fun Pe=>Ad Ps<|Bf (Pe != 0) (some (Ay.mk [.sc (.string (ByteArray.mk #[])),.sc (.int .i64 Pe)] [])) (Be (decide (ByteArray.size Mr+34<=9223372036854775807))<|Ac (Mr++ByteArray.mk #[34,44,34,99,114,111,115,115,79,114,105,103,105,110,34,58,116,114,117,101,44,34,116,111,112,79,114,105,103,105,110,34,58,34]) fun AN=>Be (decide (ByteArray.size AN+ByteArray.size O7<=9223372036854775807))<|Ac (AN++O7) fun Y7=>Be (decide (ByteArray.size Y7+2<=9223372036854775807))<|Ac (Y7++ByteArray.mk #[34,125]) fun EN=>some (Ay.mk [.sc (.string EN),.sc (.int .i64 0)] []))))) (Ah (call 12 [.lst false 1 Ot Bu]) fun AH CH=>Ad CH<|Aa AH fun Zd Za=>Az Zd fun Z4=>Ad Za<|Be (decide (38+ByteArray.size Z4<=9223372036854775807))<|Ac (ByteArray.mk #[123,34,116,121,112,101,34,58,34]++ByteArray.mk #[112,97,115,115,107,101,121,46,99,114,101,97,116,101]++ByteArray.mk #[34,44,34,99,104,97,108,108,101,110,103,101,34,58,34]++Z4) fun M3=>Be (decide (ByteArray.size M3+12<=9223372036854775807))<|Ac (M3++ByteArray.mk #[34,44,34,111,114,105,103,105,110,34,58,34]) fun Q7=>Be (decide (ByteArray.size Q7+ByteArray.size Qe<=9223372036854775807))<|Ac (Q7++Qe) fun Zm=>Bf (!Ua) (Be (decide (ByteArray.size Zm+22<=9223372036854775807))<|Ac (Zm++ByteArray.mk #[34,44,34,99,114,111,115,115,79,114,105,103,105,110,34,58,102,97,108,115,101,125]) fun FI=>some (Ay.mk [.sc (.string FI),.sc (.int .i64 0)] [])) (Ah (call 32 [.sc (.string O7)]) fun FD FA=>Ad FA<|Aa FD fun EV ET=>E3 EV fun FB=>Aa FB fun FN MT=>Ao FN fun UF=>Aa MT fun OS MK=>Az OS fun OV=>Aa MK fun MJ RM=>Ak .i64 MJ fun RZ=>Ad RM<|Aa ET fun MS MW=>Ak .i64 MS fun LR=>Ad MW<|Bf (LR != 0) (some (Ay.mk [.sc (.string (ByteArray.mk #[])),.sc (.int .i64 LR)] [])) (Be (decide (ByteArray.size Zm+34<=9223372036854775807))<|Ac (Zm++ByteArray.mk #[34,44,34,99,114,111,115,115,79,114,105,103,105,110,34,58,116,114,117,101,44,34,116,111,112,79,114,105,103,105,110,34,58,34]) fun HL=>Be (decide (ByteArray.size HL+ByteArray.size O7<=9223372036854775807))<|Ac (HL++O7) fun MO=>Be (decide (ByteArray.size MO+2<=9223372036854775807))<|Ac (MO++ByteArray.mk #[34,125]) fun NB=>some (Ay.mk [.sc (.string NB),.sc (.int .i64 0)] [])))))))) (Bf (B1==2) (Bf (decide ((↑Ot:Int)<1)) (some (Ay.mk [.sc (.string (ByteArray.mk #[])),.sc (.int .i64 9)] [])) (Bf (decide ((↑Ot:Int)>64)) (some (Ay.mk [.sc (.string (ByteArray.mk #[])),.sc (.int .i64 9)] [])) (Ah (call 32 [.sc (.string Qe)]) fun SS UD=>Ad UD<|Aa SS fun RX UT=>E3 RX fun LQ=>Aa LQ fun RU VW=>Ao RU fun YC=>Aa VW fun PH RN=>Az PH fun XF=>Aa RN fun SJ ML=>Ak .i64 SJ fun RR=>Ad ML<|Aa UT fun TE RW=>Ak .i64 TE fun RV=>Ad RW<|Bf (RV != 0) (some (Ay.mk [.sc (.string (ByteArray.mk #[])),.sc (.int .i64 RV)] [])) (Bf (!Array.toList (ByteArray.data O7)==Array.toList (ByteArray.data (ByteArray.mk #[]))) (Bf (!Ua) (some (Ay.mk [.sc (.string (ByteArray.mk #[])),.sc (.int .i64 4)] [])) (Ah (call 12 [.lst false 1 Ot Bu]) fun TL RQ=>Ad RQ<|Aa TL fun VO YK=>Az VO fun PU=>Ad YK<|Be (decide (35+ByteArray.size PU<=9223372036854775807))<|Ac (ByteArray.mk #[123,34,116,121,112,101,34,58,34]++ByteArray.mk #[112,97,115,115,107,101,121,46,103,101,116]++ByteArray.mk #[34,44,34,99,104,97,108,108,101,110,103,101,34,58,34]++PU) fun UL=>Be (decide (ByteArray.size UL+12<=9223372036854775807))<|Ac (UL++ByteArray.mk #[34,44,34,111,114,105,103,105,110,34,58,34]) fun VZ=>Be (decide (ByteArray.size VZ+ByteArray.size Qe<=9223372036854775807))<|Ac (VZ++Qe) fun Qa=>Bf (!Ua) (Be (decide (ByteArray.size Qa+22<=9223372036854775807))<|Ac (Qa++ByteArray.mk #[34,44,34,99,114,111,115,115,79,114,105,103,105,110,34,58,102,97,108,115,101,125]) fun Tg=>some (Ay.mk [.sc (.string Tg),.sc (.int .i64 0)] [])) (Ah (call 32 [.sc (.string O7)]) fun Ru Tk=>Ad Tk<|Aa Ru fun Tb Mz=>E3 Tb fun R6=>Aa R6 fun Rs V3=>Ao Rs fun Ws=>Aa V3 fun Ts Xh=>Az Ts fun Zg=>Aa Xh fun Uw Ww=>Ak .i64 Uw fun Zr=>Ad Ww<|Aa Mz fun Wg Wj=>Ak .i64 Wg fun Wc=>Ad Wj<|Bf (Wc != 0) (some (Ay.mk [.sc (.string (ByteArray.mk #[])),.sc (.int .i64 Wc)] [])) (Be (decide (ByteArray.size Qa+34<=9223372036854775807))<|Ac (Qa++ByteArray.mk #[34,44,34,99,114,111,115,115,79,114,105,103,105,110,34,58,116,114,117,101,44,34,116,111,112,79,114,105,103,105,110,34,58,34]) fun R1=>Be (decide (ByteArray.size R1+ByteArray.size O7<=9223372036854775807))<|Ac (R1++O7) fun Rt=>Be (decide (ByteArray.size Rt+2<=9223372036854775807))<|Ac (Rt++ByteArray.mk #[34,125]) fun Wa=>some (Ay.mk [.sc (.string Wa),.sc (.int .i64 0)] []))))) (Ah (call 12 [.lst false 1 Ot Bu]) fun X8 Sw=>Ad Sw<|Aa X8 fun Wl X7=>Az Wl fun Uo=>Ad X7<|Be (decide (35+ByteArray.size Uo<=9223372036854775807))<|Ac (ByteArray.mk #[123,34,116,121,112,101,34,58,34]++ByteArray.mk #[112,97,115,115,107,101,121,46,103,101,116]++ByteArray.mk #[34,44,34,99,104,97,108,108,101,110,103,101,34,58,34]++Uo) fun U5=>Be (decide (ByteArray.size U5+12<=9223372036854775807))<|Ac (U5++ByteArray.mk #[34,44,34,111,114,105,103,105,110,34,58,34]) fun Tx=>Be (decide (ByteArray.size Tx+ByteArray.size Qe<=9223372036854775807))<|Ac (Tx++Qe) fun Rz=>Bf (!Ua) (Be (decide (ByteArray.size Rz+22<=9223372036854775807))<|Ac (Rz++ByteArray.mk #[34,44,34,99,114,111,115,115,79,114,105,103,105,110,34,58,102,97,108,115,101,125]) fun Vi=>some (Ay.mk [.sc (.string Vi),.sc (.int .i64 0)] [])) (Ah (call 32 [.sc (.string O7)]) fun Wo Xj=>Ad Xj<|Aa Wo fun Wp Xp=>E3 Wp fun V9=>Aa V9 fun X5 Wb=>Ao X5 fun Z1=>Aa Wb fun Xf Wt=>Az Xf fun Zh=>Aa Wt fun Wv Rm=>Ak .i64 Wv fun Te=>Ad Rm<|Aa Xp fun Wq U6=>Ak .i64 Wq fun Vj=>Ad U6<|Bf (Vj != 0) (some (Ay.mk [.sc (.string (ByteArray.mk #[])),.sc (.int .i64 Vj)] [])) (Be (decide (ByteArray.size Rz+34<=9223372036854775807))<|Ac (Rz++ByteArray.mk #[34,44,34,99,114,111,115,115,79,114,105,103,105,110,34,58,116,114,117,101,44,34,116,111,112,79,114,105,103,105,110,34,58,34]) fun Vb=>Be (decide (ByteArray.size Vb+ByteArray.size O7<=9223372036854775807))<|Ac (Vb++O7) fun Zp=>Be (decide (ByteArray.size Zp+2<=9223372036854775807))<|Ac (Zp++ByteArray.mk #[34,125]) fun Zq=>some (Ay.mk [.sc (.string Zq),.sc (.int .i64 0)] [])))))))) (some (Ay.mk [.sc (.string (ByteArray.mk #[])),.sc (.int .i64 3)] [])))) (Ae (CP p) prog fu d):=by kernel_rfl
abbrev Jd:FuncId:=8
theorem Qh {p:Option (List PV->Option Ay)} (fu d:Nat):Ae (CP p) prog fu (d+1) Jd []=(fun (call:Ax)=>Ah (call 18 [.agg [.sc (.int .i64 2),.lst false 1 2 [.sc (.int .u8 251),.sc (.int .u8 255)],.sc (.string (ByteArray.mk #[104,116,116,112,115,58,47,47,97,46,98])),.sc (.bool false),.sc (.string (ByteArray.mk #[]))]]) fun x1 x2=>Ad x2<|Aa x1 fun x3 x4=>Az x3 fun x5=>Aa x4 fun x6 x7=>Ak .i64 x6 fun x8=>Ad x7<|Ah (call 19 [.sc (.string x5)]) fun x9 F9=>Ad F9<|Aa x9 fun M8 Nw=>E3 M8 fun Fv=>Aa Fv fun Ks Oa=>Ak .i64 Ks fun Ka=>Aa Oa fun Km Nl=>Ke 1 Km fun Lg Mv Mu=>Aa Nl fun Ov Lv=>Az Ov fun Ly=>Aa Lv fun Mr Oh=>Ao Mr fun O3=>Aa Oh fun Pd N4=>Az Pd fun Pr=>Ad N4<|Aa Nw fun Pq Qo=>Ak .i64 Pq fun Q1=>Ad Qo<|Bf (x8==0) (Bf (Q1==0) (Bf (Array.toList (ByteArray.data x5)==Array.toList (ByteArray.data (ByteArray.mk (List.toArray (List.append [123,34,116,121,112,101,34,58,34,112,97,115,115,107,101,121,46,103,101,116,34,44,34,99,104,97,108,108,101,110,103,101,34,58,34,45,95,56,34,44,34] [111,114,105,103,105,110,34,58,34,104,116,116,112,115,58,47,47,97,46,98,34,44,34,99,114,111,115,115,79,114,105,103,105,110,34,58,102,97,108,115,101,125]))))) (Ah (call 20 [.agg [.sc (.int .i64 2),.lst false 1 2 [.sc (.int .u8 251),.sc (.int .u8 255)],.sc (.string (ByteArray.mk #[104,116,116,112,115,58,47,47,97,46,98])),.sc (.bool false),.sc (.string (ByteArray.mk #[]))],.agg [.sc (.int .i64 Ka),.lst false 1 Mv Mu,.sc (.string Ly),.sc (.bool O3),.sc (.string Pr)]]) fun Qu Ry=>Ad Ry<|Aa Qu fun Q8 Tm=>Ao Q8 fun Ud=>Ad Tm<|some (Ay.mk [.sc (.bool Ud)] [])) (some (Ay.mk [.sc (.bool false)] []))) (some (Ay.mk [.sc (.bool false)] []))) (some (Ay.mk [.sc (.bool false)] []))) (Ae (CP p) prog fu d):=by kernel_rfl
end
section
open Go.IntKind (wrap)
set_option maxRecDepth 100000
theorem Da (a b:List Int):Ab a++Ab b=Ab (a++b):=by
 apply ByteArray.ext;rw[ByteArray.data_append];unfold Ab;simp
section
variable {fu d:Nat} {p:Option (List PV->Option Ay)}
end
end
section
open Go.Proofs.Tryd (prog)
open Go.IntKind (wrap)
set_option maxRecDepth 100000
def awT:List Int:=[123,34,116,121,112,101,34,58,34,112,97,115,115,107,101,121,46,103,101,116,34,44,34,99,104,97,108,108,101,110,103,101,34,58,34,45,95,56,34,44,34,111,114,105,103,105,110,34,58,34,104,116,116,112,115,58,47,47,97,46,98,34,44,34,99,114,111,115,115,79,114,105,103,105,110,34,58,102,97,108,115,101,125]
def awO:List Int:=[104,116,116,112,115,58,47,47,97,46,98]
theorem Aih:D3 awO=0:=by decide +kernel
theorem ZO:H2 (Ab awT)=.ok (2,[251,255],awO,false,[]):=by kernel_rfl
section
variable {fu d:Nat}
theorem XM (E9:200<=fu):Ae C1 prog fu (d+9) Jd []=some ⟨[.sc (.bool true)],[]⟩:=by
 obtain⟨o1,o2,o3,ho⟩:=WX (fu:=fu) (d:=d) (p:=some G0) (l:=awO) (fun x hx=>by simp[awO] at hx;omega) (by decide) E9
 rw[Aih] at ho;have h32:Ae C1 prog fu (d+7) 32 [.sc (.string (ByteArray.mk #[(104:UInt8),(116:UInt8),(116:UInt8),(112:UInt8),(115:UInt8),(58:UInt8),(47:UInt8),(47:UInt8),(97:UInt8),(46:UInt8),(98:UInt8)]))]=_:=ho;have h12:Ae C1 prog fu (d+7) 12 [.lst false 1 2 [.sc (.int .u8 251),.sc (.int .u8 255)]]=some ⟨[.sc (.string (Ab [45,95,56]))],[]⟩:=by kernel_rfl
 have h18:Ae C1 prog fu (d+8) 18 [.agg [.sc (.int .i64 2),.lst false 1 2 [.sc (.int .u8 251),.sc (.int .u8 255)],.sc (.string (ByteArray.mk #[(104:UInt8),(116:UInt8),(116:UInt8),(112:UInt8),(115:UInt8),(58:UInt8),(47:UInt8),(47:UInt8),(97:UInt8),(46:UInt8),(98:UInt8)])),.sc (.bool false),.sc (.string (ByteArray.mk #[]))]]=some ⟨[.sc (.string (Ab awT)),.sc (.int .i64 0)],[]⟩:=by
  refine (J1 (p:=some G0) fu (d+7) _ _ _ _ _ _).trans ?_;have a1:((2:Int)==1)=false:=rfl;have a2:((2:Int)==2)=true:=rfl;have a3:decide (((2:Nat):Int)<1)=false:=rfl;have a4:decide (((2:Nat):Int)>64)=false:=rfl;have a5:((0:Int) != 0)=false:=rfl;have a6:(!Array.toList (ByteArray.mk #[]).data==Array.toList (ByteArray.mk #[]).data)=false:=rfl;simp only[Dg,a1,a2,a3,a4,a5,a6,h32,h12,Ds];show _=some (Ay.mk [.sc (.string (Ab awT)),.sc (.int .i64 0)] [])
  first|kernel_rfl|rfl
 have h19:Ae C1 prog fu (d+8) 19 [.sc (.string (Ab awT))]=some ⟨[.agg [.sc (.int .i64 2),.lst false 1 2 [.sc (.int .u8 251),.sc (.int .u8 255)],.sc (.string (Ab awO)),.sc (.bool false),.sc (.string (Ab []))],.sc (.int .i64 0)],[]⟩:=by
  have e:Ae C1 prog fu (d+8) 19 [.sc (.string (Ab awT))]=G0 [.sc (.string (Ab awT))]:=rfl;rw[e];unfold G0;have hs:decide ((Ab awT).size<=9223372036854775807)=true:=rfl;simp only[hs,cond_true,ZO];rfl
 have h20:Ae C1 prog fu (d+8) 20 [.agg [.sc (.int .i64 2),.lst false 1 2 [.sc (.int .u8 251),.sc (.int .u8 255)],.sc (.string (ByteArray.mk #[(104:UInt8),(116:UInt8),(116:UInt8),(112:UInt8),(115:UInt8),(58:UInt8),(47:UInt8),(47:UInt8),(97:UInt8),(46:UInt8),(98:UInt8)])),.sc (.bool false),.sc (.string (ByteArray.mk #[]))],.agg [.sc (.int .i64 2),.lst false 1 2 [.sc (.int .u8 251),.sc (.int .u8 255)],.sc (.string (Ab awO)),.sc (.bool false),.sc (.string (Ab []))]]=some ⟨[.sc (.bool true)],[]⟩:=
  (Hc (p:=some G0) fu (d+7) _ _ _ _ _ _ _ _ _ _ _ _).trans (by kernel_rfl)
 refine (Qh (p:=some G0) fu (d+8)).trans ?_;have b1:((0:Int)==0)=true:=rfl
 have b2:(Array.toList (Ab awT).data==Array.toList (ByteArray.mk (List.toArray (List.append [(123:UInt8),(34:UInt8),(116:UInt8),(121:UInt8),(112:UInt8),(101:UInt8),(34:UInt8),(58:UInt8),(34:UInt8),(112:UInt8),(97:UInt8),(115:UInt8),(115:UInt8),(107:UInt8),(101:UInt8),(121:UInt8),(46:UInt8),(103:UInt8),(101:UInt8),(116:UInt8),(34:UInt8),(44:UInt8),(34:UInt8),(99:UInt8),(104:UInt8),(97:UInt8),(108:UInt8),(108:UInt8),(101:UInt8),(110:UInt8),(103:UInt8),(101:UInt8),(34:UInt8),(58:UInt8),(34:UInt8),(45:UInt8),(95:UInt8),(56:UInt8),(34:UInt8),(44:UInt8),(34:UInt8)] [(111:UInt8),(114:UInt8),(105:UInt8),(103:UInt8),(105:UInt8),(110:UInt8),(34:UInt8),(58:UInt8),(34:UInt8),(104:UInt8),(116:UInt8),(116:UInt8),(112:UInt8),(115:UInt8),(58:UInt8),(47:UInt8),(47:UInt8),(97:UInt8),(46:UInt8),(98:UInt8),(34:UInt8),(44:UInt8),(34:UInt8),(99:UInt8),(114:UInt8),(111:UInt8),(115:UInt8),(115:UInt8),(79:UInt8),(114:UInt8),(105:UInt8),(103:UInt8),(105:UInt8),(110:UInt8),(34:UInt8),(58:UInt8),(102:UInt8),(97:UInt8),(108:UInt8),(115:UInt8),(101:UInt8),(125:UInt8)]))).data)=true:=by kernel_rfl
 have b3:decide (0+2*1<=List.length [PV.sc (.int .u8 251),PV.sc (.int .u8 255)])=true:=rfl;have b4:List.take (2*1) (List.drop 0 [PV.sc (.int .u8 251),PV.sc (.int .u8 255)])=[PV.sc (.int .u8 251),PV.sc (.int .u8 255)]:=rfl;simp only[Dg,h18,h19,b1,b2,b3,b4,h20]
theorem JG:∀{l:List Int},C8 l->EG (Bk .u8 l)=some l
 |[],_=>rfl
 |n::l,h=>by
  obtain⟨hn,hl⟩:=Bm h;show (bif decide (0<=n)&&decide (n<=255) then (EG (Bk .u8 l)).map (n :: ·) else none)=_
  rw[JG hl,dT hn.1,dT hn.2];rfl
theorem Al5 {l:List Int}{p:Option (List PV->Option Ay)} {z:Bool}(hB:C8 l)(hl:l.length<=100000):Ae (CP p) prog fu (d+1) 12 [.lst z 1 l.length (Bk .u8 l)]=some ⟨[.sc (.string (Ab (Es l)))],[]⟩:=by
 have e:Ae (CP p) prog fu (d+1) 12 [.lst z 1 l.length (Bk .u8 l)]=Adm [.lst z 1 l.length (Bk .u8 l)]:=rfl;rw[e];unfold Adm
 have h1:(Nat.beq (Bk .u8 l).length l.length&&Nat.ble l.length 100000000)=true:=by
  rw[Dh,Nat.beq_refl,Nat.ble_eq_true_of_le (by omega)]
  rfl
 simp only[h1,cond_true,JG hB]
end
end
section
open Go.Proofs.Tryd (prog)
open Go.IntKind (wrap)
set_option maxRecDepth 100000
abbrev L8:FuncId:=9
theorem Uj {p:Option (List PV->Option Ay)} (fu d Vl:Nat)(a0:List PV):Ae (CP p) prog fu (d+1) L8 [.lst false 1 Vl a0]=(fun (call:Ax)=>some (Ay.mk [.pbox [.lst false 1 Vl a0,.sc (.int .i64 0)]] [])) (Ae (CP p) prog fu d):=by kernel_rfl
abbrev Ma:FuncId:=23
theorem Ub {p:Option (List PV->Option Ay)} (fu d:Nat)(a0 a1:Int):Ae (CP p) prog fu (d+1) Ma [.sc (.int .i64 a0),.sc (.int .i64 a1)]=(fun (call:Ax)=>Ac (wrap .u64 a0) fun x1=>Ac (wrap .u64 a1) fun x2=>Be (decide (x2≠0))<|Ac (Int.tmod x1 x2) fun x3=>Ac (wrap .i64 x3) fun x4=>some (Ay.mk [.sc (.int .i64 x4)] [])) (Ae (CP p) prog fu d):=by kernel_rfl
abbrev Hi:FuncId:=11
theorem Hh {p:Option (List PV->Option Ay)} (fu d Y4:Nat)(B1:List PV)(Bu a1:Int):Ae (CP p) prog fu (d+1) Hi [.pbox [.lst false 1 Y4 B1,.sc (.int .i64 Bu)],.sc (.int .i64 a1)]=(fun (call:Ax)=>Bf (decide (Bu>=(↑Y4:Int))) (some (Ay.mk [.sc (.int .i64 0)] [[.lst false 1 Y4 B1,.sc (.int .i64 Bu)]])) (Ac (wrap .i64 (Bu+1)) fun x1=>Ac (wrap .i64 (x1-1)) fun x2=>Be (decide (0<=x2)&&decide (x2<(↑Y4:Int)))<|Ak .i64 (List.getD B1 (Int.toNat x2*1) .top) fun x3=>Ah (call 23 [.sc (.int .i64 x3),.sc (.int .i64 a1)]) fun x4 x5=>Ad x5<|Aa x4 fun x6 x7=>Ak .i64 x6 fun x8=>Ad x7<|some (Ay.mk [.sc (.int .i64 x8)] [[.lst false 1 Y4 B1,.sc (.int .i64 x1)]]))) (Ae (CP p) prog fu d):=by kernel_rfl
abbrev Mh:FuncId:=30
theorem Mi {p:Option (List PV->Option Ay)} (fu d:Nat)(a0:Int):Ae (CP p) prog fu (d+1) Mh [.sc (.int .i64 a0)]=(fun (call:Ax)=>Ah (call 23 [.sc (.int .i64 a0),.sc (.int .i64 6)]) fun x1 x2=>Ad x2<|Aa x1 fun x3 x4=>Ak .i64 x3 fun x5=>Ad x4<|Be (decide (0<=x5)&&decide (x5<6))<|Az (List.getD [.sc (.string (ByteArray.mk #[104,116,116,112,115,58,47,47,101,120,97,109,112,108,101,46,99,111,109])),.sc (.string (ByteArray.mk #[104,116,116,112,115,58,47,47,108,111,103,105,110,46,101,120,97,109,112,108,101,46,99,111,109])),.sc (.string (ByteArray.mk #[104,116,116,112,115,58,47,47,101,118,105,108,46,116,101,115,116])),.sc (.string (ByteArray.mk #[104,116,116,112,58,47,47,108,111,99,97,108,104,111,115,116,58,56,48,56,48])),.sc (.string (ByteArray.mk #[104,116,116,112,115,58,47,47,98,46,99,111,46,117,107])),.sc (.string (ByteArray.mk #[104,116,116,112,58,47,47,101,120,97,109,112,108,101,46,99,111,109]))] (0+Int.toNat x5*1) .top) fun x6=>some (Ay.mk [.sc (.string x6)] [])) (Ae (CP p) prog fu d):=by kernel_rfl
abbrev Sy:FuncId:=31
theorem Tl {p:Option (List PV->Option Ay)} (fu d:Nat)(a0:Int):Ae (CP p) prog fu (d+1) Sy [.sc (.int .i64 a0)]=(fun (call:Ax)=>Ah (call 23 [.sc (.int .i64 a0),.sc (.int .i64 28)]) fun x1 x2=>Ad x2<|Aa x1 fun x3 x4=>Ak .i64 x3 fun x5=>Ad x4<|Be (decide (0<=x5)&&decide (x5<28))<|Az (List.getD [.sc (.string (ByteArray.mk #[101,120,97,109,112,108,101,46,99,111,109])),.sc (.string (ByteArray.mk #[108,111,103,105,110,46,101,120,97,109,112,108,101,46,99,111,109])),.sc (.string (ByteArray.mk #[97,46,98,46,99,111,46,117,107])),.sc (.string (ByteArray.mk #[98,46,99,111,46,117,107])),.sc (.string (ByteArray.mk #[99,111,46,117,107])),.sc (.string (ByteArray.mk #[117,107])),.sc (.string (ByteArray.mk #[120,46,121,46,99,107])),.sc (.string (ByteArray.mk #[119,119,119,46,99,107])),.sc (.string (ByteArray.mk #[99,107])),.sc (.string (ByteArray.mk #[108,111,99,97,108,104,111,115,116])),.sc (.string (ByteArray.mk #[101,118,105,108,46,116,101,115,116])),.sc (.string (ByteArray.mk #[101,120,97,109,112,108,101,46,99,111,109,46,101,118,105,108,46,116,101,115,116])),.sc (.string (ByteArray.mk #[97,46,108,111,103,105,110,46,101,120,97,109,112,108,101,46,99,111,109])),.sc (.string (ByteArray.mk #[120,97,109,112,108,101,46,99,111,109])),.sc (.string (ByteArray.mk #[121,46,99,107])),.sc (.string (ByteArray.mk #[122,46,120,46,121,46,99,107])),.sc (.string (ByteArray.mk #[103,105,116,104,117,98,46,105,111])),.sc (.string (ByteArray.mk #[109,101,46,103,105,116,104,117,98,46,105,111])),.sc (.string (ByteArray.mk #[121,111,117,46,103,105,116,104,117,98,46,105,111])),.sc (.string (ByteArray.mk #[105,111])),.sc (.string (ByteArray.mk #[49,46,50,46,51,46,52])),.sc (.string (ByteArray.mk #[])),.sc (.string (ByteArray.mk #[97,46,46,98])),.sc (.string (ByteArray.mk #[69,120,97,109,112,108,101,46,99,111,109])),.sc (.string (ByteArray.mk #[45,97,46,99,111,109])),.sc (.string (ByteArray.mk #[97,46,99,111,109,46])),.sc (.string (ByteArray.mk #[97,45,98,46,99,49])),.sc (.string (ByteArray.mk #[99,49]))] (0+Int.toNat x5*1) .top) fun x6=>some (Ay.mk [.sc (.string x6)] [])) (Ae (CP p) prog fu d):=by kernel_rfl
abbrev Jf:FuncId:=17
theorem Je {p:Option (List PV->Option Ay)} (fu d Y4:Nat)(B1:List PV)(Bu:Int):Ae (CP p) prog fu (d+1) Jf [.pbox [.lst false 1 Y4 B1,.sc (.int .i64 Bu)]]=(fun (call:Ax)=>Ah (call 11 [.pbox [.lst false 1 Y4 B1,.sc (.int .i64 Bu)],.sc (.int .i64 6)]) fun x1 x2=>Aa x1 fun x3 x4=>Ak .i64 x3 fun x5=>Ad x4<|Aa x2 fun x6 x7=>Aa x6 fun x8 x9=>Ke 1 x8 fun F9 M8 Nw=>Aa x9 fun Fv Ks=>Ak .i64 Fv fun Oa=>Ad Ks<|Ad x7<|Be (decide (0<=x5)&&decide (x5<6))<|Ak .i64 (List.getD [.sc (.int .i64 1),.sc (.int .i64 2),.sc (.int .i64 2),.sc (.int .i64 1),.sc (.int .i64 0),.sc (.int .i64 3)] (0+Int.toNat x5*1) .top) fun Ka=>Ah (call 11 [.pbox [.lst false 1 M8 Nw,.sc (.int .i64 Oa)],.sc (.int .i64 9)]) fun Km Nl=>Aa Km fun Lg Mv=>Ak .i64 Lg fun Mu=>Ad Mv<|Aa Nl fun Ov Lv=>Aa Ov fun Ly Mr=>Ke 1 Ly fun Oh O3 Pd=>Aa Mr fun N4 Pr=>Ak .i64 N4 fun Pq=>Ad Pr<|Ad Lv<|Ah (call 11 [.pbox [.lst false 1 O3 Pd,.sc (.int .i64 Pq)],.sc (.int .i64 7)]) fun Qo Q1=>Aa Qo fun Qu Ry=>Ak .i64 Qu fun Q8=>Ad Ry<|Aa Q1 fun Tm Ud=>Aa Tm fun Q5 EJ=>Ke 1 Q5 fun EU Ps Pe=>Aa EJ fun AN Y7=>Ak .i64 AN fun EN=>Ad Y7<|Ad Ud<|Be (decide (0<=Q8)&&decide (Q8<7))<|Ak .i64 (List.getD [.sc (.int .i64 16),.sc (.int .i64 1),.sc (.int .i64 64),.sc (.int .i64 2),.sc (.int .i64 3),.sc (.int .i64 0),.sc (.int .i64 65)] (0+Int.toNat Q8*1) .top) fun AH=>Ah (call 29 [.sc (.int .i64 Mu),.sc (.int .i64 AH)]) fun CH Zd=>Ad Zd<|Aa CH fun Za Z4=>FE 1 Za fun M3 Q7=>Ad Z4<|Ah (call 11 [.pbox [.lst false 1 Ps Pe,.sc (.int .i64 EN)],.sc (.int .i64 6)]) fun Zm FI=>Aa Zm fun FD FA=>Ak .i64 FD fun EV=>Ad FA<|Aa FI fun ET FB=>Aa ET fun FN MT=>Ke 1 FN fun UF OS MK=>Aa MT fun OV MJ=>Ak .i64 OV fun RM=>Ad MJ<|Ad FB<|Ah (call 30 [.sc (.int .i64 EV)]) fun RZ MS=>Ad MS<|Aa RZ fun MW LR=>Az MW fun HL=>Ad LR<|Ah (call 11 [.pbox [.lst false 1 OS MK,.sc (.int .i64 RM)],.sc (.int .i64 3)]) fun MO NB=>Aa MO fun SS UD=>Ak .i64 SS fun RX=>Ad UD<|Aa NB fun UT LQ=>Aa UT fun RU VW=>Ke 1 RU fun YC PH RN=>Aa VW fun XF SJ=>Ak .i64 XF fun ML=>Ad SJ<|Ad LQ<|Bf (RX==2) (Ah (call 11 [.pbox [.lst false 1 PH RN,.sc (.int .i64 ML)],.sc (.int .i64 6)]) fun RR TE=>Aa RR fun RW RV=>Ak .i64 RW fun TL=>Ad RV<|Aa TE fun RQ VO=>Aa RQ fun YK PU=>Ke 1 YK fun UL VZ Qa=>Aa PU fun Tg Ru=>Ak .i64 Tg fun Tk=>Ad Ru<|Ad VO<|Ah (call 30 [.sc (.int .i64 TL)]) fun Tb Mz=>Ad Mz<|Aa Tb fun R6 Rs=>Az R6 fun V3=>Ad Rs<|Ah (call 11 [.pbox [.lst false 1 VZ Qa,.sc (.int .i64 Tk)],.sc (.int .i64 12)]) fun Ws Ts=>Aa Ws fun Xh Zg=>Ak .i64 Xh fun Uw=>Ad Zg<|Aa Ts fun Ww Zr=>Aa Ww fun Wg Wj=>Ke 1 Wg fun Wc R1 Rt=>Aa Wj fun Wa X8=>Ak .i64 Wa fun Sw=>Ad X8<|Ad Zr<|Bf (Uw==10) (Ah (call 11 [.pbox [.lst false 1 R1 Rt,.sc (.int .i64 Sw)],.sc (.int .i64 28)]) fun Wl X7=>Aa Wl fun Uo U5=>Ak .i64 Uo fun Tx=>Ad U5<|Aa X7 fun Rz Vi=>Aa Rz fun Wo Xj=>Ke 1 Wo fun Wp Xp V9=>Aa Xj fun X5 Wb=>Ak .i64 X5 fun Z1=>Ad Wb<|Ad Vi<|Ah (call 31 [.sc (.int .i64 Tx)]) fun Xf Wt=>Ad Wt<|Aa Xf fun Zh Wv=>Az Zh fun Rm=>Ad Wv<|Be (decide (8+ByteArray.size Rm<=9223372036854775807))<|Ac (ByteArray.mk #[104,116,116,112,115,58,47,47]++Rm) fun Te=>Be (decide (ByteArray.size Te+1<=9223372036854775807))<|Ac (Te++ByteArray.mk #[47]) fun Wq=>Be (decide (M3*1<=Q7.length))<|some (Ay.mk [.agg [.sc (.int .i64 Ka),.own 1 M3 (List.take (M3*1) Q7),.sc (.string Wq),.sc (.bool true),.sc (.string V3)]] [[.lst false 1 Xp V9,.sc (.int .i64 Z1)]])) (Bf (Uw==11) (Ah (call 11 [.pbox [.lst false 1 R1 Rt,.sc (.int .i64 Sw)],.sc (.int .i64 6)]) fun U6 Vj=>Aa U6 fun Vb Zp=>Ak .i64 Vb fun Zq=>Ad Zp<|Aa Vj fun KE JU=>Aa KE fun EH KX=>Ke 1 EH fun LG GA TH=>Aa KX fun UU WA=>Ak .i64 UU fun TM=>Ad WA<|Ad JU<|Ah (call 30 [.sc (.int .i64 Zq)]) fun Aau VU=>Ad VU<|Aa Aau fun PD SQ=>Az PD fun UW=>Ad SQ<|Be (decide (M3*1<=Q7.length))<|some (Ay.mk [.agg [.sc (.int .i64 Ka),.own 1 M3 (List.take (M3*1) Q7),.sc (.string HL),.sc (.bool true),.sc (.string UW)]] [[.lst false 1 GA TH,.sc (.int .i64 TM)]])) (Be (decide (M3*1<=Q7.length))<|some (Ay.mk [.agg [.sc (.int .i64 Ka),.own 1 M3 (List.take (M3*1) Q7),.sc (.string HL),.sc (.bool true),.sc (.string V3)]] [[.lst false 1 R1 Rt,.sc (.int .i64 Sw)]])))) (Ah (call 11 [.pbox [.lst false 1 PH RN,.sc (.int .i64 ML)],.sc (.int .i64 12)]) fun QN Abo=>Aa QN fun WB VB=>Ak .i64 WB fun NG=>Ad VB<|Aa Abo fun VD SF=>Aa VD fun SN VF=>Ke 1 SN fun ZT GG MH=>Aa VF fun TQ QF=>Ak .i64 TQ fun LF=>Ad QF<|Ad SF<|Bf (NG==10) (Ah (call 11 [.pbox [.lst false 1 GG MH,.sc (.int .i64 LF)],.sc (.int .i64 28)]) fun VN TO=>Aa VN fun TU TJ=>Ak .i64 TU fun WI=>Ad TJ<|Aa TO fun VQ TG=>Aa VQ fun TN OI=>Ke 1 TN fun Abx VJ NO=>Aa OI fun SV US=>Ak .i64 SV fun TV=>Ad US<|Ad TG<|Ah (call 31 [.sc (.int .i64 WI)]) fun UR Afn=>Ad Afn<|Aa UR fun Adj Af2=>Az Adj fun Abg=>Ad Af2<|Be (decide (8+ByteArray.size Abg<=9223372036854775807))<|Ac (ByteArray.mk #[104,116,116,112,115,58,47,47]++Abg) fun ZG=>Be (decide (ByteArray.size ZG+1<=9223372036854775807))<|Ac (ZG++ByteArray.mk #[47]) fun Aa5=>Be (decide (M3*1<=Q7.length))<|some (Ay.mk [.agg [.sc (.int .i64 Ka),.own 1 M3 (List.take (M3*1) Q7),.sc (.string Aa5),.sc (.bool false),.sc (.string (ByteArray.mk #[]))]] [[.lst false 1 VJ NO,.sc (.int .i64 TV)]])) (Bf (NG==11) (Ah (call 11 [.pbox [.lst false 1 GG MH,.sc (.int .i64 LF)],.sc (.int .i64 6)]) fun Adb Adh=>Aa Adb fun VL Adf=>Ak .i64 VL fun Ad8=>Ad Adf<|Aa Adh fun Aap Af3=>Aa Aap fun Aen Agx=>Ke 1 Aen fun Ahp Acy Add=>Aa Agx fun Acw Aed=>Ak .i64 Acw fun Aej=>Ad Aed<|Ad Af3<|Ah (call 30 [.sc (.int .i64 Ad8)]) fun ZF Ael=>Ad Ael<|Aa ZF fun Agh ZQ=>Az Agh fun Afi=>Ad ZQ<|Be (decide (M3*1<=Q7.length))<|some (Ay.mk [.agg [.sc (.int .i64 Ka),.own 1 M3 (List.take (M3*1) Q7),.sc (.string HL),.sc (.bool false),.sc (.string Afi)]] [[.lst false 1 Acy Add,.sc (.int .i64 Aej)]])) (Be (decide (M3*1<=Q7.length))<|some (Ay.mk [.agg [.sc (.int .i64 Ka),.own 1 M3 (List.take (M3*1) Q7),.sc (.string HL),.sc (.bool false),.sc (.string (ByteArray.mk #[]))]] [[.lst false 1 GG MH,.sc (.int .i64 LF)]]))))) (Ae (CP p) prog fu d):=by kernel_rfl
abbrev Hf:FuncId:=6
noncomputable def D1 (fu:Nat)(call:Ax)(Vl:Nat)(a0:List PV)(a1n:Nat)(a1:List PV)(nn y0:Nat)(y1:List PV)(y2 y3:ByteArray)(y4 y5:Int)(y6:Nat)(y7:ByteArray)(y8:Bool)(y9:ByteArray)(y10:List PV):Option Ay:=H9 CB prog fu call 6 Tryd.f6 (F1 Tryd.f6) [.lst false 1 Vl a0,.lst false 1 a1n a1] [.r,.r,.r,.r,.r,.l,.r,.l] nn ⟨lk [(1,(.lst false 1 y0 y1)),(5,(.ptr 5 0)),(6,(.sc (.string y2))),(8,(.sc (.string y3))),(9,(.sc (.int .i64 y4)))],Jt [(5,(.st [(.sc (.int .i64 y5)),(.view 171 1 0 y6),(.sc (.string y7)),(.sc (.bool y8)),(.sc (.string y9))])),(171,(.ar false y10))]⟩
theorem Gk (fu:Nat)(call:Ax)(Vl:Nat)(a0:List PV)(a1n:Nat)(a1:List PV)(nn y0:Nat)(y1:List PV)(y2 y3:ByteArray)(y4 y5:Int)(y6:Nat)(y7:ByteArray)(y8:Bool)(y9:ByteArray)(y10:List PV):D1 fu call Vl a0 a1n a1 (nn+1) y0 y1 y2 y3 y4 y5 y6 y7 y8 y9 y10=(Bf (decide (y4<(↑y0:Int))) (Bf (decide (y4<20)) (Be (decide (0<=y4)&&decide (y4<(↑y0:Int)))<|Ak .u8 (List.getD y1 (Int.toNat y4*1) .top) fun EV=>Ac (Int.tmod EV 4) fun ET=>Be (decide (0<=ET))<|Do ((Array.toList (ByteArray.data (ByteArray.mk #[32,9,10,13])))[Int.toNat ET]?) fun FB=>Be (decide (ByteArray.size y3+ByteArray.size (ByteArray.mk (List.toArray ((fun x=>Nat.toUInt8 (Int.toNat (↑(UInt8.toNat FB):Int))::x) [])))<=9223372036854775807))<|Ac (y3++ByteArray.mk (List.toArray ((fun x=>Nat.toUInt8 (Int.toNat (↑(UInt8.toNat FB):Int))::x) []))) fun FN=>Ac (wrap .i64 (y4+1)) fun MT=>D1 fu call Vl a0 a1n a1 (nn) (y0) (y1) (y2) FN MT (y5) (y6) (y7) (y8) (y9) (y10)) (Ah (call 19 [.sc (.string y2)]) fun UF OS=>Ad OS<|Aa UF fun MK OV=>E3 MK fun MJ=>Aa MJ fun RM RZ=>Ak .i64 RM fun MS=>Aa RZ fun MW LR=>Ke 1 MW fun HL MO NB=>Aa LR fun SS UD=>Az SS fun RX=>Aa UD fun UT LQ=>Ao UT fun RU=>Aa LQ fun VW YC=>Az VW fun PH=>Ad YC<|Aa OV fun RN XF=>Ak .i64 RN fun SJ=>Ad XF<|Be (decide (ByteArray.size y3+ByteArray.size y2<=9223372036854775807))<|Ac (y3++y2) fun ML=>Be (decide (ByteArray.size ML+ByteArray.size y3<=9223372036854775807))<|Ac (ML++y3) fun RR=>Ah (call 19 [.sc (.string RR)]) fun TE RW=>Ad RW<|Aa TE fun RV TL=>E3 RV fun RQ=>Aa RQ fun VO YK=>Ak .i64 VO fun PU=>Aa YK fun UL VZ=>Ke 1 UL fun Qa Tg Ru=>Aa VZ fun Tk Tb=>Az Tk fun Mz=>Aa Tb fun R6 Rs=>Ao R6 fun V3=>Aa Rs fun Ws Ts=>Az Ws fun Xh=>Ad Ts<|Aa TL fun Zg Uw=>Ak .i64 Zg fun Ww=>Ad Uw<|Bf (SJ==0) (Bf (Ww==0) (Bf (decide ((↑(ByteArray.size y2):Int)<=1024)) (Be (decide (0+y6*1<=y10.length))<|Ah (call 20 [.agg [.sc (.int .i64 y5),.lst false 1 y6 (List.take (y6*1) (List.drop 0 y10)),.sc (.string y7),.sc (.bool y8),.sc (.string y9)],.agg [.sc (.int .i64 MS),.lst false 1 MO NB,.sc (.string RX),.sc (.bool RU),.sc (.string PH)]]) fun Zr Wg=>Ad Wg<|Aa Zr fun Wj Wc=>Ao Wj fun R1=>Ad Wc<|Bf R1 (Be (decide (0+y6*1<=y10.length))<|Ah (call 20 [.agg [.sc (.int .i64 y5),.lst false 1 y6 (List.take (y6*1) (List.drop 0 y10)),.sc (.string y7),.sc (.bool y8),.sc (.string y9)],.agg [.sc (.int .i64 PU),.lst false 1 Tg Ru,.sc (.string Mz),.sc (.bool V3),.sc (.string Xh)]]) fun Rt Wa=>Ad Wa<|Aa Rt fun X8 Sw=>Ao X8 fun Wl=>Ad Sw<|Bf Wl (Ah (call 8 []) fun X7 Uo=>Ad Uo<|Aa X7 fun U5 Tx=>Ao U5 fun Rz=>Ad Tx<|some (Ay.mk [.sc (.bool Rz)] [])) (some (Ay.mk [.sc (.bool false)] []))) (some (Ay.mk [.sc (.bool false)] []))) (some (Ay.mk [.sc (.bool false)] []))) (some (Ay.mk [.sc (.bool false)] []))) (some (Ay.mk [.sc (.bool false)] [])))) (Ah (call 19 [.sc (.string y2)]) fun Vi Wo=>Ad Wo<|Aa Vi fun Xj Wp=>E3 Xj fun Xp=>Aa Xp fun V9 X5=>Ak .i64 V9 fun Wb=>Aa X5 fun Z1 Xf=>Ke 1 Z1 fun Wt Zh Wv=>Aa Xf fun Rm Te=>Az Rm fun Wq=>Aa Te fun U6 Vj=>Ao U6 fun Vb=>Aa Vj fun Zp Zq=>Az Zp fun KE=>Ad Zq<|Aa Wp fun JU EH=>Ak .i64 JU fun KX=>Ad EH<|Be (decide (ByteArray.size y3+ByteArray.size y2<=9223372036854775807))<|Ac (y3++y2) fun LG=>Be (decide (ByteArray.size LG+ByteArray.size y3<=9223372036854775807))<|Ac (LG++y3) fun GA=>Ah (call 19 [.sc (.string GA)]) fun TH UU=>Ad UU<|Aa TH fun WA TM=>E3 WA fun Aau=>Aa Aau fun VU PD=>Ak .i64 VU fun SQ=>Aa PD fun UW QN=>Ke 1 UW fun Abo WB VB=>Aa QN fun NG VD=>Az NG fun SF=>Aa VD fun SN VF=>Ao SN fun ZT=>Aa VF fun GG MH=>Az GG fun TQ=>Ad MH<|Aa TM fun QF LF=>Ak .i64 QF fun VN=>Ad LF<|Bf (KX==0) (Bf (VN==0) (Bf (decide ((↑(ByteArray.size y2):Int)<=1024)) (Be (decide (0+y6*1<=y10.length))<|Ah (call 20 [.agg [.sc (.int .i64 y5),.lst false 1 y6 (List.take (y6*1) (List.drop 0 y10)),.sc (.string y7),.sc (.bool y8),.sc (.string y9)],.agg [.sc (.int .i64 Wb),.lst false 1 Zh Wv,.sc (.string Wq),.sc (.bool Vb),.sc (.string KE)]]) fun TO TU=>Ad TU<|Aa TO fun TJ WI=>Ao TJ fun VQ=>Ad WI<|Bf VQ (Be (decide (0+y6*1<=y10.length))<|Ah (call 20 [.agg [.sc (.int .i64 y5),.lst false 1 y6 (List.take (y6*1) (List.drop 0 y10)),.sc (.string y7),.sc (.bool y8),.sc (.string y9)],.agg [.sc (.int .i64 SQ),.lst false 1 WB VB,.sc (.string SF),.sc (.bool ZT),.sc (.string TQ)]]) fun TG TN=>Ad TN<|Aa TG fun OI Abx=>Ao OI fun VJ=>Ad Abx<|Bf VJ (Ah (call 8 []) fun NO SV=>Ad SV<|Aa NO fun US TV=>Ao US fun UR=>Ad TV<|some (Ay.mk [.sc (.bool UR)] [])) (some (Ay.mk [.sc (.bool false)] []))) (some (Ay.mk [.sc (.bool false)] []))) (some (Ay.mk [.sc (.bool false)] []))) (some (Ay.mk [.sc (.bool false)] []))) (some (Ay.mk [.sc (.bool false)] [])))):=by kernel_rfl
theorem Nd {p:Option (List PV->Option Ay)} (fu d Vl:Nat)(a0:List PV)(a1n:Nat)(a1:List PV):Ae (CP p) prog fu (d+1) Hf [.lst false 1 Vl a0,.lst false 1 a1n a1]=(fun (call:Ax)=>Ah (call 9 [.lst false 1 Vl a0]) fun x1 x2=>Ad x2<|Aa x1 fun x3 x4=>Si x3 fun x5=>Aa x5 fun x6 x7=>Ke 1 x6 fun x8 x9 F9=>Aa x7 fun M8 Nw=>Ak .i64 M8 fun Fv=>Ad Nw<|Ad x4<|Ah (call 17 [.pbox [.lst false 1 x9 F9,.sc (.int .i64 Fv)]]) fun Ks Oa=>Aa Ks fun Ka Km=>E3 Ka fun Nl=>Aa Nl fun Lg Mv=>Ak .i64 Lg fun Mu=>Aa Mv fun Ov Lv=>FE 1 Ov fun Ly Mr=>Aa Lv fun Oh O3=>Az Oh fun Pd=>Aa O3 fun N4 Pr=>Ao N4 fun Pq=>Aa Pr fun Qo Q1=>Az Qo fun Qu=>Ad Q1<|Ad Km<|Aa Oa fun Ry Q8=>Aa Ry fun Tm Ud=>Ke 1 Tm fun Q5 EJ EU=>Aa Ud fun Ps Pe=>Ak .i64 Ps fun AN=>Ad Pe<|Ad Q8<|Be (decide (0+Ly*1<=Mr.length))<|Ah (call 18 [.agg [.sc (.int .i64 Mu),.lst false 1 Ly (List.take (Ly*1) (List.drop 0 Mr)),.sc (.string Pd),.sc (.bool Pq),.sc (.string Qu)]]) fun Y7 EN=>Ad EN<|Aa Y7 fun AH CH=>Az AH fun Zd=>Aa CH fun Za Z4=>Ak .i64 Za fun M3=>Ad Z4<|Bf (M3 != 0) (Ah (call 8 []) fun Q7 Zm=>Ad Zm<|Aa Q7 fun FI FD=>Ao FI fun FA=>Ad FD<|some (Ay.mk [.sc (.bool FA)] [])) (D1 fu call Vl a0 a1n a1 (fu) (a1n) (a1) Zd (ByteArray.mk #[]) 0 Mu Ly Pd Pq Qu Mr)) (Ae (CP p) prog fu d):=by kernel_rfl
end
section
open Go.Proofs.Tryd (prog)
open Go.IntKind (wrap)
abbrev MX (l:List Int)(a:Nat):List PV:=[.lst false 1 l.length (Bk .i64 l),.sc (.int .i64 (a:Int))]
section
variable {fu d:Nat} {p:Option (List PV->Option Ay)}
theorem Ay4 {l:List Int}:Ae (CP p) prog fu (d+1) L8 [.lst false 1 l.length (Bk .i64 l)]=some ⟨[.pbox (MX l 0)],[]⟩:=by
 rw[Uj];rfl
theorem Amq (v n:Int)(hn:0<n)(hm:n<=9223372036854775807):∃r,0<=r∧r<n∧∀{fu d:Nat}{p:Option (List PV->Option Ay)},Ae (CP p) prog fu (d+1) Ma [.sc (.int .i64 v),.sc (.int .i64 n)]=some ⟨[.sc (.int .i64 r)],[]⟩:=by
 have h1:=CC v;have h2:wrap .u64 n=n:=I4 (by omega) (by omega)
 have h3:0<=Int.tmod (wrap .u64 v) n:=Int.tmod_nonneg _ h1.1;have h4:Int.tmod (wrap .u64 v) n<n:=Int.tmod_lt_of_pos _ hn;refine⟨_,h3,h4,fun {fu d p}=>?_⟩
 rw[Ub];simp only[Lk,h2];rw[LS _ _ (by omega),Bd (by omega) (by omega)]
theorem Oy {l:List Int}(hl:l.length<=maxLen)(a:Nat)(n:Int)(hn:0<n)(hm:n<=9223372036854775807):∃(v:Int)(a':Nat),0<=v∧v<n ∧
  ∀{fu d:Nat} {p:Option (List PV->Option Ay)},Ae (CP p) prog fu (d+2) Hi [.pbox (MX l a),.sc (.int .i64 n)]=some ⟨[.sc (.int .i64 v)],[MX l a']⟩:=by
 simp only[maxLen] at hl;by_cases h:a<l.length
 ·obtain⟨r,h1,h2,h3⟩:=Amq l[a] n hn hm;refine⟨r,a+1,h1,h2,fun {fu d p}=>?_⟩
  rw[Hh]
  have hg:(Bk .i64 l).getD (Int.toNat ((a:Int)+1-1)*1) .top=.sc (.int .i64 l[a]):=by
   have:=ati (k:=.i64) (List.getElem?_eq_getElem h);rw[show Int.toNat ((a:Int)+1-1)*1=a by omega]
   exact this
  simp (disch:=omega) only[Dg,Bd,hg,h3];rfl
 ·refine⟨0,a,by omega,hn,fun {fu d p}=>?_⟩
  rw[Hh];simp (disch:=omega) only[Dg]
end
end
section
open Go.IntKind (wrap)
set_option maxRecDepth 100000
section
variable {fu d:Nat} {p:Option (List PV->Option Ay)}
theorem Ae1 (l:List UInt8):(l==l)=true:=by simp
theorem A2v {l:List Int}(h:∀x∈l,(Lit.int .u8 x).wf=true):C8 l:=by
 intro x hx;have:=h x hx;simp[Lit.wf,IntKind.min,IntKind.max,IntKind.signed,IntKind.bits] at this;omega
end
section
variable {fu:Nat}
end
end
section
open Go.IntKind (wrap)
set_option maxRecDepth 100000
theorem Acg {a b:List Int}(ha:C8 a)(hb:C8 b):(Array.toList (Ab a).data==Array.toList (Ab b).data)=decide (a=b):=by
 rw[Bool.eq_iff_iff,beq_iff_eq,decide_eq_true_iff];constructor
 ·intro h
  have h2:Ab a=Ab b:=by
   cases hx:Ab a;cases hy:Ab b;rw[hx,hy] at h;exact congrArg ByteArray.mk (Array.toList_inj.1 h)
  have h3:=congrArg E4 h2
  rwa [Ck ha,Ck hb] at h3
 ·rintro rfl;rfl
section
variable {fu d:Nat} {p:Option (List PV->Option Ay)}
end
end
section
open Go.Proofs.Tryd (prog)
open Go.IntKind (wrap)
set_option maxRecDepth 100000
def V4:List Int:=[123,34,116,121,112,101,34,58,34]
def V5:List Int:=[34,44,34,99,104,97,108,108,101,110,103,101,34,58,34]
def AM:List Int:=[34,44,34,111,114,105,103,105,110,34,58,34]
def fA4:List Int:=[34,44,34,99,114,111,115,115,79,114,105,103,105,110,34,58,102,97,108,115,101,125]
def fA5:List Int:=[34,44,34,99,114,111,115,115,79,114,105,103,105,110,34,58,116,114,117,101,44,34,116,111,112,79,114,105,103,105,110,34,58,34]
def fA6:List Int:=[34,125]
theorem Mf:(ByteArray.mk #[(123:UInt8),(34:UInt8),(116:UInt8),(121:UInt8),(112:UInt8),(101:UInt8),(34:UInt8),(58:UInt8),(34:UInt8)])=Ab V4:=rfl
theorem Ms:(ByteArray.mk #[(34:UInt8),(44:UInt8),(34:UInt8),(99:UInt8),(104:UInt8),(97:UInt8),(108:UInt8),(108:UInt8),(101:UInt8),(110:UInt8),(103:UInt8),(101:UInt8),(34:UInt8),(58:UInt8),(34:UInt8)])=Ab V5:=rfl
theorem Mt:(ByteArray.mk #[(34:UInt8),(44:UInt8),(34:UInt8),(111:UInt8),(114:UInt8),(105:UInt8),(103:UInt8),(105:UInt8),(110:UInt8),(34:UInt8),(58:UInt8),(34:UInt8)])=Ab AM:=rfl
theorem Afh:(ByteArray.mk #[(34:UInt8),(44:UInt8),(34:UInt8),(99:UInt8),(114:UInt8),(111:UInt8),(115:UInt8),(115:UInt8),(79:UInt8),(114:UInt8),(105:UInt8),(103:UInt8),(105:UInt8),(110:UInt8),(34:UInt8),(58:UInt8),(102:UInt8),(97:UInt8),(108:UInt8),(115:UInt8),(101:UInt8),(125:UInt8)])=Ab fA4:=rfl
theorem Pz:(ByteArray.mk #[(34:UInt8),(44:UInt8),(34:UInt8),(99:UInt8),(114:UInt8),(111:UInt8),(115:UInt8),(115:UInt8),(79:UInt8),(114:UInt8),(105:UInt8),(103:UInt8),(105:UInt8),(110:UInt8),(34:UInt8),(58:UInt8),(116:UInt8),(114:UInt8),(117:UInt8),(101:UInt8),(44:UInt8),(34:UInt8),(116:UInt8),(111:UInt8),(112:UInt8),(79:UInt8),(114:UInt8),(105:UInt8),(103:UInt8),(105:UInt8),(110:UInt8),(34:UInt8),(58:UInt8),(34:UInt8)])=Ab fA5:=rfl
theorem P8:(ByteArray.mk #[(34:UInt8),(125:UInt8)])=Ab fA6:=rfl
theorem T8:(ByteArray.mk #[(112:UInt8),(97:UInt8),(115:UInt8),(115:UInt8),(107:UInt8),(101:UInt8),(121:UInt8),(46:UInt8),(99:UInt8),(114:UInt8),(101:UInt8),(97:UInt8),(116:UInt8),(101:UInt8)])=Ab FM:=rfl
theorem Vr:(ByteArray.mk #[(112:UInt8),(97:UInt8),(115:UInt8),(115:UInt8),(107:UInt8),(101:UInt8),(121:UInt8),(46:UInt8),(103:UInt8),(101:UInt8),(116:UInt8)])=Ab FT:=rfl
theorem H1:(ByteArray.mk #[])=Ab []:=rfl
theorem A3k:C8 []:=fun x hx=>by cases hx
def tyS (k:Int):Option (List Int):=if k=1 then some FM else if k=2 then some FT else none
def fmH (ty ch o:List Int):List Int:=V4++ty++V5++Es ch++AM++o
def GB (k:Int)(ch o t:List Int)(x:Bool):JR (List Int):=
 match tyS k with
 |none=>.error 3
 |some ty=>if ch.length<1∨64<ch.length then .error 9 else if D3 o≠0 then .error (D3 o)
  else if x=false then (if t=[] then .ok (fmH ty ch o++fA4) else .error 4)
  else if D3 t≠0 then .error (D3 t) else .ok (fmH ty ch o++fA5++t++fA6)
def Axn (r:JR (List Int)):Ay:=match r with | .ok s=>⟨[.sc (.string (Ab s)),.sc (.int .i64 0)],[]⟩ | .error e=>⟨[.sc (.string (Ab [])),.sc (.int .i64 e)],[]⟩
section
variable {fu d:Nat} {p:Option (List PV->Option Ay)}
abbrev cdA (k:Int)(ch o t:List Int)(x:Bool):PV:=.agg [.sc (.int .i64 k),.lst false 1 ch.length (Bk .u8 ch),.sc (.string (Ab o)),.sc (.bool x),.sc (.string (Ab t))]
theorem nn0 (e:Int)(h:e≠0):(e != 0)=true:=by simp[h]
set_option maxHeartbeats 4000000 in
theorem Af6 {k:Int}{ch o t:List Int}{x:Bool}(LM:C8 ch)(ho:C8 o)(ht:C8 t)(Jg:ch.length<=100000)(hol:o.length<=1000000)(htl:t.length<=1000000)(E9:2000<=fu):
  Ae (CP p) prog fu (d+8) 18 [cdA k ch o t x]=some (Axn (GB k ch o t x)):=by
 have er:=J1 (p:=p) fu (d+7) k ch.length (Bk .u8 ch) (Ab o) x (Ab t);refine er.trans ?_;obtain⟨o1,o2,o3,eo⟩:=WX (fu:=fu) (d:=d) (p:=p) ho hol (by omega)
 obtain⟨t1,t2,t3,et⟩:=WX (fu:=fu) (d:=d) (p:=p) ht htl (by omega)
 have eo:Ae (CP p) prog fu (d+7) 32 [.sc (.string (Ab o))]=_:=eo;have et:Ae (CP p) prog fu (d+7) 32 [.sc (.string (Ab t))]=_:=et;have ee:Ae (CP p) prog fu (d+7) 12 [.lst false 1 ch.length (Bk .u8 ch)]=_:=Al5 (fu:=fu) (d:=d+6) (p:=p) (z:=false) LM Jg;have hel:=LX ch;have z0:((0:Int) != 0)=false:=rfl;have tq:(Array.toList (Ab t).data==[])=decide (t=[]):=Acg (b:=[]) ht A3k;unfold GB tyS;by_cases Dm:k=1
 ·subst Dm;have k1:((1:Int)==1)=true:=rfl;rw[Dw rfl];simp only;have c1:decide (38+(Es ch).length<=9223372036854775807)=true:=dT (by omega)
  have c2:decide ((V4++FM++V5++Es ch).length+12<=9223372036854775807)=true:=dT (by simp[V4,V5,FM];omega)
  have c3:decide ((V4++FM++V5++Es ch++AM).length+o.length<=9223372036854775807)=true:=dT (by simp[V4,V5,AM,FM];omega)
  have c4:decide ((V4++FM++V5++Es ch++AM++o).length+22<=9223372036854775807)=true:=dT (by simp[V4,V5,AM,FM];omega)
  have c5:decide ((V4++FM++V5++Es ch++AM++o).length+34<=9223372036854775807)=true:=dT (by simp[V4,V5,AM,FM];omega)
  have c6:decide ((V4++FM++V5++Es ch++AM++o++fA5).length+t.length<=9223372036854775807)=true:=dT (by simp[V4,V5,AM,fA5,FM];omega)
  have c7:decide ((V4++FM++V5++Es ch++AM++o++fA5++t).length+2<=9223372036854775807)=true:=dT (by simp[V4,V5,AM,fA5,FM];omega)
  by_cases h1:ch.length<1
  ·have a1:=dT (q:=((ch.length:Nat):Int)<1) (by omega)
   rw[Dw (.inl h1)];simp only[Dg,k1,a1,H1];rfl
  have a1:=dF (q:=((ch.length:Nat):Int)<1) (by omega)
  by_cases h2:64<ch.length
  ·have a2:=dT (q:=((ch.length:Nat):Int)>64) (by omega)
   rw[Dw (.inr h2)];simp only[Dg,k1,a1,a2,H1];rfl
  have a2:=dF (q:=((ch.length:Nat):Int)>64) (by omega)
  rw[Cr (by omega)]
  by_cases hoE:D3 o=0
  rotate_left
  ·have a3:=nn0 _ hoE;rw[Dw hoE];simp only[Dg,k1,a1,a2,eo,a3,H1];rfl
  rw[Cr (by simp[hoE])]
  rw[hoE] at eo;cases x with
  |false=>
   rw[Dw rfl];by_cases FL:t=[]
   ·rw[dT FL] at tq;rw[Dw FL];simp only[Dg,k1,a1,a2,eo,z0,H1,tq,C6,Ds,ee,Aj,Mf,T8,Ms,Mt,Afh,Da,c1,c2,c3,c4];rfl
   ·rw[dF FL] at tq;rw[Cr FL];simp only[Dg,k1,a1,a2,eo,z0,H1,tq,C6,Ds];rfl
  |true=>
   rw[Cr (by decide)]
   by_cases htE:D3 t=0
   ·rw[htE] at et;rw[Cr (by simp[htE])]
    by_cases FL:t=[]
    ·rw[dT FL] at tq;simp only[Dg,k1,a1,a2,eo,et,z0,H1,tq,C6,Ds,ee,Aj,Mf,T8,Ms,Mt,Pz,P8,Da,c1,c2,c3,c5,c6,c7];rfl
    ·rw[dF FL] at tq;simp only[Dg,k1,a1,a2,eo,et,z0,H1,tq,C6,Ds,ee,Aj,Mf,T8,Ms,Mt,Pz,P8,Da,c1,c2,c3,c5,c6,c7];rfl
   ·have a4:=nn0 _ htE;rw[Dw htE];by_cases FL:t=[]
    ·rw[dT FL] at tq;simp only[Dg,k1,a1,a2,eo,et,z0,a4,H1,tq,C6,Ds,ee,Aj,Mf,T8,Ms,Mt,Pz,P8,Da,c1,c2,c3,c5,c6,c7];rfl
    ·rw[dF FL] at tq;simp only[Dg,k1,a1,a2,eo,et,z0,a4,H1,tq,C6,Ds,ee,Aj,Mf,T8,Ms,Mt,Pz,P8,Da,c1,c2,c3,c5,c6,c7];rfl
 have k1:(k==1)=false:=by simp[Dm]
 by_cases D8:k=2
 ·subst D8;have k2:((2:Int)==2)=true:=rfl;rw[Cr (by decide),Dw rfl]
  simp only;have c1:decide (35+(Es ch).length<=9223372036854775807)=true:=dT (by omega)
  have c2:decide ((V4++FT++V5++Es ch).length+12<=9223372036854775807)=true:=dT (by simp[V4,V5,FT];omega)
  have c3:decide ((V4++FT++V5++Es ch++AM).length+o.length<=9223372036854775807)=true:=dT (by simp[V4,V5,AM,FT];omega)
  have c4:decide ((V4++FT++V5++Es ch++AM++o).length+22<=9223372036854775807)=true:=dT (by simp[V4,V5,AM,FT];omega)
  have c5:decide ((V4++FT++V5++Es ch++AM++o).length+34<=9223372036854775807)=true:=dT (by simp[V4,V5,AM,FT];omega)
  have c6:decide ((V4++FT++V5++Es ch++AM++o++fA5).length+t.length<=9223372036854775807)=true:=dT (by simp[V4,V5,AM,fA5,FT];omega)
  have c7:decide ((V4++FT++V5++Es ch++AM++o++fA5++t).length+2<=9223372036854775807)=true:=dT (by simp[V4,V5,AM,fA5,FT];omega)
  by_cases h1:ch.length<1
  ·have a1:=dT (q:=((ch.length:Nat):Int)<1) (by omega)
   rw[Dw (.inl h1)];simp only[Dg,k1,k2,a1,H1];rfl
  have a1:=dF (q:=((ch.length:Nat):Int)<1) (by omega)
  by_cases h2:64<ch.length
  ·have a2:=dT (q:=((ch.length:Nat):Int)>64) (by omega)
   rw[Dw (.inr h2)];simp only[Dg,k1,k2,a1,a2,H1];rfl
  have a2:=dF (q:=((ch.length:Nat):Int)>64) (by omega)
  rw[Cr (by omega)]
  by_cases hoE:D3 o=0
  rotate_left
  ·have a3:=nn0 _ hoE;rw[Dw hoE];simp only[Dg,k1,k2,a1,a2,eo,a3,H1];rfl
  rw[Cr (by simp[hoE])]
  rw[hoE] at eo;cases x with
  |false=>
   rw[Dw rfl];by_cases FL:t=[]
   ·rw[dT FL] at tq;rw[Dw FL];simp only[Dg,k1,k2,a1,a2,eo,z0,H1,tq,C6,Ds,ee,Aj,Mf,Vr,Ms,Mt,Afh,Da,c1,c2,c3,c4];rfl
   ·rw[dF FL] at tq;rw[Cr FL];simp only[Dg,k1,k2,a1,a2,eo,z0,H1,tq,C6,Ds];rfl
  |true=>
   rw[Cr (by decide)]
   by_cases htE:D3 t=0
   ·rw[htE] at et;rw[Cr (by simp[htE])]
    by_cases FL:t=[]
    ·rw[dT FL] at tq;simp only[Dg,k1,k2,a1,a2,eo,et,z0,H1,tq,C6,Ds,ee,Aj,Mf,Vr,Ms,Mt,Pz,P8,Da,c1,c2,c3,c5,c6,c7];rfl
    ·rw[dF FL] at tq;simp only[Dg,k1,k2,a1,a2,eo,et,z0,H1,tq,C6,Ds,ee,Aj,Mf,Vr,Ms,Mt,Pz,P8,Da,c1,c2,c3,c5,c6,c7];rfl
   ·have a4:=nn0 _ htE;rw[Dw htE];by_cases FL:t=[]
    ·rw[dT FL] at tq;simp only[Dg,k1,k2,a1,a2,eo,et,z0,a4,H1,tq,C6,Ds,ee,Aj,Mf,Vr,Ms,Mt,Pz,P8,Da,c1,c2,c3,c5,c6,c7];rfl
    ·rw[dF FL] at tq;simp only[Dg,k1,k2,a1,a2,eo,et,z0,a4,H1,tq,C6,Ds,ee,Aj,Mf,Vr,Ms,Mt,Pz,P8,Da,c1,c2,c3,c5,c6,c7];rfl
 have k2:(k==2)=false:=by simp[D8]
 rw[Cr Dm,Cr D8];simp only[Dg,k1,k2,H1];rfl
theorem Ada {k:Int}{ty:List Int}(h:tyS k=some ty):C8 ty∧ty≠[]∧ty.length<=14:=by
 unfold tyS at h;split at h
 ·cases h;exact⟨fun x hx=>by simp[FM] at hx;omega,by decide,by decide⟩
 split at h
 ·cases h;exact⟨fun x hx=>by simp[FT] at hx;omega,by decide,by decide⟩
 ·cases h
end
end
section
open Go.Proofs.Tryd (prog)
open Go.IntKind (wrap)
set_option maxRecDepth 100000
abbrev I8:FuncId:=43
noncomputable def Ep (fu:Nat)(call:Ax)(a0 a1 a2:Int)(nn:Nat)(y0 y1 y2:Int)(y3:Nat)(y4:Int)(y5:List PV):Option Ay:=H9 CB prog fu call 43 Tryd.f43 (F1 Tryd.f43) [.sc (.int .u64 a0),.sc (.int .u64 a1),.sc (.int .i64 a2)] [.r,.r,.r,.l,.r,.l] nn ⟨lk [(0,(.sc (.int .u64 y0))),(1,(.sc (.int .u64 y1))),(2,(.sc (.int .i64 y2))),(7,(.view 7 1 0 y3)),(8,(.sc (.int .i64 y4)))],Jt [(7,(.ar false y5))]⟩
theorem Fd (fu:Nat)(call:Ax)(a0 a1 a2:Int)(nn:Nat)(y0 y1 y2:Int)(y3:Nat)(y4:Int)(y5:List PV):Ep fu call a0 a1 a2 (nn+1) y0 y1 y2 y3 y4 y5=(Bf (decide ((↑y3:Int)<y2)) (Ac (wrap .u64 y4) fun x3=>Ah (call 60 [.lst false 1 2 [.sc (.int .u64 y1),.sc (.int .u64 x3)]]) fun x4 x5=>Ad x5<|Aa x4 fun x6 x7=>FE 1 x6 fun x8 x9=>Ad x7<|Be (decide (0+x8*1<=x9.length))<|Ah (call 61 [.sc (.int .u64 y0),.sc (.int .i64 5),.lst false 1 x8 (List.take (x8*1) (List.drop 0 x9))]) fun F9 M8=>Ad M8<|Aa F9 fun Nw Fv=>Ak .u64 Nw fun Ks=>Ad Fv<|Ah (call 60 [.lst false 1 1 [.sc (.int .u64 Ks)]]) fun Oa Ka=>Ad Ka<|Aa Oa fun Km Nl=>FE 1 Km fun Lg Mv=>Ad Nl<|Be (decide (0+Lg*1<=Mv.length))<|Be (decide (y3*1<=y5.length)&&decide (List.length (List.take (Lg*1) (List.drop 0 Mv))=Lg*1)&&decide ((y3+Lg)*1<=1099511627776)&&decide (y3+Lg<=1099511627776))<|Ac (y3+Lg) fun Mu=>Ac (List.take (y3*1) y5++List.take (Lg*1) (List.drop 0 Mv)) fun Ov=>Ac (wrap .i64 (y4+1)) fun Lv=>Ep fu call a0 a1 a2 (nn) (y0) (y1) (y2) Mu Lv Ov) (Be (decide (0<=y2))<|Be (decide (Int.toNat y2<=y3))<|Ac (Int.toNat y2-0) fun Ly=>Be (decide (Ly*1<=y5.length))<|some (Ay.mk [.own 1 Ly (List.take (Ly*1) y5)] []))):=by kernel_rfl
theorem Qn {p:Option (List PV->Option Ay)} (fu d:Nat)(a0 a1 a2:Int):Ae (CP p) prog fu (d+1) I8 [.sc (.int .u64 a0),.sc (.int .u64 a1),.sc (.int .i64 a2)]=(fun (call:Ax)=>Ac (if a2<0 then 0 else a2) fun x1=>Ac (if 1024<x1 then 1024 else x1) fun x2=>Ep fu call a0 a1 a2 (fu) (a0) (a1) x2 0 0 ([])) (Ae (CP p) prog fu d):=by kernel_rfl
abbrev J4:FuncId:=29
theorem R2 {p:Option (List PV->Option Ay)} (fu d:Nat)(a0 a1:Int):Ae (CP p) prog fu (d+1) J4 [.sc (.int .i64 a0),.sc (.int .i64 a1)]=(fun (call:Ax)=>Ac (wrap .u64 a0) fun x1=>Ac (wrap .u64 (x1+1)) fun x2=>Ac (if 1024<a1 then 1024 else a1) fun x3=>Ac (if x3<0 then 0 else x3) fun x4=>Ah (call 43 [.sc (.int .u64 x2),.sc (.int .u64 7),.sc (.int .i64 x4)]) fun x5 x6=>Ad x6<|Aa x5 fun x7 x8=>FE 1 x7 fun x9 F9=>Ad x8<|Be (decide (x9*1<=F9.length))<|some (Ay.mk [.own 1 x9 (List.take (x9*1) F9)] [])) (Ae (CP p) prog fu d):=by kernel_rfl
end
section
open Go.Proofs.Tryd (prog)
open Go.IntKind (wrap)
set_option maxRecDepth 100000
section
variable {fu d:Nat} {p:Option (List PV->Option Ay)}
theorem A0f (E9:1000<=fu)(w:Int):Ae (CP p) prog fu (d+1) E5 [.lst false 1 1 [.sc (.int .u64 w)]]=some ⟨[.own 1 8 (Bk .u8 (Nf w))],[]⟩:=by
 have:=JK (xs:=NU p) (fu:=fu) (d:=d) (ws:=[w]) (by simp) (by omega) (by simp;omega)
 simp only[Fq,List.flatMap_cons,List.flatMap_nil,List.append_nil,LB,List.length_nil,Ig] at this;exact this
theorem Akh (E9:1000<=fu){a0 a1 a2:Int}{key nonce:Int}{n:Nat}(hn:n<=1024):∀(k nn:Nat)(i:Int)(l:List Int),n<=l.length+8*k->k<nn->C8 l->l.length<=2000 ->
  0<=i->i+k<=100000->∃r,C8 r∧r.length=n∧Ep fu (Ae (CP p) prog fu (d+4)) a0 a1 a2 nn key nonce (n:Int) l.length i (Bk .u8 l)=some ⟨[.own 1 n (Bk .u8 r)],[]⟩:=by
 intro k
 induction k with
 |zero=>
  intro nn i l h1 h2 hb hl i0 i1;obtain⟨m,rfl⟩:∃m,nn=m+1:=⟨nn-1,by omega⟩
  refine⟨l.take n,hb.take n,by rw[List.length_take];omega,?_⟩
  have L:=Dh .u8 l;have nt:Int.toNat (n:Int)=n:=O8 _;rw[Fd]
  try unfold Ac
  repeat first
   |((with_reducible first|apply A1|apply As|apply A5|apply A2|apply Aeo|apply Ac5|apply At|apply A3|apply A4);· first|with_reducible rfl|(simp (disch:=omega) only[gT,L,nt,Nat.sub_zero,HD,Kq]<;>first|with_reducible rfl|omega)|omega)
   |(with_reducible apply A0;· first|with_reducible rfl|(simp (disch:=omega) only[gF,L,nt,Nat.sub_zero,HD,Kq]<;>omega))
  try simp (disch:=omega) only[L,nt,Nat.sub_zero,HD,Kq]
 |succ k ih=>
  intro nn i l h1 h2 hb hl i0 i1;obtain⟨m,rfl⟩:∃m,nn=m+1:=⟨nn-1,by omega⟩
  have L:=Dh .u8 l;have nt:Int.toNat (n:Int)=n:=O8 _;by_cases B5:l.length<n
  rotate_left
  ·refine⟨l.take n,hb.take n,by rw[List.length_take];omega,?_⟩
   rw[Fd]
   try unfold Ac
   repeat first
    |((with_reducible first|apply A1|apply As|apply A5|apply A2|apply Aeo|apply Ac5|apply At|apply A3|apply A4);· first|with_reducible rfl|(simp (disch:=omega) only[gT,L,nt,Nat.sub_zero,HD,Kq]<;>first|with_reducible rfl|omega)|omega)
    |(with_reducible apply A0;· first|with_reducible rfl|(simp (disch:=omega) only[gF,L,nt,Nat.sub_zero,HD,Kq]<;>omega))
   try simp (disch:=omega) only[L,nt,Nat.sub_zero,HD,Kq]
  have w1:wrap .u64 i=i:=I4 (by omega) (by omega)
  have w2:wrap .i64 (i+1)=i+1:=Bd (by omega) (by omega)
  have wd:Ae (CP p) prog fu (d+4) E5 [.lst false 1 2 [.sc (.int .u64 nonce),.sc (.int .u64 i)]]=some ⟨[.own 1 (Fq [nonce,i]).length (Bk .u8 (Fq [nonce,i]))],[]⟩:=JK (xs:=NU p) (ws:=[nonce,i]) (by simp) (by omega) (by simp;omega)
  have mc:=Ahx (xs:=NU p) (fu:=fu) (d:=d) (l:=Fq [nonce,i]) (Af1 _) (by rw[BQ];simp) (by omega) (by rw[BQ];simp;omega) key 5
  have L2:=Dh .u8 (Fq [nonce,i]);have t2:=tki .u8 (Fq [nonce,i]);generalize Atk key 5 (Fq [nonce,i])=q at mc;have ow:=A0f (fu:=fu) (d:=d+3) (p:=p) E9 q;have Lq:(Bk .u8 (Nf q)).length=8:=by rw[Dh,Ig]
  have tq:List.take 8 (Bk .u8 (Nf q))=Bk .u8 (Nf q):=Zzf (by omega)
  have tl:=tki .u8 l;have ea:Bk .u8 l++Bk .u8 (Nf q)=Bk .u8 (l++Nf q):=by rw[Bk,Bk,Bk,List.flatMap_append]
  obtain⟨r,r1,r2,r3⟩:=ih m (i+1) (l++Nf q) (by rw[Zzg,Ig];omega) (by omega) (Ih hb (XG q)) (by rw[Zzg,Ig];omega) (by omega) (by omega)
  refine⟨r,r1,r2,?_⟩;rw[Zzg,Ig] at r3;rw[←r3,Fd];generalize Fq [nonce,i]=W at *
  generalize W.length=wn at *
  try unfold Ac
  repeat first
   |((with_reducible first|apply A1|apply As|apply A5|apply A2|apply Aeo|apply Ac5|apply At|apply A3|apply A4);· first|with_reducible rfl|(simp (disch:=omega) only[gT,w1,w2,wd,Zze,Zzd,HD,L,L2,t2,mc,ow,Lq,tq,tl,ea]<;>first|with_reducible rfl|omega)|omega)
   |(with_reducible apply A0;· first|with_reducible rfl|(simp (disch:=omega) only[gF,w1,w2,wd,Zze,Zzd,HD,L,L2,t2,mc,ow,Lq,tq,tl,ea]<;>omega))
  try simp (disch:=omega) only[w1,w2,wd,Zze,Zzd,HD,L,L2,t2,mc,ow,Lq,tq,tl,ea]
  all_goals rfl
theorem Ant (E9:1000<=fu)(seed:Int){n:Nat}(hn:n<=1024):∃r,C8 r∧r.length=n∧Ae (CP p) prog fu (d+6) J4 [.sc (.int .i64 seed),.sc (.int .i64 n)]=some ⟨[.own 1 n (Bk .u8 r)],[]⟩:=by
 obtain⟨r,r1,r2,r3⟩:=Akh (fu:=fu) (d:=d) (p:=p) E9 (a0:=wrap .u64 (wrap .u64 seed+1)) (a1:=7) (a2:=n) (key:=wrap .u64 (wrap .u64 seed+1)) (nonce:=7) hn 128 fu 0 [] (by omega) (by omega) (by intro x hx;cases hx) (by simp) (by omega) (by omega)
 refine⟨r,r1,r2,?_⟩
 have e:Ae (CP p) prog fu (d+5) I8 [.sc (.int .u64 (wrap .u64 (wrap .u64 seed+1))),.sc (.int .u64 7),.sc (.int .i64 n)]=some ⟨[.own 1 n (Bk .u8 r)],[]⟩:=by
  rw[Qn];have f1:(if (n:Int)<0 then (0:Int) else (n:Int))=n:=Cr (by omega)
  have f2:(if (1024:Int)<(n:Int) then (1024:Int) else (n:Int))=n:=Cr (by omega)
  simp only[Lk,f1,f2];exact r3
 have f1:(if (n:Int)<0 then (0:Int) else (n:Int))=n:=Cr (by omega)
 have f2:(if (1024:Int)<(n:Int) then (1024:Int) else (n:Int))=n:=Cr (by omega)
 have L:=Dh .u8 r;have t:List.take n (Bk .u8 r)=Bk .u8 r:=by rw[←r2];exact tki .u8 r
 rw[R2];simp (disch:=omega) only[Dg,f1,f2,e,HD,L,t]
def Ale (q:PV):Bool:=match q with | .sc (.string s)=>Nat.ble s.size 40|_=>false
def Aks (q:PV):Bool:=match q with | .sc (.int .i64 n)=>decide (0<=n)&&decide (n<=100)|_=>false
theorem Alt {L:List PV}{i:Nat}{K:ByteArray->Option Ay}{X:Option Ay}(e:X=Az (List.getD L i PV.top) K) (hL:L.all Ale=true)(hi:i<L.length):∃s:ByteArray,s.size<=40∧X=K s:=by
 have hm:=List.all_eq_true.1 hL (L[i]'hi) (List.getElem_mem hi);rw[List.getD_eq_getElem?_getD,List.getElem?_eq_getElem hi,Option.getD_some] at e;generalize L[i]'hi=q at hm e;unfold Ale at hm;split at hm
 ·rename_i s;exact⟨s,Nat.le_of_ble_eq_true hm,e⟩
 ·cases hm
theorem Aln {L:List PV}{i:Nat}{K:Int->Option Ay}{X:Option Ay}(e:X=Ak .i64 (List.getD L i PV.top) K) (hL:L.all Aks=true)(hi:i<L.length):∃n:Int,0<=n∧n<=100∧X=K n:=by
 have hm:=List.all_eq_true.1 hL (L[i]'hi) (List.getElem_mem hi);rw[List.getD_eq_getElem?_getD,List.getElem?_eq_getElem hi,Option.getD_some] at e;generalize L[i]'hi=q at hm e;unfold Aks at hm;split at hm
 ·rename_i n;rw[Bool.and_eq_true,decide_eq_true_iff,decide_eq_true_iff] at hm;exact⟨n,hm.1,hm.2,e.trans (EL .i64 n K)⟩
 ·cases hm
theorem otD (v:Int):∃s:ByteArray,s.size<=40∧Ae (CP p) prog fu (d+2) 30 [.sc (.int .i64 v)]=some ⟨[.sc (.string s)],[]⟩:=by
 obtain⟨r,h0,h1,hm⟩:=Amq v 6 (by omega) (by omega)
 have hm:Ae (CP p) prog fu (d+1) 23 [.sc (.int .i64 v),.sc (.int .i64 6)]=_:=hm;have e:=Mi (p:=p) fu (d+1) v;have a1:=dT (q:=(0:Int)<=r) h0;have a2:=dT (q:=r<6) h1;simp only[Dg,hm,a1,a2] at e;obtain⟨s,hs,h⟩:=Alt e (by kernel_rfl) (by show 0+Int.toNat r*1<6;omega)
 exact⟨s,hs,h⟩
theorem Akn (v:Int):∃s:ByteArray,s.size<=40∧Ae (CP p) prog fu (d+2) 31 [.sc (.int .i64 v)]=some ⟨[.sc (.string s)],[]⟩:=by
 obtain⟨r,h0,h1,hm⟩:=Amq v 28 (by omega) (by omega)
 have hm:Ae (CP p) prog fu (d+1) 23 [.sc (.int .i64 v),.sc (.int .i64 28)]=_:=hm;have e:=Tl (p:=p) fu (d+1) v;have a1:=dT (q:=(0:Int)<=r) h0;have a2:=dT (q:=r<28) h1;simp only[Dg,hm,a1,a2] at e;obtain⟨s,hs,h⟩:=Alt e (by kernel_rfl) (by show 0+Int.toNat r*1<28;omega)
 exact⟨s,hs,h⟩
set_option maxHeartbeats 2000000 in
theorem Aog {l:List Int}(hl:l.length<=maxLen)(a:Nat)(E9:1000<=fu):∃(k:Int)(ch:List Int)(o t:ByteArray)(x:Bool)(a':Nat),C8 ch∧ch.length<=100∧o.size<=100∧t.size<=100 ∧
  Ae (CP p) prog fu (d+7) 17 [.pbox (MX l a)]=some ⟨[.agg [.sc (.int .i64 k),.own 1 ch.length (Bk .u8 ch),.sc (.string o),.sc (.bool x),.sc (.string t)]],[MX l a']⟩:=by
 have e:=Je (p:=p) fu (d+6) l.length (Bk .i64 l) (a:Int);obtain⟨v1,a1,p1,q1,n1⟩:=Oy hl a 6 (by omega) (by omega)
 have n1:Ae (CP p) prog fu (d+6) 11 [.pbox (MX l a),.sc (.int .i64 6)]=_:=n1 (fu:=fu) (d:=d+4) (p:=p);simp only[Dg,n1,dT p1,dT q1] at e;obtain⟨k,k0,k1,e⟩:=Aln e (by kernel_rfl) (by show 0+Int.toNat v1*1<6;omega)
 obtain⟨v2,a2,p2,q2,n2⟩:=Oy hl a1 9 (by omega) (by omega)
 have n2:Ae (CP p) prog fu (d+6) 11 [.pbox (MX l a1),.sc (.int .i64 9)]=_:=n2 (fu:=fu) (d:=d+4) (p:=p);obtain⟨v3,a3,p3,q3,n3⟩:=Oy hl a2 7 (by omega) (by omega)
 have n3:Ae (CP p) prog fu (d+6) 11 [.pbox (MX l a2),.sc (.int .i64 7)]=_:=n3 (fu:=fu) (d:=d+4) (p:=p);simp only[Dg,n2,n3,dT p3,dT q3] at e;obtain⟨m,m0,m1,e⟩:=Aln e (by kernel_rfl) (by show 0+Int.toNat v3*1<7;omega)
 obtain⟨m,rfl⟩:=Int.eq_ofNat_of_zero_le m0;obtain⟨ch,LM,Jg,eb⟩:=Ant (fu:=fu) (d:=d) (p:=p) E9 v2 (n:=m) (by omega)
 have eb:Ae (CP p) prog fu (d+6) 29 [.sc (.int .i64 v2),.sc (.int .i64 ((m:Nat):Int))]=_:=eb;obtain⟨v4,a4,p4,q4,n4⟩:=Oy hl a3 6 (by omega) (by omega)
 have n4:Ae (CP p) prog fu (d+6) 11 [.pbox (MX l a3),.sc (.int .i64 6)]=_:=n4 (fu:=fu) (d:=d+4) (p:=p);obtain⟨o,ho,eo⟩:=otD (fu:=fu) (d:=d+4) (p:=p) v4;obtain⟨v5,a5,p5,q5,n5⟩:=Oy hl a4 3 (by omega) (by omega)
 have n5:Ae (CP p) prog fu (d+6) 11 [.pbox (MX l a4),.sc (.int .i64 3)]=_:=n5 (fu:=fu) (d:=d+4) (p:=p);subst Jg;have tk:List.take (ch.length*1) (Bk .u8 ch)=Bk .u8 ch:=Zzf (by rw[Dh];omega)
 have tl:decide (ch.length*1<=List.length (Bk .u8 ch))=true:=by rw[Dh];simp
 have big:∀h:ByteArray,h.size<=40->decide (8+h.size<=9223372036854775807)=true∧decide ((ByteArray.mk #[(104:UInt8),(116:UInt8),(116:UInt8),(112:UInt8),(115:UInt8),(58:UInt8),(47:UInt8),(47:UInt8)]++h).size+1<=9223372036854775807)=true∧(ByteArray.mk #[(104:UInt8),(116:UInt8),(116:UInt8),(112:UInt8),(115:UInt8),(58:UInt8),(47:UInt8),(47:UInt8)]++h++ByteArray.mk #[(47:UInt8)]).size<=100:=by
  intro h hh;have e8:(ByteArray.mk #[(104:UInt8),(116:UInt8),(116:UInt8),(112:UInt8),(115:UInt8),(58:UInt8),(47:UInt8),(47:UInt8)]).size=8:=rfl;have e1:(ByteArray.mk #[(47:UInt8)]).size=1:=rfl;refine⟨dT (by omega),dT (by rw[ByteArray.size_append,e8];omega),by rw[ByteArray.size_append,ByteArray.size_append,e8,e1];omega⟩
 have fin:∀(x:Bool) (t:ByteArray) (b:Nat),t.size<=40->∀(Y:Int->PV->Option Ay),True:=fun _ _ _ _ _=>trivial
 clear fin;by_cases h2:v5=2
 ·have z:(v5==2)=true:=by simp[h2]
  obtain⟨v6,a6,p6,q6,n6⟩:=Oy hl a5 6 (by omega) (by omega)
  have n6:Ae (CP p) prog fu (d+6) 11 [.pbox (MX l a5),.sc (.int .i64 6)]=_:=n6 (fu:=fu) (d:=d+4) (p:=p);obtain⟨t,ht,et⟩:=otD (fu:=fu) (d:=d+4) (p:=p) v6;obtain⟨v7,a7,p7,q7,n7⟩:=Oy hl a6 12 (by omega) (by omega)
  have n7:Ae (CP p) prog fu (d+6) 11 [.pbox (MX l a6),.sc (.int .i64 12)]=_:=n7 (fu:=fu) (d:=d+4) (p:=p);by_cases ZN:v7=10
  ·have z1:(v7==10)=true:=by simp[ZN]
   obtain⟨v8,a8,p8,q8,n8⟩:=Oy hl a7 28 (by omega) (by omega)
   have n8:Ae (CP p) prog fu (d+6) 11 [.pbox (MX l a7),.sc (.int .i64 28)]=_:=n8 (fu:=fu) (d:=d+4) (p:=p);obtain⟨h,hh,eh⟩:=Akn (fu:=fu) (d:=d+4) (p:=p) v8;obtain⟨g1,g2,g3⟩:=big h hh;simp only[Dg,eb,n4,eo,n5,z,n6,et,n7,z1,n8,eh,g1,g2,tl,tk] at e;exact⟨k,ch,_,t,true,a8,LM,by omega,g3,by omega,e⟩
  have z1:(v7==10)=false:=by simp[ZN]
  by_cases h11:v7=11
  ·have z2:(v7==11)=true:=by simp[h11]
   obtain⟨v8,a8,p8,q8,n8⟩:=Oy hl a7 6 (by omega) (by omega)
   have n8:Ae (CP p) prog fu (d+6) 11 [.pbox (MX l a7),.sc (.int .i64 6)]=_:=n8 (fu:=fu) (d:=d+4) (p:=p);obtain⟨t2,ht2,et2⟩:=otD (fu:=fu) (d:=d+4) (p:=p) v8;simp only[Dg,eb,n4,eo,n5,z,n6,et,n7,z1,z2,n8,et2,tl,tk] at e;exact⟨k,ch,o,t2,true,a8,LM,by omega,by omega,by omega,e⟩
  have z2:(v7==11)=false:=by simp[h11]
  simp only[Dg,eb,n4,eo,n5,z,n6,et,n7,z1,z2,tl,tk] at e;exact⟨k,ch,o,t,true,a7,LM,by omega,by omega,by omega,e⟩
 ·have z:(v5==2)=false:=by simp[h2]
  obtain⟨v7,a7,p7,q7,n7⟩:=Oy hl a5 12 (by omega) (by omega)
  have n7:Ae (CP p) prog fu (d+6) 11 [.pbox (MX l a5),.sc (.int .i64 12)]=_:=n7 (fu:=fu) (d:=d+4) (p:=p);by_cases ZN:v7=10
  ·have z1:(v7==10)=true:=by simp[ZN]
   obtain⟨v8,a8,p8,q8,n8⟩:=Oy hl a7 28 (by omega) (by omega)
   have n8:Ae (CP p) prog fu (d+6) 11 [.pbox (MX l a7),.sc (.int .i64 28)]=_:=n8 (fu:=fu) (d:=d+4) (p:=p);obtain⟨h,hh,eh⟩:=Akn (fu:=fu) (d:=d+4) (p:=p) v8;obtain⟨g1,g2,g3⟩:=big h hh;simp only[Dg,eb,n4,eo,n5,z,n7,z1,n8,eh,g1,g2,tl,tk] at e;exact⟨k,ch,_,_,false,a8,LM,by omega,g3,Nat.zero_le _,e⟩
  have z1:(v7==10)=false:=by simp[ZN]
  by_cases h11:v7=11
  ·have z2:(v7==11)=true:=by simp[h11]
   obtain⟨v8,a8,p8,q8,n8⟩:=Oy hl a7 6 (by omega) (by omega)
   have n8:Ae (CP p) prog fu (d+6) 11 [.pbox (MX l a7),.sc (.int .i64 6)]=_:=n8 (fu:=fu) (d:=d+4) (p:=p);obtain⟨t2,ht2,et2⟩:=otD (fu:=fu) (d:=d+4) (p:=p) v8;simp only[Dg,eb,n4,eo,n5,z,n7,z1,z2,n8,et2,tl,tk] at e;exact⟨k,ch,o,t2,false,a8,LM,by omega,by omega,by omega,e⟩
  have z2:(v7==11)=false:=by simp[h11]
  simp only[Dg,eb,n4,eo,n5,z,n7,z1,z2,tl,tk] at e;exact⟨k,ch,o,_,false,a7,LM,by omega,by omega,Nat.zero_le _,e⟩
end
end
section
open Go.IntKind (wrap)
set_option maxRecDepth 100000
def EW (c:Int):Bool:=decide (33<=c)&&decide (c<=126)&&c != 34&&c != 92
theorem V1 {c:Int}:EW c=true↔33<=c∧c<=126∧c≠34∧c≠92:=by
 unfold EW;simp;omega
theorem Yb (c:Int):∀{l:List Int}{x:Int},x∈l->x=c∨∃q∈A6 c l,x∈q
 |a::r,x,hx=>by
  unfold A6;by_cases ha:a=c
  ·rw[Dw ha];rcases List.mem_cons.1 hx with rfl|hx
   ·exact .inl ha
   ·rcases Yb c hx with h|⟨q,hq,h⟩
    ·exact .inl h
    ·exact .inr ⟨q,by simp[hq],h⟩
  ·rw[Cr ha];cases hs:A6 c r with
   |nil=>exact absurd hs (Nv c r)
   |cons b t=>
    rcases List.mem_cons.1 hx with rfl|hx
    ·exact .inr ⟨x::b,by simp,by simp⟩
    ·rcases Yb c hx with h|⟨q,hq,h⟩
     ·exact .inl h
     ·rw[hs] at hq;rcases List.mem_cons.1 hq with rfl|hq
      ·exact .inr ⟨a::q,by simp,by simp[h]⟩
      ·exact .inr ⟨q,by simp[hq],h⟩
theorem TP {l:List Int}(h:Sj l=0):l.all EW=true:=by
 unfold Sj at h;split at h
 ·cases h
 split at h
 ·cases h
 rename_i _ h2
 have h2:(A6 46 l).all Rn=true:=by
  cases hq:(A6 46 l).all Rn
  ·exact absurd hq h2
  ·rfl
 rw[List.all_eq_true];intro x hx;rcases Yb 46 hx with rfl|⟨q,hq,hxq⟩
 ·rfl
 ·have hl:=List.all_eq_true.1 h2 q hq;unfold Rn at hl;rw[Bool.and_eq_true] at hl;have hb:=List.all_eq_true.1 hl.2 x hxq;unfold ltB FO at hb;rw[V1];simp at hb;omega
theorem EB {s:Bool}{r:List Int}(h:HN s r=0):r.all EW=true:=by
 unfold HN at h;simp only at h;by_cases hh:Sj (Bn 58 r)=0
 ·rw[Cr (by simp[hh])] at h
  have hc:=TP hh;by_cases hl:(Bn 58 r).length=r.length
  ·rwa [WM 58 r (by omega)] at hc
  ·rw[Cr hl] at h;split at h
   ·rename_i hp
    have hd:(r.drop ((Bn 58 r).length+1)).all FO=true:=by
     have:=hp.1;unfold Ou at this;rw[Bool.and_eq_true] at this;exact this.2
    have B5:(Bn 58 r).length<r.length:=by have:=MC 58 r;omega
    have Ave:r[(Bn 58 r).length]?=some 58:=by
     obtain⟨c,YN⟩:∃c,r[(Bn 58 r).length]?=some c:=⟨_,List.getElem?_eq_getElem B5⟩
     have e:r.drop (Bn 58 r).length=r.dropWhile (fun x=>x != 58):=by
      have h1:r.takeWhile (fun x=>x != 58)++r.dropWhile (fun x=>x != 58)=r:=List.takeWhile_append_dropWhile
      have h2:=congrArg (List.drop (Bn 58 r).length) h1;have h3:(List.takeWhile (fun x=>x != 58) r++List.dropWhile (fun x=>x != 58) r).drop (Bn 58 r).length=List.dropWhile (fun x=>x != 58) r:=List.drop_left
      rw[←h2];exact h3
     have e2:(r.dropWhile (fun x=>x != 58))[0]?=some c:=by rw[←e,List.getElem?_drop];simpa using YN
     cases hdw:r.dropWhile (fun x=>x != 58) with
     |nil=>rw[hdw] at e2;cases e2
     |cons y t=>
      rw[hdw] at e2;have:y=c:=by simpa using e2
      subst this;have hn:=List.head?_dropWhile_not (fun x:Int=>x != 58) r
      rw[hdw] at hn;simp at hn;rw[YN,hn]
    have e:r=Bn 58 r++58::r.drop ((Bn 58 r).length+1):=by
     have h1:=(List.take_append_drop (Bn 58 r).length r).symm;rw[←Px] at h1;rw[List.getElem?_eq_getElem B5] at Ave;rw[List.drop_eq_getElem_cons B5] at h1;have:r[(Bn 58 r).length]=58:=by simpa using Ave
     rw[this] at h1;exact h1
    rw[e,List.all_append,hc,List.all_cons]
    have:(r.drop ((Bn 58 r).length+1)).all EW=true:=by
     rw[List.all_eq_true] at hd ⊢;intro x hx;have:=(KR x).1 (hd x hx);rw[V1];omega
    rw[this];rfl
   ·cases h
 ·rw[Dw hh] at h;exact absurd h hh
theorem HZ {l:List Int}(h:D3 l=0):l.all EW=true:=by
 unfold D3 at h
 have key:∀w:List Int,w.all EW=true->w.isPrefixOf l=true->(l.drop w.length).all EW=true->l.all EW=true:=by
  intro w hw hp hd;have e:=List.prefix_iff_eq_append.1 (List.isPrefixOf_iff_prefix.1 hp);rw[←e,List.all_append,hw,hd];rfl
 split at h
 ·rename_i hp;exact key _ (by decide) hp (EB h)
 split at h
 ·rename_i hp;exact key _ (by decide) hp (EB h)
 ·cases h
theorem Gr {v:Int}(h0:0<=v)(h1:v<64):EW (F0 v)=true:=by
 rw[V1];unfold F0;split
 ·omega
 split
 ·omega
 split
 ·omega
 split<;>omega
theorem Xr:∀{l:List Int},C8 l->(Es l).all EW=true
 |[],_=>rfl
 |[a],h=>by
  obtain⟨ha,_⟩:=Bm h;unfold Es;rw[List.all_cons,List.all_cons,Gr (by omega) (by omega),Gr (by omega) (by omega)]
  rfl
 |[a,b],h=>by
  obtain⟨ha,h⟩:=Bm h;obtain⟨hb,_⟩:=Bm h;unfold Es;rw[List.all_cons,List.all_cons,List.all_cons,Gr (by omega) (by omega),Gr (by omega) (by omega),Gr (by omega) (by omega)]
  rfl
 |a::b::c::r,h=>by
  obtain⟨ha,h⟩:=Bm h;obtain⟨hb,h⟩:=Bm h;obtain⟨hc,h⟩:=Bm h;have e:Es (a::b::c::r)=F0 (a / 4)::F0 (a % 4*16+b / 16)::F0 (b % 16*4+c / 64)::F0 (c % 64)::Es r:=rfl;rw[e,List.all_cons,List.all_cons,List.all_cons,List.all_cons,Gr (by omega) (by omega),Gr (by omega) (by omega),Gr (by omega) (by omega),Gr (by omega) (by omega),Xr h]
  rfl
theorem AX:∀(s:List Int)(n:Nat)(out r:List Int),s.all EW=true->s.length<n->Hm n out (s++34::r)=(some (out++s),r)
  |[],n,out,r,_,hn=>by
    obtain⟨m,rfl⟩:∃m,n=m+1:=⟨n-1,by simp at hn;omega⟩
    show (if (34:Int)<32 then _ else if (34:Int)=34 then (some out,r) else _)=_
    rw[Cr (by decide),Dw rfl,List.append_nil]
  |c::s,n,out,r,h,hn=>by
    obtain⟨m,rfl⟩:∃m,n=m+1:=⟨n-1,by simp at hn;omega⟩
    rw[List.all_cons,Bool.and_eq_true] at h
    have hc:=V1.1 h.1
    have e:Hm (m+1) out (c::(s++34::r))=if c<32 then (none,c::(s++34::r)) else if c=34 then (some out,s++34::r) else if c=92 then
        (match Lp (s++34::r) with
         |(some x,r')=>Hm m (out++Lib.encodeRuneZ x) r'
         |(none,r')=>(none,r')) else Hm m (out++[c]) (s++34::r):=rfl
    rw[Zzp,e,Cr (by omega),Cr (by omega),Cr (by omega),AX s m (out++[c]) r h.2 (by simp at hn;omega)]
    simp
theorem Yu {s r:List Int}(h:s.all EW=true):Eo (34::(s++34::r))=(some s,r):=by
 have e:Eo (34::(s++34::r))=if (34:Int)=34 then Hm ((s++34::r).length+1) [] (s++34::r) else (none,34::(s++34::r)):=rfl
 rw[e,Dw rfl,AX s _ [] r h (by simp;omega)]
 rfl
def VOk (vt:List Int)(v:JV):Prop:=(∀r,E1 8 (vt++r)=.ok (v,r))∧∃y z,vt=y::z∧Rr y=false
theorem AB {s:List Int}(h:s.all EW=true):VOk (34::(s++[34])) (4,s,false):=by
 refine⟨fun r=>?_,34,_,rfl,rfl⟩
 have e:(34::(s++[34]))++r=34::(s++34::r):=by simp
 rw[e];have e2:E1 8 (34::(s++34::r))=(match Uk (34::(s++34::r)) with|none=>.error 2|some (s,r')=>.ok ((4,s,false),r')):=rfl
 have e3:Uk (34::(s++34::r))=some (s,r):=by unfold Uk;rw[Yu h]
 rw[e2,e3]
theorem Aaw:VOk [102,97,108,115,101] (2,[],false):=⟨fun r=>rfl,102,_,rfl,rfl⟩
theorem Ago:VOk [116,114,117,101] (2,[],true):=⟨fun r=>rfl,116,_,rfl,rfl⟩
theorem Wr {y:Int}{r:List Int}(h:Rr y=false):Bb (y::r)=y::r:=by
 show (if Rr y=true then Bb r else y::r)=_
 rw[Cr (by rw[h];decide)]
def Ld (nm vt:List Int):List Int:=34::(nm++34::58::vt)
theorem Q6 {n:Nat}{ms:List (List Int × JV)} {nm vt:List Int}{v:JV}{c:Int}{rest:List Int}(hn:nm.all EW=true)(hv:VOk vt v)(hd:(ms.any fun m=>m.1==nm)=false) (hc:c=44∨c=125):
  O5 (E1 8) true (n+1) ms (Ld nm vt++c::rest)=if c=125 then .ok (ms++[(nm,v)],rest) else O5 (E1 8) true n (ms++[(nm,v)]) (Bb rest):=by
 obtain⟨hv,y,z,rfl,hy⟩:=hv;have e:Ld nm (y::z)++c::rest=34::(nm++34::(58::(y::z++c::rest))):=by unfold Ld;simp
 have hws:Rr c=false:=by rcases hc with rfl|rfl<;>rfl
 rw[e,Ut,Yu hn];simp only;rw[Bool.true_and,hd,Cr (by decide),Wr (show Rr 58=false from rfl)]
 have e58:Aq [58] (58::(y::z++c::rest))=some (y::z++c::rest):=by rw[D9];rfl
 rw[e58];simp only;rw[Zzp,Wr hy,←Zzp,hv];simp only;rw[Wr hws];rcases hc with rfl|rfl
 ·have e1:Aq [125] (44::rest)=none:=by rw[D9];rfl
  have e2:Aq [44] (44::rest)=some rest:=by rw[D9];rfl
  rw[e1,e2,Cr (by decide)]
 ·have e1:Aq [125] (125::rest)=some rest:=by rw[D9];rfl
  rw[e1,Dw rfl]
def Ann (ty ch o t:List Int)(x:Bool):List (List Int × JV):=
 [(Me,(4,ty,false)),(Pi,(4,Es ch,false)),(QX,(4,o,false)),(QE,(2,[],x))]++(if x=true then [(MY,(4,t,false))] else [])
def wsL (w:List Int):Prop:=w.all Rr=true
theorem VH:∀{w:List Int}(r:List Int),wsL w->Bb (w++r)=Bb r
 |[],_,_=>rfl
 |c::w,r,h=>by
  unfold wsL at h;rw[List.all_cons,Bool.and_eq_true] at h;show (if Rr c=true then Bb (w++r) else _)=_
  rw[Dw h.1];exact VH r h.2
def Fu (ty ch o t:List Int)(x:Bool):List Int:=
 Ld Me (34::(ty++[34]))++44::(Ld Pi (34::(Es ch++[34]))++44::(Ld QX (34::(o++[34]))++44::(Ld QE (if x=true then [116,114,117,101] else [102,97,108,115,101])++(if x=true then 44::(Ld MY (34::(t++[34]))++[125]) else [125]))))
theorem PC {ty ch o t:List Int}{x:Bool}{w:List Int}(hw:wsL w)(hty:ty.all EW=true)(LM:C8 ch)(ho:o.all EW=true)(ht:t.all EW=true):
  NR 8 (w++(123::Fu ty ch o t x)++w)=.ok (Ann ty ch o t x):=by
 have hww:Bb w=[]:=by
  have:=VH (w:=w) [] hw
  rwa [List.append_nil] at this
 have e0:w++(123::Fu ty ch o t x)++w=w++(123::(Fu ty ch o t x++w)):=by simp
 rw[Xm,e0,VH _ hw,Wr (show Rr 123=false from rfl)]
 have e1:Aq [123] (123::(Fu ty ch o t x++w))=some (Fu ty ch o t x++w):=by rw[D9];rfl
 rw[e1];simp only;have eb:Fu ty ch o t x++w=34::((Fu ty ch o t x++w).tail):=by unfold Fu Ld;rfl
 have esk:Bb (Fu ty ch o t x++w)=Fu ty ch o t x++w:=by rw[eb];exact Wr rfl
 have e125:Aq [125] (Fu ty ch o t x++w)=none:=by rw[eb,D9];rfl
 rw[Q4,esk,e125];simp only
 obtain⟨N,hN⟩:∃N,(Fu ty ch o t x++w).length+1=N+5:=⟨(Fu ty ch o t x++w).length-4,by
  have:4<=(Fu ty ch o t x++w).length:=by unfold Fu Ld;simp;omega
  omega⟩
 rw[hN];have skm:∀nm vt r,Bb (Ld nm vt++r)=Ld nm vt++r:=fun nm vt r=>Wr rfl
 have b1:Fu ty ch o t x++w=Ld Me (34::(ty++[34]))++44::(Ld Pi (34::(Es ch++[34]))++44::(Ld QX (34::(o++[34]))++44::(Ld QE (if x=true then [116,114,117,101] else [102,97,108,115,101])++((if x=true then 44::(Ld MY (34::(t++[34]))++[125]) else [125])++w)))):=by
  unfold Fu;simp only[List.append_assoc,Zzp]
 rw[b1,Q6 (by decide) (AB hty) rfl (.inl rfl),Cr (by decide),skm,
  Q6 (by decide) (AB (Xr LM)) rfl (.inl rfl),Cr (by decide),skm,
  Q6 (by decide) (AB ho) rfl (.inl rfl),Cr (by decide),skm]
 cases x with
 |false=>
  rw[Cr (by decide),Cr (by decide),Zzp,List.nil_append,Q6 (by decide) Aaw rfl (.inr rfl),Dw rfl]
  simp only[List.nil_append];rw[Dw hww];rfl
 |true=>
  have es:Ld MY (34::(t++[34]))++[125]++w=Ld MY (34::(t++[34]))++125::w:=by simp
  rw[Dw rfl,Dw rfl,Zzp,es,Q6 (by decide) Ago rfl (.inl rfl),Cr (by decide),skm,
   Q6 (by decide) (AB ht) rfl (.inr rfl),Dw rfl]
  simp only[List.nil_append];rw[Dw hww];rfl
theorem KM {ty ch o t:List Int}{x:Bool}{k:Int}(hk:tyS k=some ty)(LM:C8 ch)(h1:1<=ch.length)(h2:ch.length<=64)(ho:D3 o=0)(ht:x=true->D3 t=0)(hn:x=false->t=[]):
  JJ (Ann ty ch o t x)=.ok (k,ch,o,x,t):=by
 have fin:∀T:JV,Ue k (4,Es ch,false) (4,o,false) (2,[],x) (if x=true then (4,t,false) else (0,[],false))=.ok (k,ch,o,x,t):=by
  intro _;unfold Ue;simp only;rw[WL LM];simp only;rw[Cr (by omega),Cr (by simp[ho])]
  cases x with
  |false=>rw[hn rfl];simp
  |true=>simp[ht rfl]
 have hg:JJ (Ann ty ch o t x)=G8 (4,ty,false) (4,Es ch,false) (4,o,false) (2,[],x) (if x=true then (4,t,false) else (0,[],false)):=by
  cases x<;>rfl
 rw[hg];unfold G8;rw[Cr (by simp),Cr (by simp),Cr (by cases x<;>simp)]
 unfold tyS at hk;split at hk
 ·rename_i h;cases hk;subst h
  simp only;rw[Dw trivial];exact fin (0,[],false)
 split at hk
 ·rename_i h;cases hk;subst h
  simp only;rw[Cr (by decide),Dw trivial]
  exact fin (0,[],false)
 ·cases hk
theorem PY {k:Int}{ch o t s:List Int}{x:Bool}(h:GB k ch o t x=.ok s):∃ty,tyS k=some ty∧s=123::Fu ty ch o t x∧1<=ch.length∧ch.length<=64∧D3 o=0∧(x=true->D3 t=0)∧(x=false->t=[]):=by
 unfold GB at h;cases hk:tyS k with
 |none=>rw[hk] at h;cases h
 |some ty=>
  rw[hk] at h;simp only at h;split at h
  ·cases h
  rename_i hl;split at h
  ·cases h
  rename_i ho
  have ho:D3 o=0:=by
   by_cases q:D3 o=0
   ·exact q
   ·exact absurd q ho
  cases x with
  |false=>
   rw[Dw rfl] at h;split at h
   ·rename_i ht;cases h;refine⟨ty,rfl,?_,by omega,by omega,ho,(fun h=>by cases h),fun _=>ht⟩
    unfold fmH Fu Ld V4 V5 AM fA4 Me Pi QX QE;simp
   ·cases h
  |true=>
   rw[Cr (by decide)] at h
   split at h
   ·cases h
   ·rename_i ht;cases h
    have ht:D3 t=0:=by
     by_cases q:D3 t=0
     ·exact q
     ·exact absurd q ht
    refine⟨ty,rfl,?_,by omega,by omega,ho,fun _=>ht,(fun h=>by cases h)⟩
    unfold fmH Fu Ld V4 V5 AM fA5 fA6 Me Pi QX QE MY;simp
theorem PB {l:List Int}(h:∀x∈l,0<=x∧x<128):Lib.validD (Ab l).data.toList=true:=by
 have e:(Ab l).data.toList=l.map fun n=>n.toNat.toUInt8:=rfl
 rw[e,Lib.validD_ascii (l.map fun n=>n.toNat.toUInt8).length _ (fun b hb=>by
  have hb:=List.mem_of_mem_take hb;obtain⟨n,hn,rfl⟩:=List.mem_map.1 hb;have:=h n hn;have e2:n.toNat.toUInt8.toNat=n.toNat % 256:=by rw[Nat.toUInt8,UInt8.toNat_ofNat']
  omega),List.drop_length]
 rfl
def Y9 (l:List Int):Prop:=∀y∈l,0<=y∧y<128
theorem N9 {p q:List Int}(hp:Y9 p)(hq:Y9 q):Y9 (p++q):=fun y hy=>(List.mem_append.1 hy).elim (hp y) (hq y)
theorem Hv {a:Int}{p:List Int}(ha:0<=a∧a<128)(hp:Y9 p):Y9 (a::p):=fun y hy=>by
 rcases List.mem_cons.1 hy with rfl|hy
 ·exact ha
 ·exact hp y hy
theorem Agv {k:Int}{ch o t s w:List Int}{x:Bool}(LM:C8 ch)(h:GB k ch o t x=.ok s)(hw:wsL w)(hl:(w++s++w).length<=1024):H2 (Ab (w++s++w))=.ok (k,ch,o,x,t):=by
 obtain⟨ty,hk,rfl,h1,h2,ho,ht,hn⟩:=PY h;have oc:=HZ ho
 have tc:t.all EW=true:=by
  cases x with
  |true=>exact HZ (ht rfl)
  |false=>rw[hn rfl];rfl
 have yc:ty.all EW=true:=by
  unfold tyS at hk;split at hk
  ·cases hk;decide
  split at hk
  ·cases hk;decide
  ·cases hk
 have ec:=Xr LM
 have cl128:∀{q:List Int},q.all EW=true->∀y∈q,0<=y∧y<128:=fun hq y hy=>by
  have:=V1.1 (List.all_eq_true.1 hq y hy);omega
 have wc:∀y∈w,0<=y∧y<128:=fun y hy=>by
  have:=List.all_eq_true.1 hw y hy;unfold Rr at this;simp at this;omega
 have bc:Y9 (Fu ty ch o t x):=by
  have v:∀{q:List Int},q.all EW=true->Y9 (34::(q++[34])):=fun hq=>Hv (by decide) (N9 (cl128 hq) (Hv (by decide) (fun _ h=>nomatch h)))
  have mt:∀{nm vt:List Int},Y9 nm->Y9 vt->Y9 (Ld nm vt):=fun h1 h2=>Hv (by decide) (N9 h1 (Hv (by decide) (Hv (by decide) h2)))
  have nT:Y9 Me:=by unfold Y9 Me;decide
  have nC:Y9 Pi:=by unfold Y9 Pi;decide
  have nO:Y9 QX:=by unfold Y9 QX;decide
  have nX:Y9 QE:=by unfold Y9 QE;decide
  have nP:Y9 MY:=by unfold Y9 MY;decide
  have wd:Y9 [116,114,117,101]:=by unfold Y9;decide
  have wf:Y9 [102,97,108,115,101]:=by unfold Y9;decide
  have w1:Y9 [125]:=by unfold Y9;decide
  unfold Fu;refine N9 (mt nT (v yc)) (Hv (by decide) (N9 (mt nC (v ec)) (Hv (by decide) (N9 (mt nO (v oc)) (Hv (by decide) (N9 (mt nX ?_) ?_))))))
  ·cases x with
   |true=>exact wd
   |false=>exact wf
  ·cases x with
   |true=>exact Hv (by decide) (N9 (mt nP (v tc)) w1)
   |false=>exact w1
 have all128:∀y∈w++(123::Fu ty ch o t x)++w,0<=y∧y<128:=by
  intro y hy;rcases List.mem_append.1 hy with hy|hy
  ·rcases List.mem_append.1 hy with hy|hy
   ·exact wc y hy
   ·rcases List.mem_cons.1 hy with rfl|hy
    ·omega
    ·exact bc y hy
  ·exact wc y hy
 have hB:C8 (w++(123::Fu ty ch o t x)++w):=fun y hy=>by have:=all128 y hy;omega
 unfold H2;rw[Aj,Cr (by omega),PB all128,Cr (by decide),Ck hB,PC hw yc LM oc tc]
 exact KM hk LM h1 h2 ho ht hn
end
section
open Go.Proofs.Tryd (prog)
open Go.IntKind (wrap)
set_option maxRecDepth 100000
theorem YD {fu d:Nat}{t:ByteArray}{k:Int}{b o q:List Int}{x:Bool}(h:t.size<=2000)(hp:H2 t=.ok (k,b,o,x,q)):Ae C1 prog fu (d+1) 19 [.sc (.string t)]=some ⟨[.agg [.sc (.int .i64 k),.lst false 1 b.length (Bk .u8 b),.sc (.string (Ab o)),.sc (.bool x),.sc (.string (Ab q))],.sc (.int .i64 0)],[]⟩:=by
 have e:Ae C1 prog fu (d+1) 19 [.sc (.string t)]=G0 [.sc (.string t)]:=rfl;rw[e];unfold G0;simp only[dT (q:=t.size<=9223372036854775807) (by omega),cond_true,hp]
theorem Anw {fu d:Nat}{k:Int}{b o q:List Int}{x:Bool}:Ae C1 prog fu (d+1) 20 [cdA k b o q x,cdA k b o q x]=some ⟨[.sc (.bool true)],[]⟩:=by
 refine (Hc (p:=some G0) fu d k b.length (Bk .u8 b) (Ab o) x (Ab q) k b.length (Bk .u8 b) (Ab o) x (Ab q)).trans ?_;have c2:decide (List.length (Bk .u8 b)=b.length)=true:=by rw[Dh];simp
 have c3:=Zb b;have c4:(k==k)=true:=by simp
 have c5:(x==x)=true:=by simp
 simp only[Dg,c2,c3,c4,c5,Ae1]
theorem Aj5 {k e:Int}{ch o t:List Int}{x:Bool}(h:GB k ch o t x=.error e):e≠0:=by
 unfold GB at h;split at h
 ·cases h;decide
 split at h
 ·cases h;decide
 split at h
 ·rename_i q;cases h;exact q
 split at h
 ·split at h<;>cases h
  decide
 split at h
 ·rename_i q;cases h;exact q
 ·cases h
theorem Aja {k:Int}{ch o t s:List Int}{x:Bool}(h:GB k ch o t x=.ok s)(hol:o.length<=100)(htl:t.length<=100):s.length<=900:=by
 obtain⟨ty,hk,rfl,h1,h2,_⟩:=PY h;obtain⟨_,_,hy⟩:=Ada hk;have he:=LX ch;unfold Fu Ld Me Pi QX QE MY;cases x<;>simp<;>omega
theorem sp4 (v:Int)(h0:0<=v):0<=Int.tmod v 4∧∃(u:UInt8)(c:Int),(Array.toList (ByteArray.data (ByteArray.mk #[(32:UInt8),(9:UInt8),(10:UInt8),(13:UInt8)])))[Int.toNat (Int.tmod v 4)]?=some u∧Rr c=true∧ByteArray.mk (List.toArray [Nat.toUInt8 (Int.toNat ((UInt8.toNat u:Nat):Int))])=Ab [c]:=by
 rw[Int.tmod_eq_emod_of_nonneg h0];refine⟨by omega,?_⟩
 have h:v % 4=0∨v % 4=1∨v % 4=2∨v % 4=3:=by omega
 rcases h with h|h|h|h<;>rw[h]
 ·exact⟨32,32,rfl,rfl,rfl⟩
 ·exact⟨9,9,rfl,rfl,rfl⟩
 ·exact⟨10,10,rfl,rfl,rfl⟩
 ·exact⟨13,13,rfl,rfl,rfl⟩
section
variable {fu:Nat}
set_option maxHeartbeats 2000000 in
theorem TF (E9:fu=30000){Vl a1n:Nat}{a0 a1:List PV}{sp ch o t s:List Int}{k:Int}{x:Bool}(hsp:C8 sp)(Al7:sp.length<=maxLen)(LM:C8 ch)(hf:GB k ch o t x=.ok s)(hs:s.length<=900):∀(j i nn:Nat)(w:List Int),i+j=20->j+1<=nn->wsL w->w.length<=i ->
  D1 fu (Ae C1 prog fu 10) Vl a0 a1n a1 nn sp.length (Bk .u8 sp) (Ab s) (Ab w) (i:Int) k ch.length (Ab o) x (Ab t) (Bk .u8 ch)=some ⟨[.sc (.bool true)],[]⟩:=by
 simp only[maxLen] at Al7;have aw:Ae C1 prog fu 10 8 []=_:=XM (fu:=fu) (d:=1) (by omega)
 have b0:H2 (Ab s)=.ok (k,ch,o,x,t):=by
  have:=Agv (w:=[]) LM hf rfl (by simp;omega)
  rwa [List.nil_append,List.append_nil] at this
 have e1:Ae C1 prog fu 10 19 [.sc (.string (Ab s))]=_:=YD (fu:=fu) (d:=9) (by rw[Aj];omega) b0
 have e3:Ae C1 prog fu 10 20 [.agg [.sc (.int .i64 k),.lst false 1 ch.length (Bk .u8 ch),.sc (.string (Ab o)),.sc (.bool x),.sc (.string (Ab t))],.agg [.sc (.int .i64 k),.lst false 1 ch.length (Bk .u8 ch),.sc (.string (Ab o)),.sc (.bool x),.sc (.string (Ab t))]]=_:=Anw (fu:=fu) (d:=9);have c0:List.take (ch.length*1) (List.drop 0 (Bk .u8 ch))=Bk .u8 ch:=by rw[Zze];exact Zzf (by rw[Dh];omega)
 have c1:decide (0+ch.length*1<=List.length (Bk .u8 ch))=true:=by rw[Dh];simp
 have z0:((0:Int)==0)=true:=rfl;have l1:decide (((s.length:Nat):Int)<=1024)=true:=dT (by omega)
 have fin:∀w:List Int,wsL w->w.length<=20->Ae C1 prog fu 10 19 [.sc (.string (Ab (w++s++w)))]=some ⟨[.agg [.sc (.int .i64 k),.lst false 1 ch.length (Bk .u8 ch),.sc (.string (Ab o)),.sc (.bool x),.sc (.string (Ab t))],.sc (.int .i64 0)],[]⟩ ∧
   decide (w.length+s.length<=9223372036854775807)=true∧decide ((w++s).length+w.length<=9223372036854775807)=true:=fun w hw hwl=>
  ⟨YD (fu:=fu) (d:=9) (by rw[Aj];simp;omega) (Agv LM hf hw (by simp;omega)),dT (by omega),dT (by simp;omega)⟩
 intro j
 induction j with
 |zero=>
  intro i nn w hi Q3 hw hwl;obtain⟨q,rfl⟩:∃q,nn=q+1:=⟨nn-1,by omega⟩
  obtain⟨e2,d1,d2⟩:=fin w hw (by omega)
  have a2:=dF (q:=(i:Int)<20) (by omega)
  rw[Gk];by_cases ha:(i:Int)<((sp.length:Nat):Int)
  ·have a1:=dT ha;simp only[Dg,a1,a2,e1,Aj,Da,d1,d2,e2,z0,l1,c0,c1,e3,aw]
  ·have a1:=dF ha;simp only[Dg,a1,e1,Aj,Da,d1,d2,e2,z0,l1,c0,c1,e3,aw]
 |succ j ih=>
  intro i nn w hi Q3 hw hwl;obtain⟨q,rfl⟩:∃q,nn=q+1:=⟨nn-1,by omega⟩
  rw[Gk];by_cases ha:(i:Int)<((sp.length:Nat):Int)
  rotate_left
  ·obtain⟨e2,d1,d2⟩:=fin w hw (by omega)
   have a1:=dF ha;simp only[Dg,a1,e1,Aj,Da,d1,d2,e2,z0,l1,c0,c1,e3,aw]
  have a1:=dT ha;have a2:=dT (q:=(i:Int)<20) (by omega)
  have a3:=dT (q:=(0:Int)<=(i:Int)) (by omega)
  have hil:i<sp.length:=by omega
  have hg:List.getD (Bk .u8 sp) (Int.toNat (i:Int)*1) PV.top=.sc (.int .u8 sp[i]):=by
   rw[O8,HD];exact ati (List.getElem?_eq_getElem hil)
  obtain⟨hv0,_⟩:=hsp sp[i] (List.getElem_mem hil);obtain⟨m0,u,c,hu,hc,hbc⟩:=sp4 sp[i] hv0;have m0:=dT m0;have b6:decide (w.length+[c].length<=9223372036854775807)=true:=dT (by simp;omega)
  have b7:wrap .i64 ((i:Int)+1)=((i+1:Nat):Int):=by rw[Bd (by omega) (by omega)];omega
  have hn:=ih (i+1) q (w++[c]) (by omega) (by omega) (by unfold wsL at hw ⊢;rw[List.all_append,hw,List.all_cons,hc];rfl) (by simp;omega)
  simp only[Dg,a1,a2,a3,hg,m0,hu,hbc,Aj,Da,b6,b7];exact hn
end
set_option maxHeartbeats 2000000 in
theorem dataBack_plain (qs:List PV)(h:Bc (WTv prog) [23,22] qs):∃fu d,Ae C1 prog fu d Hf qs=some ⟨[.sc (.bool true)],[]⟩:=by
 obtain⟨q0,_,rfl,h0,g⟩:=h.cons_inv;obtain⟨q1,_,rfl,h1,g⟩:=g.cons_inv;obtain rfl:=g.nil_inv;clear h g;obtain⟨l,rfl,hl,_⟩:=QW (k:=.i64) (e:=3) (by kernel_rfl) (by kernel_rfl) (by kernel_rfl) (by kernel_rfl) h0
 obtain⟨sp,rfl,Al7,hwf⟩:=QW (k:=.u8) (e:=5) (by kernel_rfl) (by kernel_rfl) (by kernel_rfl) (by kernel_rfl) h1
 clear h0 h1;have hB:=A2v hwf;obtain⟨fu,E9⟩:∃fu,fu=30000:=⟨_,rfl⟩;refine⟨fu,11,?_⟩;refine (Nd (p:=some G0) fu 10 _ _ _ _).trans ?_;have aw:Ae C1 prog fu 10 8 []=_:=XM (fu:=fu) (d:=1) (by omega)
 have nw:Ae C1 prog fu 10 9 [.lst false 1 l.length (Bk .i64 l)]=_:=Ay4 (fu:=fu) (d:=9) (p:=some G0) (l:=l);obtain⟨k,ch,o',t',x,a',hc,Jg,hol,htl,hcd⟩:=Aog (fu:=fu) (d:=3) (p:=some G0) hl 0 (by omega)
 obtain⟨o,ho,rfl⟩:∃o,C8 o∧o'=Ab o:=⟨E4 o',LD o',(Hw o').symm⟩;obtain⟨t,ht,rfl⟩:∃t,C8 t∧t'=Ab t:=⟨E4 t',LD t',(Hw t').symm⟩;rw[Aj] at hol htl;have hcd:Ae C1 prog fu 10 17 [.pbox (MX l 0)]=_:=hcd;have c0:List.take (ch.length*1) (List.drop 0 (Bk .u8 ch))=Bk .u8 ch:=by rw[Zze];exact Zzf (by rw[Dh];omega)
 have c1:decide (0+ch.length*1<=List.length (Bk .u8 ch))=true:=by rw[Dh];simp
 have ef:Ae C1 prog fu 10 18 [.agg [.sc (.int .i64 k),.lst false 1 ch.length (Bk .u8 ch),.sc (.string (Ab o)),.sc (.bool x),.sc (.string (Ab t))]]=_:=Af6 (fu:=fu) (d:=2) (p:=some G0) hc ho ht (by omega) (by omega) (by omega) (by omega)
 cases hf:GB k ch o t x with
 |error e=>
  rw[hf] at ef;have ef:Ae C1 prog fu 10 18 [.agg [.sc (.int .i64 k),.lst false 1 ch.length (Bk .u8 ch),.sc (.string (Ab o)),.sc (.bool x),.sc (.string (Ab t))]]=some ⟨[.sc (.string (Ab [])),.sc (.int .i64 e)],[]⟩:=ef;have he:e≠0:=Aj5 hf;have z:=nn0 e he;simp only[Dg,nw,hcd,c0,c1,ef,z,aw]
 |ok s=>
  rw[hf] at ef;have ef:Ae C1 prog fu 10 18 [.agg [.sc (.int .i64 k),.lst false 1 ch.length (Bk .u8 ch),.sc (.string (Ab o)),.sc (.bool x),.sc (.string (Ab t))]]=some ⟨[.sc (.string (Ab s)),.sc (.int .i64 0)],[]⟩:=ef;have z:((0:Int) != 0)=false:=rfl;have Asy:=TF (Vl:=l.length) (a0:=Bk .i64 l) (a1n:=sp.length) (a1:=Bk .u8 sp) E9 hB Al7 hc hf (Aja hf hol htl) 20 0 fu [] (by omega) (by omega) rfl (Nat.le_refl _)
  simp only[Dg,nw,hcd,c0,c1,ef,z];exact Asy
end
end Go.Proofs.YtodnjibebeghjaaDoor.Pv
