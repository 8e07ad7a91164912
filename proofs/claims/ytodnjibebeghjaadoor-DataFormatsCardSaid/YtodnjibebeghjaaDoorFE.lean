/-
  The proof of DataFormats, part 5.
-/
import Derived.Test.YtodnjibebeghjaaDoorFD
import Derived.Test.YtodnjibebeghjaaDoorRows
import Derived.Laws.ResultCell
set_option linter.unusedSimpArgs false
set_option linter.unusedVariables false
namespace Go.Proofs.YtodnjibebeghjaaDoor.Pv
section
open Go.Proofs.Tryd (prog)
open Go.IntKind (wrap)
set_option maxRecDepth 100000
abbrev Ov:FuncId:=62
theorem Ph {p:Option (List PV->Option Aq)} (fu d:Nat)(a0 a1:ByteArray):Ae (CP p) prog fu (d+1) Ov [.sc (.string a0),.sc (.string a1)]=(fun (call:An)=>Ai (call 77 [.sc (.string a0),.sc (.string a1)]) fun x1 x2=>Ad x2<|Ab x1 fun x3 x4=>Ao x3 fun x5=>Ad x4<|Ba (!x5) (some (Aq.mk [.sc (.string a0),.sc (.bool false)] [])) (A9 (decide (Int.toNat (↑(ByteArray.size a1):Int)<=ByteArray.size a0)&&decide (ByteArray.size a0<=ByteArray.size a0))<|Ac (ByteArray.extract a0 (Int.toNat (↑(ByteArray.size a1):Int)) (ByteArray.size a0)) fun x6=>some (Aq.mk [.sc (.string x6),.sc (.bool true)] []))) (Ae (CP p) prog fu d):=by kernel_rfl
abbrev Le:FuncId:=44
theorem Tb {p:Option (List PV->Option Aq)} (fu d:Nat)(a0 a1:ByteArray):Ae (CP p) prog fu (d+1) Le [.sc (.string a0),.sc (.string a1)]=(fun (call:An)=>Ai (call 62 [.sc (.string a0),.sc (.string a1)]) fun x1 x2=>Ad x2<|Ab x1 fun x3 x4=>A0 x3 fun x5=>Ab x4 fun x6 x7=>Ao x6 fun x8=>Ad x7<|some (Aq.mk [.sc (.string x5),.sc (.bool x8)] [])) (Ae (CP p) prog fu d):=by kernel_rfl
abbrev Vs:FuncId:=63
theorem Wm {p:Option (List PV->Option Aq)} (fu d:Nat)(a0 a1:ByteArray):Ae (CP p) prog fu (d+1) Vs [.sc (.string a0),.sc (.string a1)]=(fun (call:An)=>Ai (call 78 [.sc (.string a0),.sc (.string a1)]) fun x1 x2=>Ad x2<|Ab x1 fun x3 x4=>Ak .i64 x3 fun x5=>Ad x4<|Ba (decide (x5>=0)) (A9 (decide (0<=x5))<|A9 (decide (Int.toNat x5<=ByteArray.size a0))<|Ac (ByteArray.extract a0 0 x5.toNat) fun x6=>Ac (wrap .i64 (x5+(↑(ByteArray.size a1):Int))) fun x7=>A9 (decide (0<=x7))<|A9 (decide (Int.toNat x7<=ByteArray.size a0)&&decide (ByteArray.size a0<=ByteArray.size a0))<|Ac (ByteArray.extract a0 x7.toNat (ByteArray.size a0)) fun x8=>some (Aq.mk [.sc (.string x6),.sc (.string x8),.sc (.bool true)] [])) (some (Aq.mk [.sc (.string a0),.sc (.string (ByteArray.mk #[])),.sc (.bool false)] []))) (Ae (CP p) prog fu d):=by kernel_rfl
abbrev Te:FuncId:=45
theorem HD {p:Option (List PV->Option Aq)} (fu d:Nat)(a0 a1:ByteArray):Ae (CP p) prog fu (d+1) Te [.sc (.string a0),.sc (.string a1)]=(fun (call:An)=>Ai (call 63 [.sc (.string a0),.sc (.string a1)]) fun x1 x2=>Ad x2<|Ab x1 fun x3 x4=>A0 x3 fun x5=>Ab x4 fun x6 x7=>A0 x6 fun x8=>Ab x7 fun x9 E2=>Ao x9 fun I3=>Ad E2<|some (Aq.mk [.sc (.string x5),.sc (.string x8),.sc (.bool I3)] [])) (Ae (CP p) prog fu d):=by kernel_rfl
abbrev Qq:FuncId:=100
theorem Zx {p:Option (List PV->Option Aq)} (fu d:Nat)(a0 a1:ByteArray):Ae (CP p) prog fu (d+1) Qq [.sc (.string a0),.sc (.string a1)]=(fun (call:An)=>Ai (call 78 [.sc (.string a0),.sc (.string a1)]) fun x1 x2=>Ad x2<|Ab x1 fun x3 x4=>Ak .i64 x3 fun x5=>Ad x4<|some (Aq.mk [.sc (.int .i64 x5)] [])) (Ae (CP p) prog fu d):=by kernel_rfl
abbrev Lm:FuncId:=78
theorem S2 {p:Option (List PV->Option Aq)} (fu d:Nat)(a0 a1:ByteArray):Ae (CP p) prog fu (d+1) Lm [.sc (.string a0),.sc (.string a1)]=(fun (call:An)=>Ba ((↑(ByteArray.size a1):Int)==0) (some (Aq.mk [.sc (.int .i64 0)] [])) (Ba (Array.toList (ByteArray.data a1)==Array.toList (ByteArray.data a0)) (some (Aq.mk [.sc (.int .i64 0)] [])) (Ba ((↑(ByteArray.size a1):Int)==1) (Cy ((Array.toList (ByteArray.data a1))[0]?) fun x1=>Ai (call 40 [.sc (.string a0),.sc (.int .u8 (↑(UInt8.toNat x1):Int))]) fun x2 x3=>Ad x3<|Ab x2 fun x4 x5=>Ak .i64 x4 fun x6=>Ad x5<|some (Aq.mk [.sc (.int .i64 x6)] [])) (Ba (decide ((↑(ByteArray.size a1):Int)>=(↑(ByteArray.size a0):Int))) (some (Aq.mk [.sc (.int .i64 (-1))] [])) (none))))) (Ae (CP p) prog fu d):=by kernel_rfl
abbrev Tw:FuncId:=79
noncomputable def Ej (fu:Nat)(call:An)(a0 a1:ByteArray)(a2 a3:Int)(nn:Nat)(y0 y1:ByteArray)(y2 y3:Int)(y4:Nat)(y5:Int)(y6:List PV):Option Aq:=Fy CB prog fu call 79 Tryd.f79 (Eb Tryd.f79) [.sc (.string a0),.sc (.string a1),.sc (.int .i64 a2),.sc (.int .i64 a3)] [.r,.r,.r,.r,.r,.r,.r,.r,.l,.l] nn ⟨lk [(0,(.sc (.string y0))),(1,(.sc (.string y1))),(2,(.sc (.int .i64 y2))),(3,(.sc (.int .i64 y3))),(9,(.view 9 1 0 y4)),(10,(.sc (.int .i64 y5)))],Ij [(9,(.ar false y6))]⟩
theorem Qw (fu:Nat)(call:An)(a0 a1:ByteArray)(a2 a3:Int)(nn:Nat)(y0 y1:ByteArray)(y2 y3:Int)(y4:Nat)(y5:Int)(y6:List PV):Ej fu call a0 a1 a2 a3 (nn+1) y0 y1 y2 y3 y4 y5 y6=(Ba (decide (y5<y3)) (Ai (call 100 [.sc (.string y0),.sc (.string y1)]) fun Jb Kw=>Ad Kw<|Ab Jb fun K7 Lx=>Ak .i64 K7 fun Jz=>Ad Lx<|Ba (decide (Jz<0)) (A9 (decide (0<=y5)&&decide (y5<(↑y4:Int)))<|A9 (decide (0+Int.toNat y5*1+1<=y6.length))<|Ac (Ce y6 [.sc (.string y0)] (0+Int.toNat y5*1)) fun Lo=>Ac (wrap .i64 (y5+1)) fun Ld=>A9 (decide (0<=Ld))<|A9 (decide (Int.toNat Ld<=y4))<|Ac (Int.toNat Ld-0) fun Lt=>A9 (decide (Lt*1<=Lo.length))<|some (Aq.mk [.own 1 Lt (List.take (Lt*1) Lo)] [])) (Ac (wrap .i64 (Jz+y2)) fun Mq=>A9 (decide (0<=Mq))<|A9 (decide (Int.toNat Mq<=ByteArray.size y0))<|Ac (ByteArray.extract y0 0 Mq.toNat) fun Ow=>A9 (decide (0<=y5)&&decide (y5<(↑y4:Int)))<|A9 (decide (0+Int.toNat y5*1+1<=y6.length))<|Ac (Ce y6 [.sc (.string Ow)] (0+Int.toNat y5*1)) fun M2=>Ac (wrap .i64 (Jz+(↑(ByteArray.size y1):Int))) fun Ox=>A9 (decide (0<=Ox))<|A9 (decide (Int.toNat Ox<=ByteArray.size y0)&&decide (ByteArray.size y0<=ByteArray.size y0))<|Ac (ByteArray.extract y0 Ox.toNat (ByteArray.size y0)) fun Pk=>Ac (wrap .i64 (y5+1)) fun P4=>Ej fu call a0 a1 a2 a3 (nn) Pk (y1) (y2) (y3) (y4) P4 M2)) (A9 (decide (0<=y5)&&decide (y5<(↑y4:Int)))<|A9 (decide (0+Int.toNat y5*1+1<=y6.length))<|Ac (Ce y6 [.sc (.string y0)] (0+Int.toNat y5*1)) fun Pi=>Ac (wrap .i64 (y5+1)) fun Ql=>A9 (decide (0<=Ql))<|A9 (decide (Int.toNat Ql<=y4))<|Ac (Int.toNat Ql-0) fun Qt=>A9 (decide (Qt*1<=Pi.length))<|some (Aq.mk [.own 1 Qt (List.take (Qt*1) Pi)] []))):=by kernel_rfl
theorem Ul {p:Option (List PV->Option Aq)} (fu d:Nat)(a0 a1:ByteArray)(a2 a3:Int):Ae (CP p) prog fu (d+1) Tw [.sc (.string a0),.sc (.string a1),.sc (.int .i64 a2),.sc (.int .i64 a3)]=(fun (call:An)=>Ba (a3==0) (some (Aq.mk [.own 1 0 []] [])) (Ba (Array.toList (ByteArray.data a1)==Array.toList (ByteArray.data (ByteArray.mk #[]))) (Ai (call 98 [.sc (.string a0),.sc (.int .i64 a3)]) fun x1 x2=>Ad x2<|Ab x1 fun x3 x4=>GH 1 x3 fun x5 x6=>Ad x4<|A9 (decide (x5*1<=x6.length))<|some (Aq.mk [.own 1 x5 (List.take (x5*1) x6)] [])) (Ba (decide (a3<0)) (Ai (call 99 [.sc (.string a0),.sc (.string a1)]) fun x7 x8=>Ad x8<|Ab x7 fun x9 E2=>Ak .i64 x9 fun I3=>Ad E2<|Ac (wrap .i64 (I3+1)) fun J2=>Ac (wrap .i64 ((↑(ByteArray.size a0):Int)+1)) fun E4=>Ac (if E4<J2 then E4 else J2) fun Ha=>A9 (decide (0<=Ha)&&decide (Ha<=Ha)&&decide (Ha*16<=1099511627776)&&decide (Ha<=1099511627776))<|Ac (wrap .i64 (Ha-1)) fun Km=>Ej fu call a0 a1 a2 a3 (fu) (a0) (a1) (a2) Km Ha.toNat 0 (Pz Ha.toNat [.sc (.string (ByteArray.mk #[]))])) (Ac (wrap .i64 ((↑(ByteArray.size a0):Int)+1)) fun Hk=>Ac (if Hk<a3 then Hk else a3) fun Ib=>A9 (decide (0<=Ib)&&decide (Ib<=Ib)&&decide (Ib*16<=1099511627776)&&decide (Ib<=1099511627776))<|Ac (wrap .i64 (Ib-1)) fun Kp=>Ej fu call a0 a1 a2 a3 (fu) (a0) (a1) (a2) Kp Ib.toNat 0 (Pz Ib.toNat [.sc (.string (ByteArray.mk #[]))]))))) (Ae (CP p) prog fu d):=by kernel_rfl
abbrev Qm:FuncId:=64
theorem AD {p:Option (List PV->Option Aq)} (fu d:Nat)(a0 a1:ByteArray):Ae (CP p) prog fu (d+1) Qm [.sc (.string a0),.sc (.string a1)]=(fun (call:An)=>Ai (call 79 [.sc (.string a0),.sc (.string a1),.sc (.int .i64 0),.sc (.int .i64 (-1))]) fun x1 x2=>Ad x2<|Ab x1 fun x3 x4=>GH 1 x3 fun x5 x6=>Ad x4<|A9 (decide (x5*1<=x6.length))<|some (Aq.mk [.own 1 x5 (List.take (x5*1) x6)] [])) (Ae (CP p) prog fu d):=by kernel_rfl
abbrev Ns:FuncId:=65
noncomputable def Bc (fu:Nat)(call:An)(a0:ByteArray)(nn:Nat)(y0:ByteArray)(y1 y2:Int):Option Aq:=Fy CB prog fu call 65 Tryd.f65 (Eb Tryd.f65) [.sc (.string a0)] [.r,.r,.l,.r,.l] nn ⟨lk [(0,(.sc (.string y0))),(16,(.sc (.int .i64 y1))),(17,(.sc (.int .i64 y2)))],Ij []⟩
theorem Kn (fu:Nat)(call:An)(a0:ByteArray)(nn:Nat)(y0:ByteArray)(y1 y2:Int):Bc fu call a0 (nn+1) y0 y1 y2=(Ba (decide (y2<y1)) (A9 (decide (0<=y2))<|Cy ((Array.toList (ByteArray.data y0))[Int.toNat y2]?) fun x1=>Ba (decide (97<=(↑(UInt8.toNat x1):Int))) (Ba (decide ((↑(UInt8.toNat x1):Int)<=122)) (Ba ((↑(UInt8.toNat x1):Int)==45) (Ba (decide (y2>0)) (Ac (wrap .i64 ((↑(ByteArray.size y0):Int)-1)) fun x2=>Ac (wrap .i64 (y2+1)) fun x3=>Bc fu call a0 (nn) (y0) (y1) x3) (Ac (wrap .i64 (y2+1)) fun x4=>Bc fu call a0 (nn) (y0) (y1) x4)) (Ac (wrap .i64 (y2+1)) fun x5=>Bc fu call a0 (nn) (y0) (y1) x5)) (Ba (decide (48<=(↑(UInt8.toNat x1):Int))) (Ba ((↑(UInt8.toNat x1):Int)==45) (Ba (decide (y2>0)) (Ac (wrap .i64 ((↑(ByteArray.size y0):Int)-1)) fun x6=>Ba (!decide ((↑(UInt8.toNat x1):Int)<=57)) (Ba (!decide (y2<x6)) (some (Aq.mk [.sc (.bool false)] [])) (Ac (wrap .i64 (y2+1)) fun x7=>Bc fu call a0 (nn) (y0) (y1) x7)) (Ac (wrap .i64 (y2+1)) fun x8=>Bc fu call a0 (nn) (y0) (y1) x8)) (Ba (!decide ((↑(UInt8.toNat x1):Int)<=57)) (some (Aq.mk [.sc (.bool false)] [])) (Ac (wrap .i64 (y2+1)) fun x9=>Bc fu call a0 (nn) (y0) (y1) x9))) (Ba (!decide ((↑(UInt8.toNat x1):Int)<=57)) (some (Aq.mk [.sc (.bool false)] [])) (Ac (wrap .i64 (y2+1)) fun E2=>Bc fu call a0 (nn) (y0) (y1) E2))) (Ba ((↑(UInt8.toNat x1):Int)==45) (Ba (decide (y2>0)) (Ac (wrap .i64 ((↑(ByteArray.size y0):Int)-1)) fun I3=>Ba (!decide (y2<I3)) (some (Aq.mk [.sc (.bool false)] [])) (Ac (wrap .i64 (y2+1)) fun J2=>Bc fu call a0 (nn) (y0) (y1) J2)) (some (Aq.mk [.sc (.bool false)] []))) (some (Aq.mk [.sc (.bool false)] []))))) (Ba (decide (48<=(↑(UInt8.toNat x1):Int))) (Ba ((↑(UInt8.toNat x1):Int)==45) (Ba (decide (y2>0)) (Ac (wrap .i64 ((↑(ByteArray.size y0):Int)-1)) fun E4=>Ba (!decide ((↑(UInt8.toNat x1):Int)<=57)) (Ba (!decide (y2<E4)) (some (Aq.mk [.sc (.bool false)] [])) (Ac (wrap .i64 (y2+1)) fun Ha=>Bc fu call a0 (nn) (y0) (y1) Ha)) (Ac (wrap .i64 (y2+1)) fun Km=>Bc fu call a0 (nn) (y0) (y1) Km)) (Ba (!decide ((↑(UInt8.toNat x1):Int)<=57)) (some (Aq.mk [.sc (.bool false)] [])) (Ac (wrap .i64 (y2+1)) fun Hk=>Bc fu call a0 (nn) (y0) (y1) Hk))) (Ba (!decide ((↑(UInt8.toNat x1):Int)<=57)) (some (Aq.mk [.sc (.bool false)] [])) (Ac (wrap .i64 (y2+1)) fun Ib=>Bc fu call a0 (nn) (y0) (y1) Ib))) (Ba ((↑(UInt8.toNat x1):Int)==45) (Ba (decide (y2>0)) (Ac (wrap .i64 ((↑(ByteArray.size y0):Int)-1)) fun Kp=>Ba (!decide (y2<Kp)) (some (Aq.mk [.sc (.bool false)] [])) (Ac (wrap .i64 (y2+1)) fun Jb=>Bc fu call a0 (nn) (y0) (y1) Jb)) (some (Aq.mk [.sc (.bool false)] []))) (some (Aq.mk [.sc (.bool false)] []))))) (some (Aq.mk [.sc (.bool true)] []))):=by kernel_rfl
theorem Wn {p:Option (List PV->Option Aq)} (fu d:Nat)(a0:ByteArray):Ae (CP p) prog fu (d+1) Ns [.sc (.string a0)]=(fun (call:An)=>Ba (decide ((↑(ByteArray.size a0):Int)<1)) (some (Aq.mk [.sc (.bool false)] [])) (Ba (decide ((↑(ByteArray.size a0):Int)>63)) (some (Aq.mk [.sc (.bool false)] [])) (Bc fu call a0 (fu) (a0) ((↑(ByteArray.size a0):Int)) 0))) (Ae (CP p) prog fu d):=by kernel_rfl
abbrev Qr:FuncId:=46
noncomputable def G7 (fu:Nat)(call:An)(a0:ByteArray)(nn y0 y1:Nat)(y2 y3:Int)(y4:List PV):Option Aq:=Fy CB prog fu call 46 Tryd.f46 (Eb Tryd.f46) [.sc (.string a0)] [.r,.r,.r,.l,.r,.l] nn ⟨lk [(3,(.view 3 1 0 y0)),(11,(.view 3 1 0 y1)),(12,(.sc (.int .i64 y2))),(13,(.sc (.int .i64 y3)))],Ij [(3,(.ar false y4))]⟩
theorem Mu (fu:Nat)(call:An)(a0:ByteArray)(nn y0 y1:Nat)(y2 y3:Int)(y4:List PV):G7 fu call a0 (nn+1) y0 y1 y2 y3 y4=(Ba (decide (y3<y2)) (A9 (decide (0<=y3)&&decide (y3<(↑y1:Int)))<|A0 (List.getD y4 (0+Int.toNat y3*1) .top) fun x7=>Ai (call 65 [.sc (.string x7)]) fun x8 x9=>Ad x9<|Ab x8 fun E2 I3=>Ao E2 fun J2=>Ad I3<|Ba (!J2) (some (Aq.mk [.sc (.int .i64 2)] [])) (Ac (wrap .i64 (y3+1)) fun E4=>G7 fu call a0 (nn) (y0) (y1) (y2) E4 (y4))) (Ac (wrap .i64 ((↑y0:Int)-1)) fun Ha=>A9 (decide (0<=Ha)&&decide (Ha<(↑y0:Int)))<|A0 (List.getD y4 (0+Int.toNat Ha*1) .top) fun Km=>Ai (call 66 [.sc (.string Km),.sc (.string (ByteArray.mk #[48,49,50,51,52,53,54,55,56,57]))]) fun Hk Ib=>Ad Ib<|Ab Hk fun Kp Jb=>A0 Kp fun Kw=>Ad Jb<|Ba (Array.toList (ByteArray.data Kw)==Array.toList (ByteArray.data (ByteArray.mk #[]))) (some (Aq.mk [.sc (.int .i64 2)] [])) (some (Aq.mk [.sc (.int .i64 0)] [])))):=by kernel_rfl
theorem Z8 {p:Option (List PV->Option Aq)} (fu d:Nat)(a0:ByteArray):Ae (CP p) prog fu (d+1) Qr [.sc (.string a0)]=(fun (call:An)=>Ba (decide ((↑(ByteArray.size a0):Int)>100)) (some (Aq.mk [.sc (.int .i64 8)] [])) (Ai (call 64 [.sc (.string a0),.sc (.string (ByteArray.mk #[46]))]) fun x1 x2=>Ad x2<|Ab x1 fun x3 x4=>GH 1 x3 fun x5 x6=>Ad x4<|G7 fu call a0 (fu) x5 x5 ((↑x5:Int)) 0 x6)) (Ae (CP p) prog fu d):=by kernel_rfl
abbrev Kt:FuncId:=47
theorem Rs {p:Option (List PV->Option Aq)} (fu d:Nat)(a0:Bool):Ae (CP p) prog fu (d+1) Kt [.sc (.bool a0)]=(fun (call:An)=>Ba (a0) (some (Aq.mk [.sc (.int .i64 443)] [])) (some (Aq.mk [.sc (.int .i64 80)] []))) (Ae (CP p) prog fu d):=by kernel_rfl
abbrev Mx:FuncId:=48
noncomputable def Ff (fu:Nat)(call:An)(a0:ByteArray)(nn:Nat)(y0:ByteArray)(y1 y2 y3:Int):Option Aq:=Fy CB prog fu call 48 Tryd.f48 (Eb Tryd.f48) [.sc (.string a0)] [.r,.r,.r,.l,.r,.l] nn ⟨lk [(0,(.sc (.string y0))),(4,(.sc (.int .i64 y1))),(21,(.sc (.int .i64 y2))),(22,(.sc (.int .i64 y3)))],Ij []⟩
theorem I8 (fu:Nat)(call:An)(a0:ByteArray)(nn:Nat)(y0:ByteArray)(y1 y2 y3:Int):Ff fu call a0 (nn+1) y0 y1 y2 y3=(Ba (decide (y3<y2)) (A9 (decide (0<=y3))<|Cy ((Array.toList (ByteArray.data y0))[Int.toNat y3]?) fun x2=>Ba (decide ((↑(UInt8.toNat x2):Int)<48)) (some (Aq.mk [.sc (.int .i64 0),.sc (.bool false)] [])) (Ba (decide ((↑(UInt8.toNat x2):Int)>57)) (some (Aq.mk [.sc (.int .i64 0),.sc (.bool false)] [])) (Ac (wrap .i64 (10*y1)) fun x3=>Ac (wrap .u8 ((↑(UInt8.toNat x2):Int)-48)) fun x4=>Ac (wrap .i64 x4) fun x5=>Ac (wrap .i64 (x3+x5)) fun x6=>Ac (wrap .i64 (y3+1)) fun x7=>Ff fu call a0 (nn) (y0) x6 (y2) x7))) (some (Aq.mk [.sc (.int .i64 y1),.sc (.bool (decide (y1<=65535)))] []))):=by kernel_rfl
theorem Tt {p:Option (List PV->Option Aq)} (fu d:Nat)(a0:ByteArray):Ae (CP p) prog fu (d+1) Mx [.sc (.string a0)]=(fun (call:An)=>Ba (decide ((↑(ByteArray.size a0):Int)<1)) (some (Aq.mk [.sc (.int .i64 0),.sc (.bool false)] [])) (Ba (decide ((↑(ByteArray.size a0):Int)>5)) (some (Aq.mk [.sc (.int .i64 0),.sc (.bool false)] [])) (Cy ((Array.toList (ByteArray.data a0))[0]?) fun x1=>Ba ((↑(UInt8.toNat x1):Int)==48) (some (Aq.mk [.sc (.int .i64 0),.sc (.bool false)] [])) (Ff fu call a0 (fu) (a0) 0 ((↑(ByteArray.size a0):Int)) 0)))) (Ae (CP p) prog fu d):=by kernel_rfl
abbrev Rn:FuncId:=32
theorem EZ {p:Option (List PV->Option Aq)} (fu d:Nat)(a0:ByteArray):Ae (CP p) prog fu (d+1) Rn [.sc (.string a0)]=(fun (call:An)=>Ai (call 44 [.sc (.string a0),.sc (.string (ByteArray.mk #[104,116,116,112,115,58,47,47]))]) fun x1 x2=>Ad x2<|Ab x1 fun x3 x4=>A0 x3 fun x5=>Ab x4 fun x6 x7=>Ao x6 fun x8=>Ad x7<|Ba (!x8) (Ai (call 44 [.sc (.string a0),.sc (.string (ByteArray.mk #[104,116,116,112,58,47,47]))]) fun x9 E2=>Ad E2<|Ab x9 fun I3 J2=>A0 I3 fun E4=>Ab J2 fun Ha Km=>Ao Ha fun Hk=>Ad Km<|Ba (!Hk) (some (Aq.mk [.agg [.sc (.bool false),.sc (.string (ByteArray.mk #[])),.sc (.int .i64 0)],.sc (.int .i64 2)] [])) (Ai (call 45 [.sc (.string E4),.sc (.string (ByteArray.mk #[58]))]) fun Ib Kp=>Ad Kp<|Ab Ib fun Jb Kw=>A0 Jb fun K7=>Ab Kw fun Lx Jz=>A0 Lx fun Lo=>Ab Jz fun Ld Lt=>Ao Ld fun Mq=>Ad Lt<|Ai (call 46 [.sc (.string K7)]) fun Ow M2=>Ad M2<|Ab Ow fun Ox Pk=>Ak .i64 Ox fun P4=>Ad Pk<|Ba (P4 != 0) (some (Aq.mk [.agg [.sc (.bool false),.sc (.string (ByteArray.mk #[])),.sc (.int .i64 0)],.sc (.int .i64 P4)] [])) (Ai (call 47 [.sc (.bool x8)]) fun Pi Ql=>Ad Ql<|Ab Pi fun Qt P7=>Ak .i64 Qt fun R0=>Ad P7<|Ba Mq (Ai (call 48 [.sc (.string Lo)]) fun Q3 Pn=>Ad Pn<|Ab Q3 fun W0 X8=>Ak .i64 W0 fun Pq=>Ab X8 fun Qp Wb=>Ao Qp fun Wa=>Ad Wb<|Ba (!Wa) (some (Aq.mk [.agg [.sc (.bool false),.sc (.string (ByteArray.mk #[])),.sc (.int .i64 0)],.sc (.int .i64 2)] [])) (Ba (Pq==R0) (some (Aq.mk [.agg [.sc (.bool false),.sc (.string (ByteArray.mk #[])),.sc (.int .i64 0)],.sc (.int .i64 2)] [])) (some (Aq.mk [.agg [.sc (.bool x8),.sc (.string K7),.sc (.int .i64 Pq)],.sc (.int .i64 0)] [])))) (some (Aq.mk [.agg [.sc (.bool x8),.sc (.string K7),.sc (.int .i64 R0)],.sc (.int .i64 0)] []))))) (Ai (call 45 [.sc (.string x5),.sc (.string (ByteArray.mk #[58]))]) fun Z2 Zq=>Ad Zq<|Ab Z2 fun Zr Xk=>A0 Zr fun Xn=>Ab Xk fun Zi N1=>A0 Zi fun Q8=>Ab N1 fun X5 FB=>Ao X5 fun BG=>Ad FB<|Ai (call 46 [.sc (.string Xn)]) fun Zw Zu=>Ad Zu<|Ab Zw fun GA II=>Ak .i64 GA fun JO=>Ad II<|Ba (JO != 0) (some (Aq.mk [.agg [.sc (.bool false),.sc (.string (ByteArray.mk #[])),.sc (.int .i64 0)],.sc (.int .i64 JO)] [])) (Ai (call 47 [.sc (.bool x8)]) fun NU TQ=>Ad TQ<|Ab NU fun SD NS=>Ak .i64 SD fun QJ=>Ad NS<|Ba BG (Ai (call 48 [.sc (.string Q8)]) fun NJ QH=>Ad QH<|Ab NJ fun SI NW=>Ak .i64 SI fun NO=>Ab NW fun LI GL=>Ao LI fun NP=>Ad GL<|Ba (!NP) (some (Aq.mk [.agg [.sc (.bool false),.sc (.string (ByteArray.mk #[])),.sc (.int .i64 0)],.sc (.int .i64 2)] [])) (Ba (NO==QJ) (some (Aq.mk [.agg [.sc (.bool false),.sc (.string (ByteArray.mk #[])),.sc (.int .i64 0)],.sc (.int .i64 2)] [])) (some (Aq.mk [.agg [.sc (.bool x8),.sc (.string Xn),.sc (.int .i64 NO)],.sc (.int .i64 0)] [])))) (some (Aq.mk [.agg [.sc (.bool x8),.sc (.string Xn),.sc (.int .i64 QJ)],.sc (.int .i64 0)] []))))) (Ae (CP p) prog fu d):=by kernel_rfl
abbrev H6:FuncId:=15
noncomputable def Cd (fu:Nat)(call:An)(a0:ByteArray)(nn:Nat)(y0:ByteArray)(y1:Nat)(y2:List PV):Option Aq:=Fy CB prog fu call 15 Tryd.f15 (Eb Tryd.f15) [.sc (.string a0)] [.r,.r,.r,.l,.l] nn ⟨lk [(0,(.sc (.string y0))),(4,(.view 4 1 0 y1))],Ij [(4,(.ar false y2))]⟩
noncomputable def Cc (fu:Nat)(call:An)(a0:ByteArray)(m0 nn:Nat)(y0:ByteArray)(y1:Nat)(y2 y3:Int)(y4 y5:Int)(y6:List PV):Option Aq:=Fy CB prog fu call 15 Tryd.f15 (Eb Tryd.f15) [.sc (.string a0)] [.r,.r,.r,.l,.l,.i m0,.r,.l,.r,.r,.l,.r,.l] nn ⟨lk [(0,(.sc (.string y0))),(4,(.view 4 1 0 y1)),(5,(.sc (.int .i64 y2))),(6,(.sc (.int .u32 y3))),(28,(.sc (.int .i64 y4))),(29,(.sc (.int .i64 y5)))],Ij [(4,(.ar false y6))]⟩
noncomputable def Cb (fu:Nat)(call:An)(a0:ByteArray)(m0 nn:Nat)(y0:ByteArray)(y1:Nat)(y2:Int)(y3 y4:Nat)(y5 y6:Int)(y7 y8:List PV):Option Aq:=Fy CB prog fu call 15 Tryd.f15 (Eb Tryd.f15) [.sc (.string a0)] [.r,.r,.r,.l,.l,.i m0,.r,.l,.r,.r,.r,.r,.l,.r,.l] nn ⟨lk [(0,(.sc (.string y0))),(4,(.view 4 1 0 y1)),(5,(.sc (.int .i64 y2))),(9,(.ptr 9 0)),(58,(.view 9 1 y3 y4)),(59,(.sc (.int .i64 y5))),(60,(.sc (.int .i64 y6)))],Ij [(4,(.ar false y7)),(9,(.ar false y8))]⟩
theorem G1 (fu:Nat)(call:An)(a0:ByteArray)(nn:Nat)(y0:ByteArray)(y1:Nat)(y2:List PV):Cd fu call a0 (nn+1) y0 y1 y2=(Ba (decide ((↑(ByteArray.size y0):Int)>0)) (Ac (if (↑(ByteArray.size y0):Int)<4 then (↑(ByteArray.size y0):Int) else 4) fun x5=>Cc fu call a0 nn (fu) (y0) (y1) x5 0 x5 0 (y2)) (A9 (decide (y1*1<=y2.length))<|some (Aq.mk [.own 1 y1 (List.take (y1*1) y2),.sc (.int .i64 0)] []))):=by kernel_rfl
theorem Gs (fu:Nat)(call:An)(a0:ByteArray)(m0 nn:Nat)(y0:ByteArray)(y1:Nat)(y2 y3:Int)(y4 y5:Int)(y6:List PV):Cc fu call a0 m0 (nn+1) y0 y1 y2 y3 y4 y5 y6=(Ba (decide (y5<y4)) (A9 (decide (0<=y5))<|Cy ((Array.toList (ByteArray.data y0))[Int.toNat y5]?) fun x6=>Ai (call 27 [.sc (.string (ByteArray.mk #[65,66,67,68,69,70,71,72,73,74,75,76,77,78,79,80,81,82,83,84,85,86,87,88,89,90,97,98,99,100,101,102,103,104,105,106,107,108,109,110,111,112,113,114,115,116,117,118,119,120,121,122,48,49,50,51,52,53,54,55,56,57,45,95])),.sc (.int .u8 (↑(UInt8.toNat x6):Int))]) fun x7 x8=>Ad x8<|Ab x7 fun x9 E2=>Ak .i64 x9 fun I3=>Ad E2<|Ba (decide (I3<0)) (some (Aq.mk [.own 1 0 [],.sc (.int .i64 2)] [])) (Ac (wrap .u32 I3) fun J2=>Ac (wrap .i64 (6*y5)) fun E4=>Ac (wrap .i64 (18-E4)) fun Ha=>A9 (decide (0<=Ha))<|Ac (Jw .u32 J2 Ha) fun Km=>Ac (NQ .u32 y3 Km) fun Hk=>Ac (wrap .i64 (y5+1)) fun Ib=>Cc fu call a0 m0 (nn) (y0) (y1) (y2) Hk (y4) Ib (y6))) (Ac (AC .u32 y3 16) fun Kp=>Ac (wrap .u8 Kp) fun Jb=>Ac (AC .u32 y3 8) fun Kw=>Ac (wrap .u8 Kw) fun K7=>Ac (wrap .u8 y3) fun Lx=>Ac (wrap .i64 (y2-1)) fun Jz=>A9 (decide (0<=Jz))<|A9 (decide (Int.toNat Jz<=3)&&true)<|Ac (0+Int.toNat Jz*1) fun Lo=>Ac (3-Int.toNat Jz) fun Ld=>Cb fu call a0 m0 (fu) (y0) (y1) (y2) Lo Ld ((↑Ld:Int)) 0 (y6) ([.sc (.int .u8 Jb),.sc (.int .u8 K7),.sc (.int .u8 Lx)]))):=by kernel_rfl
theorem Gw (fu:Nat)(call:An)(a0:ByteArray)(m0 nn:Nat)(y0:ByteArray)(y1:Nat)(y2:Int)(y3 y4:Nat)(y5 y6:Int)(y7 y8:List PV):Cb fu call a0 m0 (nn+1) y0 y1 y2 y3 y4 y5 y6 y7 y8=(Ba (decide (y6<y5)) (A9 (decide (0<=y6)&&decide (y6<(↑y4:Int)))<|Ak .u8 (List.getD y8 (y3+Int.toNat y6*1) .top) fun Lt=>Ba (Lt != 0) (some (Aq.mk [.own 1 0 [],.sc (.int .i64 2)] [])) (Ac (wrap .i64 (y6+1)) fun Mq=>Cb fu call a0 m0 (nn) (y0) (y1) (y2) (y3) (y4) (y5) Mq (y7) (y8))) (Ac (wrap .i64 (y2-1)) fun Ow=>A9 (decide (3<=y8.length)&&true)<|A9 (decide (0<=Ow))<|A9 (decide (Int.toNat Ow<=3))<|Ac (Int.toNat Ow-0) fun M2=>A9 (decide (0+M2*1<=y8.length))<|A9 (decide (y1*1<=y7.length)&&decide (List.length (List.take (M2*1) (List.drop 0 y8))=M2*1)&&decide ((y1+M2)*1<=1099511627776)&&decide (y1+M2<=1099511627776))<|Ac (y1+M2) fun Ox=>Ac (List.take (y1*1) y7++List.take (M2*1) (List.drop 0 y8)) fun Pk=>A9 (decide (0<=y2))<|A9 (decide (Int.toNat y2<=ByteArray.size y0)&&decide (ByteArray.size y0<=ByteArray.size y0))<|Ac (ByteArray.extract y0 y2.toNat (ByteArray.size y0)) fun P4=>Cd fu call a0 (m0) P4 Ox Pk)):=by kernel_rfl
theorem O3 {p:Option (List PV->Option Aq)} (fu d:Nat)(a0:ByteArray):Ae (CP p) prog fu (d+1) H6 [.sc (.string a0)]=(fun (call:An)=>Ac (Int.tmod (↑(ByteArray.size a0):Int) 4) fun x1=>Ba (x1==1) (some (Aq.mk [.own 1 0 [],.sc (.int .i64 2)] [])) (Ac (wrap .i64 (Int.tdiv (↑(ByteArray.size a0):Int) 4)) fun x2=>Ac (wrap .i64 (x2*3)) fun x3=>Ac (wrap .i64 (x3+2)) fun x4=>A9 (decide (0<=x4)&&decide (x4*1<=1099511627776)&&decide (x4<=1099511627776))<|Cd fu call a0 (fu) (a0) 0 ([]))) (Ae (CP p) prog fu d):=by kernel_rfl
end
section
open Go.Proofs.Tryd (prog)
open Go.IntKind (wrap)
set_option maxRecDepth 100000
theorem Adf {a b:Int}(ha:0<=a∧a<=255)(hb:0<=b∧b<=255):(a.toNat.toUInt8==b.toNat.toUInt8)=decide (a=b):=by
 rw[Bool.eq_iff_iff,beq_iff_eq,decide_eq_true_iff];constructor
 ·intro h;have:=congrArg UInt8.toNat h;have e1:a.toNat.toUInt8.toNat=a.toNat % 256:=by rw[Nat.toUInt8,UInt8.toNat_ofNat']
  have e2:b.toNat.toUInt8.toNat=b.toNat % 256:=by rw[Nat.toUInt8,UInt8.toNat_ofNat']
  rw[e1,e2] at this;omega
 ·rintro rfl;rfl
theorem Jm {c:Int}(hc:0<=c∧c<=255):((c.toNat.toUInt8.toNat:Nat):Int)=c:=by
 rw[Nat.toUInt8,UInt8.toNat_ofNat'];omega
theorem PA {c x:Int}(r:List Int)(e:x≠c):Bi c (x::r)=x::Bi c r:=by unfold Bi;rw[List.takeWhile_cons_of_pos (by simp[e])]
theorem LL {c:Int}(r:List Int):Bi c (c::r)=[]:=by unfold Bi;rw[List.takeWhile_cons_of_neg (by simp)]
theorem Ob (c:Int)(l:List Int):Bi c l=l.take (Bi c l).length:=by
 have h:Bi c l <+: l:=List.takeWhile_prefix _;exact List.prefix_iff_eq_take.1 h
theorem MZ (c:Int)(l:List Int):(Bi c l).length<=l.length:=by
 have h:Bi c l <+: l:=List.takeWhile_prefix _;exact h.length_le
theorem Akm (c:Int)(l:List Int)(h:¬(Bi c l).length<l.length):Bi c l=l:=by
 have:=MZ c l;rw[Ob c l,Zzf (by omega)]
def Xd (c:Int)(l:List Int):Int:=if (Bi c l).length<l.length then ((Bi c l).length:Int) else -1
theorem XA {c:Int}(hc:0<=c∧c<=255):∀{l:List Int},Ct l->Lib.indexByte (l.map fun n=>n.toNat.toUInt8) c.toNat.toUInt8=Xd c l
 |[],_=>rfl
 |x::r,h=>by
  obtain⟨hx,hr⟩:=Cq h;have ih:=XA hc hr;show (if (x.toNat.toUInt8==c.toNat.toUInt8)=true then (0:Int) else if (Lib.indexByte (r.map fun n=>n.toNat.toUInt8) c.toNat.toUInt8 == -1)=true then -1 else Lib.indexByte (r.map fun n=>n.toNat.toUInt8) c.toNat.toUInt8+1)=_
  rw[Adf hx hc,ih];by_cases e:x=c
  ·subst e;unfold Xd;rw[LL];simp
  ·unfold Xd;rw[PA r e];simp only[decide_eq_true_eq,e,if_false,FM];by_cases g:(Bi c r).length<r.length
   ·simp only[D1 g,D1 (show (Bi c r).length+1<r.length+1 by omega)]
    rw[Dc (show ¬(((((Bi c r).length:Int)) == -1)=true) by rw[beq_iff_eq];omega)]
    omega
   ·simp only[Dc g,Dc (show ¬(Bi c r).length+1<r.length+1 by omega)]
    rfl
theorem JX {c:Int}(hc:0<=c∧c<=255):∀{l:List Int},Ct l->(l.map fun n=>n.toNat.toUInt8).count c.toNat.toUInt8+1=(A1 c l).length
 |[],_=>rfl
 |x::r,h=>by
  obtain⟨hx,hr⟩:=Cq h;have ih:=JX hc hr;rw[List.map_cons,List.count_cons,Adf hx hc];unfold A1;by_cases e:x=c
  ·rw[D1 e,D1 (by simp[e]),FM,←ih]
  ·rw[Dc e,Dc (by simp[e])]
   cases hs:A1 c r with
   |nil=>exact absurd hs (Ol c r)
   |cons a t=>
    rw[hs] at ih
    simpa using ih
theorem Sj (c:Int):∀(l:List Int),(A1 c l).length<=l.length+1
 |[]=>Nat.le_refl _
 |x::r=>by
  have ih:=Sj c r;unfold A1;split
  ·simp;omega
  ·cases hs:A1 c r with
   |nil=>simp
   |cons a t=>rw[hs] at ih;simp at ih ⊢;omega
theorem JD (c:Int)(l:List Int):1<=(A1 c l).length:=by
 have:=Ol c l;cases hs:A1 c l with
 |nil=>exact absurd hs this
 |cons a t=>simp
theorem YH {a:List PV}{n:Nat}{x y:PV}{r:List PV}(h:a.length=n):(a++x::r).set n y=a++y::r:=by
 subst h
 induction a with
 |nil=>rfl
 |cons z a ih=>simp[ih]
theorem dle (n:Nat):decide (n<=n)=true:=by simp
section
variable {fu d:Nat} {p:Option (List PV->Option Aq)}
theorem WX {c:Int}(hc:0<=c∧c<=255){l:List Int}(hl:Ct l):Ae (CP p) prog fu (d+2) Lm [.sc (.string (Aa l)),.sc (.string (Aa [c]))]=some ⟨[.sc (.int .i64 (Xd c l))],[]⟩:=by
 have e:Ae (CP p) prog fu (d+1) 40 [.sc (.string (Aa l)),.sc (.int .u8 c)]=some ⟨[.sc (.int .i64 (Lib.indexByte (Aa l).data.toList c.toNat.toUInt8))],[]⟩:=rfl;have e0:(Aa l).data.toList=l.map fun n=>n.toNat.toUInt8:=rfl
 rw[e0,XA hc hl] at e;have h0:((((Aa [c]).size:Nat):Int)==0)=false:=by rw[Af];rfl
 have h1:((((Aa [c]).size:Nat):Int)==1)=true:=by rw[Af];rfl
 have h2:(Array.toList (Aa [c]).data)[0]?=some c.toNat.toUInt8:=rfl;have h3:=Jm hc;rw[S2];by_cases g:[c]=l
 ·subst g;have h4:(Array.toList (Aa [c]).data==Array.toList (Aa [c]).data)=true:=by simp
  have h5:Xd c [c]=0:=by unfold Xd;rw[LL];rfl
  simp only[B0,h0,h4,h5]
 ·have h4:(Array.toList (Aa [c]).data==Array.toList (Aa l).data)=false:=by
   rw[Bool.eq_false_iff,ne_eq,beq_iff_eq];intro q;apply g
   have q2:Aa [c]=Aa l:=by
    cases hx:Aa [c];cases hy:Aa l;rw[hx,hy] at q;exact congrArg ByteArray.mk (Array.toList_inj.1 q)
   have q3:=congrArg Fc q2
   rwa [Co hl,Co (fun x hx=>by simp at hx;omega)] at q3
  simp only[B0,h0,h4,h1,h2,h3,e]
theorem Ad0 {c:Int}(hc:0<=c∧c<=255){l:List Int}(hl:Ct l):Ae (CP p) prog fu (d+3) Qq [.sc (.string (Aa l)),.sc (.string (Aa [c]))]=some ⟨[.sc (.int .i64 (Xd c l))],[]⟩:=by
 have e:Ae (CP p) prog fu (d+2) 78 [.sc (.string (Aa l)),.sc (.string (Aa [c]))]=_:=WX (fu:=fu) (d:=d) (p:=p) hc hl;rw[Zx];simp only[B0,e]
theorem Oc {l:List Int}(hl:Ct l)(n:Nat):(Aa l).extract 0 n=Aa (l.take n):=by rw[U8,Co hl]
theorem Qa {l:List Int}(hl:Ct l)(n:Nat):(Aa l).extract n l.length=Aa (l.drop n):=by
 have:=Zg (s:=Aa l) (a:=n)
 rwa [Af,Co hl] at this
theorem Av4 {c:Int}(hc:0<=c∧c<=255){l:List Int}(hl:Ct l)(hs:l.length<=1000000):Ae (CP p) prog fu (d+4) Te [.sc (.string (Aa l)),.sc (.string (Aa [c]))]=some ⟨[.sc (.string (Aa (Bi c l))),.sc (.string (Aa (l.drop ((Bi c l).length+1)))),.sc (.bool (decide ((Bi c l).length<l.length)))],[]⟩:=by
 have e:Ae (CP p) prog fu (d+2) 78 [.sc (.string (Aa l)),.sc (.string (Aa [c]))]=_:=WX (fu:=fu) (d:=d) (p:=p) hc hl
 have e2:Ae (CP p) prog fu (d+3) 63 [.sc (.string (Aa l)),.sc (.string (Aa [c]))]=some ⟨[.sc (.string (Aa (Bi c l))),.sc (.string (Aa (l.drop ((Bi c l).length+1)))),.sc (.bool (decide ((Bi c l).length<l.length)))],[]⟩:=by
  refine (Wm (p:=p) fu (d+2) _ _).trans ?_;by_cases g:(Bi c l).length<l.length
  ·have hi:Xd c l=(Bi c l).length:=by unfold Xd;rw[D1 g]
   rw[hi] at e;have a1:decide (((Bi c l).length:Int)>=0)=true:=by simp
   have a2:decide ((0:Int)<=((Bi c l).length:Int))=true:=by simp
   have a3:decide (Int.toNat ((Bi c l).length:Int)<=l.length)=true:=by simp;omega
   have a4:(Aa l).extract 0 (Int.toNat ((Bi c l).length:Int))=Aa (Bi c l):=by
    rw[Kx,Oc hl,←Ob]
   have a5:wrap .i64 (((Bi c l).length:Int)+(([c].length:Nat):Int))=(((Bi c l).length+1:Nat):Int):=by
    rw[Az (by simp;omega) (by simp;omega)];simp
   have a6:decide ((0:Int)<=(((Bi c l).length+1:Nat):Int))=true:=by simp;omega
   have a7:decide (Int.toNat (((Bi c l).length+1:Nat):Int)<=l.length)=true:=by simp;omega
   have a8:(Aa l).extract (Int.toNat (((Bi c l).length+1:Nat):Int)) l.length=Aa (l.drop ((Bi c l).length+1)):=by
    rw[Kx,Qa hl]
   have a9:decide ((Bi c l).length<l.length)=true:=by simpa using g
   simp only[B0,e,Af,dle,a1,a2,a3,a4,a5,a6,a7,a8,a9]
  ·have hi:Xd c l = -1:=by unfold Xd;rw[Dc g]
   rw[hi] at e;have a1:decide ((-1:Int)>=0)=false:=rfl;have a9:decide ((Bi c l).length<l.length)=false:=by simpa using g
   have a10:l.drop ((Bi c l).length+1)=[]:=List.drop_eq_nil_of_le (by omega)
   have a11:(ByteArray.mk #[])=Aa []:=rfl;rw[a9,a10,Akm c l g];simp only[B0,e,a1,a11]
 rw[HD];simp only[B0,e2]
theorem Al6 {l w:List Int}(hl:Ct l)(hw:Ct w):Ae (CP p) prog fu (d+4) Le [.sc (.string (Aa l)),.sc (.string (Aa w))]=some ⟨[.sc (.string (Aa (if w.isPrefixOf l=true then l.drop w.length else l))),.sc (.bool (w.isPrefixOf l))],[]⟩:=by
 have e:Ae (CP p) prog fu (d+2) 77 [.sc (.string (Aa l)),.sc (.string (Aa w))]=some ⟨[.sc (.bool (w.isPrefixOf l))],[]⟩:=Am0 (xs:=RP p) (fu:=fu) (d:=d+1) hl hw
 have e2:Ae (CP p) prog fu (d+3) 62 [.sc (.string (Aa l)),.sc (.string (Aa w))]=some ⟨[.sc (.string (Aa (if w.isPrefixOf l=true then l.drop w.length else l))),.sc (.bool (w.isPrefixOf l))],[]⟩:=by
  refine (Ph (p:=p) fu (d+2) _ _).trans ?_;cases hp:w.isPrefixOf l
  ·rw[hp] at e;simp only[B0,e,Dl,Bool.false_eq_true,if_false]
  ·rw[hp] at e;have Y0:w.length<=l.length:=(List.isPrefixOf_iff_prefix.1 hp).length_le;have a1:decide (Int.toNat ((w.length:Nat):Int)<=l.length)=true:=by simp;omega
   have a2:(Aa l).extract (Int.toNat ((w.length:Nat):Int)) l.length=Aa (l.drop w.length):=by rw[Kx,Qa hl]
   simp only[B0,e,Af,dle,a1,a2,Cw,if_true]
 rw[Tb];simp only[B0,e2]
def Qo (x:List Int):PV:=.sc (.string (Aa x))
theorem VI {c:Int}(hc:0<=c∧c<=255){a0 a1:ByteArray}{a2 a3:Int}{N:Nat}(hN:N<=1000000):∀(nn:Nat)(r:List Int)(done:List (List Int)),r.length+1<=nn->r.length<=1000000->Ct r->done.length+(A1 c r).length=N ->
  Ej fu (Ae (CP p) prog fu (d+3)) a0 a1 a2 a3 nn (Aa r) (Aa [c]) 0 ((N:Int)-1) N (done.length:Int) (done.map Qo++List.replicate (A1 c r).length (.sc (.string ⟨#[]⟩)))=some ⟨[.own 1 N ((done++A1 c r).map Qo)],[]⟩:=by
 intro nn
 induction nn with
 |zero=>intro r done h;omega
 |succ k ih=>
  intro r done hk hr6 hr hn;have e:Ae (CP p) prog fu (d+3) 100 [.sc (.string (Aa r)),.sc (.string (Aa [c]))]=_:=Ad0 (fu:=fu) (d:=d) (p:=p) hc hr;rw[Qw];have Ft:=Y8 c r;by_cases g:(Bi c r).length<r.length
  ·rw[D1 g] at Ft;have hi:Xd c r=(Bi c r).length:=by unfold Xd;rw[D1 g]
   rw[hi] at e;have hp:=JD c (r.drop ((Bi c r).length+1));have Q1:(A1 c r).length=(A1 c (r.drop ((Bi c r).length+1))).length+1:=by rw[Ft];simp
   have a0:decide ((done.length:Int)<(N:Int)-1)=true:=by simp;omega
   have a1:decide (((Bi c r).length:Int)<0)=false:=by simp
   have a2:wrap .i64 (((Bi c r).length:Int)+0)=((Bi c r).length:Int):=by rw[Az (by omega) (by omega)];omega
   have a3:decide ((0:Int)<=((Bi c r).length:Int))=true:=by simp
   have a4:decide (Int.toNat ((Bi c r).length:Int)<=r.length)=true:=by simp;omega
   have a5:(Aa r).extract 0 (Int.toNat ((Bi c r).length:Int))=Aa (Bi c r):=by rw[Kx,Oc hr,←Ob]
   have a6:(decide ((0:Int)<=(done.length:Int))&&decide ((done.length:Int)<(N:Int)))=true:=by simp;omega
   have a7:decide (0+Int.toNat (done.length:Int)*1+1<=List.length (done.map Qo++List.replicate (A1 c r).length (PV.sc (.string ⟨#[]⟩))))=true:=by simp;omega
   have a8:Ce (done.map Qo++List.replicate (A1 c r).length (PV.sc (.string ⟨#[]⟩))) [PV.sc (.string (Aa (Bi c r)))] (0+Int.toNat (done.length:Int)*1)=(done++[Bi c r]).map Qo++List.replicate (A1 c (r.drop ((Bi c r).length+1))).length (PV.sc (.string ⟨#[]⟩)):=by
    rw[DT (by simp;omega),Q1,List.replicate_succ,Kx,SF,AZ,YH (by simp)]
    simp[Qo]
   have a9:wrap .i64 (((Bi c r).length:Int)+(([c].length:Nat):Int))=(((Bi c r).length+1:Nat):Int):=by
    rw[Az (by simp;omega) (by simp;omega)];simp
   have b1:decide ((0:Int)<=(((Bi c r).length+1:Nat):Int))=true:=by simp;omega
   have b2:decide (Int.toNat (((Bi c r).length+1:Nat):Int)<=r.length)=true:=by simp;omega
   have b3:(Aa r).extract (Int.toNat (((Bi c r).length+1:Nat):Int)) r.length=Aa (r.drop ((Bi c r).length+1)):=by rw[Kx,Qa hr]
   have b4:wrap .i64 ((done.length:Int)+1)=(((done++[Bi c r]).length:Nat):Int):=by
    rw[Az (by omega) (by omega)];simp
   have hd:=ih (r.drop ((Bi c r).length+1)) (done++[Bi c r]) (by simp;omega) (by simp;omega) ((fun x hx=>hr x (List.mem_of_mem_drop hx))) (by simp;omega)
   simp only[B0,e,Af,dle,a0,a1,a2,a3,a4,a5,a6,a7,a8,a9,b1,b2,b3,b4];rw[hd,Ft];simp
  ·rw[Dc g] at Ft;have Q1:(A1 c r).length=1:=by rw[Ft];rfl
   have a0:decide ((done.length:Int)<(N:Int)-1)=false:=by simp;omega
   have a6:(decide ((0:Int)<=(done.length:Int))&&decide ((done.length:Int)<(N:Int)))=true:=by simp;omega
   have a7:decide (0+Int.toNat (done.length:Int)*1+1<=List.length (done.map Qo++List.replicate (A1 c r).length (PV.sc (.string ⟨#[]⟩))))=true:=by simp;omega
   have a8:Ce (done.map Qo++List.replicate (A1 c r).length (PV.sc (.string ⟨#[]⟩))) [PV.sc (.string (Aa r))] (0+Int.toNat (done.length:Int)*1)=(done++[r]).map Qo:=by
    rw[DT (by simp;omega),Q1,show List.replicate 1 (PV.sc (Value.string ⟨#[]⟩))=[PV.sc (.string ⟨#[]⟩)] from rfl,Kx,SF,AZ,YH (by simp)]
    simp[Qo]
   have b4:wrap .i64 ((done.length:Int)+1)=(N:Int):=by
    rw[Az (by omega) (by omega)];omega
   have b5:decide ((0:Int)<=(N:Int))=true:=by simp
   have b6:decide (Int.toNat (N:Int)<=N)=true:=by simp
   have b7:Int.toNat (N:Int)-0=N:=by simp
   have b8:decide (N*1<=List.length ((done++[r]).map Qo))=true:=by simp;omega
   have b9:List.take (N*1) ((done++[r]).map Qo)=(done++[r]).map Qo:=Zzf (by simp;omega)
   simp only[B0,a0,a6,a7,a8,b4,b5,b6,b7,b8,b9];rw[Ft]
theorem Aik {c:Int}(hc:0<=c∧c<=255){l:List Int}(hl:Ct l)(hs:l.length<=999999)(Ei:l.length+1<=fu):Ae (CP p) prog fu (d+5) Qm [.sc (.string (Aa l)),.sc (.string (Aa [c]))]=some ⟨[.own 1 (A1 c l).length ((A1 c l).map Qo)],[]⟩:=by
 have e:Ae (CP p) prog fu (d+4) 79 [.sc (.string (Aa l)),.sc (.string (Aa [c])),.sc (.int .i64 0),.sc (.int .i64 (-1))]=some ⟨[.own 1 (A1 c l).length ((A1 c l).map Qo)],[]⟩:=by
  refine (Ul (p:=p) fu (d+3) _ _ _ _).trans ?_;have hn:=Sj c l;have hp:=JD c l;have hcn:=JX hc hl
  have e1:Ae (CP p) prog fu (d+3) 99 [.sc (.string (Aa l)),.sc (.string (Aa [c]))]=some ⟨[.sc (.int .i64 (((A1 c l).length:Int)-1))],[]⟩:=by
   have:Ae (CP p) prog fu (d+3) 99 [.sc (.string (Aa l)),.sc (.string (Aa [c]))]=some ⟨[.sc (.int .i64 (Lib.countByte (Aa l).data.toList c.toNat.toUInt8))],[]⟩:=rfl;rw[this]
   have e0:(Lib.countByte (Aa l).data.toList c.toNat.toUInt8:Int)=((A1 c l).length:Int)-1:=by
    have:Lib.countByte (Aa l).data.toList c.toNat.toUInt8+1=(A1 c l).length:=hcn;omega
   rw[e0]
  have a1:(((-1:Int))==0)=false:=rfl;have a2:(Array.toList (Aa [c]).data==Array.toList (ByteArray.mk #[]).data)=false:=rfl;have a3:decide ((-1:Int)<0)=true:=rfl;have a4:wrap .i64 (((A1 c l).length:Int)-1+1)=(A1 c l).length:=by rw[Az (by omega) (by omega)];omega
  have a5:wrap .i64 ((l.length:Int)+1)=l.length+1:=by rw[Az (by omega) (by omega)]
  have a6:(if ((l.length:Int)+1)<((A1 c l).length:Int) then ((l.length:Int)+1) else ((A1 c l).length:Int))=(A1 c l).length:=by rw[Dc (by omega)]
  have a7:decide ((0:Int)<=((A1 c l).length:Int))=true:=by simp
  have b7:decide (((A1 c l).length:Int)<=((A1 c l).length:Int))=true:=by simp
  have c7:decide (((A1 c l).length:Int)*16<=1099511627776)=true:=by simp;omega
  have d7:decide (((A1 c l).length:Int)<=1099511627776)=true:=by simp;omega
  have a8:wrap .i64 (((A1 c l).length:Int)-1)=((A1 c l).length:Int)-1:=Az (by omega) (by omega)
  have a9:Pz (A1 c l).length [PV.sc (.string ⟨#[]⟩)]=List.replicate (A1 c l).length (PV.sc (.string ⟨#[]⟩)):=by
   unfold Pz
   induction (A1 c l).length with
   |zero=>rfl
   |succ k ih=>rw[List.replicate_succ,List.flatten_cons,ih];rfl
  have a10:Int.toNat ((A1 c l).length:Int)=(A1 c l).length:=Kx _;have hd:=VI (fu:=fu) (d:=d) (p:=p) hc (a0:=Aa l) (a1:=Aa [c]) (a2:=0) (a3:= -1) (N:=(A1 c l).length) (by omega) fu l [] Ei (by omega) hl (by simp)
  simp only[B0,e1,Af,dle,a1,a2,a3,a4,a5,a6,a7,b7,c7,d7,a8,a9,a10];exact hd
 have b1:decide ((A1 c l).length*1<=List.length ((A1 c l).map Qo))=true:=by simp
 have b2:List.take ((A1 c l).length*1) ((A1 c l).map Qo)=(A1 c l).map Qo:=Zzf (by simp)
 rw[AD];simp only[B0,e,b1,b2]
end
end
section
open Go.Proofs.Tryd (prog)
open Go.IntKind (wrap)
set_option maxRecDepth 100000
theorem KS:∀n:Fin 256,Lib.indexByte Yq.data.toList (n.val:Int).toNat.toUInt8=if Bw (n.val:Int)<64 then Bw (n.val:Int) else -1:=by decide +kernel
theorem Afr {c:Int}(hc:0<=c∧c<=255):Lib.indexByte Yq.data.toList c.toNat.toUInt8=if Bw c<64 then Bw c else -1:=by
 obtain⟨n,rfl⟩:=Int.eq_ofNat_of_zero_le hc.1;exact KS ⟨n,by omega⟩
theorem As1 {y v:Int}(k:Nat)(hk:k<=18)(h0:0<=y)(hm:y % ((2 ^ (k+6):Nat):Int)=0) (hy:y<16777216)(hv0:0<=v)(hv:v<64):NQ .u32 y (Jw .u32 (wrap .u32 v) (k:Int))=y+v*((2 ^ k:Nat):Int):=by
 obtain⟨y,rfl⟩:=Int.eq_ofNat_of_zero_le h0;obtain⟨v,rfl⟩:=Int.eq_ofNat_of_zero_le hv0
 have e1:wrap .u32 (v:Int)=v:=by
  simp only[wrap,IntKind.bits,IntKind.signed,PE,Bool.false_eq_true,if_false];omega
 have Bbu:2 ^ k<=2 ^ 18:=Nat.pow_le_pow_right (by omega) hk
 have hvk:v*2 ^ k<2 ^ k*64:=by
  rw[Nat.mul_comm];exact Nat.mul_lt_mul_of_pos_left (by omega) (Nat.pos_of_ne_zero (by simp))
 have e2:Jw .u32 (v:Int) (k:Int)=((v*2 ^ k:Nat):Int):=by
  show wrap .u32 ((v:Int)*2 ^ (min (k:Int).toNat IntKind.u32.bits))=_
  have:min (k:Int).toNat IntKind.u32.bits=k:=by
   rw[Kx];exact Nat.min_eq_left (by show k<=32;omega)
  rw[this];have:(v:Int)*2 ^ k=((v*2 ^ k:Nat):Int):=by simp
  rw[this];simp only[wrap,IntKind.bits,IntKind.signed,PE,Bool.false_eq_true,if_false];omega
 rw[e1,e2];have e3:=Aq3 y (v*2 ^ k) (by omega) (by omega)
 refine e3.trans ?_
 have hd:y=y / 2 ^ (k+6)*2 ^ (k+6):=by
  have:y % 2 ^ (k+6)=0:=by exact_mod_cast hm
  have:=Nat.div_add_mod y (2 ^ (k+6));rw[Nat.mul_comm] at this;omega
 have B7:v*2 ^ k<2 ^ (k+6):=by rw[Nat.pow_add];exact hvk
 have:=Nat.shiftLeft_add_eq_or_of_lt B7 (y / 2 ^ (k+6));rw[Nat.shiftLeft_eq,←hd] at this;rw[←this];simp
section
variable {fu d:Nat} {p:Option (List PV->Option Aq)}
theorem Aqg {c:Int}(hc:0<=c∧c<=255):Ae (CP p) prog fu (d+2) 27 [.sc (.string Yq),.sc (.int .u8 c)]=some ⟨[.sc (.int .i64 (if Bw c<64 then Bw c else -1))],[]⟩:=by
 have e:Ae (CP p) prog fu (d+1) 40 [.sc (.string Yq),.sc (.int .u8 c)]=some ⟨[.sc (.int .i64 (Lib.indexByte Yq.data.toList c.toNat.toUInt8))],[]⟩:=rfl;rw[Afr hc] at e;refine (K8 (p:=p) fu (d+1) _ _).trans ?_;simp only[B0,e]
theorem L0 {a0:ByteArray}{m0 nn:Nat}{l:List Int}{y1:Nat}{y6:List PV}{i n:Nat}{y3 c:Int}(Ti:i<n)(hn:n<=4)(hl:Ct l)(hc:l[i]?=some c) (h0:0<=y3)(hm:y3 % ((2 ^ (24-6*i):Nat):Int)=0) (hy:y3<16777216):
  Cc fu (Ae (CP p) prog fu (d+2)) a0 m0 (nn+1) (Aa l) y1 (n:Int) y3 (n:Int) (i:Int) y6=if Bw c<64 then Cc fu (Ae (CP p) prog fu (d+2)) a0 m0 nn (Aa l) y1 (n:Int) (y3+Bw c*((2 ^ (18-6*i):Nat):Int)) (n:Int) ((i+1:Nat):Int) y6 else some ⟨[.own 1 0 [],.sc (.int .i64 2)],[]⟩:=by
 have GG:=hl c (List.mem_of_getElem? hc);have hv:=Nz c;have e:=Aqg (fu:=fu) (d:=d) (p:=p) GG;have a1:decide ((i:Int)<(n:Int))=true:=by simp;omega
 have a2:decide ((0:Int)<=(i:Int))=true:=by simp
 have a3:(Array.toList (Aa l).data)[Int.toNat (i:Int)]?=some c.toNat.toUInt8:=by
  rw[Kx];show (l.map fun n=>n.toNat.toUInt8)[i]?=_
  rw[List.getElem?_map,hc];rfl
 have a4:=Jm GG;have ea:(ByteArray.mk #[(65:UInt8),(66:UInt8),(67:UInt8),(68:UInt8),(69:UInt8),(70:UInt8),(71:UInt8),(72:UInt8),(73:UInt8),(74:UInt8),(75:UInt8),(76:UInt8),(77:UInt8),(78:UInt8),(79:UInt8),(80:UInt8),(81:UInt8),(82:UInt8),(83:UInt8),(84:UInt8),(85:UInt8),(86:UInt8),(87:UInt8),(88:UInt8),(89:UInt8),(90:UInt8),(97:UInt8),(98:UInt8),(99:UInt8),(100:UInt8),(101:UInt8),(102:UInt8),(103:UInt8),(104:UInt8),(105:UInt8),(106:UInt8),(107:UInt8),(108:UInt8),(109:UInt8),(110:UInt8),(111:UInt8),(112:UInt8),(113:UInt8),(114:UInt8),(115:UInt8),(116:UInt8),(117:UInt8),(118:UInt8),(119:UInt8),(120:UInt8),(121:UInt8),(122:UInt8),(48:UInt8),(49:UInt8),(50:UInt8),(51:UInt8),(52:UInt8),(53:UInt8),(54:UInt8),(55:UInt8),(56:UInt8),(57:UInt8),(45:UInt8),(95:UInt8)])=Yq:=rfl;rw[Gs,ea];by_cases hv6:Bw c<64
 ·rw[D1 hv6] at e;have b1:decide (Bw c<0)=false:=by simp;omega
  have b2:wrap .i64 (6*(i:Int))=6*(i:Int):=Az (by omega) (by omega)
  have b3:wrap .i64 (18-6*(i:Int))=((18-6*i:Nat):Int):=by rw[Az (by omega) (by omega)];omega
  have b4:decide ((0:Int)<=((18-6*i:Nat):Int))=true:=by simp
  have b5:=As1 (y:=y3) (v:=Bw c) (18-6*i) (by omega) h0 (by rw[show 18-6*i+6=24-6*i by omega];exact hm) hy hv.1 hv6
  have b6:wrap .i64 ((i:Int)+1)=((i+1:Nat):Int):=by rw[Az (by omega) (by omega)];omega
  rw[D1 hv6];simp only[B0,a1,a2,a3,a4,e,b1,b2,b3,b4,b5,b6]
 ·rw[Dc hv6] at e;have b1:decide ((-1:Int)<0)=true:=rfl;rw[Dc hv6];simp only[B0,a1,a2,a3,a4,e,b1]
theorem Atv {y:Int}(h0:0<=y)(hy:y<16777216):wrap .u8 (AC .u32 y 16)=y / 65536 % 256:=by
 show wrap .u8 (y.fdiv (2 ^ (min (16:Int).toNat IntKind.u32.bits)))=_;have:(2:Int) ^ (min (16:Int).toNat IntKind.u32.bits)=65536:=by decide
 rw[this,Int.fdiv_eq_ediv_of_nonneg _ (by omega)]
 simp only[wrap,IntKind.bits,IntKind.signed,PE,Bool.false_eq_true,if_false];omega
theorem A5j {y:Int}(h0:0<=y)(hy:y<16777216):wrap .u8 (AC .u32 y 8)=y / 256 % 256:=by
 show wrap .u8 (y.fdiv (2 ^ (min (8:Int).toNat IntKind.u32.bits)))=_;have:(2:Int) ^ (min (8:Int).toNat IntKind.u32.bits)=256:=by decide
 rw[this,Int.fdiv_eq_ediv_of_nonneg _ (by omega)]
 simp only[wrap,IntKind.bits,IntKind.signed,PE,Bool.false_eq_true,if_false];omega
theorem A1y {y:Int}(h0:0<=y)(hy:y<16777216):wrap .u8 y=y % 256:=by
 simp only[wrap,IntKind.bits,IntKind.signed,PE,Bool.false_eq_true,if_false];omega
theorem TM {a0:ByteArray}{m0 nn:Nat}{s:ByteArray}{y1:Nat}{y6:List PV}{n:Nat}{y3:Int}(hn:2<=n)(hn4:n<=4)(h0:0<=y3)(hy:y3<16777216):
  Cc fu (Ae (CP p) prog fu (d+2)) a0 m0 (nn+1) s y1 (n:Int) y3 (n:Int) (n:Int) y6=Cb fu (Ae (CP p) prog fu (d+2)) a0 m0 fu s y1 (n:Int) (n-1) (4-n) ((4-n:Nat):Int) 0 y6 [.sc (.int .u8 (y3 / 65536 % 256)),.sc (.int .u8 (y3 / 256 % 256)),.sc (.int .u8 (y3 % 256))]:=by
 have a1:decide ((n:Int)<(n:Int))=false:=by simp
 have e1:=Atv h0 hy;have e2:=A5j h0 hy;have e3:=A1y h0 hy;have b1:wrap .i64 ((n:Int)-1)=((n-1:Nat):Int):=by rw[Az (by omega) (by omega)];omega
 have b2:decide ((0:Int)<=((n-1:Nat):Int))=true:=by simp
 have b3:decide (Int.toNat ((n-1:Nat):Int)<=3)=true:=by simp;omega
 have b4:0+Int.toNat ((n-1:Nat):Int)*1=n-1:=by rw[Kx];omega
 have b5:3-Int.toNat ((n-1:Nat):Int)=4-n:=by rw[Kx];omega
 rw[Gs];simp only[B0,a1,e1,e2,e3,b1,b2,b3,b4,b5]
end
end
section
open Go.Proofs.Tryd (prog)
open Go.IntKind (wrap)
set_option maxRecDepth 100000
section
variable {fu d:Nat} {p:Option (List PV->Option Aq)}
abbrev grp (A B C:Int):List PV:=[.sc (.int .u8 A),.sc (.int .u8 B),.sc (.int .u8 C)]
abbrev A35:Option Aq:=some ⟨[.own 1 0 [],.sc (.int .i64 2)],[]⟩
theorem Aou {call:An}{a0 s:ByteArray}{m0 nn y1:Nat}{n i j:Nat}{y7:List PV}{A B C X:Int}(hij:i<j)(hj:j<=4)(h:List.getD (grp A B C) (n+i) .top=.sc (.int .u8 X)) {q:Int}:
  Cb fu call a0 m0 (nn+1) s y1 q n j (j:Int) (i:Int) y7 (grp A B C)=if X=0 then Cb fu call a0 m0 nn s y1 q n j (j:Int) ((i+1:Nat):Int) y7 (grp A B C) else A35:=by
 have a1:decide ((i:Int)<(j:Int))=true:=by simp;omega
 have a2:(decide ((0:Int)<=(i:Int))&&decide ((i:Int)<(j:Int)))=true:=by simp;omega
 have a2':decide ((0:Int)<=(i:Int))=true:=by simp
 have a3:List.getD (grp A B C) (n+Int.toNat (i:Int)*1) PV.top=.sc (.int .u8 X):=by rw[Kx,AZ];exact h
 have a4:wrap .i64 ((i:Int)+1)=((i+1:Nat):Int):=by rw[Az (by omega) (by omega)];omega
 rw[Gw];by_cases hx:X=0
 ·subst hx;have a5:((0:Int) != 0)=false:=rfl;rw[D1 rfl];simp only[B0,a1,a2,a2',a3,a4,a5]
 ·have a5:(X != 0)=true:=by simp[hx]
  rw[Dc hx];simp only[B0,a1,a2,a2',a3,a5]
theorem TW {call:An}{a0:ByteArray}{m0 nn:Nat}{n j:Nat}{l acc:List Int}{A B C:Int}(hn:2<=n)(hn4:n<=4)(hl:Ct l)(hnl:n<=l.length)(DL:acc.length<=1000000){st:Nat}:
  Cb fu call a0 m0 (nn+1) (Aa l) acc.length (n:Int) st j (j:Int) (j:Int) (Bn .u8 acc) (grp A B C)=Cd fu call a0 m0 (Aa (l.drop n)) (acc++[A,B,C].take (n-1)).length (Bn .u8 (acc++[A,B,C].take (n-1))):=by
 have a1:decide ((j:Int)<(j:Int))=false:=by simp
 have a2:wrap .i64 ((n:Int)-1)=((n-1:Nat):Int):=by rw[Az (by omega) (by omega)];omega
 have a3:(decide (3<=List.length (grp A B C))&&true)=true:=rfl;have a4:decide ((0:Int)<=((n-1:Nat):Int))=true:=by simp
 have a5:decide (Int.toNat ((n-1:Nat):Int)<=3)=true:=by simp;omega
 have a6:Int.toNat ((n-1:Nat):Int)-0=n-1:=by rw[Kx];omega
 have a7:decide (0+(n-1)*1<=List.length (grp A B C))=true:=by simp;omega
 have a8:decide (acc.length*1<=List.length (Bn .u8 acc))=true:=by rw[D9];simp
 have a9:decide (List.length (List.take ((n-1)*1) (List.drop 0 (grp A B C)))=(n-1)*1)=true:=by simp;omega
 have b1:decide ((acc.length+(n-1))*1<=1099511627776)=true:=by simp;omega
 have b2:decide (acc.length+(n-1)<=1099511627776)=true:=by simp;omega
 have b3:List.take (acc.length*1) (Bn .u8 acc)++List.take ((n-1)*1) (List.drop 0 (grp A B C))=Bn .u8 (acc++[A,B,C].take (n-1)):=by
  have e0:Bn .u8 (acc++[A,B,C].take (n-1))=Bn .u8 acc++Bn .u8 ([A,B,C].take (n-1)):=List.flatMap_append;rw[Zzf (by rw[D9];omega),e0,Zze,AZ]
  congr 1
  match n,hn,hn4 with
  |2,_,_=>rfl
  |3,_,_=>rfl
  |4,_,_=>rfl
 have b4:decide ((0:Int)<=(n:Int))=true:=by simp
 have b5:decide (Int.toNat (n:Int)<=l.length)=true:=by simp;omega
 have b6:(Aa l).extract (Int.toNat (n:Int)) l.length=Aa (l.drop n):=by rw[Kx,Qa hl]
 have b7:acc.length+(n-1)=(acc++[A,B,C].take (n-1)).length:=by simp;omega
 rw[Gw];simp only[B0,Af,dle,a1,a2,a3,a4,a5,a6,a7,a8,a9,b1,b2,b3,b4,b5,b6];rw[b7]
theorem Adm {a0:ByteArray}(Ei:10<=fu):∀(m:Nat)(l acc:List Int)(nn:Nat),l.length<=4*m->m+1<=nn->Ct l->l.length % 4≠1->acc.length+l.length<=1000000 ->
  Cd fu (Ae (CP p) prog fu (d+2)) a0 nn (Aa l) acc.length (Bn .u8 acc)=some (match Qe l with|none=>⟨[.own 1 0 [],.sc (.int .i64 2)],[]⟩|some b=>⟨[.own 1 (acc++b).length (Bn .u8 (acc++b)),.sc (.int .i64 0)],[]⟩):=by
 obtain⟨fu,rfl⟩:∃k,fu=k+10:=⟨fu-10,by omega⟩
 have zero:∀(acc:List Int) (nn:Nat),acc.length<=1000000->Cd (fu+10) (Ae (CP p) prog (fu+10) (d+2)) a0 (nn+1) (Aa []) acc.length (Bn .u8 acc)=some ⟨[.own 1 acc.length (Bn .u8 acc),.sc (.int .i64 0)],[]⟩:=by
  intro acc nn h;have a1:decide ((((Aa []).size:Nat):Int)>0)=false:=rfl;have a2:decide (acc.length*1<=List.length (Bn .u8 acc))=true:=by rw[D9];simp
  have a3:List.take (acc.length*1) (Bn .u8 acc)=Bn .u8 acc:=Zzf (by rw[D9];omega)
  rw[G1];simp only[B0,a1,a2,a3]
 intro m
 induction m with
 |zero=>
  intro l acc nn hl Pe hB h1 DL;have:l=[]:=List.eq_nil_of_length_eq_zero (by omega)
  subst this;obtain⟨k,rfl⟩:∃k,nn=k+1:=⟨nn-1,by omega⟩
  rw[zero acc k (by omega)]
  simp[Qe]
 |succ m ih=>
  intro l acc nn hl Pe hB h1 DL;obtain⟨k,rfl⟩:∃k,nn=k+1:=⟨nn-1,by omega⟩
  have head:∀(n:Nat),l.length>0->n=min l.length 4->Cd (fu+10) (Ae (CP p) prog (fu+10) (d+2)) a0 (k+1) (Aa l) acc.length (Bn .u8 acc)=Cc (fu+10) (Ae (CP p) prog (fu+10) (d+2)) a0 k (fu+10) (Aa l) acc.length (n:Int) 0 (n:Int) 0 (Bn .u8 acc):=by
   intro n hp hn;have a1:decide (((l.length:Nat):Int)>0)=true:=by simp;omega
   have a2:(if ((l.length:Nat):Int)<4 then ((l.length:Nat):Int) else 4)=(n:Int):=by split<;>omega
   rw[G1];simp only[B0,Af,a1,a2]
  match l,hl,hB,h1,DL,head with
  |[],_,_,_,DL,_=>
   rw[zero acc k (by simpa using DL)]
   simp[Qe]
  |[x],_,_,h1,_,_=>exact absurd rfl h1
  |[a,b],_,hB,_,DL,head=>
   have va:=Nz a;have vb:=Nz b;rw[head 2 (by simp) rfl,show (0:Int)=((0:Nat):Int) from rfl]
   rw[L0 (c:=a) (by omega) (by omega) hB rfl (by simp) (by simp) (by simp)]
   unfold Qe;by_cases ha:Bw a<64
   ·rw[D1 ha,L0 (c:=b) (by omega) (by omega) hB rfl (by simp<;>omega) (by simp<;>omega) (by simp<;>omega)]
    by_cases hb:Bw b<64
    ·rw[D1 hb,TM (by omega) (by omega) (by simp<;>omega) (by simp<;>omega)]
     rw[show (0:Int)=((0:Nat):Int) from rfl]
     rw[Aou (X:=(((0:Nat):Int)+Bw a*((2 ^ (18-6*0):Nat):Int)+Bw b*((2 ^ (18-6*1):Nat):Int)) / 256 % 256) (by omega) (by omega) rfl]
     by_cases hz:Bw b % 16=0
     ·rw[D1 (by simp<;>omega)]
      rw[Aou (X:=(((0:Nat):Int)+Bw a*((2 ^ (18-6*0):Nat):Int)+Bw b*((2 ^ (18-6*1):Nat):Int)) % 256) (by omega) (by omega) rfl]
      rw[D1 (by simp<;>omega),TW (by omega) (by omega) hB (by simp) (by omega)]
      rw[D1 ⟨ha,hb,hz⟩];have hr:=ih [] (acc++[Bw a*4+Bw b / 16]) k (by simp) (by omega) (fun x hx=>by cases hx) (by simp) (by simp at DL ⊢;omega)
      have e:(((0:Nat):Int)+Bw a*((2 ^ (18-6*0):Nat):Int)+Bw b*((2 ^ (18-6*1):Nat):Int)) / 65536 % 256=Bw a*4+Bw b / 16:=by simp;omega
      rw[e];refine hr.trans ?_;simp[Qe]
     ·rw[Dc (by simp<;>omega),Dc (fun h=>hz h.2.2)]
    ·rw[Dc hb,Dc (fun h=>hb h.2.1)]
   ·rw[Dc ha,Dc (fun h=>ha h.1)]
  |[a,b,c],_,hB,_,DL,head=>
   have va:=Nz a;have vb:=Nz b;have vc:=Nz c;rw[head 3 (by simp) rfl,show (0:Int)=((0:Nat):Int) from rfl]
   rw[L0 (c:=a) (by omega) (by omega) hB rfl (by simp) (by simp) (by simp)]
   unfold Qe;by_cases ha:Bw a<64
   ·rw[D1 ha,L0 (c:=b) (by omega) (by omega) hB rfl (by simp<;>omega) (by simp<;>omega) (by simp<;>omega)]
    by_cases hb:Bw b<64
    ·rw[D1 hb,L0 (c:=c) (by omega) (by omega) hB rfl (by simp<;>omega) (by simp<;>omega) (by simp<;>omega)]
     by_cases hc:Bw c<64
     ·rw[D1 hc,TM (by omega) (by omega) (by simp<;>omega) (by simp<;>omega)]
      rw[show (0:Int)=((0:Nat):Int) from rfl]
      rw[Aou (X:=(((0:Nat):Int)+Bw a*((2 ^ (18-6*0):Nat):Int)+Bw b*((2 ^ (18-6*1):Nat):Int)+Bw c*((2 ^ (18-6*2):Nat):Int)) % 256) (by omega) (by omega) rfl]
      by_cases hz:Bw c % 4=0
      ·rw[D1 (by simp<;>omega),TW (by omega) (by omega) hB (by simp) (by omega)]
       rw[D1 ⟨ha,hb,hc,hz⟩];have hr:=ih [] (acc++[Bw a*4+Bw b / 16,Bw b % 16*16+Bw c / 4]) k (by simp) (by omega) (fun x hx=>by cases hx) (by simp) (by simp at DL ⊢;omega)
       have e:(((0:Nat):Int)+Bw a*((2 ^ (18-6*0):Nat):Int)+Bw b*((2 ^ (18-6*1):Nat):Int)+Bw c*((2 ^ (18-6*2):Nat):Int)) / 65536 % 256=Bw a*4+Bw b / 16:=by simp;omega
       have e2:(((0:Nat):Int)+Bw a*((2 ^ (18-6*0):Nat):Int)+Bw b*((2 ^ (18-6*1):Nat):Int)+Bw c*((2 ^ (18-6*2):Nat):Int)) / 256 % 256=Bw b % 16*16+Bw c / 4:=by simp;omega
       rw[e,e2];refine hr.trans ?_;simp[Qe]
      ·rw[Dc (by simp<;>omega),Dc (fun h=>hz h.2.2.2)]
     ·rw[Dc hc,Dc (fun h=>hc h.2.2.1)]
    ·rw[Dc hb,Dc (fun h=>hb h.2.1)]
   ·rw[Dc ha,Dc (fun h=>ha h.1)]
  |a::b::c::e::t,hl,hB,h1,DL,head=>
   have va:=Nz a;have vb:=Nz b;have vc:=Nz c;have ve:=Nz e;rw[head 4 (by simp) (by simp<;>omega),show (0:Int)=((0:Nat):Int) from rfl]
   rw[L0 (c:=a) (by omega) (by omega) hB rfl (by simp) (by simp) (by simp)]
   unfold Qe;by_cases ha:Bw a<64
   ·rw[D1 ha,L0 (c:=b) (by omega) (by omega) hB rfl (by simp<;>omega) (by simp<;>omega) (by simp<;>omega)]
    by_cases hb:Bw b<64
    ·rw[D1 hb,L0 (c:=c) (by omega) (by omega) hB rfl (by simp<;>omega) (by simp<;>omega) (by simp<;>omega)]
     by_cases hc:Bw c<64
     ·rw[D1 hc,L0 (c:=e) (by omega) (by omega) hB rfl (by simp<;>omega) (by simp<;>omega) (by simp<;>omega)]
      by_cases he:Bw e<64
      ·rw[D1 he,TM (by omega) (by omega) (by simp<;>omega) (by simp<;>omega)]
       rw[show (0:Int)=((4-4:Nat):Int) from rfl,TW (by omega) (by omega) hB (by simp) (by omega)]
       rw[D1 ⟨ha,hb,hc,he⟩];have hr:=ih t (acc++[Bw a*4+Bw b / 16,Bw b % 16*16+Bw c / 4,Bw c % 4*64+Bw e]) k (by simp at hl;omega) (by omega) (fun x hx=>hB x (by simp[hx])) (by simp at h1;omega) (by simp at DL ⊢;omega)
       have e1:(((4-4:Nat):Int)+Bw a*((2 ^ (18-6*0):Nat):Int)+Bw b*((2 ^ (18-6*1):Nat):Int)+Bw c*((2 ^ (18-6*2):Nat):Int)+Bw e*((2 ^ (18-6*3):Nat):Int)) / 65536 % 256=Bw a*4+Bw b / 16:=by simp;omega
       have e2:(((4-4:Nat):Int)+Bw a*((2 ^ (18-6*0):Nat):Int)+Bw b*((2 ^ (18-6*1):Nat):Int)+Bw c*((2 ^ (18-6*2):Nat):Int)+Bw e*((2 ^ (18-6*3):Nat):Int)) / 256 % 256=Bw b % 16*16+Bw c / 4:=by simp;omega
       have e3:(((4-4:Nat):Int)+Bw a*((2 ^ (18-6*0):Nat):Int)+Bw b*((2 ^ (18-6*1):Nat):Int)+Bw c*((2 ^ (18-6*2):Nat):Int)+Bw e*((2 ^ (18-6*3):Nat):Int)) % 256=Bw c % 4*64+Bw e:=by simp;omega
       rw[e1,e2,e3];refine hr.trans ?_;cases Qe t<;>simp
      ·rw[Dc he,Dc (fun h=>he h.2.2.2)]
     ·rw[Dc hc,Dc (fun h=>hc h.2.2.1)]
    ·rw[Dc hb,Dc (fun h=>hb h.2.1)]
   ·rw[Dc ha,Dc (fun h=>ha h.1)]
theorem Aen:∀{l:List Int},l.length % 4=1->Qe l=none
 |[],h=>by simp at h
 |[_],_=>rfl
 |[_,_],h=>by simp at h
 |[_,_,_],h=>by simp at h
 |p::q::r::s::t,h=>by
  have:=Aen (l:=t) (by simp at h;omega)
  unfold Qe;rw[this];simp
theorem Arn {l:List Int}(hB:Ct l)(hl:l.length<=1000000)(Ei:10<=fu)(BD:l.length<=fu):Ae (CP p) prog fu (d+3) H6 [.sc (.string (Aa l))]=some (match Qe l with|none=>⟨[.own 1 0 [],.sc (.int .i64 2)],[]⟩|some b=>⟨[.own 1 b.length (Bn .u8 b),.sc (.int .i64 0)],[]⟩):=by
 rw[O3];have a0:Int.tmod ((l.length:Nat):Int) 4=((l.length % 4:Nat):Int):=by rw[Int.tmod_eq_emod_of_nonneg (by omega)];omega
 by_cases h1:l.length % 4=1
 ·have a1:(((l.length % 4:Nat):Int)==1)=true:=by rw[h1];rfl
  rw[Aen h1];simp only[B0,Af,a0,a1]
 ·have a1:(((l.length % 4:Nat):Int)==1)=false:=by simp;omega
  have a2:Int.tdiv ((l.length:Nat):Int) 4=((l.length / 4:Nat):Int):=by rw[Int.tdiv_eq_ediv_of_nonneg (by omega)];omega
  have a3:wrap .i64 ((l.length / 4:Nat):Int)=((l.length / 4:Nat):Int):=Az (by omega) (by omega)
  have a4:wrap .i64 (((l.length / 4:Nat):Int)*3)=((l.length / 4:Nat):Int)*3:=Az (by omega) (by omega)
  have a5:wrap .i64 (((l.length / 4:Nat):Int)*3+2)=((l.length / 4:Nat):Int)*3+2:=Az (by omega) (by omega)
  have a6:decide ((0:Int)<=((l.length / 4:Nat):Int)*3+2)=true:=by simp;omega
  have a7:decide ((((l.length / 4:Nat):Int)*3+2)*1<=1099511627776)=true:=by simp;omega
  have a8:decide (((l.length / 4:Nat):Int)*3+2<=1099511627776)=true:=by simp;omega
  have hd:=Adm (d:=d) (p:=p) (a0:=Aa l) Ei (l.length / 4+1) l [] fu (by omega) (by omega) hB h1 (by simp<;>omega)
  simp only[B0,Af,a0,a1,a2,a3,a4,a5,a6,a7,a8];refine hd.trans ?_;cases Qe l<;>simp
end
end
section
open Go.Proofs.Tryd (prog)
open Go.IntKind (wrap)
set_option maxRecDepth 100000
theorem dT {q:Prop} [Decidable q] (h:q):decide q=true:=decide_eq_true h
theorem dF {q:Prop} [Decidable q] (h:¬q):decide q=false:=decide_eq_false h
theorem bT {q:Prop} [Decidable q] (h:q):(!decide q)=false:=by simp[h]
theorem bF {q:Prop} [Decidable q] (h:¬q):(!decide q)=true:=by simp[h]
def okB (n i:Nat)(c:Int):Bool:=VZ c||(c==45&&decide (0<i)&&decide (i+1<n))
def Ya (n:Nat):Nat->List Int->Bool
 |_,[]=>true
 |i,c::r=>okB n i c&&Ya n (i+1) r
theorem KG (n i:Nat)(c:Int)(r:List Int):Ya n i (c::r)=(okB n i c&&Ya n (i+1) r):=rfl
theorem Ahw:VZ 45=false:=rfl
theorem XH (n:Nat):∀(r:List Int)(i:Nat),i+r.length=n->Ya n i r=(r.all (fun x=>VZ x||x==45) && !(decide (i=0)&&r.head?==some 45) && !(r.getLast?==some 45))
 |[],i,_=>by simp[Ya]
 |[c],i,h=>by
  simp only[FM,List.length_nil] at h;unfold Ya okB;by_cases hc:c=45
  ·subst hc;have:¬i+1<n:=by omega
   simp[Ya,Ahw,this]
  ·have hcb:(c==45)=false:=by simp[hc]
   simp[Ya,hcb]
 |c::x::r,i,h=>by
  have ih:=XH n (x::r) (i+1) (by simp at h ⊢;omega)
  have hl:(c::x::r).getLast?=(x::r).getLast?:=by simp
  unfold Ya;rw[ih,hl];have h1:i+1<n:=by simp at h;omega
  unfold okB;by_cases hc:c=45
  ·subst hc;by_cases hi:i=0
   ·subst hi;simp[Ahw]
   ·have:0<i:=by omega
    simp[Ahw,h1,hi,this]
  ·have hcb:(c==45)=false:=by simp[hc]
   simp[hcb,Bool.and_assoc]
theorem Ali {l:List Int}(h1:1<=l.length)(h2:l.length<=63):I5 l=Ya l.length 0 l:=by
 rw[XH _ l 0 (by simp)]
 unfold I5;rw[dT h1,dT h2];cases l.all (fun x=>VZ x||x==45)<;>cases (l.head?==some 45)<;>cases (l.getLast?==some 45)<;>rfl
section
variable {fu d:Nat} {p:Option (List PV->Option Aq)}
theorem OW {call:An}{a0:ByteArray}{l:List Int}(hB:Ct l)(hs:l.length<=63):∀(r:List Int)(i nn:Nat),l.drop i=r->r.length+1<=nn ->
  Bc fu call a0 nn (Aa l) (l.length:Int) (i:Int)=some ⟨[.sc (.bool (Ya l.length i r))],[]⟩
 |[],i,nn,hd,hn=>by
  obtain⟨k,rfl⟩:∃k,nn=k+1:=⟨nn-1,by omega⟩
  have hi:=drop_nil hd;have a1:decide ((i:Int)<(l.length:Int))=false:=by simp;omega
  rw[Kn];simp only[B0,a1];rfl
 |c::r,i,nn,hd,hn=>by
  obtain⟨k,rfl⟩:∃k,nn=k+1:=⟨nn-1,by omega⟩
  obtain⟨hi,hc,Iz⟩:=Fl hd;have ih:=OW (call:=call) (a0:=a0) hB hs r (i+1) k Iz (by simp at hn;omega)
  have GG:=hB c (List.mem_of_getElem? hc);have a1:decide ((i:Int)<(l.length:Int))=true:=by simp;omega
  have a2:decide ((0:Int)<=(i:Int))=true:=by simp
  have a3:(Array.toList (Aa l).data)[Int.toNat (i:Int)]?=some c.toNat.toUInt8:=by
   rw[Kx];show (l.map fun n=>n.toNat.toUInt8)[i]?=_
   rw[List.getElem?_map,hc];rfl
  have a4:=Jm GG;have a5:wrap .i64 ((i:Int)+1)=((i+1:Nat):Int):=by rw[Az (by omega) (by omega)];omega
  have a6:wrap .i64 ((l.length:Int)-1)=(l.length:Int)-1:=Az (by omega) (by omega)
  have good:okB l.length i c=true->(Bc fu call a0 k (Aa l) (l.length:Int) ((i+1:Nat):Int)=some ⟨[.sc (.bool (Ya l.length i (c::r)))],[]⟩):=by
   intro h;rw[ih,KG,h,Zzm]
  have bad:okB l.length i c=false->some (Aq.mk [PV.sc (.bool false)] [])=some ⟨[.sc (.bool (Ya l.length i (c::r)))],[]⟩:=by
   intro h;rw[KG,h,PE]
  rw[Kn];by_cases hA:97<=c∧c<=122
  ·have q1:=dT hA.1;have q2:=dT hA.2;have q3:(c==45)=false:=by simp;omega
   have q4:=dT (q:=(48:Int)<=c) (by omega)
   have q5:=bF (q:=c<=57) (by omega)
   simp only[B0,a1,a2,a3,a4,a5,a6,Af,q1,q2,q3,q4,q5];exact good (by unfold okB VZ;simp[hA])
  by_cases hD:48<=c∧c<=57
  ·have q1:=dF (q:=(97:Int)<=c) (by omega)
   have q2:=dT (q:=c<=122) (by omega)
   have q3:(c==45)=false:=by simp;omega
   have q4:=dT hD.1;have q5:=bT hD.2;simp only[B0,a1,a2,a3,a4,a5,a6,Af,q1,q2,q3,q4,q5];exact good (by unfold okB VZ Uu;simp[hD])
  have B7:VZ c=false:=by
   unfold VZ Uu;simp;exact⟨fun h=>by omega,fun h=>by omega⟩
  by_cases hM:c=45
  ·subst hM;have q1:decide ((97:Int)<=45)=false:=rfl;have q2:decide ((45:Int)<=122)=true:=rfl;have q3:((45:Int)==45)=true:=rfl;have q4:decide ((48:Int)<=45)=false:=rfl;have q5:(!decide ((45:Int)<=57))=false:=rfl;by_cases h0:0<i
   ·have q6:=dT (q:=(i:Int)>0) (by omega)
    by_cases h1:i+1<l.length
    ·have q7:=bT (q:=(i:Int)<(l.length:Int)-1) (by omega)
     simp only[B0,a1,a2,a3,a4,a5,a6,Af,q1,q2,q3,q4,q5,q6,q7];exact good (by unfold okB;simp[h0,h1])
    ·have q7:=bF (q:=(i:Int)<(l.length:Int)-1) (by omega)
     simp only[B0,a1,a2,a3,a4,a5,a6,Af,q1,q2,q3,q4,q5,q6,q7];exact bad (by unfold okB;simp[h1,B7])
   ·have q6:=dF (q:=(i:Int)>0) (by omega)
    simp only[B0,a1,a2,a3,a4,a5,a6,Af,q1,q2,q3,q4,q5,q6];exact bad (by unfold okB;simp[h0,B7])
  have q3:(c==45)=false:=by simp[hM]
  have ZY:okB l.length i c=false:=by unfold okB;simp[B7,hM]
  by_cases h97:97<=c
  ·have q1:=dT h97;have q2:=dF (q:=c<=122) (by omega)
   have q4:=dT (q:=(48:Int)<=c) (by omega)
   have q5:=bF (q:=c<=57) (by omega)
   simp only[B0,a1,a2,a3,a4,a5,a6,Af,q1,q2,q3,q4,q5];exact bad ZY
  ·have q1:=dF h97;have q2:=dT (q:=c<=122) (by omega)
   by_cases h48:48<=c
   ·have q4:=dT h48;have q5:=bF (q:=c<=57) (by omega)
    simp only[B0,a1,a2,a3,a4,a5,a6,Af,q1,q2,q3,q4,q5];exact bad ZY
   ·have q4:=dF h48;have q5:=bT (q:=c<=57) (by omega)
    simp only[B0,a1,a2,a3,a4,a5,a6,Af,q1,q2,q3,q4,q5];exact bad ZY
theorem Ak8 {l:List Int}(hB:Ct l)(Ei:100<=fu):Ae (CP p) prog fu (d+1) Ns [.sc (.string (Aa l))]=some ⟨[.sc (.bool (I5 l))],[]⟩:=by
 rw[Wn];by_cases h1:1<=l.length
 ·by_cases h2:l.length<=63
  ·have a1:decide (((l.length:Nat):Int)<1)=false:=by simp;omega
   have a2:decide (((l.length:Nat):Int)>63)=false:=by simp;omega
   rw[Ali h1 h2];simp only[B0,Af,a1,a2];exact OW hB h2 l 0 fu rfl (by omega)
  ·have a1:decide (((l.length:Nat):Int)<1)=false:=by simp;omega
   have a2:decide (((l.length:Nat):Int)>63)=true:=by simp;omega
   have e:I5 l=false:=by unfold I5;simp[h2]
   rw[e];simp only[B0,Af,a1,a2]
 ·have a1:decide (((l.length:Nat):Int)<1)=true:=by simp;omega
  have e:I5 l=false:=by unfold I5;simp[h1]
  rw[e];simp only[B0,Af,a1]
theorem Agk (l cs:List UInt8):(Lib.trimS l cs==[])=l.all (cs.contains ·):=by
 have key:∀(q:UInt8->Bool) (m:List UInt8),m.dropWhile q=[]↔m.all q=true:=by
  intro q m
  induction m with
  |nil=>simp
  |cons x m ih=>
   by_cases hx:q x=true
   ·rw[List.dropWhile_cons_of_pos hx,ih];simp[hx]
   ·rw[List.dropWhile_cons_of_neg hx];simp[hx]
 unfold Lib.trimS Lib.trimLeftS Lib.trimRightS;rw[Bool.eq_iff_iff,beq_iff_eq,key,List.all_reverse,←key,key,List.all_eq_true]
 have h2:∀(q:UInt8->Bool) (m:List UInt8),(m.dropWhile q).all q=true↔m.all q=true:=by
  intro q m
  induction m with
  |nil=>simp
  |cons x m ih=>
   by_cases hx:q x=true
   ·rw[List.dropWhile_cons_of_pos hx,ih];simp[hx]
   ·rw[List.dropWhile_cons_of_neg hx]
 rw[←List.all_eq_true,h2,List.all_reverse]
def Rz:ByteArray:=⟨#[48,49,50,51,52,53,54,55,56,57]⟩
theorem An3:∀n:Fin 256,Rz.data.toList.contains (n.val:Int).toNat.toUInt8=Uu (n.val:Int):=by decide +kernel
theorem Aoa {l:List Int}(h:Ct l):((l.map fun n=>n.toNat.toUInt8).all (Rz.data.toList.contains ·))=l.all Uu:=by
 induction l with
 |nil=>rfl
 |cons c r ih=>
  obtain⟨hc,hr⟩:=Cq h;obtain⟨n,rfl⟩:=Int.eq_ofNat_of_zero_le hc.1;rw[List.map_cons,List.all_cons,List.all_cons,ih hr]
  congr 1
  exact An3 ⟨n,by omega⟩
theorem Apu {l:List Int}(hB:Ct l)(hs:l.length<=1000000):∃x,Ae (CP p) prog fu (d+1) 66 [.sc (.string (Aa l)),.sc (.string Rz)]=some ⟨[.sc (.string x)],[]⟩∧(Array.toList x.data==Array.toList (ByteArray.mk #[]).data)=l.all Uu:=by
 refine⟨⟨(Lib.trimS (Aa l).data.toList Rz.data.toList).toArray⟩,?_,?_⟩
 ·have e:Ae (CP p) prog fu (d+1) 66 [.sc (.string (Aa l)),.sc (.string Rz)]=RJ [.sc (.string (Aa l)),.sc (.string Rz)]:=rfl;rw[e];unfold RJ
  have:(Nat.ble Rz.size 1000&&Rz.data.toList.all (fun b=>decide (b.toNat<128))&&decide ((Aa l).size<=1000000000))=true:=by
   rw[Af];have h1:(Nat.ble Rz.size 1000&&Rz.data.toList.all (fun b=>decide (b.toNat<128)))=true:=by decide +kernel
   rw[h1,dT (q:=l.length<=1000000000) (by omega)]
   rfl
  simp only[this,cond_true]
 ·show (Lib.trimS (Aa l).data.toList Rz.data.toList==[])=_;rw[Agk];exact Aoa hB
theorem Re (c:Int):∀{l:List Int},Ct l->∀x∈A1 c l,Ct x∧x.length<=l.length
 |[],_,x,hx=>by simp[A1] at hx;subst hx;exact⟨(fun y hy=>nomatch hy),Nat.le_refl _⟩
 |a::r,h,x,hx=>by
  obtain⟨ha,hr⟩:=Cq h;have ih:=Re c hr;unfold A1 at hx;split at hx
  ·rcases List.mem_cons.1 hx with rfl|hx
   ·exact⟨(fun y hy=>nomatch hy),Nat.zero_le _⟩
   ·exact⟨(ih x hx).1,Nat.le_succ_of_le (ih x hx).2⟩
  ·cases hs:A1 c r with
   |nil=>exact absurd hs (Ol c r)
   |cons b t=>
    rw[hs] at hx ih;rcases List.mem_cons.1 hx with rfl|hx
    ·obtain⟨q1,q2⟩:=ih b (by simp)
     refine⟨fun y hy=>?_,by simp;omega⟩
     rcases List.mem_cons.1 hy with rfl|hy
     ·exact ha
     ·exact q1 y hy
    ·exact⟨(ih x (by simp[hx])).1,Nat.le_succ_of_le (ih x (by simp[hx])).2⟩
theorem NX {a0:ByteArray}(Ei:200<=fu){ls:List (List Int)} (hB:∀x∈ls,Ct x∧x.length<=1000)(h0:ls≠[]) (hN:ls.length<=1000):∀(r:List (List Int)) (i nn:Nat),ls.drop i=r->r.length+1<=nn ->
  G7 fu (Ae (CP p) prog fu (d+1)) a0 nn ls.length ls.length (ls.length:Int) (i:Int) (ls.map Qo)=some ⟨[.sc (.int .i64 (if r.all I5=false then 2 else if (ls.getLastD []).all Uu=true then 2 else 0))],[]⟩
 |[],i,nn,hd,hn=>by
  obtain⟨k,rfl⟩:∃k,nn=k+1:=⟨nn-1,by omega⟩
  have hi:=drop_nil hd;have ZI:0<ls.length:=List.length_pos_iff.2 h0;have a1:decide ((i:Int)<(ls.length:Int))=false:=by simp;omega
  have a2:wrap .i64 ((ls.length:Int)-1)=((ls.length-1:Nat):Int):=by rw[Az (by omega) (by omega)];omega
  have a3:decide ((0:Int)<=((ls.length-1:Nat):Int))=true:=by simp
  have a4:decide (((ls.length-1:Nat):Int)<(ls.length:Int))=true:=by simp;omega
  have OS:ls.getLastD []=ls[ls.length-1]'(by omega):=by
   rw[List.getLastD_eq_getLast?,List.getLast?_eq_getElem?,List.getElem?_eq_getElem (by omega)]
   rfl
  have a5:List.getD (ls.map Qo) (0+Int.toNat ((ls.length-1:Nat):Int)*1) PV.top=.sc (.string (Aa (ls.getLastD []))):=by
   rw[Kx,SF,AZ,List.getD_eq_getElem?_getD,List.getElem?_map,List.getElem?_eq_getElem (by omega),OS]
   rfl
  have hm:=hB (ls.getLastD []) (by rw[OS];exact List.getElem_mem _)
  obtain⟨x,e,hx⟩:=Apu (fu:=fu) (d:=d) (p:=p) hm.1 (by omega)
  have e2:Ae (CP p) prog fu (d+1) 66 [.sc (.string (Aa (ls.getLastD []))),.sc (.string (ByteArray.mk #[(48:UInt8),(49:UInt8),(50:UInt8),(51:UInt8),(52:UInt8),(53:UInt8),(54:UInt8),(55:UInt8),(56:UInt8),(57:UInt8)]))]=some ⟨[.sc (.string x)],[]⟩:=e;rw[Mu];cases hq:(ls.getLastD []).all Uu
  ·rw[hq] at hx;simp only[B0,a1,a2,a3,a4,a5,e2,hx,List.all_nil,Bool.true_eq_false,if_false,Bool.false_eq_true]
  ·rw[hq] at hx;simp only[B0,a1,a2,a3,a4,a5,e2,hx,List.all_nil,Bool.true_eq_false,if_false,if_true]
 |x::r,i,nn,hd,hn=>by
  obtain⟨k,rfl⟩:∃k,nn=k+1:=⟨nn-1,by omega⟩
  obtain⟨hi,hc,Iz⟩:=Fl hd;have ih:=NX (a0:=a0) Ei hB h0 hN r (i+1) k Iz (by simp at hn;omega)
  have hm:=hB x (List.mem_of_getElem? hc);have e:Ae (CP p) prog fu (d+1) 65 [.sc (.string (Aa x))]=_:=Ak8 (fu:=fu) (d:=d) (p:=p) hm.1 (by omega)
  have a1:decide ((i:Int)<(ls.length:Int))=true:=by simp;omega
  have a2:decide ((0:Int)<=(i:Int))=true:=by simp
  have a5:List.getD (ls.map Qo) (0+Int.toNat (i:Int)*1) PV.top=.sc (.string (Aa x)):=by
   rw[Kx,SF,AZ,List.getD_eq_getElem?_getD,List.getElem?_map,hc];rfl
  have a6:wrap .i64 ((i:Int)+1)=((i+1:Nat):Int):=by rw[Az (by omega) (by omega)];omega
  rw[Mu];cases hq:I5 x
  ·rw[hq] at e;have:((x::r).all I5=false):=by simp[hq]
   rw[D1 this];simp only[B0,a1,a2,a5,e,Dl]
  ·rw[hq] at e;have:(x::r).all I5=r.all I5:=by simp[hq]
   rw[this];simp only[B0,a1,a2,a5,e,Cw,a6];exact ih
theorem Ao9 {l:List Int}(hB:Ct l)(hs:l.length<=1000000)(Ei:200<=fu):Ae (CP p) prog fu (d+6) Qr [.sc (.string (Aa l))]=some ⟨[.sc (.int .i64 (Sb l))],[]⟩:=by
 rw[Z8];unfold Sb;by_cases h:100<l.length
 ·have a1:decide (((l.length:Nat):Int)>100)=true:=by simp;omega
  rw[D1 h];simp only[B0,Af,a1]
 ·have a1:decide (((l.length:Nat):Int)>100)=false:=by simp;omega
  have e:Ae (CP p) prog fu (d+5) 64 [.sc (.string (Aa l)),.sc (.string (ByteArray.mk #[(46:UInt8)]))]=_:=Aik (fu:=fu) (d:=d) (p:=p) (c:=46) (by omega) hB (by omega) (by omega)
  have hn:=Sj 46 l;have hd:=NX (a0:=Aa l) (fu:=fu) (d:=d+4) (p:=p) (by omega) (ls:=A1 46 l) (fun x hx=>⟨(Re 46 hB x hx).1,by have:=(Re 46 hB x hx).2;omega⟩) (Ol 46 l) (by omega) (A1 46 l) 0 fu rfl (by omega)
  rw[Dc h];simp only[B0,Af,a1,e];exact hd
theorem Als (s:Bool):Ae (CP p) prog fu (d+1) Kt [.sc (.bool s)]=some ⟨[.sc (.int .i64 (XT s))],[]⟩:=by
 rw[Rs];cases s<;>simp only[B0]<;>rfl
theorem BE (c:Int):Uu c=true↔48<=c∧c<=57:=by unfold Uu;simp
theorem JQ {call:An}{a0:ByteArray}{l:List Int}(hB:Ct l)(hs:l.length<=5):∀(r:List Int)(i nn:Nat)(n:Int),l.drop i=r->r.length+1<=nn->0<=n->n<10 ^ i ->
  Ff fu call a0 nn (Aa l) n (l.length:Int) (i:Int)=some (if r.all Uu=true then ⟨[.sc (.int .i64 (r.foldl (fun n x=>10*n+(x-48)) n)),.sc (.bool (decide (r.foldl (fun n x=>10*n+(x-48)) n<=65535)))],[]⟩ else ⟨[.sc (.int .i64 0),.sc (.bool false)],[]⟩)
 |[],i,nn,n,hd,hn,h0,h1=>by
  obtain⟨k,rfl⟩:∃k,nn=k+1:=⟨nn-1,by omega⟩
  have hi:=drop_nil hd;have a1:decide ((i:Int)<(l.length:Int))=false:=by simp;omega
  rw[I8];simp only[B0,a1];rfl
 |c::r,i,nn,n,hd,hn,h0,h1=>by
  obtain⟨k,rfl⟩:∃k,nn=k+1:=⟨nn-1,by omega⟩
  obtain⟨hi,hc,Iz⟩:=Fl hd;have GG:=hB c (List.mem_of_getElem? hc)
  have hp:(10:Int) ^ i<=10 ^ 4:=by
   have h:=Nat.pow_le_pow_right (n:=10) (by omega) (show i<=4 by omega)
   exact_mod_cast h
  have hp2:(10:Int) ^ (i+1)=10 ^ i*10:=Int.pow_succ ..;have a1:decide ((i:Int)<(l.length:Int))=true:=by simp;omega
  have a2:decide ((0:Int)<=(i:Int))=true:=by simp
  have a3:(Array.toList (Aa l).data)[Int.toNat (i:Int)]?=some c.toNat.toUInt8:=by
   rw[Kx];show (l.map fun n=>n.toNat.toUInt8)[i]?=_
   rw[List.getElem?_map,hc];rfl
  have a4:=Jm GG;rw[I8];by_cases hq:48<=c∧c<=57
  ·have q1:=dF (q:=c<48) (by omega)
   have q2:=dF (q:=c>57) (by omega)
   have a5:wrap .i64 (10*n)=10*n:=Az (by omega) (by omega)
   have a6:wrap .u8 (c-48)=c-48:=Wd (by omega) (by omega)
   have a7:wrap .i64 (c-48)=c-48:=Az (by omega) (by omega)
   have a8:wrap .i64 (10*n+(c-48))=10*n+(c-48):=Az (by omega) (by omega)
   have a9:wrap .i64 ((i:Int)+1)=((i+1:Nat):Int):=by rw[Az (by omega) (by omega)];omega
   have ih:=JQ (call:=call) (a0:=a0) hB hs r (i+1) k (10*n+(c-48)) Iz (by simp at hn;omega) (by omega) (by omega)
   have e:(c::r).all Uu=r.all Uu:=by rw[List.all_cons,(BE c).2 hq,Zzm]
   simp only[B0,a1,a2,a3,a4,q1,q2,a5,a6,a7,a8,a9];rw[ih,e];rfl
  ·have e:(c::r).all Uu=false:=by
    have:Uu c=false:=by
     cases hb:Uu c
     ·rfl
     ·exact absurd ((BE c).1 hb) hq
    rw[List.all_cons,this,PE]
   rw[e];by_cases h48:c<48
   ·have q1:=dT h48;simp only[B0,a1,a2,a3,a4,q1,Bool.false_eq_true,if_false]
   ·have q1:=dF h48;have q2:=dT (q:=c>57) (by omega)
    simp only[B0,a1,a2,a3,a4,q1,q2,Bool.false_eq_true,if_false]
theorem Anu {l:List Int}(hB:Ct l)(Ei:100<=fu):Ae (CP p) prog fu (d+1) Mx [.sc (.string (Aa l))]=some (if Hp l=true then ⟨[.sc (.int .i64 (Ud l)),.sc (.bool (decide (Ud l<=65535)))],[]⟩ else ⟨[.sc (.int .i64 0),.sc (.bool false)],[]⟩):=by
 rw[Tt];by_cases h1:1<=l.length
 ·by_cases h2:l.length<=5
  ·have a1:decide (((l.length:Nat):Int)<1)=false:=by simp;omega
   have a2:decide (((l.length:Nat):Int)>5)=false:=by simp;omega
   cases l with
   |nil=>simp at h1
   |cons c r=>
    have GG:=hB c (by simp)
    have a3:(Array.toList (Aa (c::r)).data)[0]?=some c.toNat.toUInt8:=rfl;have a4:=Jm GG;by_cases h0:c=48
    ·subst h0;have e:Hp (48::r)=false:=by unfold Hp;simp
     have q:((48:Int)==48)=true:=rfl;rw[e];simp only[B0,Af,a1,a2,a3,a4,q,Bool.false_eq_true,if_false]
    ·have q:(c==48)=false:=by simp[h0]
     have e:Hp (c::r)=(c::r).all Uu:=by
      unfold Hp;rw[dT h1,dT h2];simp[h0]
     have hl:=JQ (call:=Ae (CP p) prog fu d) (fu:=fu) (a0:=Aa (c::r)) hB h2 (c::r) 0 fu 0 rfl (by omega) (by omega) (by decide)
     rw[e];simp only[B0,Af,a1,a2,a3,a4,q];exact hl
  ·have a1:decide (((l.length:Nat):Int)<1)=false:=by simp;omega
   have a2:decide (((l.length:Nat):Int)>5)=true:=by simp;omega
   have e:Hp l=false:=by unfold Hp;simp[h2]
   rw[e];simp only[B0,Af,a1,a2,Bool.false_eq_true,if_false]
 ·have a1:decide (((l.length:Nat):Int)<1)=true:=by simp;omega
  have e:Hp l=false:=by unfold Hp;simp[h1]
  rw[e];simp only[B0,Af,a1,Bool.false_eq_true,if_false]
theorem VT {l:List Int}(hB:Ct l)(hs:l.length<=1000000)(Ei:200<=fu):∃o1 o2 o3,Ae (CP p) prog fu (d+7) Rn [.sc (.string (Aa l))]=some ⟨[.agg [.sc (.bool o1),.sc (.string o2),.sc (.int .i64 o3)],.sc (.int .i64 (Ew l))],[]⟩:=by
  have hsp:=Al6 (fu:=fu) (d:=d+2) (p:=p) hB (w:=[104,116,116,112,115,58,47,47]) (fun x hx=>by simp at hx;omega)
  have Pm:=Al6 (fu:=fu) (d:=d+2) (p:=p) hB (w:=[104,116,116,112,58,47,47]) (fun x hx=>by simp at hx;omega)
  have e1:Ae (CP p) prog fu (d+6) 44 [.sc (.string (Aa l)),.sc (.string (ByteArray.mk #[(104:UInt8),(116:UInt8),(116:UInt8),(112:UInt8),(115:UInt8),(58:UInt8),(47:UInt8),(47:UInt8)]))]=_:=hsp
  have e2:Ae (CP p) prog fu (d+6) 44 [.sc (.string (Aa l)),.sc (.string (ByteArray.mk #[(104:UInt8),(116:UInt8),(116:UInt8),(112:UInt8),(58:UInt8),(47:UInt8),(47:UInt8)]))]=_:=Pm
  have tail:∀(s:Bool) (r:List Int),Ct r->r.length<=1000000->∃o1 o2 o3,(Ai (Ae (CP p) prog fu (d+6) 45 [PV.sc (Value.string (Aa r)),PV.sc (Value.string (ByteArray.mk #[(58:UInt8)]))]) fun Ib Kp=>
    Ad (Kp) <|
    Ab (Ib) fun Jb Kw=>
    A0 (Jb) fun K7=>
    Ab (Kw) fun Lx Jz=>
    A0 (Lx) fun Lo=>
    Ab (Jz) fun Ld Lt=>
    Ao (Ld) fun Mq=>
    Ad (Lt) <|
    Ai (Ae (CP p) prog fu (d+6) 46 [PV.sc (Value.string K7)]) fun Ow M2=>
    Ad (M2) <|
    Ab (Ow) fun Ox Pk=>
    Ak (IntKind.i64) (Ox) fun P4=>
    Ad (Pk) <|
    Ba (P4 != (0:Int))
     (
     some (Aq.mk [PV.agg [PV.sc (Value.bool false),PV.sc (Value.string (ByteArray.mk #[])),PV.sc (Value.int IntKind.i64 (0:Int))],PV.sc (Value.int IntKind.i64 P4)] []))
     (
     Ai (Ae (CP p) prog fu (d+6) 47 [PV.sc (Value.bool s)]) fun Pi Ql=>
     Ad (Ql) <|
     Ab (Pi) fun Qt P7=>
     Ak (IntKind.i64) (Qt) fun R0=>
     Ad (P7) <|
     Ba (Mq)
      (
      Ai (Ae (CP p) prog fu (d+6) 48 [PV.sc (Value.string Lo)]) fun Q3 Pn=>
      Ad (Pn) <|
      Ab (Q3) fun W0 X8=>
      Ak (IntKind.i64) (W0) fun Pq=>
      Ab (X8) fun Qp Wb=>
      Ao (Qp) fun Wa=>
      Ad (Wb) <|
      Ba (!Wa)
       (
       some (Aq.mk [PV.agg [PV.sc (Value.bool false),PV.sc (Value.string (ByteArray.mk #[])),PV.sc (Value.int IntKind.i64 (0:Int))],PV.sc (Value.int IntKind.i64 (2:Int))] []))
       (
       Ba (Pq==R0)
        (
        some (Aq.mk [PV.agg [PV.sc (Value.bool false),PV.sc (Value.string (ByteArray.mk #[])),PV.sc (Value.int IntKind.i64 (0:Int))],PV.sc (Value.int IntKind.i64 (2:Int))] []))
        (
        some (Aq.mk [PV.agg [PV.sc (Value.bool s),PV.sc (Value.string K7),PV.sc (Value.int IntKind.i64 Pq)],PV.sc (Value.int IntKind.i64 (0:Int))] []))))
      (
      some (Aq.mk [PV.agg [PV.sc (Value.bool s),PV.sc (Value.string K7),PV.sc (Value.int IntKind.i64 R0)],PV.sc (Value.int IntKind.i64 (0:Int))] []))))=some ⟨[.agg [.sc (.bool o1),.sc (.string o2),.sc (.int .i64 o3)],.sc (.int .i64 (Vx s r))],[]⟩:=by
    intro s r hr hrl
    have c1:Ae (CP p) prog fu (d+6) 45 [.sc (.string (Aa r)),.sc (.string (ByteArray.mk #[(58:UInt8)]))]=_:=Av4 (fu:=fu) (d:=d+2) (p:=p) (c:=58) (by omega) hr hrl
    have Pj:=MZ 58 r
    have hbB:Ct (Bi 58 r):=by rw[Ob];exact fun x hx=>hr x (List.mem_of_mem_take hx)
    have hdB:Ct (r.drop ((Bi 58 r).length+1)):=fun x hx=>hr x (List.mem_of_mem_drop hx)
    have c2:Ae (CP p) prog fu (d+6) 46 [.sc (.string (Aa (Bi 58 r)))]=_:=Ao9 (fu:=fu) (d:=d) (p:=p) hbB (by omega) Ei
    have c3:Ae (CP p) prog fu (d+6) 47 [.sc (.bool s)]=_:=Als (fu:=fu) (d:=d+5) (p:=p) s
    have c4:Ae (CP p) prog fu (d+6) 48 [.sc (.string (Aa (r.drop ((Bi 58 r).length+1))))]=_:=Anu (fu:=fu) (d:=d+5) (p:=p) hdB (by omega)
    unfold Vx
    by_cases hh:Sb (Bi 58 r)=0
    · have b1:(Sb (Bi 58 r) != 0)=false:=by simp[hh]
      simp only[ne_eq,hh,not_true_eq_false,if_false]
      by_cases hw:(Bi 58 r).length<r.length
      · rw[dT hw] at c1
        rw[Dc (show ¬(Bi 58 r).length=r.length by omega)]
        by_cases hp:Hp (r.drop ((Bi 58 r).length+1))=true
        · rw[D1 hp] at c4
          by_cases hv:Ud (r.drop ((Bi 58 r).length+1))<=65535
          · rw[dT hv] at c4
            by_cases hdp:Ud (r.drop ((Bi 58 r).length+1))=XT s
            · have b2:(Ud (r.drop ((Bi 58 r).length+1))==XT s)=true:=by simp[hdp]
              rw[Dc (by rintro⟨_,_,h⟩;exact h hdp)]
              exact⟨_,_,_,by simp only[B0,c1,c2,hh,c3,c4,b2,Cw,show ((0:Int) != 0)=false from rfl];rfl⟩
            · have b2:(Ud (r.drop ((Bi 58 r).length+1))==XT s)=false:=by simp[hdp]
              rw[D1 ⟨hp,hv,hdp⟩]
              exact⟨_,_,_,by simp only[B0,c1,c2,hh,c3,c4,b2,Cw,show ((0:Int) != 0)=false from rfl];rfl⟩
          · rw[dF hv] at c4
            rw[Dc (by rintro⟨_,h,_⟩;exact hv h)]
            exact⟨_,_,_,by simp only[B0,c1,c2,hh,c3,c4,Dl,show ((0:Int) != 0)=false from rfl];rfl⟩
        · rw[Dc hp] at c4
          rw[Dc (by rintro⟨h,_,_⟩;exact hp h)]
          exact⟨_,_,_,by simp only[B0,c1,c2,hh,c3,c4,Dl,show ((0:Int) != 0)=false from rfl];rfl⟩
      · rw[dF hw] at c1
        rw[D1 (show (Bi 58 r).length=r.length by omega)]
        exact⟨_,_,_,by simp only[B0,c1,c2,hh,c3,show ((0:Int) != 0)=false from rfl];rfl⟩
    · have b1:(Sb (Bi 58 r) != 0)=true:=by simp[hh]
      simp only[ne_eq,hh,not_false_eq_true,if_true]
      exact⟨_,_,_,by simp only[B0,c1,c2,b1];rfl⟩
  have er:=EZ (p:=p) fu (d+6) (Aa l)
  unfold Ew
  cases h1:List.isPrefixOf [104,116,116,112,115,58,47,47] l
  · rw[h1] at e1
    simp only[Bool.false_eq_true,if_false] at e1 ⊢
    cases h2:List.isPrefixOf [104,116,116,112,58,47,47] l
    · rw[h2] at e2
      simp only[Bool.false_eq_true,if_false] at e2 ⊢
      exact⟨_,_,_,er.trans (by simp only[B0,e1,e2,Dl];rfl)⟩
    · rw[h2] at e2
      simp only[if_true] at e2 ⊢
      obtain⟨o1,o2,o3,ht⟩:=tail false (l.drop 7) (fun x hx=>hB x (List.mem_of_mem_drop hx)) (by simp;omega)
      refine⟨o1,o2,o3,er.trans ?_⟩
      simp only[BH,MV,AU,BB,LX,KR,MX,e1,e2,Dl,Cw]
      exact ht
  · rw[h1] at e1
    simp only[if_true] at e1 ⊢
    obtain⟨o1,o2,o3,ht⟩:=tail true (l.drop 8) (fun x hx=>hB x (List.mem_of_mem_drop hx)) (by simp;omega)
    refine⟨o1,o2,o3,er.trans ?_⟩
    simp only[BH,MV,AU,BB,LX,KR,MX,e1,Dl,Cw]
    exact ht
end
end
section
open Go.Proofs.Tryd (prog)
open Go.IntKind (wrap)
set_option maxRecDepth 1000000
open Go Go.RowKit Go.Lib
def RtP (w':World)(l:List Int)(e:Ending):Prop:=
 match TT 8 l with
 |.ok ms=>∃mb,e=.returned (.tuple #[.map (some mb),.int .i64 0])∧CN w' mb ms
 |.error er=>er≠0∧∃m,e=.returned (.tuple #[m,.int .i64 er])
theorem IB (l:List Int):TT 8 l=match Av [123] (Bf l) with
  |some r=>(match Vu (F6 8) true r with
   |.error e=>.error e
   |.ok (ms,r')=>if Bf r'=[] then .ok ms else .error 2)
  |none=>.error 2:=by
 unfold TT;rw[F3];cases Bf l with
 |nil=>rfl
 |cons y s=>
  by_cases hy:y=123
  ·subst hy;rfl
  ·simp only[Dc hy];split
   ·rename_i e;injection e with e1 _;exact absurd e1 hy
   ·rfl
theorem Dt.toBelow {w w':World}{b mb B:Nat}(k:Dt w w' b mb)(hb:B<=b)(LV:B<=mb)(hB:B<=w.heap.size):Below B w w':=
 ⟨k.os,k.tape,k.output,k.size,fun i hi=>k.other i (by omega) (by omega) (by omega)⟩
theorem BU {w:World}(hU:gU.ok w)(hUl:∀k,gU.bl k->k<w.heap.size){w':World}(hb:Below w.heap.size w w'){b:Nat}(hbb:w.heap.size<=b):Lh w' b:=
 ⟨gU.stable w w' (fun j _ hl=>hb.block j hl) hU,fun k hk=>⟨Nat.lt_of_lt_of_le (hUl k hk) hb.size,by have:=hUl k hk;omega⟩⟩
set_option maxHeartbeats 4000000 in
theorem Akw {t:ByteArray}(ht:t.size<=1000000){w:World}(hU:gU.ok w)(hUl:∀k,gU.bl k->k<w.heap.size):
  Calls prog 34 #[.string t] w fun e w'=>Below w.heap.size w w'∧RtP w' (Fc t) e:=by
 have mixed:prog.follows Departure.mixedOrders=true:=by kernel_rfl
 have SM:=@run_makeMap prog;have Er:Below w.heap.size w (w.alloc (.cells #[.string t,.int .i64 0] 92)):=(Below.refl _ w).alloc (Nat.le_refl _) _;have Ho:Below w.heap.size w ((w.alloc (.cells #[.string t,.int .i64 0] 92)).alloc (.map #[] 0)):=Er.alloc Er.size _;have hs1:(w.alloc (.cells #[.string t,.int .i64 0] 92)).heap.size=w.heap.size+1:=Array.size_push _
 have h2:Ux ((w.alloc (.cells #[.string t,.int .i64 0] 92)).alloc (.map #[] 0)) w.heap.size 0 t (Fc t):=by
  have hg:((w.alloc (.cells #[.string t,.int .i64 0] 92)).alloc (.map #[] 0)).heap[w.heap.size]?=some (.cells #[.string t,.int .i64 0] 92):=by
   show ((w.heap.push _).push _)[w.heap.size]?=_;rw[Array.getElem?_push_lt (by simp)]
   simp
  have hp:Bu t (Fc t)=0:=by unfold Bu;rw[Kk];omega
  refine⟨?_,?_,?_,?_,?_⟩
  ·show w.heap.size<((w.heap.push _).push _).size;rw[Array.size_push,Array.size_push];omega
  ·unfold World.cell?;simp only[hg];rfl
  ·unfold World.cell?;simp only[hg,hp];rfl
  ·unfold World.frozen?;simp only[hg];rfl
  ·unfold World.frozen?;simp only[hg];rfl
 have hM2:CN ((w.alloc (.cells #[.string t,.int .i64 0] 92)).alloc (.map #[] 0)) (w.heap.size+1) []:=by
  show ((w.heap.push _).push (Obj.map #[] 0))[w.heap.size+1]?=some (.map #[] 0);have:w.heap.size+1=(w.heap.push (Obj.cells #[.string t,.int .i64 0] 92)).size:=by simp
  rw[this];exact Array.getElem?_push_size
 have hU2:=BU hU hUl Ho (Nat.le_refl _);have hmU:¬gU.bl (w.heap.size+1):=fun h=>by have:=hUl _ h;omega
 have hS:=Dg.all t;have hsk:=Ht hS ht hU2 h2
 go_enter Tryd.func34,Tryd.ntmps34
 go_wp2_with (go_at_call 50;refine hsk.mono ?_)
 rintro e W3 ⟨rfl,h3,k3⟩
 have hS3:=Br hS;have hM3:=hM2.keep k3 (by omega)
 have hU3:=hU2.keep k3;have hro:=Ala hS3 ht hU3 h3 hM3 (by omega) hmU
 have Kv:Below w.heap.size w W3:=Ho.trans ((Dt.of (mb:=w.heap.size+1) k3).toBelow (Nat.le_refl _) (by omega) Ho.size)
 go_wp2_with (go_at_call 51;refine hro.mono ?_)
 rintro e W4 ⟨k4,r4,AR,h4,NL⟩
 have Sf:Below w.heap.size w W4:=Kv.trans (k4.toBelow (Nat.le_refl _) (by omega) Kv.size)
 have hU4:Lh W4 w.heap.size:=BU hU hUl Sf (Nat.le_refl _)
 have hRt:∀W e,(match Av [123] (Bf (Fc t)) with
  |some r=>(match Vu (F6 8) true r with
   |.error er=>er≠0∧∃m,e=.returned (.tuple #[m,.int .i64 er])
   |.ok (ms,r')=>if Bf r'=[] then ∃mb,e=.returned (.tuple #[.map (some mb),.int .i64 0])∧CN W mb ms else ∃m,e=.returned (.tuple #[m,.int .i64 2]))
  |none=>∃m,e=.returned (.tuple #[m,.int .i64 2]))->RtP W (Fc t) e:=by
  intro W e;unfold RtP;rw[IB];cases Av [123] (Bf (Fc t)) with
  |none=>exact fun h=>⟨by decide,h⟩
  |some r=>
   cases hob:Vu (F6 8) true r with
   |error er=>simp only[hob];exact id
   |ok x=>
    obtain⟨ms,r'⟩:=x;simp only[hob];by_cases g:Bf r'=[]
    ·simp only[D1 g];exact id
    ·simp only[Dc g];exact fun h=>⟨by decide,h⟩
 unfold RoP at NL;cases hq:Av [123] (Bf (Fc t)) with
 |none=>
  rw[hq] at NL hRt;subst NL
  go_wp2
  go_ret2
  exact⟨Sf,hRt _ _ ⟨_,rfl⟩⟩
 |some r=>
  rw[hq] at NL hRt;simp only at NL hRt;cases ho:Vu (F6 8) true r with
  |error er=>
   rw[ho] at NL hRt;obtain⟨he,rfl⟩:=NL;have hbe:(er != (0:Int))=true:=by simp[he]
   go_wp2
   go_ret2
   exact⟨Sf,hRt _ _ ⟨he,_,rfl⟩⟩
  |ok x=>
   obtain⟨ms,r'⟩:=x;rw[ho] at NL hRt;obtain⟨rfl,rfl,hM4⟩:=NL;have Aps:=Ht AR ht hU4 h4
   go_wp2_with (go_at_call 50;refine Aps.mono ?_)
   rintro e W5 ⟨rfl,h5,k5⟩
   have UL:Below w.heap.size w W5:=Sf.trans ((Dt.of (mb:=w.heap.size+1) k5).toBelow (Nat.le_refl _) (by omega) Sf.size)
   have hM5:=hM4.keep k5 (by omega)
   obtain⟨B7,hc0,GB,hf0,hf1⟩:=h5;have I4:=Br AR;have hl5:=I4.len;cases hx:Bf r4 with
   |nil=>
    rw[hx] at GB hRt;rw[U9] at GB
    go_wp2
    go_region_o
    go_wp2
    go_ret2
    exact⟨UL.drew,hRt _ _ (by rw[D1 trivial];exact⟨_,rfl,hM5⟩)⟩
   |cons c q=>
    rw[hx] at GB hRt hl5
    have Bdf:(Bu t (c::q):Int)<t.size:=by
     unfold Bu;rw[FM] at hl5 ⊢;omega
    have A27:¬(c::q=[]):=by simp
    go_wp2
    go_region_o
    go_wp2
    go_ret2
    exact⟨UL.drew,hRt _ _ (by rw[Dc A27];exact⟨_,rfl⟩)⟩
end
section
open Go.Proofs.Tryd (prog)
open Go.IntKind (wrap)
set_option maxRecDepth 1000000
open Go Go.RowKit Go.Lib
def Q2:List Int:=[116,121,112,101]
def Yf:List Int:=[99,104,97,108,108,101,110,103,101]
def nmO:List Int:=[111,114,105,103,105,110]
def Cl (nm:List Int)(ms:List (List Int × JV)):JV:=(Lc nm ms).getD (0,[],false)
theorem BT {w:World}{b:Nat}{ms:List (List Int × JV)} (h:CN w b ms)(hB:∀m∈ms,Ct m.1){nm:List Int}(hn:Ct nm):(Instr.lookup 68 (.map (some b)) (.string (Aa nm)) false).run prog w=.ok (.agg #[.int .i64 (Cl nm ms).1,.string (Aa (Cl nm ms).2.1),.bool (Cl nm ms).2.2]) w:=by
 have:=DN h hB hn false;rw[this];unfold PN Cl;cases Lc nm ms<;>rfl
theorem al4 (w:World)(o0 x1 x2 x3:Obj):((((w.alloc o0).alloc x1).alloc x2).alloc x3).drew.heap[w.heap.size]?=some o0∧((((w.alloc o0).alloc x1).alloc x2).alloc x3).drew.heap[w.heap.size+1]?=some x1∧((((w.alloc o0).alloc x1).alloc x2).alloc x3).drew.heap[w.heap.size+1+1]?=some x2∧((((w.alloc o0).alloc x1).alloc x2).alloc x3).drew.heap[w.heap.size+1+1+1]?=some x3:=by
 show ((((w.heap.push o0).push x1).push x2).push x3)[w.heap.size]?=some o0∧((((w.heap.push o0).push x1).push x2).push x3)[w.heap.size+1]?=some x1∧((((w.heap.push o0).push x1).push x2).push x3)[w.heap.size+1+1]?=some x2∧((((w.heap.push o0).push x1).push x2).push x3)[w.heap.size+1+1+1]?=some x3;refine⟨?_,?_,?_,?_⟩
 ·rw[Array.getElem?_push_lt (by simp;omega),Array.getElem_push_lt (by simp;omega),Array.getElem_push_lt (by simp),Array.getElem_push_eq]
 ·have:w.heap.size+1=(w.heap.push o0).size:=by simp
  rw[Array.getElem?_push_lt (by simp),Array.getElem_push_lt (by simp)]
  simp only[this,Array.getElem_push_eq]
 ·have:w.heap.size+1+1=((w.heap.push o0).push x1).size:=by simp
  rw[Array.getElem?_push_lt (by simp)]
  simp only[this,Array.getElem_push_eq]
 ·have:w.heap.size+1+1+1=(((w.heap.push o0).push x1).push x2).size:=by simp
  rw[this];exact Array.getElem?_push_size
theorem al2 (w:World)(x1 x2:Obj):((w.alloc x1).alloc x2).drew.heap[w.heap.size]?=some x1∧((w.alloc x1).alloc x2).drew.heap[w.heap.size+1]?=some x2:=by
 show ((w.heap.push x1).push x2)[w.heap.size]?=some x1∧((w.heap.push x1).push x2)[w.heap.size+1]?=some x2;refine⟨?_,?_⟩
 ·simp[Array.getElem?_push]
 ·have:w.heap.size+1=(w.heap.push x1).size:=by simp
  rw[this];exact Array.getElem?_push_size
def nmX:List Int:=[99,114,111,115,115,79,114,105,103,105,110]
def nmP:List Int:=[116,111,112,79,114,105,103,105,110]
def Aaf (v:JV):Obj:=.cells #[.int .i64 v.1,.string (Aa v.2.1),.bool v.2.2] 95
def cd0:Obj:=.cells #[.int .i64 0,.slice none 0 0,.string ⟨#[]⟩,.bool false,.string ⟨#[]⟩] 36
def GY:List Int:=[112,97,115,115,107,101,121,46,99,114,101,97,116,101]
def HL:List Int:=[112,97,115,115,107,101,121,46,103,101,116]
abbrev CD:=Int × List Int × List Int × Bool × List Int
def Zv (k:Int)(C O X P:JV):JR CD:=
 match Qe C.2.1 with
 |none=>.error 2
 |some b=>if b.length<1∨64<b.length then .error 9 else if Ew O.2.1≠0 then .error (Ew O.2.1) else if X.2.2=true∧Ew P.2.1≠0 then .error (Ew P.2.1) else .ok (k,b,O.2.1,X.2.2,P.2.1)
def Iv (T C O X P:JV):JR CD:=
 if T.1≠4∨C.1≠4∨O.1≠4 then .error 4
 else if X.1≠0∧X.1≠2 then .error 4
 else if (X.2.2=true∧P.1≠4)∨(X.2.2=false∧P.1≠0) then .error 4
 else if T.2.1=GY then Zv 1 C O X P else if T.2.1=HL then Zv 2 C O X P else .error 3
def Uy (w:World)(a:Addr)(b:List Int):Prop:=a.spot=none∧a.block<w.heap.size∧∀j x,b[j]?=some x->w.cell? (a.add j)=some (.int .u8 x)
def ItP (w w':World)(r:JR CD)(e:Ending):Prop:=
 match r with
 |.ok (k,b,o,x,p)=>∃ad cap,e=.returned (.tuple #[.agg #[.int .i64 k,.slice (some ad) b.length cap,.string (Aa o),.bool x,.string (Aa p)],.int .i64 0])∧b.length<=cap∧w.heap.size<=ad.block∧Uy w' ad b
 |.error er=>er≠0∧e=.returned (.tuple #[.agg #[.int .i64 0,.slice none 0 0,.string ⟨#[]⟩,.bool false,.string ⟨#[]⟩],.int .i64 er])
def DbP (w w':World)(s:List Int)(e:Ending):Prop:=
 match Qe s with
 |none=>∃ad cap,e=.returned (.tuple #[.slice ad 0 cap,.int .i64 2])
 |some b=>∃ad cap,e=.returned (.tuple #[.slice ad b.length cap,.int .i64 0])∧(b≠[]->∃a,ad=some a∧b.length<=cap∧w.heap.size<=a.block∧Uy w' a b)
theorem DP {w:World}{b:Nat}{v:JV}(h:w.heap[b]?=some (Aaf v)):w.cell? ⟨b,0,none⟩=some (.int .i64 v.1)∧w.cell? ⟨b,1,none⟩=some (.string (Aa v.2.1))∧w.cell? ⟨b,2,none⟩=some (.bool v.2.2):=by
 refine⟨?_,?_,?_⟩<;>(unfold World.cell?;simp only[h];rfl)
theorem Aeq {w:World}{b:Nat}(h:w.heap[b]?=some cd0):(w.cell? ⟨b,0,none⟩=some (.int .i64 0)∧w.cell? ⟨b,1,none⟩=some (.slice none 0 0)∧w.cell? ⟨b,2,none⟩=some (.string ⟨#[]⟩)∧w.cell? ⟨b,3,none⟩=some (.bool false)∧w.cell? ⟨b,4,none⟩=some (.string ⟨#[]⟩))∧w.frozen? ⟨b,0,none⟩=false∧w.frozen? ⟨b,1,none⟩=false∧w.frozen? ⟨b,2,none⟩=false∧w.frozen? ⟨b,3,none⟩=false∧w.frozen? ⟨b,4,none⟩=false:=by
 refine⟨⟨?_,?_,?_,?_,?_⟩,?_,?_,?_,?_,?_⟩<;>first|(unfold World.cell?;simp only[h];rfl)|(unfold World.frozen?;simp only[h];rfl)
theorem Aby (s:ByteArray):s.toList=s.data.toList:=by
 have h:∀(n i:Nat) (r:List UInt8),n=s.size-i->ByteArray.toList.loop s i r=r.reverse++s.data.toList.drop i:=by
  intro n
  induction n with
  |zero=>
   intro i r hn;unfold ByteArray.toList.loop;rw[Dc (by omega),List.drop_eq_nil_of_le (by rw[←Lib.size_eq];omega),List.append_nil]
  |succ n ih=>
   intro i r hn;have hi:i<s.size:=by omega
   unfold ByteArray.toList.loop;rw[D1 hi,ih (i+1) _ (by omega),List.reverse_cons,Zzv]
   congr 1
   have hl:i<s.data.toList.length:=by rw[←Lib.size_eq];exact hi
   rw[List.drop_eq_getElem_cons hl]
   have e:s.get! i=s.data.toList[i]:=by
    show (s.data[i]!)=_;rw[getElem!_pos s.data i hi];rfl
   rw[e];rfl
 have:=h _ 0 [] rfl;exact this
theorem FX {a b:List Int}(ha:Ct a)(hb:Ct b):((Aa a).toList==b.map fun n=>n.toNat.toUInt8)=decide (a=b):=by
 rw[Aby,Bool.eq_iff_iff,beq_iff_eq,decide_eq_true_iff];constructor
 ·intro h;have e:Aa a=Aa b:=congrArg (fun l:List UInt8=>(⟨l.toArray⟩:ByteArray)) (show (Aa a).data.toList=(Aa b).data.toList from h)
  exact Zb ha hb e
 ·rintro rfl;rfl
def A81 (w:World)(vT vC vO:JV)(s4 s5 s6:Value)(wx:World):Prop:=
 ∃bT bC bO,s4=.pointer (some ⟨bT,0,none⟩)∧s5=.pointer (some ⟨bC,0,none⟩)∧s6=.pointer (some ⟨bO,0,none⟩)∧w.heap.size<bT∧w.heap.size<bC∧w.heap.size<bO∧wx.heap[w.heap.size]?=some cd0∧wx.heap[bT]?=some (Aaf vT)∧wx.heap[bC]?=some (Aaf vC)∧wx.heap[bO]?=some (Aaf vO)∧Below w.heap.size w wx
def A77 (w wc:World)(vX vP:JV)(s7 s8:Value)(wx:World):Prop:=
 ∃bX bP,s7=.pointer (some ⟨bX,0,none⟩)∧s8=.pointer (some ⟨bP,0,none⟩)∧wc.heap.size<=bX∧wc.heap.size<=bP∧wx.heap[bX]?=some (Aaf vX)∧wx.heap[bP]?=some (Aaf vP)∧Below wc.heap.size wc wx
theorem Adq {w:World}{b:Nat}{x0 x1 x2 x3 x4:Value}(h:w.heap[b]?=some (.cells #[x0,x1,x2,x3,x4] 36)):(w.cell? ⟨b,0,none⟩=some x0∧w.cell? ⟨b,1,none⟩=some x1∧w.cell? ⟨b,2,none⟩=some x2∧w.cell? ⟨b,3,none⟩=some x3∧w.cell? ⟨b,4,none⟩=some x4)∧w.frozen? ⟨b,0,none⟩=false∧w.frozen? ⟨b,1,none⟩=false∧w.frozen? ⟨b,2,none⟩=false∧w.frozen? ⟨b,3,none⟩=false∧w.frozen? ⟨b,4,none⟩=false:=by
 refine⟨⟨?_,?_,?_,?_,?_⟩,?_,?_,?_,?_,?_⟩<;>first|(unfold World.cell?;simp only[h];rfl)|(unfold World.frozen?;simp only[h];rfl)
theorem MM {w:World}{b:Nat}{x0 x1 x2 x3 x4:Value}(h0:w.cell? ⟨b,0,none⟩=some x0)(h1:w.cell? ⟨b,1,none⟩=some x1)(h2:w.cell? ⟨b,2,none⟩=some x2)(h3:w.cell? ⟨b,3,none⟩=some x3)(h4:w.cell? ⟨b,4,none⟩=some x4):(loadVar 36 ⟨b,0,none⟩).run prog w=.ok (.agg #[x0,x1,x2,x3,x4]) w:=by
 have hf:∀j,j<5->w.cell? ((⟨b,0,none⟩:Addr).add j)=some (([x0,x1,x2,x3,x4][j]?).getD undef):=by
  intro j hj;rw[Eh,SF]
  match j,hj with
  |0,_=>exact h0
  |1,_=>exact h1
  |2,_=>exact h2
  |3,_=>exact h3
  |4,_=>exact h4
 simp only[loadVar,Sem.run_bind,Tryd.isAgg36,Result.andThen_ok,if_true,Tryd.sizeOf36,run_loadCells w _ 5 _ hf];rfl
theorem En {w:World}{b i j:Nat}{v:Value}(h:i≠j):(w.setCell ⟨b,j,none⟩ v).cell? ⟨b,i,none⟩=w.cell? ⟨b,i,none⟩:=World.cell?_setCell_other _ _ _ _ (fun e=>h (by injection e with _ e2;exact e2.symm))
theorem Yo (w:World)(b:Nat)(x0 x1 x2 x3 x4:Value)(h:(w.cell? ⟨b,0,none⟩).isSome=true∧(w.cell? ⟨b,1,none⟩).isSome=true∧(w.cell? ⟨b,2,none⟩).isSome=true∧(w.cell? ⟨b,3,none⟩).isSome=true∧(w.cell? ⟨b,4,none⟩).isSome=true):(loadVar 36 ⟨b,0,none⟩).run prog (((((w.setCell ⟨b,0,none⟩ x0).setCell ⟨b,1,none⟩ x1).setCell ⟨b,2,none⟩ x2).setCell ⟨b,3,none⟩ x3).setCell ⟨b,4,none⟩ x4)=.ok (.agg #[x0,x1,x2,x3,x4]) (((((w.setCell ⟨b,0,none⟩ x0).setCell ⟨b,1,none⟩ x1).setCell ⟨b,2,none⟩ x2).setCell ⟨b,3,none⟩ x3).setCell ⟨b,4,none⟩ x4):=by
 obtain⟨g0,g1,g2,g3,g4⟩:=h;obtain⟨y0,g0⟩:=Option.isSome_iff_exists.1 g0;obtain⟨y1,g1⟩:=Option.isSome_iff_exists.1 g1;obtain⟨y2,g2⟩:=Option.isSome_iff_exists.1 g2;obtain⟨y3,g3⟩:=Option.isSome_iff_exists.1 g3;obtain⟨y4,g4⟩:=Option.isSome_iff_exists.1 g4;apply MM
 ·rw[En (by decide),En (by decide),En (by decide),En (by decide)]
  exact World.cell?_setCell_same _ _ _ g0
 ·rw[En (by decide),En (by decide),En (by decide)]
  exact World.cell?_setCell_same _ _ _ ((En (by decide)).trans g1)
 ·rw[En (by decide),En (by decide)]
  exact World.cell?_setCell_same _ _ _ ((En (by decide)).trans ((En (by decide)).trans g2))
 ·rw[En (by decide)]
  exact World.cell?_setCell_same _ _ _ ((En (by decide)).trans ((En (by decide)).trans ((En (by decide)).trans g3)))
 ·exact World.cell?_setCell_same _ _ _ ((En (by decide)).trans ((En (by decide)).trans ((En (by decide)).trans ((En (by decide)).trans g4))))
theorem It {B:Nat}{a w:World}(h:Below B a w){b:Nat}(hb:B<=b)(x0 x1 x2 x3 x4:Value):Below B a (((((w.setCell ⟨b,0,none⟩ x0).setCell ⟨b,1,none⟩ x1).setCell ⟨b,2,none⟩ x2).setCell ⟨b,3,none⟩ x3).setCell ⟨b,4,none⟩ x4):=
 ((((h.setCell (p:=⟨b,0,none⟩) hb x0).setCell (p:=⟨b,1,none⟩) hb x1).setCell (p:=⟨b,2,none⟩) hb x2).setCell (p:=⟨b,3,none⟩) hb x3).setCell (p:=⟨b,4,none⟩) hb x4
theorem H3 {R:Ending->World->Prop}{a:Act}{W:World}{v:Value}{b:Nat}(h2:a.tmps.getD 2 undef=.pointer (some ⟨b,0,none⟩)) (hd:a.defers=[]) (hl:(loadVar 36 ⟨b,0,none⟩).run prog W=.ok v W) (hR:R (.returned (.tuple #[v,a.tmps.getD 3 undef])) W):bodyPost prog Tryd.f35 R .ret a W:=by
 refine bodyPost_ret ?_ hd hR;rw[results_cell_tmp rfl,h2];have e:(asAddr (.pointer (some ⟨b,0,none⟩))).run prog W=.ok ⟨b,0,none⟩ W:=rfl;rw[e,Result.andThen_ok,hl,Result.andThen_ok]
theorem Uy.below {w w':World}{a:Addr}{b:List Int}{B:Nat}(h:Uy w a b)(k:Below B w w')(ha:a.block<B):Uy w' a b:=
 ⟨h.1,Nat.lt_of_lt_of_le h.2.1 k.size,fun j x hx=>(k.cell (p:=a.add j) (by rw[Em];exact ha)).trans (h.2.2 j x hx)⟩
theorem Uy.set {w:World}{a:Addr}{b:List Int}{b0 j:Nat}{v:Value}(h:Uy w a b)(Eo:a.block≠b0):Uy (w.setCell ⟨b0,j,none⟩ v) a b:=
 ⟨h.1,by rw[World.size_setCell];exact h.2.1,fun i x hx=>(World.cell?_setCell_other _ _ _ _ (fun e=>Eo (by rw[←Em a i,←e]))).trans (h.2.2 i x hx)⟩
theorem Uy.set5 {w:World}{a:Addr}{b:List Int}{b0:Nat}{x0 x1 x2 x3 x4:Value}(h:Uy w a b)(Eo:a.block≠b0):Uy (((((w.setCell ⟨b0,0,none⟩ x0).setCell ⟨b0,1,none⟩ x1).setCell ⟨b0,2,none⟩ x2).setCell ⟨b0,3,none⟩ x3).setCell ⟨b0,4,none⟩ x4) a b:=
 ((((h.set Eo).set Eo).set Eo).set Eo).set Eo
def RC (w:World)(b:Nat):Prop:=(w.cell? ⟨b,0,none⟩=some (.int .i64 0)∧w.cell? ⟨b,1,none⟩=some (.slice none 0 0)∧w.cell? ⟨b,2,none⟩=some (.string ⟨#[]⟩)∧w.cell? ⟨b,3,none⟩=some (.bool false)∧w.cell? ⟨b,4,none⟩=some (.string ⟨#[]⟩))∧w.frozen? ⟨b,0,none⟩=false∧w.frozen? ⟨b,1,none⟩=false∧w.frozen? ⟨b,2,none⟩=false∧w.frozen? ⟨b,3,none⟩=false∧w.frozen? ⟨b,4,none⟩=false
theorem RC.below {w w':World}{b B:Nat}(h:RC w b)(k:Below B w w')(hb:b<B):RC w' b:=by
 have e:∀j,w'.cell? ⟨b,j,none⟩=w.cell? ⟨b,j,none⟩:=fun j=>k.cell (p:=⟨b,j,none⟩) hb
 have f:∀j,w'.frozen? ⟨b,j,none⟩=w.frozen? ⟨b,j,none⟩:=fun j=>k.frozen (p:=⟨b,j,none⟩) hb
 unfold RC;rw[e,e,e,e,e,f,f,f,f,f];exact h
theorem RC.some {w:World}{b:Nat}(h:RC w b):(w.cell? ⟨b,0,none⟩).isSome=true∧(w.cell? ⟨b,1,none⟩).isSome=true∧(w.cell? ⟨b,2,none⟩).isSome=true∧(w.cell? ⟨b,3,none⟩).isSome=true∧(w.cell? ⟨b,4,none⟩).isSome=true:=by
 obtain⟨⟨h0,h1,h2,h3,h4⟩,_⟩:=h;rw[h0,h1,h2,h3,h4];exact⟨rfl,rfl,rfl,rfl,rfl⟩
theorem Ald {w:World}{b:Nat}{v:Value}{x:Obj}(hb:b<w.heap.size)(h:∃x0 x1 x2 x3 x4,v=.agg #[x0,x1,x2,x3,x4]∧w.cell? ⟨b,0,none⟩=some x0∧w.cell? ⟨b,1,none⟩=some x1∧w.cell? ⟨b,2,none⟩=some x2∧w.cell? ⟨b,3,none⟩=some x3∧w.cell? ⟨b,4,none⟩=some x4):(loadVar 36 ⟨b,0,none⟩).run prog (w.alloc x)=.ok v (w.alloc x):=by
 obtain⟨x0,x1,x2,x3,x4,rfl,h0,h1,h2,h3,h4⟩:=h;have k:Below w.heap.size w (w.alloc x):=(Below.refl _ w).alloc (Nat.le_refl _) _;exact MM ((k.cell (p:=⟨b,0,none⟩) hb).trans h0) ((k.cell (p:=⟨b,1,none⟩) hb).trans h1) ((k.cell (p:=⟨b,2,none⟩) hb).trans h2) ((k.cell (p:=⟨b,3,none⟩) hb).trans h3) ((k.cell (p:=⟨b,4,none⟩) hb).trans h4)
theorem Mh (w:World)(b:Nat)(hb:b<w.heap.size)(x0 x1 x2 x3 x4:Value)(x:Obj)(h:RC w b):(loadVar 36 ⟨b,0,none⟩).run prog ((((((w.setCell ⟨b,0,none⟩ x0).setCell ⟨b,1,none⟩ x1).setCell ⟨b,2,none⟩ x2).setCell ⟨b,3,none⟩ x3).setCell ⟨b,4,none⟩ x4).alloc x)=.ok (.agg #[x0,x1,x2,x3,x4]) ((((((w.setCell ⟨b,0,none⟩ x0).setCell ⟨b,1,none⟩ x1).setCell ⟨b,2,none⟩ x2).setCell ⟨b,3,none⟩ x3).setCell ⟨b,4,none⟩ x4).alloc x):=by
 refine Ald (by simp only[World.size_setCell];exact hb) ⟨x0,x1,x2,x3,x4,rfl,?_⟩
 obtain⟨⟨g0,g1,g2,g3,g4⟩,_⟩:=h;refine⟨?_,?_,?_,?_,?_⟩
 ·rw[En (by decide),En (by decide),En (by decide),En (by decide)]
  exact World.cell?_setCell_same _ _ _ g0
 ·rw[En (by decide),En (by decide),En (by decide)]
  exact World.cell?_setCell_same _ _ _ ((En (by decide)).trans g1)
 ·rw[En (by decide),En (by decide)]
  exact World.cell?_setCell_same _ _ _ ((En (by decide)).trans ((En (by decide)).trans g2))
 ·rw[En (by decide)]
  exact World.cell?_setCell_same _ _ _ ((En (by decide)).trans ((En (by decide)).trans ((En (by decide)).trans g3)))
 ·exact World.cell?_setCell_same _ _ _ ((En (by decide)).trans ((En (by decide)).trans ((En (by decide)).trans ((En (by decide)).trans g4))))
theorem Gx {B:Nat}{a w:World}(h:Below B a w){b:Nat}(hb:B<=b)(hB:B<=w.heap.size)(x0 x1 x2 x3 x4:Value)(x:Obj):Below B a ((((((w.setCell ⟨b,0,none⟩ x0).setCell ⟨b,1,none⟩ x1).setCell ⟨b,2,none⟩ x2).setCell ⟨b,3,none⟩ x3).setCell ⟨b,4,none⟩ x4).alloc x):=
 have k:=It h hb x0 x1 x2 x3 x4
 k.alloc (by simp only[World.size_setCell];exact hB) _
theorem Uy.set5al {w:World}{a:Addr}{b:List Int}{b0:Nat}{x0 x1 x2 x3 x4:Value}{x:Obj}(h:Uy w a b)(Eo:a.block≠b0):Uy ((((((w.setCell ⟨b0,0,none⟩ x0).setCell ⟨b0,1,none⟩ x1).setCell ⟨b0,2,none⟩ x2).setCell ⟨b0,3,none⟩ x3).setCell ⟨b0,4,none⟩ x4).alloc x) a b:=
 have q:=h.set5 (x0:=x0) (x1:=x1) (x2:=x2) (x3:=x3) (x4:=x4) Eo
 q.below ((Below.refl _ _).alloc (Nat.le_refl _) _) q.2.1
theorem al1 (w:World)(x:Obj):(w.alloc x).heap[w.heap.size]?=some x:=Array.getElem?_push_size
def okW (w:World):Prop:=gU.ok w∧∀k,gU.bl k->k<w.heap.size
theorem okW.below {w w':World}(h:okW w)(k:Below w.heap.size w w'):okW w':=⟨gU.stable w w' (fun j hj hl=>k.block j hl) h.1,fun j hj=>Nat.lt_of_lt_of_le (h.2 j hj) k.size⟩
set_option maxHeartbeats 8000000 in
theorem Ajg (Au0:∀(W:World)(s:List Int),okW W->Ct s->s.length<=1000000->Calls prog 15 #[.string (Aa s)] W fun e w'=>Below W.heap.size W w'∧DbP W w' s e)
  (Akk:∀(W:World)(s:List Int),okW W->Ct s->s.length<=1000000->Calls prog 32 #[.string (Aa s)] W fun e w'=>Below W.heap.size W w'∧∃o1 o2 o3,e=.returned (.tuple #[.agg #[.bool o1,.string o2,.int .i64 o3],.int .i64 (Ew s)]))
  {ms:List (List Int × JV)} (hB:∀m∈ms,Ct m.1) (hB2:∀m∈ms,Ct m.2.2.1∧m.2.2.1.length<=1000000) {mb:Nat} {w:World} (hU:okW w) (hM:CN w mb ms):
  Calls prog 35 #[.map (some mb)] w fun e w'=>Below w.heap.size w w'∧ItP w w' (Iv (Cl Q2 ms) (Cl Yf ms) (Cl nmO ms) (Cl nmX ms) (Cl nmP ms)) e:=by
 have hgB:∀nm,Ct (Cl nm ms).2.1∧(Cl nm ms).2.1.length<=1000000:=by
  intro nm;unfold Cl Lc;cases hq:ms.find? fun m=>m.1==nm with
  |none=>exact⟨(fun x hx=>nomatch hx),Nat.zero_le _⟩
  |some m=>exact hB2 m (List.mem_of_find?_eq_some hq)
 obtain⟨hTB,hTL⟩:=hgB Q2;obtain⟨hCB,hCL⟩:=hgB Yf;obtain⟨hOB,hOL⟩:=hgB nmO;obtain⟨hXB,hXL⟩:=hgB nmX;obtain⟨hPB,hPL⟩:=hgB nmP;clear hgB;have mixed:prog.follows Departure.mixedOrders=true:=by kernel_rfl
 have key:∀{W:World},CN W mb ms->(Instr.lookup 68 (.map (some mb)) (.string ⟨#[116,121,112,101]⟩) false).run prog W=.ok (.agg #[.int .i64 (Cl Q2 ms).1,.string (Aa (Cl Q2 ms).2.1),.bool (Cl Q2 ms).2.2]) W∧(Instr.lookup 68 (.map (some mb)) (.string ⟨#[99,104,97,108,108,101,110,103,101]⟩) false).run prog W=.ok (.agg #[.int .i64 (Cl Yf ms).1,.string (Aa (Cl Yf ms).2.1),.bool (Cl Yf ms).2.2]) W∧(Instr.lookup 68 (.map (some mb)) (.string ⟨#[111,114,105,103,105,110]⟩) false).run prog W=.ok (.agg #[.int .i64 (Cl nmO ms).1,.string (Aa (Cl nmO ms).2.1),.bool (Cl nmO ms).2.2]) W:=
  fun h=>⟨BT h hB (nm:=Q2) (fun x hx=>by simp[Q2] at hx;omega),BT h hB (nm:=Yf) (fun x hx=>by simp[Yf] at hx;omega),BT h hB (nm:=nmO) (fun x hx=>by simp[nmO] at hx;omega)⟩
 have key2:∀{W:World},CN W mb ms->(Instr.lookup 68 (.map (some mb)) (.string ⟨#[99,114,111,115,115,79,114,105,103,105,110]⟩) false).run prog W=.ok (.agg #[.int .i64 (Cl nmX ms).1,.string (Aa (Cl nmX ms).2.1),.bool (Cl nmX ms).2.2]) W∧(Instr.lookup 68 (.map (some mb)) (.string ⟨#[116,111,112,79,114,105,103,105,110]⟩) false).run prog W=.ok (.agg #[.int .i64 (Cl nmP ms).1,.string (Aa (Cl nmP ms).2.1),.bool (Cl nmP ms).2.2]) W:=
  fun h=>⟨BT h hB (nm:=nmX) (fun x hx=>by simp[nmX] at hx;omega),BT h hB (nm:=nmP) (fun x hx=>by simp[nmP] at hx;omega)⟩
 have b0:Below w.heap.size w (w.alloc (.cells #[.int .i64 0,.slice none 0 0,.string ⟨#[]⟩,.bool false,.string ⟨#[]⟩] 36)):=(Below.refl _ w).alloc (Nat.le_refl _) _;have b1:=b0.alloc b0.size (.cells #[.int .i64 0,.string ⟨#[]⟩,.bool false] 95);have b2:=b1.alloc b1.size (.cells #[.int .i64 0,.string ⟨#[]⟩,.bool false] 95);have b3:=b2.alloc b2.size (.cells #[.int .i64 0,.string ⟨#[]⟩,.bool false] 95);obtain⟨k0,k1,k2⟩:=key (hM.below b0.drew);obtain⟨l0,l1,l2⟩:=key (hM.below b1.drew);obtain⟨m0,m1,m2⟩:=key (hM.below b2.drew);obtain⟨n0,n1,n2⟩:=key (hM.below b3.drew)
 have bb:∀x1 x2 x3,Below w.heap.size w ((((w.alloc (.cells #[.int .i64 0,.slice none 0 0,.string ⟨#[]⟩,.bool false,.string ⟨#[]⟩] 36)).alloc x1).alloc x2).alloc x3).drew:=fun x1 x2 x3=>by
  have c1:=b0.alloc b0.size x1;have c2:=c1.alloc c1.size x2;exact (c2.alloc c2.size x3).drew
 obtain⟨_,p1,q1⟩:=key (hM.below (bb (.cells #[.int .i64 (Cl Q2 ms).1,.string (Aa (Cl Q2 ms).2.1),.bool (Cl Q2 ms).2.2] 95) (.cells #[.int .i64 0,.string ⟨#[]⟩,.bool false] 95) (.cells #[.int .i64 0,.string ⟨#[]⟩,.bool false] 95)));obtain⟨_,p2,q2⟩:=key (hM.below (bb (.cells #[.int .i64 0,.string ⟨#[]⟩,.bool false] 95) (.cells #[.int .i64 (Cl Q2 ms).1,.string (Aa (Cl Q2 ms).2.1),.bool (Cl Q2 ms).2.2] 95) (.cells #[.int .i64 0,.string ⟨#[]⟩,.bool false] 95)));obtain⟨_,p3,q3⟩:=key (hM.below (bb (.cells #[.int .i64 0,.string ⟨#[]⟩,.bool false] 95) (.cells #[.int .i64 0,.string ⟨#[]⟩,.bool false] 95) (.cells #[.int .i64 (Cl Q2 ms).1,.string (Aa (Cl Q2 ms).2.1),.bool (Cl Q2 ms).2.2] 95)))
 obtain⟨_,_,q4⟩:=key (hM.below (bb (.cells #[.int .i64 (Cl Q2 ms).1,.string (Aa (Cl Q2 ms).2.1),.bool (Cl Q2 ms).2.2] 95) (.cells #[.int .i64 (Cl Yf ms).1,.string (Aa (Cl Yf ms).2.1),.bool (Cl Yf ms).2.2] 95) (.cells #[.int .i64 0,.string ⟨#[]⟩,.bool false] 95)));obtain⟨_,_,q5⟩:=key (hM.below (bb (.cells #[.int .i64 (Cl Q2 ms).1,.string (Aa (Cl Q2 ms).2.1),.bool (Cl Q2 ms).2.2] 95) (.cells #[.int .i64 0,.string ⟨#[]⟩,.bool false] 95) (.cells #[.int .i64 (Cl Yf ms).1,.string (Aa (Cl Yf ms).2.1),.bool (Cl Yf ms).2.2] 95)));obtain⟨_,_,q6⟩:=key (hM.below (bb (.cells #[.int .i64 (Cl Yf ms).1,.string (Aa (Cl Yf ms).2.1),.bool (Cl Yf ms).2.2] 95) (.cells #[.int .i64 (Cl Q2 ms).1,.string (Aa (Cl Q2 ms).2.1),.bool (Cl Q2 ms).2.2] 95) (.cells #[.int .i64 0,.string ⟨#[]⟩,.bool false] 95)))
 obtain⟨_,_,q7⟩:=key (hM.below (bb (.cells #[.int .i64 (Cl Yf ms).1,.string (Aa (Cl Yf ms).2.1),.bool (Cl Yf ms).2.2] 95) (.cells #[.int .i64 0,.string ⟨#[]⟩,.bool false] 95) (.cells #[.int .i64 (Cl Q2 ms).1,.string (Aa (Cl Q2 ms).2.1),.bool (Cl Q2 ms).2.2] 95)));obtain⟨_,_,q8⟩:=key (hM.below (bb (.cells #[.int .i64 0,.string ⟨#[]⟩,.bool false] 95) (.cells #[.int .i64 (Cl Q2 ms).1,.string (Aa (Cl Q2 ms).2.1),.bool (Cl Q2 ms).2.2] 95) (.cells #[.int .i64 (Cl Yf ms).1,.string (Aa (Cl Yf ms).2.1),.bool (Cl Yf ms).2.2] 95)));obtain⟨_,_,q9⟩:=key (hM.below (bb (.cells #[.int .i64 0,.string ⟨#[]⟩,.bool false] 95) (.cells #[.int .i64 (Cl Yf ms).1,.string (Aa (Cl Yf ms).2.1),.bool (Cl Yf ms).2.2] 95) (.cells #[.int .i64 (Cl Q2 ms).1,.string (Aa (Cl Q2 ms).2.1),.bool (Cl Q2 ms).2.2] 95)))
 have hbb:∀x1 x2 x3,Below w.heap.size w ((((w.alloc cd0).alloc x1).alloc x2).alloc x3).drew:=bb;clear key bb;generalize Cl Q2 ms=vT at *
 generalize Cl Yf ms=vC at *
 generalize Cl nmO ms=vO at *
 generalize Cl nmX ms=vX at *
 generalize Cl nmP ms=vP at *
 go_enter Tryd.func35,Tryd.ntmps35
 go_upto_region 1 with fail
 go_cut [4,5,6] (fun s4 s5 s6 wx=>A81 w vT vC vO s4 s5 s6 wx)
 case first=>
  go_region_o
  all_goals (go_wp2_with fail;go_meet;(refine⟨_,_,_,rfl,rfl,rfl,by omega,by omega,by omega,?_,?_,?_,?_,hbb _ _ _⟩<;>first|exact (al4 _ _ _ _ _).1|exact (al4 _ _ _ _ _).2.1|exact (al4 _ _ _ _ _).2.2.1|exact (al4 _ _ _ _ _).2.2.2))
 case rest=>
  rename World=>w2
  obtain⟨bT,bC,bO,rfl,rfl,rfl,hbT,hbC,hbO,hc,hT,hC,hO,hbw⟩:=hcut;clear k0 k1 k2 l0 l1 l2 m0 m1 m2 n0 n1 n2 p1 p2 p3 q1 q2 q3 q4 q5 q6 q7 q8 q9;have hMc:=hM.below hbw;have d1:Below w2.heap.size w2 (w2.alloc (.cells #[.int .i64 0,.string ⟨#[]⟩,.bool false] 95)):=(Below.refl _ w2).alloc (Nat.le_refl _) _;have d2:=d1.alloc d1.size (.cells #[.int .i64 0,.string ⟨#[]⟩,.bool false] 95)
  have dd:∀x1 x2,Below w2.heap.size w2 ((w2.alloc x1).alloc x2).drew:=fun x1 x2=>by
   have c1:Below w2.heap.size w2 (w2.alloc x1):=(Below.refl _ w2).alloc (Nat.le_refl _) _;exact (c1.alloc c1.size x2).drew
  obtain⟨k0,k1⟩:=key2 (hMc.below (Below.refl w2.heap.size w2).drew);obtain⟨l0,l1⟩:=key2 (hMc.below d1.drew);obtain⟨m0,m1⟩:=key2 (hMc.below d2.drew);obtain⟨_,p1⟩:=key2 (hMc.below (dd (.cells #[.int .i64 vX.1,.string (Aa vX.2.1),.bool vX.2.2] 95) (.cells #[.int .i64 0,.string ⟨#[]⟩,.bool false] 95)));obtain⟨_,p2⟩:=key2 (hMc.below (dd (.cells #[.int .i64 0,.string ⟨#[]⟩,.bool false] 95) (.cells #[.int .i64 vX.1,.string (Aa vX.2.1),.bool vX.2.2] 95)));clear key2
  go_upto_region 2 with fail
  go_cut [7,8] (fun s7 s8 wx=>A77 w w2 vX vP s7 s8 wx)
  case first=>
   go_region_o
   all_goals (go_wp2_with fail;go_meet;(refine⟨_,_,rfl,rfl,by omega,by omega,?_,?_,dd _ _⟩<;>first|exact (al2 _ _ _).1|exact (al2 _ _ _).2))
  case rest=>
   clear k0 k1 l0 l1 m0 m1 p1 p2;obtain⟨bX,bP,rfl,rfl,hbX,hbP,hX,hP,RB⟩:=hcut
   rename World=>wd
   have hwc:w.heap.size<w2.heap.size:=by
    rcases Nat.lt_or_ge w.heap.size w2.heap.size with q|q
    ·exact q
    ·rw[Array.getElem?_eq_none q] at hc;cases hc
   have B7:∀{b:Nat} {o:Obj},w2.heap[b]?=some o->b<w2.heap.size:=fun {b o} h=>by
    rcases Nat.lt_or_ge b w2.heap.size with q|q
    ·exact q
    ·rw[Array.getElem?_eq_none q] at h;cases h
   obtain⟨⟨c0,c1,c2,c3,c4⟩,f0,f1,f2,f3,f4⟩:=Aeq ((RB.block _ (B7 hc)).trans hc);have hrc:RC wd w.heap.size:=⟨⟨c0,c1,c2,c3,c4⟩,f0,f1,f2,f3,f4⟩;have hsm:=hrc.some;obtain⟨T0,T1,T2⟩:=DP ((RB.block _ (B7 hT)).trans hT);obtain⟨C0,C1,C2⟩:=DP ((RB.block _ (B7 hC)).trans hC);obtain⟨O0,O1,O2⟩:=DP ((RB.block _ (B7 hO)).trans hO);obtain⟨X0,X1,X2⟩:=DP hX;obtain⟨P0,P1,P2⟩:=DP hP;have SE:Below w.heap.size w wd:=hbw.trans ((RB).mono hbw.size);by_cases hT4:vT.1=4
   rotate_left
   ·have hq:(vT.1 != 4)=true:=by simp[hT4]
    have hI:Iv vT vC vO vX vP=.error 4:=by unfold Iv;rw[D1 (.inl hT4)]
    go_wp2
    (try simp only[Exit.inBlock,Exit.then])
    exact H3 (b:=w.heap.size) rfl rfl (Yo wd w.heap.size _ _ _ _ _ hsm) ⟨It SE (Nat.le_refl _) _ _ _ _ _,by rw[hI];exact⟨by decide,rfl⟩⟩
   by_cases hC4:vC.1=4
   rotate_left
   ·have hq:(vC.1 != 4)=true:=by simp[hC4]
    have hI:Iv vT vC vO vX vP=.error 4:=by unfold Iv;rw[D1 (.inr (.inl hC4))]
    go_wp2
    (try simp only[Exit.inBlock,Exit.then])
    exact H3 (b:=w.heap.size) rfl rfl (Yo wd w.heap.size _ _ _ _ _ hsm) ⟨It SE (Nat.le_refl _) _ _ _ _ _,by rw[hI];exact⟨by decide,rfl⟩⟩
   by_cases hO4:vO.1=4
   rotate_left
   ·have hq:(vO.1 != 4)=true:=by simp[hO4]
    have hI:Iv vT vC vO vX vP=.error 4:=by unfold Iv;rw[D1 (.inr (.inr hO4))]
    go_wp2
    (try simp only[Exit.inBlock,Exit.then])
    exact H3 (b:=w.heap.size) rfl rfl (Yo wd w.heap.size _ _ _ _ _ hsm) ⟨It SE (Nat.le_refl _) _ _ _ _ _,by rw[hI];exact⟨by decide,rfl⟩⟩
   have AP:Iv vT vC vO vX vP=if vX.1≠0∧vX.1≠2 then .error 4
    else if (vX.2.2=true∧vP.1≠4)∨(vX.2.2=false∧vP.1≠0) then .error 4
    else if vT.2.1=GY then Zv 1 vC vO vX vP else if vT.2.1=HL then Zv 2 vC vO vX vP else .error 3:=by
    unfold Iv;rw[Dc (by rintro (h|h|h)<;>first|exact h hT4|exact h hC4|exact h hO4)]
   go_upto_region 5 with fail
   go_cut [47] (fun s47 wx=>∃q:Bool,s47=.bool q∧(q=true↔(vX.1≠0∧vX.1≠2))∧wx=wd)
   case first=>
    by_cases h0:vX.1=0
    ·have h1:(vX.1 != 0)=false:=by simp[h0]
     go_wp2_with fail
     go_meet
     exact⟨false,rfl,by simp[h0],rfl⟩
    ·have h1:(vX.1 != 0)=true:=by simp[h0]
     by_cases h2:vX.1=2
     ·have h3:(vX.1 != 2)=false:=by simp[h2]
      go_wp2_with fail
      go_meet
      exact⟨false,rfl,by simp[h2],rfl⟩
     ·have h3:(vX.1 != 2)=true:=by simp[h2]
      go_wp2_with fail
      go_meet
      exact⟨true,rfl,by simp[h0,h2],rfl⟩
   case rest=>
    obtain⟨q5,rfl,hq5,hwe⟩:=hcut;subst hwe;cases q5 with
    |true=>
     have hx1:=hq5.1 rfl;have hI:Iv vT vC vO vX vP=.error 4:=by rw[AP,D1 hx1]
     go_wp2
     (try simp only[Exit.inBlock,Exit.then])
     exact H3 (b:=w.heap.size) rfl rfl (Yo wc w.heap.size _ _ _ _ _ hsm) ⟨It SE (Nat.le_refl _) _ _ _ _ _,by rw[hI];exact⟨by decide,rfl⟩⟩
    |false=>
     have hx1:¬(vX.1≠0∧vX.1≠2):=fun h=>Bool.noConfusion (hq5.2 h)
     rw[Dc hx1] at AP
     go_upto_region 7 with fail
     go_cut [65] (fun s65 wx=>∃q:Bool,s65=.bool q∧(q=true↔((vX.2.2=true∧vP.1≠4)∨(vX.2.2=false∧vP.1≠0)))∧wx=wc)
     case first=>
      cases IX:vX.2.2 with
      |true=>
       rw[IX] at X2;by_cases h4:vP.1=4
       ·have h1:(vP.1 != 4)=false:=by simp[h4]
        go_wp2_with fail
        go_meet
        exact⟨false,rfl,by simp[h4,IX],rfl⟩
       ·have h1:(vP.1 != 4)=true:=by simp[h4]
        go_wp2_with fail
        go_meet
        exact⟨true,rfl,by simp[h4,IX],rfl⟩
      |false=>
       rw[IX] at X2;by_cases h4:vP.1=0
       ·have h1:(vP.1 != 0)=false:=by simp[h4]
        go_wp2_with fail
        go_meet
        exact⟨false,rfl,by simp[h4,IX],rfl⟩
       ·have h1:(vP.1 != 0)=true:=by simp[h4]
        go_wp2_with fail
        go_meet
        exact⟨true,rfl,by simp[h4,IX],rfl⟩
     case rest=>
      obtain⟨q7,rfl,hq7,hwe⟩:=hcut;subst hwe;cases q7 with
      |true=>
       have Q5:=hq7.1 rfl;have hI:Iv vT vC vO vX vP=.error 4:=by rw[AP,D1 Q5]
       go_wp2
       (try simp only[Exit.inBlock,Exit.then])
       exact H3 (b:=w.heap.size) rfl rfl (Yo wc w.heap.size _ _ _ _ _ hsm) ⟨It SE (Nat.le_refl _) _ _ _ _ _,by rw[hI];exact⟨by decide,rfl⟩⟩
      |false=>
       have Q5:¬((vX.2.2=true∧vP.1≠4)∨(vX.2.2=false∧vP.1≠0)):=fun h=>Bool.noConfusion (hq7.2 h)
       rw[Dc Q5] at AP;clear hq5 hq7 hx1 Q5;have hwd:w.heap.size<wc.heap.size:=Nat.lt_of_lt_of_le hwc RB.size;have Bbx:bT<wc.heap.size:=Nat.lt_of_lt_of_le (B7 hT) RB.size;have Bcg:bC<wc.heap.size:=Nat.lt_of_lt_of_le (B7 hC) RB.size;have hbC:((Aa vT.2.1).toList==[112,97,115,115,107,101,121,46,99,114,101,97,116,101])=decide (vT.2.1=GY):=FX hTB (b:=GY) (fun x hx=>by simp[GY] at hx;omega)
       have hbG:((Aa vT.2.1).toList==[112,97,115,115,107,101,121,46,103,101,116])=decide (vT.2.1=HL):=FX hTB (b:=HL) (fun x hx=>by simp[HL] at hx;omega)
       by_cases hTc:vT.2.1=GY
       rotate_left
       ·rw[decide_eq_false hTc] at hbC;rw[Dc hTc] at AP;by_cases hTg:vT.2.1=HL
        rotate_left
        ·rw[decide_eq_false hTg] at hbG;have hI:Iv vT vC vO vX vP=.error 3:=by rw[AP,Dc hTg]
         go_wp2
         (try simp only[Exit.inBlock,Exit.then])
         exact H3 (b:=w.heap.size) rfl rfl (Mh wc w.heap.size hwd _ _ _ _ _ _ hrc) ⟨Gx SE (Nat.le_refl _) SE.size _ _ _ _ _ _,by rw[hI];exact⟨by decide,rfl⟩⟩
        ·rw[decide_eq_true hTg] at hbG;rw[D1 hTg] at AP;clear hTg hTc;have hbA:=SE.alloc SE.size (.cells #[.int .i64 2,.slice none 0 0,.string (Aa vO.2.1),.bool vX.2.2,.string (Aa vP.2.1)] 36);have hsA:(wc.alloc (.cells #[.int .i64 2,.slice none 0 0,.string (Aa vO.2.1),.bool vX.2.2,.string (Aa vP.2.1)] 36)).heap.size=wc.heap.size+1:=Array.size_push _;have hkA:=al1 wc (.cells #[.int .i64 2,.slice none 0 0,.string (Aa vO.2.1),.bool vX.2.2,.string (Aa vP.2.1)] 36);have hrA:=hrc.below ((Below.refl wc.heap.size wc).alloc (Nat.le_refl _) (.cells #[.int .i64 2,.slice none 0 0,.string (Aa vO.2.1),.bool vX.2.2,.string (Aa vP.2.1)] 36)) hwd
         go_wp2_with (go_at_call 15;refine (Au0 _ vC.2.1 (hU.below hbA) hCB hCL).mono ?_)
         rintro e W3 ⟨Uf,LR⟩
         have Vn:Below w.heap.size w W3:=hbA.trans (Uf.mono hbA.size);have WF:=hrA.below Uf (by rw[hsA];omega)
         have hm3:=WF.some;obtain⟨⟨r30,r31,r32,r33,r34⟩,s30,s31,s32,s33,s34⟩:=WF;have NV:wc.heap.size+1<=W3.heap.size:=by have:=Uf.size;rw[hsA] at this;exact this
         have Kv:=(Uf.block _ (by rw[hsA];omega)).trans hkA
         obtain⟨⟨k0,k1,k2,k3,k4⟩,kf0,kf1,kf2,kf3,kf4⟩:=Adq Kv;unfold DbP at LR;cases hdc:Qe vC.2.1 with
         |none=>
          rw[hdc] at LR;obtain⟨ad,capN,rfl⟩:=LR;have hI:Iv vT vC vO vX vP=.error 2:=by rw[AP];unfold Zv;rw[hdc]
          go_wp2
          (try simp only[Exit.inBlock,Exit.then])
          exact H3 (b:=w.heap.size) rfl rfl (Yo W3 w.heap.size _ _ _ _ _ hm3) ⟨It Vn (Nat.le_refl _) _ _ _ _ _,by rw[hI];exact⟨by decide,rfl⟩⟩
         |some b=>
          rw[hdc] at LR;obtain⟨ad,cap,rfl,Pj⟩:=LR;by_cases Er:b.length<1
          ·have hI:Iv vT vC vO vX vP=.error 9:=by rw[AP];unfold Zv;rw[hdc];simp only;rw[D1 (.inl Er)]
           have Ta:(b.length:Int)<1:=by omega
           go_wp2
           (try simp only[Exit.inBlock,Exit.then])
           exact H3 (b:=w.heap.size) rfl rfl (Yo W3 w.heap.size _ _ _ _ _ hm3) ⟨It Vn (Nat.le_refl _) _ _ _ _ _,by rw[hI];exact⟨by decide,rfl⟩⟩
          by_cases Ho:64<b.length
          ·have hI:Iv vT vC vO vX vP=.error 9:=by rw[AP];unfold Zv;rw[hdc];simp only;rw[D1 (.inr Ho)]
           have Ta:¬(b.length:Int)<1:=by omega
           have Jd:(b.length:Int)>64:=by omega
           go_wp2
           (try simp only[Exit.inBlock,Exit.then])
           exact H3 (b:=w.heap.size) rfl rfl (Yo W3 w.heap.size _ _ _ _ _ hm3) ⟨It Vn (Nat.le_refl _) _ _ _ _ _,by rw[hI];exact⟨by decide,rfl⟩⟩
          have Ta:¬(b.length:Int)<1:=by omega
          have Jd:¬(b.length:Int)>64:=by omega
          obtain⟨a,rfl,hac,haw,hla⟩:=Pj (by rintro rfl;exact Er (by decide))
          have A7p:wc.heap.size+1<=a.block:=by rw[hsA] at haw;exact haw
          have SY:Iv vT vC vO vX vP=if Ew vO.2.1≠0 then .error (Ew vO.2.1) else if vX.2.2=true∧Ew vP.2.1≠0 then .error (Ew vP.2.1) else .ok (2,b,vO.2.1,vX.2.2,vP.2.1):=by
           rw[AP];unfold Zv;rw[hdc];simp only;rw[Dc (by omega)]
          have AN:Below w.heap.size w (W3.setCell ⟨wc.heap.size,1,none⟩ (.slice (some a) b.length cap)):=Vn.setCell (p:=⟨wc.heap.size,1,none⟩) (Nat.le_of_lt hwd) _;have An8:Below wc.heap.size W3 (W3.setCell ⟨wc.heap.size,1,none⟩ (.slice (some a) b.length cap)):=(Below.refl wc.heap.size W3).setCell (p:=⟨wc.heap.size,1,none⟩) (Nat.le_refl _) _;have NL:=(show RC W3 w.heap.size from ⟨⟨r30,r31,r32,r33,r34⟩,s30,s31,s32,s33,s34⟩).below An8 hwd
          have Apn:=hla.set (b0:=wc.heap.size) (j:=1) (v:=.slice (some a) b.length cap) (by omega)
          have LC:(W3.setCell ⟨wc.heap.size,1,none⟩ (.slice (some a) b.length cap)).heap.size=W3.heap.size:=World.size_setCell ..;have j0:(W3.setCell ⟨wc.heap.size,1,none⟩ (.slice (some a) b.length cap)).cell? ⟨wc.heap.size,0,none⟩=some (.int .i64 2):=(En (by decide)).trans k0
          have j1:(W3.setCell ⟨wc.heap.size,1,none⟩ (.slice (some a) b.length cap)).cell? ⟨wc.heap.size,1,none⟩=some (.slice (some a) b.length cap):=World.cell?_setCell_same _ _ _ k1;have j2:(W3.setCell ⟨wc.heap.size,1,none⟩ (.slice (some a) b.length cap)).cell? ⟨wc.heap.size,2,none⟩=some (.string (Aa vO.2.1)):=(En (by decide)).trans k2
          have j3:(W3.setCell ⟨wc.heap.size,1,none⟩ (.slice (some a) b.length cap)).cell? ⟨wc.heap.size,3,none⟩=some (.bool vX.2.2):=(En (by decide)).trans k3
          have j4:(W3.setCell ⟨wc.heap.size,1,none⟩ (.slice (some a) b.length cap)).cell? ⟨wc.heap.size,4,none⟩=some (.string (Aa vP.2.1)):=(En (by decide)).trans k4
          go_wp2_with (go_at_call 32;refine (Akk _ vO.2.1 (hU.below AN) hOB hOL).mono ?_)
          rintro e W5 ⟨MT,o1,o2,o3,rfl⟩
          have hs5:W3.heap.size<=W5.heap.size:=by have:=MT.size;rw[LC] at this;exact this
          have X3:Below w.heap.size w W5:=AN.trans (MT.mono AN.size);have hr5:=NL.below MT (by rw[LC];omega)
          have Aot:=hr5;obtain⟨⟨r50,r51,r52,r53,r54⟩,s50,s51,s52,s53,s54⟩:=Aot;have hw5:w.heap.size<W5.heap.size:=by omega
          have hc5:wc.heap.size<W5.heap.size:=by omega
          have VO:=Apn.below MT (by rw[LC];exact hla.2.1)
          have I1:wc.heap.size<(W3.setCell ⟨wc.heap.size,1,none⟩ (.slice (some a) b.length cap)).heap.size:=by rw[LC];omega
          have i0:=(MT.cell (p:=⟨wc.heap.size,0,none⟩) I1).trans j0;have i1:=(MT.cell (p:=⟨wc.heap.size,1,none⟩) I1).trans j1;have i2:=(MT.cell (p:=⟨wc.heap.size,2,none⟩) I1).trans j2;have i3:=(MT.cell (p:=⟨wc.heap.size,3,none⟩) I1).trans j3;have i4:=(MT.cell (p:=⟨wc.heap.size,4,none⟩) I1).trans j4;have hbL:=(Below.refl W5.heap.size W5).alloc (Nat.le_refl _) (.cells #[.bool o1,.string o2,.int .i64 o3] 65);have UX:Below w.heap.size w (W5.alloc (.cells #[.bool o1,.string o2,.int .i64 o3] 65)):=X3.alloc X3.size _;by_cases ho:Ew vO.2.1=0
          rotate_left
          ·have hoB:(Ew vO.2.1 != 0)=true:=by simp[ho]
           have hI:Iv vT vC vO vX vP=.error (Ew vO.2.1):=by rw[SY,D1 ho]
           go_wp2
           (try simp only[Exit.inBlock,Exit.then])
           exact H3 (b:=w.heap.size) rfl rfl (Mh W5 w.heap.size hw5 _ _ _ _ _ _ hr5) ⟨Gx X3 (Nat.le_refl _) X3.size _ _ _ _ _ _,by rw[hI];exact⟨ho,rfl⟩⟩
          have hoB:(Ew vO.2.1 != 0)=false:=by simp[ho]
          rw[Dc (by simp[ho])] at SY
          have Agt:=VO.below hbL (by have:=VO.2.1;exact this)
          cases IX:vX.2.2 with
          |false=>
           rw[IX] at i3;have hI:Iv vT vC vO vX vP=.ok (2,b,vO.2.1,false,vP.2.1):=by rw[SY,Dc (by simp[IX]),IX]
           go_wp2
           (try simp only[Exit.inBlock,Exit.then])
           exact H3 (b:=w.heap.size) rfl rfl (Mh W5 w.heap.size hw5 _ _ _ _ _ _ hr5) ⟨Gx X3 (Nat.le_refl _) X3.size _ _ _ _ _ _,by rw[hI];exact⟨a,cap,rfl,hac,by omega,VO.set5al (by omega)⟩⟩
          |true=>
           rw[IX] at i3
           go_wp2_with (go_at_call 32;refine (Akk _ vP.2.1 (hU.below UX) hPB hPL).mono ?_)
           rintro e W7 ⟨hb7,p1,p2,p3,rfl⟩
           have hsL:(W5.alloc (.cells #[.bool o1,.string o2,.int .i64 o3] 65)).heap.size=W5.heap.size+1:=Array.size_push _;have Yj:Below w.heap.size w W7:=UX.trans (hb7.mono UX.size);have hr7:=(hr5.below hbL hw5).below hb7 (by rw[hsL];omega)
           have App:=hr7;obtain⟨⟨r70,r71,r72,r73,r74⟩,s70,s71,s72,s73,s74⟩:=App;have VB:=Agt.below hb7 (by have:=Agt.2.1;exact this)
           have Ye:=(hbL.trans (hb7.mono hbL.size));have l0:=(Ye.cell (p:=⟨wc.heap.size,0,none⟩) (show wc.heap.size<W5.heap.size by omega)).trans i0
           have l1:=(Ye.cell (p:=⟨wc.heap.size,1,none⟩) (show wc.heap.size<W5.heap.size by omega)).trans i1
           have l2:=(Ye.cell (p:=⟨wc.heap.size,2,none⟩) (show wc.heap.size<W5.heap.size by omega)).trans i2
           have l3:=(Ye.cell (p:=⟨wc.heap.size,3,none⟩) (show wc.heap.size<W5.heap.size by omega)).trans i3
           have l4:=(Ye.cell (p:=⟨wc.heap.size,4,none⟩) (show wc.heap.size<W5.heap.size by omega)).trans i4
           have hs7:=Ye.size;have hw7:w.heap.size<W7.heap.size:=by omega
           have hc7:wc.heap.size<W7.heap.size:=by omega
           have hbM:=(Below.refl W7.heap.size W7).alloc (Nat.le_refl _) (.cells #[.bool p1,.string p2,.int .i64 p3] 65);have Azy:Below w.heap.size w (W7.alloc (.cells #[.bool p1,.string p2,.int .i64 p3] 65)):=Yj.alloc Yj.size _;by_cases hp:Ew vP.2.1=0
           rotate_left
           ·have hoB:(Ew vP.2.1 != 0)=true:=by simp[hp]
            have hI:Iv vT vC vO vX vP=.error (Ew vP.2.1):=by rw[SY,D1 ⟨IX,hp⟩]
            go_wp2
            (try simp only[Exit.inBlock,Exit.then])
            exact H3 (b:=w.heap.size) rfl rfl (Mh W7 w.heap.size hw7 _ _ _ _ _ _ hr7) ⟨Gx Yj (Nat.le_refl _) Yj.size _ _ _ _ _ _,by rw[hI];exact⟨hp,rfl⟩⟩
           have hpB:(Ew vP.2.1 != 0)=false:=by simp[hp]
           have A61:=VB.below hbM (by have:=VB.2.1;exact this)
           have hI:Iv vT vC vO vX vP=.ok (2,b,vO.2.1,true,vP.2.1):=by rw[SY,Dc (by simp[hp]),IX]
           go_wp2
           (try simp only[Exit.inBlock,Exit.then])
           exact H3 (b:=w.heap.size) rfl rfl (Mh W7 w.heap.size hw7 _ _ _ _ _ _ hr7) ⟨Gx Yj (Nat.le_refl _) Yj.size _ _ _ _ _ _,by rw[hI];exact⟨a,cap,rfl,hac,by omega,VB.set5al (by omega)⟩⟩
       ·rw[decide_eq_true hTc] at hbC;rw[D1 hTc] at AP;clear hTc hbG;have hbA:=SE.alloc SE.size (.cells #[.int .i64 1,.slice none 0 0,.string (Aa vO.2.1),.bool vX.2.2,.string (Aa vP.2.1)] 36);have hsA:(wc.alloc (.cells #[.int .i64 1,.slice none 0 0,.string (Aa vO.2.1),.bool vX.2.2,.string (Aa vP.2.1)] 36)).heap.size=wc.heap.size+1:=Array.size_push _;have hkA:=al1 wc (.cells #[.int .i64 1,.slice none 0 0,.string (Aa vO.2.1),.bool vX.2.2,.string (Aa vP.2.1)] 36);have hrA:=hrc.below ((Below.refl wc.heap.size wc).alloc (Nat.le_refl _) (.cells #[.int .i64 1,.slice none 0 0,.string (Aa vO.2.1),.bool vX.2.2,.string (Aa vP.2.1)] 36)) hwd
        go_wp2_with (go_at_call 15;refine (Au0 _ vC.2.1 (hU.below hbA) hCB hCL).mono ?_)
        rintro e W3 ⟨Uf,LR⟩
        have Vn:Below w.heap.size w W3:=hbA.trans (Uf.mono hbA.size);have WF:=hrA.below Uf (by rw[hsA];omega)
        have hm3:=WF.some;obtain⟨⟨r30,r31,r32,r33,r34⟩,s30,s31,s32,s33,s34⟩:=WF;have NV:wc.heap.size+1<=W3.heap.size:=by have:=Uf.size;rw[hsA] at this;exact this
        have Kv:=(Uf.block _ (by rw[hsA];omega)).trans hkA
        obtain⟨⟨k0,k1,k2,k3,k4⟩,kf0,kf1,kf2,kf3,kf4⟩:=Adq Kv;unfold DbP at LR;cases hdc:Qe vC.2.1 with
        |none=>
         rw[hdc] at LR;obtain⟨ad,capN,rfl⟩:=LR;have hI:Iv vT vC vO vX vP=.error 2:=by rw[AP];unfold Zv;rw[hdc]
         go_wp2
         (try simp only[Exit.inBlock,Exit.then])
         exact H3 (b:=w.heap.size) rfl rfl (Yo W3 w.heap.size _ _ _ _ _ hm3) ⟨It Vn (Nat.le_refl _) _ _ _ _ _,by rw[hI];exact⟨by decide,rfl⟩⟩
        |some b=>
         rw[hdc] at LR;obtain⟨ad,cap,rfl,Pj⟩:=LR;by_cases Er:b.length<1
         ·have hI:Iv vT vC vO vX vP=.error 9:=by rw[AP];unfold Zv;rw[hdc];simp only;rw[D1 (.inl Er)]
          have Ta:(b.length:Int)<1:=by omega
          go_wp2
          (try simp only[Exit.inBlock,Exit.then])
          exact H3 (b:=w.heap.size) rfl rfl (Yo W3 w.heap.size _ _ _ _ _ hm3) ⟨It Vn (Nat.le_refl _) _ _ _ _ _,by rw[hI];exact⟨by decide,rfl⟩⟩
         by_cases Ho:64<b.length
         ·have hI:Iv vT vC vO vX vP=.error 9:=by rw[AP];unfold Zv;rw[hdc];simp only;rw[D1 (.inr Ho)]
          have Ta:¬(b.length:Int)<1:=by omega
          have Jd:(b.length:Int)>64:=by omega
          go_wp2
          (try simp only[Exit.inBlock,Exit.then])
          exact H3 (b:=w.heap.size) rfl rfl (Yo W3 w.heap.size _ _ _ _ _ hm3) ⟨It Vn (Nat.le_refl _) _ _ _ _ _,by rw[hI];exact⟨by decide,rfl⟩⟩
         have Ta:¬(b.length:Int)<1:=by omega
         have Jd:¬(b.length:Int)>64:=by omega
         obtain⟨a,rfl,hac,haw,hla⟩:=Pj (by rintro rfl;exact Er (by decide))
         have A7p:wc.heap.size+1<=a.block:=by rw[hsA] at haw;exact haw
         have SY:Iv vT vC vO vX vP=if Ew vO.2.1≠0 then .error (Ew vO.2.1) else if vX.2.2=true∧Ew vP.2.1≠0 then .error (Ew vP.2.1) else .ok (1,b,vO.2.1,vX.2.2,vP.2.1):=by
          rw[AP];unfold Zv;rw[hdc];simp only;rw[Dc (by omega)]
         have AN:Below w.heap.size w (W3.setCell ⟨wc.heap.size,1,none⟩ (.slice (some a) b.length cap)):=Vn.setCell (p:=⟨wc.heap.size,1,none⟩) (Nat.le_of_lt hwd) _;have An8:Below wc.heap.size W3 (W3.setCell ⟨wc.heap.size,1,none⟩ (.slice (some a) b.length cap)):=(Below.refl wc.heap.size W3).setCell (p:=⟨wc.heap.size,1,none⟩) (Nat.le_refl _) _;have NL:=(show RC W3 w.heap.size from ⟨⟨r30,r31,r32,r33,r34⟩,s30,s31,s32,s33,s34⟩).below An8 hwd
         have Apn:=hla.set (b0:=wc.heap.size) (j:=1) (v:=.slice (some a) b.length cap) (by omega)
         have LC:(W3.setCell ⟨wc.heap.size,1,none⟩ (.slice (some a) b.length cap)).heap.size=W3.heap.size:=World.size_setCell ..;have j0:(W3.setCell ⟨wc.heap.size,1,none⟩ (.slice (some a) b.length cap)).cell? ⟨wc.heap.size,0,none⟩=some (.int .i64 1):=(En (by decide)).trans k0
         have j1:(W3.setCell ⟨wc.heap.size,1,none⟩ (.slice (some a) b.length cap)).cell? ⟨wc.heap.size,1,none⟩=some (.slice (some a) b.length cap):=World.cell?_setCell_same _ _ _ k1;have j2:(W3.setCell ⟨wc.heap.size,1,none⟩ (.slice (some a) b.length cap)).cell? ⟨wc.heap.size,2,none⟩=some (.string (Aa vO.2.1)):=(En (by decide)).trans k2
         have j3:(W3.setCell ⟨wc.heap.size,1,none⟩ (.slice (some a) b.length cap)).cell? ⟨wc.heap.size,3,none⟩=some (.bool vX.2.2):=(En (by decide)).trans k3
         have j4:(W3.setCell ⟨wc.heap.size,1,none⟩ (.slice (some a) b.length cap)).cell? ⟨wc.heap.size,4,none⟩=some (.string (Aa vP.2.1)):=(En (by decide)).trans k4
         go_wp2_with (go_at_call 32;refine (Akk _ vO.2.1 (hU.below AN) hOB hOL).mono ?_)
         rintro e W5 ⟨MT,o1,o2,o3,rfl⟩
         have hs5:W3.heap.size<=W5.heap.size:=by have:=MT.size;rw[LC] at this;exact this
         have X3:Below w.heap.size w W5:=AN.trans (MT.mono AN.size);have hr5:=NL.below MT (by rw[LC];omega)
         have Aot:=hr5;obtain⟨⟨r50,r51,r52,r53,r54⟩,s50,s51,s52,s53,s54⟩:=Aot;have hw5:w.heap.size<W5.heap.size:=by omega
         have hc5:wc.heap.size<W5.heap.size:=by omega
         have VO:=Apn.below MT (by rw[LC];exact hla.2.1)
         have I1:wc.heap.size<(W3.setCell ⟨wc.heap.size,1,none⟩ (.slice (some a) b.length cap)).heap.size:=by rw[LC];omega
         have i0:=(MT.cell (p:=⟨wc.heap.size,0,none⟩) I1).trans j0;have i1:=(MT.cell (p:=⟨wc.heap.size,1,none⟩) I1).trans j1;have i2:=(MT.cell (p:=⟨wc.heap.size,2,none⟩) I1).trans j2;have i3:=(MT.cell (p:=⟨wc.heap.size,3,none⟩) I1).trans j3;have i4:=(MT.cell (p:=⟨wc.heap.size,4,none⟩) I1).trans j4;have hbL:=(Below.refl W5.heap.size W5).alloc (Nat.le_refl _) (.cells #[.bool o1,.string o2,.int .i64 o3] 65);have UX:Below w.heap.size w (W5.alloc (.cells #[.bool o1,.string o2,.int .i64 o3] 65)):=X3.alloc X3.size _;by_cases ho:Ew vO.2.1=0
         rotate_left
         ·have hoB:(Ew vO.2.1 != 0)=true:=by simp[ho]
          have hI:Iv vT vC vO vX vP=.error (Ew vO.2.1):=by rw[SY,D1 ho]
          go_wp2
          (try simp only[Exit.inBlock,Exit.then])
          exact H3 (b:=w.heap.size) rfl rfl (Mh W5 w.heap.size hw5 _ _ _ _ _ _ hr5) ⟨Gx X3 (Nat.le_refl _) X3.size _ _ _ _ _ _,by rw[hI];exact⟨ho,rfl⟩⟩
         have hoB:(Ew vO.2.1 != 0)=false:=by simp[ho]
         rw[Dc (by simp[ho])] at SY
         have Agt:=VO.below hbL (by have:=VO.2.1;exact this)
         cases IX:vX.2.2 with
         |false=>
          rw[IX] at i3;have hI:Iv vT vC vO vX vP=.ok (1,b,vO.2.1,false,vP.2.1):=by rw[SY,Dc (by simp[IX]),IX]
          go_wp2
          (try simp only[Exit.inBlock,Exit.then])
          exact H3 (b:=w.heap.size) rfl rfl (Mh W5 w.heap.size hw5 _ _ _ _ _ _ hr5) ⟨Gx X3 (Nat.le_refl _) X3.size _ _ _ _ _ _,by rw[hI];exact⟨a,cap,rfl,hac,by omega,VO.set5al (by omega)⟩⟩
         |true=>
          rw[IX] at i3
          go_wp2_with (go_at_call 32;refine (Akk _ vP.2.1 (hU.below UX) hPB hPL).mono ?_)
          rintro e W7 ⟨hb7,p1,p2,p3,rfl⟩
          have hsL:(W5.alloc (.cells #[.bool o1,.string o2,.int .i64 o3] 65)).heap.size=W5.heap.size+1:=Array.size_push _;have Yj:Below w.heap.size w W7:=UX.trans (hb7.mono UX.size);have hr7:=(hr5.below hbL hw5).below hb7 (by rw[hsL];omega)
          have App:=hr7;obtain⟨⟨r70,r71,r72,r73,r74⟩,s70,s71,s72,s73,s74⟩:=App;have VB:=Agt.below hb7 (by have:=Agt.2.1;exact this)
          have Ye:=(hbL.trans (hb7.mono hbL.size));have l0:=(Ye.cell (p:=⟨wc.heap.size,0,none⟩) (show wc.heap.size<W5.heap.size by omega)).trans i0
          have l1:=(Ye.cell (p:=⟨wc.heap.size,1,none⟩) (show wc.heap.size<W5.heap.size by omega)).trans i1
          have l2:=(Ye.cell (p:=⟨wc.heap.size,2,none⟩) (show wc.heap.size<W5.heap.size by omega)).trans i2
          have l3:=(Ye.cell (p:=⟨wc.heap.size,3,none⟩) (show wc.heap.size<W5.heap.size by omega)).trans i3
          have l4:=(Ye.cell (p:=⟨wc.heap.size,4,none⟩) (show wc.heap.size<W5.heap.size by omega)).trans i4
          have hs7:=Ye.size;have hw7:w.heap.size<W7.heap.size:=by omega
          have hc7:wc.heap.size<W7.heap.size:=by omega
          have hbM:=(Below.refl W7.heap.size W7).alloc (Nat.le_refl _) (.cells #[.bool p1,.string p2,.int .i64 p3] 65);have Azy:Below w.heap.size w (W7.alloc (.cells #[.bool p1,.string p2,.int .i64 p3] 65)):=Yj.alloc Yj.size _;by_cases hp:Ew vP.2.1=0
          rotate_left
          ·have hoB:(Ew vP.2.1 != 0)=true:=by simp[hp]
           have hI:Iv vT vC vO vX vP=.error (Ew vP.2.1):=by rw[SY,D1 ⟨IX,hp⟩]
           go_wp2
           (try simp only[Exit.inBlock,Exit.then])
           exact H3 (b:=w.heap.size) rfl rfl (Mh W7 w.heap.size hw7 _ _ _ _ _ _ hr7) ⟨Gx Yj (Nat.le_refl _) Yj.size _ _ _ _ _ _,by rw[hI];exact⟨hp,rfl⟩⟩
          have hpB:(Ew vP.2.1 != 0)=false:=by simp[hp]
          have A61:=VB.below hbM (by have:=VB.2.1;exact this)
          have hI:Iv vT vC vO vX vP=.ok (1,b,vO.2.1,true,vP.2.1):=by rw[SY,Dc (by simp[hp]),IX]
          go_wp2
          (try simp only[Exit.inBlock,Exit.then])
          exact H3 (b:=w.heap.size) rfl rfl (Mh W7 w.heap.size hw7 _ _ _ _ _ _ hr7) ⟨Gx Yj (Nat.le_refl _) Yj.size _ _ _ _ _ _,by rw[hI];exact⟨a,cap,rfl,hac,by omega,VB.set5al (by omega)⟩⟩
end
section
open Go.Proofs.Tryd (prog)
open Go.IntKind (wrap)
set_option maxRecDepth 1000000
open Go Go.RowKit Go.Lib
def NK (L:Nat)(s:List Int):Prop:=Ct s∧s.length<=4*L
theorem BP:∀(n:Nat)(out l s q:List Int),Ct l->Kz n out l=(some s,q)->s.length<=out.length+4*l.length
  |0,_,_,_,_,_,h=>by cases h
  |_+1,_,[],_,_,_,h=>by cases h
  |n+1,out,c::l,s,q,hl,h=>by
    have e:Kz (n+1) out (c::l)=if c<32 then (none,c::l) else if c=34 then (some out,l) else if c=92 then
        (match N4 l with
         |(some x,r')=>Kz n (out++Lib.encodeRuneZ x) r'
         |(none,r')=>(none,r')) else Kz n (out++[c]) l:=rfl
    have Q1:=Cq hl
    rw[e] at h
    split at h
    · cases h
    split at h
    · cases h;simp
    split at h
    · have h2:=Rq (Dg.self Q1.2)
      rcases hq:N4 l with⟨o,r⟩
      rw[hq] at h2 h
      cases o with
      |none=>cases h
      |some x=>
        have:=BP n _ r s q h2.B h
        have h3:=Lib.encodeRuneZ_length x
        have h4:r.length<=l.length:=h2.le
        simp at this ⊢
        omega
    · have:=BP n _ l s q Q1.2 h
      simp at this ⊢
      omega
theorem RG {l s q:List Int}(hl:Ct l)(h:E5 l=(some s,q)):NK l.length s:=by
 refine⟨WM hl h,?_⟩;cases l with
 |nil=>cases h
 |cons c l=>
  have e:E5 (c::l)=if c=34 then Kz (l.length+1) [] l else (none,c::l):=rfl
  rw[e] at h;split at h
  ·have:=BP _ _ _ _ _ (Cq hl).2 h;simp at this ⊢;omega
  ·cases h
theorem NK.mono {L M:Nat}{s:List Int}(h:NK L s)(hm:L<=M):NK M s:=⟨h.1,by have:=h.2;omega⟩
theorem NK.nil (L:Nat):NK L []:=⟨(fun x hx=>nomatch hx),Nat.zero_le _⟩
theorem Ahs {l r:List Int}{v:JV}(hl:Ct l)(hs:l.length<=1000000)(h:F6 8 l=.ok (v,r)):Dg (Aa l) r:=by
 obtain⟨res,_,hr⟩:=Am8 (fu:=1000001) (d:=0) (t:=Aa l) (by rw[Af];exact hs) (by rw[Af];omega) 8 1 (by omega) (by omega) l (Dg.self hl)
 rw[h] at hr;exact hr.1
theorem Aii:∀{k:Nat}{l r:List Int}{v:JV},Ct l->F6 k l=.ok (v,r)->NK l.length v.2.1:=by
 intro k l r v hl h;unfold F6 at h;split at h
 ·split at h
  ·cases h
  ·split at h
   ·cases h
   ·cases h;exact NK.nil _
 ·split at h
  ·cases h
  ·split at h
   ·cases h
   ·cases h;exact NK.nil _
 ·rename_i r0;unfold KD at h;rcases hq:E5 (34::r0) with⟨o,q⟩;rw[hq] at h;cases o with
  |none=>cases h
  |some s=>cases h;exact RG hl hq
 ·repeat' split at h
  all_goals first|(cases h;exact NK.nil _)|cases h
theorem Ais {L:Nat}(hL:L<=1000000):∀(n:Nat)(ms:List (List Int × JV)) (l r:List Int)(ms':List (List Int × JV)),Ct l->l.length<=L->(∀m∈ms,NK L m.1∧NK L m.2.2.1)->S7 (F6 8) true n ms l=.ok (ms',r)->∀m∈ms',NK L m.1∧NK L m.2.2.1:=by
 intro n
 induction n with
 |zero=>intro ms l r ms' _ _ _ h;cases h
 |succ n ih=>
  intro ms l r ms' hl hs hm h;rw[BZ] at h;rcases hx:E5 l with⟨o,q⟩;rw[hx] at h;cases o with
  |none=>cases h
  |some nm=>
   have GM:=RG hl hx;have hq:=G6 (Dg.self hl);rw[hx] at hq;simp only at h;split at h
   ·cases h
   cases h1:Av [58] (Bf q) with
   |none=>rw[h1] at h;cases h
   |some r1=>
    rw[h1] at h;have GE:=Br (As (Br hq) h1);simp only at h;cases hv:F6 8 (Bf r1) with
    |error e=>rw[hv] at h;cases h
    |ok x=>
     obtain⟨v,r2⟩:=x;rw[hv] at h;have Y0:=GE.le;have hvo:=Aii GE.B hv;have JU:=GE.trans (Ahs GE.B (by omega) hv)
     have M6:∀m∈ms++[(nm,v)],NK L m.1∧NK L m.2.2.1:=by
      intro m I6;rcases List.mem_append.1 I6 with I6|I6
      ·exact hm m I6
      ·simp at I6;subst I6;exact⟨GM.mono hs,hvo.mono (by omega)⟩
     simp only at h;cases h2:Av [125] (Bf r2) with
     |some r3=>rw[h2] at h;cases h;exact M6
     |none=>
      rw[h2] at h;simp only at h;cases h3:Av [44] (Bf r2) with
      |none=>rw[h3] at h;cases h
      |some r3=>
       rw[h3] at h;have WF:=Br (As (Br JU) h3);exact ih _ _ _ _ WF.B (by have:=WF.le;omega) M6 h
theorem Ak6 {l:List Int}{ms:List (List Int × JV)} (hl:Ct l)(hs:l.length<=1000000)(h:TT 8 l=.ok ms):∀m∈ms,NK l.length m.1∧NK l.length m.2.2.1:=by
 rw[IB] at h;have h0:=Br (Dg.self hl);cases h1:Av [123] (Bf l) with
 |none=>rw[h1] at h;cases h
 |some r=>
  rw[h1] at h;have hr:=As h0 h1;simp only at h;rw[Xp] at h;have JU:=Br hr;cases h2:Av [125] (Bf r) with
  |some r'=>
   rw[h2] at h;simp only at h;split at h
   ·cases h;exact fun m hm=>by cases hm
   ·cases h
  |none=>
   rw[h2] at h;simp only at h;cases h3:S7 (F6 8) true ((Bf r).length+1) [] (Bf r) with
   |error e=>rw[h3] at h;cases h
   |ok x=>
    obtain⟨ms',r'⟩:=x;rw[h3] at h;simp only at h;split at h
    ·cases h;exact Ais hs _ _ _ _ _ JU.B JU.le (fun m hm=>by cases hm) h3
    ·cases h
def YG (ms:List (List Int × JV)):JR CD:=Iv (Cl Q2 ms) (Cl Yf ms) (Cl nmO ms) (Cl nmX ms) (Cl nmP ms)
def N2 (t:ByteArray):JR CD:=
 if 1024<t.size then .error 8 else if Lib.validD t.data.toList=false then .error 6 else match TT 8 (Fc t) with
  |.error e=>.error e
  |.ok ms=>YG ms
theorem Ajp {G:Ur}{P:Program}{f:FuncId}{args vals:List PV}{us rs:List Value}(hs:Df G P f args ⟨vals,[]⟩) (ha:Be DF args us)(hr:Be DF vals rs)
  {w:World} (hG:G.ok w) (hGl:∀k,G.bl k->k<w.heap.size):Calls P f us.toArray w fun e w'=>e=.returned (He rs)∧Below w.heap.size w w':=by
 have hi:Ins w (fun _=>False) PD args us:=⟨fun _ h=>h.elim,fun _ h=>h.elim,fun k h=>absurd h (Pf k),fun i j i' j' b o o' h=>(by cases h),fun i q h=>(by cases h),Wo ha⟩
 refine (hs.2 w _ _ _ hi hG (fun k hk=>⟨hGl k hk,Pf k⟩)).mono ?_
 rintro e w' ⟨ws,own,rfl,out⟩
 have hv:=EP hr out.vals;subst hv;exact⟨rfl,out.os,out.tape,out.output,out.ext.size,fun k hk=>out.ext.keep k hk (Pf k)⟩
theorem ZO (W:World)(s:List Int)(hW:okW W)(hB:Ct s)(hs:s.length<=1000000):Calls prog 32 #[.string (Aa s)] W fun e w'=>Below W.heap.size W w'∧∃o1 o2 o3,e=.returned (.tuple #[.agg #[.bool o1,.string o2,.int .i64 o3],.int .i64 (Ew s)]):=by
 obtain⟨o1,o2,o3,e⟩:=VT (fu:=1000001) (d:=0) (p:=none) hB hs (by omega)
 have hsd:Df gU prog 32 [.sc (.string (Aa s))] ⟨[.agg ([Value.bool o1,.string o2,.int .i64 o3].map .sc),.sc (.int .i64 (Ew s))],[]⟩:=H5 ngR mxR And 7 _ _ _ e;refine (Ajp (us:=[.string (Aa s)]) (rs:=[.agg #[.bool o1,.string o2,.int .i64 o3],.int .i64 (Ew s)]) hsd ⟨.inl rfl,trivial⟩ ⟨.inr ⟨_,rfl,rfl⟩,.inl rfl,trivial⟩ hW.1 hW.2).mono ?_
 rintro e w' ⟨rfl,hb⟩
 exact⟨hb,o1,o2,o3,rfl⟩
theorem Aah (W:World)(s:List Int)(hW:okW W)(hB:Ct s)(hs:s.length<=1000000):Calls prog 15 #[.string (Aa s)] W fun e w'=>Below W.heap.size W w'∧DbP W w' s e:=by
 have e:=Arn (fu:=1000001) (d:=0) (p:=none) hB hs (by omega) (by omega)
 have hi:Ins W (fun _=>False) PD [.sc (.string (Aa s))] [.string (Aa s)]:=⟨fun _ h=>h.elim,fun _ h=>h.elim,fun k h=>absurd h (Pf k),fun i j i' j' b o o' h=>(by cases h),fun i q h=>(by cases h),Wo (show Be DF [.sc (.string (Aa s))] [.string (Aa s)] from ⟨.inl rfl,trivial⟩)⟩
 have hsd:Df gU prog 15 [.sc (.string (Aa s))] _:=H5 ngR mxR And 3 _ _ _ e;refine (hsd.2 W _ _ _ hi hW.1 (fun k hk=>⟨hW.2 k hk,Pf k⟩)).mono ?_
 rintro e w' ⟨ws,own,rfl,out⟩
 refine⟨⟨out.os,out.tape,out.output,out.ext.size,fun k hk=>out.ext.keep k hk (Pf k)⟩,?_⟩
 have hv:=out.vals;have hfr:=out.fresh;generalize hA:CU PD own (fun _=>False)=A at hv
 unfold DbP;cases hd:Qe s with
 |none=>
  rw[hd] at hv
  match ws,hv with
  |[u1,u2],hv=>
   obtain⟨h1,h2,_⟩:=hv;have e2:u2=.int .i64 2:=Aw.val (show Aw w' A (.sc (.int .i64 2)) u2 from h2)
   rcases (show Fx w' A (own 0) (.own 1 0 []) u1 from h1) with⟨_,_,_,ad,rfl⟩|⟨b,o,cap,ho,rfl,h⟩
   ·rw[e2];exact⟨ad,0,rfl⟩
   ·rw[e2];exact⟨_,cap,rfl⟩
  |[],hv=>exact hv.elim
  |[_],hv=>exact hv.2.elim
  |_::_::_::_,hv=>exact hv.2.2.elim
 |some b=>
  rw[hd] at hv
  match ws,hv with
  |[u1,u2],hv=>
   obtain⟨h1,h2,_⟩:=hv;have e2:u2=.int .i64 0:=Aw.val (show Aw w' A (.sc (.int .i64 0)) u2 from h2)
   rw[e2];rcases (show Fx w' A (own 0) (.own 1 b.length (Bn .u8 b)) u1 from h1) with⟨_,hn,_,ad,rfl⟩|⟨bb,o,cap,ho,rfl,hc,hf,B7,hr,hz⟩
   ·have GJ:b=[]:=List.eq_nil_of_length_eq_zero hn;subst GJ;exact⟨ad,0,rfl,fun h=>absurd rfl h⟩
   ·refine⟨some ⟨bb,o,none⟩,cap,rfl,fun _=>⟨⟨bb,o,none⟩,rfl,hc,?_,rfl,B7,fun j x hx=>?_⟩⟩
    ·have:=(hfr 0 bb o ho).2;rcases Nat.lt_or_ge bb W.heap.size with q|q
     ·obtain⟨⟨i,k,o',h⟩,_⟩:=this q;cases h
     ·exact q
    ·have hj:(Bn .u8 b)[j]?=some (.sc (.int .u8 x)):=by
      rw[Pb,List.getElem?_map,hx];rfl
     obtain⟨v,hv1,_,hv2⟩:=hr j _ hj;rw[hv1];exact congrArg some hv2.val
  |[],hv=>exact hv.elim
  |[_],hv=>exact hv.2.elim
  |_::_::_::_,hv=>exact hv.2.2.elim
def PaP (w w':World)(t:ByteArray)(e:Ending):Prop:=ItP w w' (N2 t) e
theorem QM {R:Ending->World->Prop}{a:Act}{W:World}{v:Value}{b:Nat}(h2:a.tmps.getD 2 undef=.pointer (some ⟨b,0,none⟩)) (hd:a.defers=[]) (hl:(loadVar 36 ⟨b,0,none⟩).run prog W=.ok v W) (hR:R (.returned (.tuple #[v,a.tmps.getD 3 undef])) W):bodyPost prog Tryd.f19 R .ret a W:=by
 refine bodyPost_ret ?_ hd hR;rw[results_cell_tmp rfl,h2];have e:(asAddr (.pointer (some ⟨b,0,none⟩))).run prog W=.ok ⟨b,0,none⟩ W:=rfl;rw[e,Result.andThen_ok,hl,Result.andThen_ok]
def VsP (w w':World)(t:ByteArray)(e:Ending):Prop:=e=.returned (.bool (Lib.validD t.data.toList))∧Below w.heap.size w w'
def RtQ (w w':World)(t:ByteArray)(e:Ending):Prop:=Below w.heap.size w w'∧RtP w' (Fc t) e
def ItQ (w w':World)(r:JR CD)(e:Ending):Prop:=Below w.heap.size w w'∧ItP w w' r e
set_option maxHeartbeats 4000000 in
theorem Akz {t:ByteArray}(ht:t.size<=9223372036854775807){w:World}(hU:okW w):Calls prog 19 #[.string t] w fun e w'=>Below w.heap.size w w'∧PaP w w' t e:=by
 have mixed:prog.follows Departure.mixedOrders=true:=by kernel_rfl
 have Er:Below w.heap.size w (w.alloc (.cells #[.int .i64 0,.slice none 0 0,.string ⟨#[]⟩,.bool false,.string ⟨#[]⟩] 36)):=(Below.refl _ w).alloc (Nat.le_refl _) _;have hg1:=al1 w (.cells #[.int .i64 0,.slice none 0 0,.string ⟨#[]⟩,.bool false,.string ⟨#[]⟩] 36);have hs1:(w.alloc (.cells #[.int .i64 0,.slice none 0 0,.string ⟨#[]⟩,.bool false,.string ⟨#[]⟩] 36)).heap.size=w.heap.size+1:=Array.size_push _;have GE:RC (w.alloc (.cells #[.int .i64 0,.slice none 0 0,.string ⟨#[]⟩,.bool false,.string ⟨#[]⟩] 36)) w.heap.size:=Aeq hg1;have hU1:=hU.below Er
 have hvc:Calls prog 33 #[.string t] (w.alloc (.cells #[.int .i64 0,.slice none 0 0,.string ⟨#[]⟩,.bool false,.string ⟨#[]⟩] 36)) fun e w'=>VsP (w.alloc (.cells #[.int .i64 0,.slice none 0 0,.string ⟨#[]⟩,.bool false,.string ⟨#[]⟩] 36)) w' t e:=(Any.utf8_ValidString laysVS t (w.alloc (.cells #[.int .i64 0,.slice none 0 0,.string ⟨#[]⟩,.bool false,.string ⟨#[]⟩] 36)) ht hU1.1.2.2).mono (fun _ _ h=>h)
 go_enter Tryd.func19,Tryd.ntmps19
 by_cases Cz:1024<t.size
 ·have hI:N2 t=.error 8:=by unfold N2;rw[D1 Cz]
  have hq:(t.size:Int)>1024:=by omega
  go_wp2
  (try simp only[Exit.inBlock,Exit.then])
  obtain⟨⟨r0,r1,r2,r3,r4⟩,_⟩:=GE;exact QM (b:=w.heap.size) rfl rfl (MM r0 r1 r2 r3 r4) ⟨Er,by unfold PaP;rw[hI];exact⟨by decide,rfl⟩⟩
 have hq:¬(t.size:Int)>1024:=by omega
 go_wp2_with (go_at_call 33;refine hvc.mono ?_)
 rintro e W2 ⟨rfl,Ho⟩
 have Aj2:Below w.heap.size w W2:=Er.trans (Ho.mono Er.size);have JU:=GE.below Ho (by rw[hs1];omega)
 have Tg:w.heap.size+1<=W2.heap.size:=by have:=Ho.size;rw[hs1] at this;exact this
 have hw2:w.heap.size<W2.heap.size:=by omega
 have hU2:=hU.below Aj2;cases hvd:Lib.validD t.data.toList with
 |false=>
  have hI:N2 t=.error 6:=by unfold N2;rw[Dc Cz,hvd,D1 rfl]
  obtain⟨⟨r0,r1,r2,r3,r4⟩,s0,s1,s2,s3,s4⟩:=id JU
  go_wp2
  (try simp only[Exit.inBlock,Exit.then])
  exact QM (b:=w.heap.size) rfl rfl (Yo W2 w.heap.size _ _ _ _ _ JU.some) ⟨It Aj2 (Nat.le_refl _) _ _ _ _ _,by unfold PaP;rw[hI];exact⟨by decide,rfl⟩⟩
 |true=>
  have AP:N2 t=match TT 8 (Fc t) with | .error e=>.error e | .ok ms=>YG ms:=by unfold N2;rw[Dc Cz,hvd,Dc (by decide)]
  have hrt:Calls prog 34 #[.string t] W2 fun e w'=>RtQ W2 w' t e:=Akw (by omega) hU2.1 hU2.2
  go_wp2_with (go_at_call 34;refine hrt.mono ?_)
  rintro e W3 ⟨Uf,LR⟩
  have Vn:Below w.heap.size w W3:=Aj2.trans (Uf.mono Aj2.size);have WF:=JU.below Uf hw2;have hw3:w.heap.size<W3.heap.size:=Nat.lt_of_lt_of_le hw2 Uf.size;have hU3:=hU.below Vn;unfold RtP at LR;cases Anr:TT 8 (Fc t) with
  |error er=>
   rw[Anr] at LR AP;obtain⟨he,m,rfl⟩:=LR;have hbe:(er != (0:Int))=true:=by simp[he]
   obtain⟨⟨r0,r1,r2,r3,r4⟩,s0,s1,s2,s3,s4⟩:=id WF
   go_wp2
   (try simp only[Exit.inBlock,Exit.then])
   exact QM (b:=w.heap.size) rfl rfl (Yo W3 w.heap.size _ _ _ _ _ WF.some) ⟨It Vn (Nat.le_refl _) _ _ _ _ _,by unfold PaP;rw[AP];exact⟨he,rfl⟩⟩
  |ok ms=>
   rw[Anr] at LR AP;obtain⟨mb,rfl,hM3⟩:=LR;have M3:(Fc t).length<=1000000:=by rw[Kk];omega
   have hok:=Ak6 (LY t) M3 Anr;have hl4:4*(Fc t).length<=1000000:=by rw[Kk];omega
   have Ti:Calls prog 35 #[.map (some mb)] W3 fun e w'=>ItQ W3 w' (YG ms) e:=Ajg Aah ZO (fun m hm=>(hok m hm).1.1) (fun m hm=>⟨(hok m hm).2.1,by have:=(hok m hm).2.2;omega⟩) hU3 hM3
   go_wp2_with (go_at_call 35;refine Ti.mono ?_)
   rintro e W4 ⟨hb4,hp4⟩
   have AN:Below w.heap.size w W4:=Vn.trans (hb4.mono Vn.size);have NL:=WF.below hb4 hw3;have hw4:w.heap.size<W4.heap.size:=Nat.lt_of_lt_of_le hw3 hb4.size;unfold ItP at hp4;cases SM:YG ms with
   |error er=>
    rw[SM] at hp4 AP;obtain⟨he,rfl⟩:=hp4;have hbe:(er != (0:Int))=true:=by simp[he]
    obtain⟨⟨r0,r1,r2,r3,r4⟩,s0,s1,s2,s3,s4⟩:=id NL
    go_wp2
    (try simp only[Exit.inBlock,Exit.then])
    exact QM (b:=w.heap.size) rfl rfl (Mh W4 w.heap.size hw4 _ _ _ _ _ _ NL) ⟨Gx AN (Nat.le_refl _) AN.size _ _ _ _ _ _,by unfold PaP;rw[AP];exact⟨he,rfl⟩⟩
   |ok x=>
    obtain⟨k,b,o,x,p⟩:=x;rw[SM] at hp4 AP;obtain⟨ad,cap,rfl,hc,hwa,hla⟩:=hp4;obtain⟨⟨r0,r1,r2,r3,r4⟩,s0,s1,s2,s3,s4⟩:=id NL
    go_wp2
    (try simp only[Exit.inBlock,Exit.then])
    exact QM (b:=w.heap.size) rfl rfl (Mh W4 w.heap.size hw4 _ _ _ _ _ _ NL) ⟨Gx AN (Nat.le_refl _) AN.size _ _ _ _ _ _,by unfold PaP;rw[AP];exact⟨ad,cap,rfl,hc,by omega,hla.set5al (by omega)⟩⟩
def Ip (args:List PV):Option Aq:=
 match args with
 |[.sc (.string t)]=>bif decide (t.size<=9223372036854775807) then some (match N2 t with
  |.ok (k,b,o,x,p)=>⟨[.agg [.sc (.int .i64 k),.lst false 1 b.length (Bn .u8 b),.sc (.string (Aa o)),.sc (.bool x),.sc (.string (Aa p))],.sc (.int .i64 0)],[]⟩
  |.error e=>⟨[.agg [.sc (.int .i64 0),.lst false 1 0 [],.sc (.string ⟨#[]⟩),.sc (.bool false),.sc (.string ⟨#[]⟩)],.sc (.int .i64 e)],[]⟩) else none
 |_=>none
theorem FJ {w w':World}{Y:Nat->Prop}{bt:Wx}{args vals:List PV}{vs:List Value}(hb:Below w.heap.size w w')(hv:JH w' (CU bt (fun _=>none) Y) (fun _=>none) w.heap.size 0 vals vs) (ho:Tf w' (CU bt (fun _=>none) Y) (fun _=>none) bt (K6 vals) 0 args []):
  Out w w' Y bt args (fun _=>none) ⟨vals,[]⟩ vs where
 os:=hb.os
 tape:=hb.tape
 output:=hb.output
 ext:=⟨hb.size,fun b h _=>hb.block b h,fun b h=>Gn.same (hb.block b h)⟩
 rng:=fun b j h _=>⟨by unfold World.cell?;simp only[hb.block b h],by unfold World.frozen?;simp only[hb.block b h]⟩
 vals:=hv
 outs:=ho
 fresh:=fun j b o h=>by cases h
 inj:=fun j j' b o o' h=>by cases h
theorem OX (args:List PV)(res:Aq)(h:Ip args=some res):Df gU prog 19 args res:=by
 refine⟨⟨_,Tryd.func19,by kernel_rfl⟩,fun w Y bt us hi hok hgl=>?_⟩
 unfold Ip at h;split at h
 rotate_left
 ·cases h
 rename_i t;cases hq:decide (t.size<=9223372036854775807)
 ·rw[hq] at h;cases h
 rw[hq,cond_true] at h;have hs:=of_decide_eq_true hq;have ps:=hi.args
 match us,ps with
 |[u],ps=>
  have hu:u=.string t:=Aw.val (show Aw w _ (.sc (.string t)) u from ps.1.2)
  subst hu;refine (Akz hs ⟨hok,fun k hk=>(hgl k hk).1⟩).mono ?_
  rintro e w' ⟨hb,hp⟩
  unfold PaP at hp;unfold ItP at hp;cases Zy:N2 t with
  |error er=>
   rw[Zy] at hp h;obtain⟨_,rfl⟩:=hp;cases h;refine⟨[.agg #[.int .i64 0,.slice none 0 0,.string ⟨#[]⟩,.bool false,.string ⟨#[]⟩],.int .i64 er],fun _=>none,rfl,FJ hb ⟨⟨_,rfl,?_⟩,Aw.sc _,trivial⟩ rfl⟩
   exact⟨Aw.sc _,Aw.lnil _ _,Aw.sc _,Aw.sc _,Aw.sc _,trivial⟩
  |ok x=>
   obtain⟨k,b,o,x,p⟩:=x;rw[Zy] at hp h;obtain⟨ad,cap,rfl,hc,hwa,hla⟩:=hp;cases h;refine⟨[.agg #[.int .i64 k,.slice (some ad) b.length cap,.string (Aa o),.bool x,.string (Aa p)],.int .i64 0],fun _=>none,rfl,FJ hb ⟨⟨_,rfl,?_⟩,Aw.sc _,trivial⟩ rfl⟩
   refine⟨Aw.sc _,?_,Aw.sc _,Aw.sc _,Aw.sc _,trivial⟩;refine Aw.lst 1 b.length (Bn .u8 b) ad cap (fun j=>.int .u8 (b.getD j 0)) hla.1 hla.2.1 ?_ hc ?_ ?_ ?_
   ·rintro (⟨j,o,h⟩|⟨i,o,h⟩|h)
    ·cases h
    ·have:=hi.lt ad.block ⟨i,0,o,h⟩;omega
    ·have:=hi.Ylt _ h;omega
   ·intro j c hj;rw[Pb,List.getElem?_map] at hj;obtain⟨y,hy,rfl⟩:=Option.map_eq_some_iff.1 hj;rw[hla.2.2 j y hy];simp[List.getD_eq_getElem?_getD,hy]
   ·intro j c hj;rfl
   ·intro j c hj;rw[Pb,List.getElem?_map] at hj;obtain⟨y,hy,rfl⟩:=Option.map_eq_some_iff.1 hj;have:b.getD j 0=y:=by simp[List.getD_eq_getElem?_getD,hy]
    rw[this];exact Aw.sc _
 |[],ps=>exact ps.elim
 |_::_::_,ps=>exact ps.2.elim
abbrev C1:Gl:=CP (some Ip)
theorem extV:JA gU prog C1:=Amn (fun g h args res hg=>by cases h;exact OX args res hg)
end
section
open Go.Proofs.Tryd (prog)
open Go.IntKind (wrap)
set_option maxRecDepth 100000
abbrev Hd:FuncId:=13
noncomputable def Cj (fu:Nat)(call:An)(Lf:Nat)(a0:List PV)(nn y0:Nat)(y1:List PV)(y2:ByteArray)(y3:Int):Option Aq:=Fy CB prog fu call 13 Tryd.f13 (Eb Tryd.f13) [.lst false 1 Lf a0] [.r,.r,.l,.r,.l] nn ⟨lk [(0,(.lst false 1 y0 y1)),(3,(.sc (.string y2))),(4,(.sc (.int .i64 y3)))],Ij []⟩
noncomputable def B4 (fu:Nat)(call:An)(Lf:Nat)(a0:List PV)(m0 nn y0:Nat)(y1:List PV)(y2:ByteArray)(y3 y4 y5:Int):Option Aq:=Fy CB prog fu call 13 Tryd.f13 (Eb Tryd.f13) [.lst false 1 Lf a0] [.r,.r,.l,.r,.l,.i m0,.r,.l,.l,.r,.r,.r,.r,.l] nn ⟨lk [(0,(.lst false 1 y0 y1)),(3,(.sc (.string y2))),(4,(.sc (.int .i64 y3))),(5,(.sc (.int .u64 y4))),(6,(.sc (.int .i64 y5)))],Ij []⟩
theorem Eg (fu:Nat)(call:An)(Lf:Nat)(a0:List PV)(nn y0:Nat)(y1:List PV)(y2:ByteArray)(y3:Int):Cj fu call Lf a0 (nn+1) y0 y1 y2 y3=(Ba (decide (y3<(↑y0:Int))) (A9 (decide (0<=y3)&&decide (y3<(↑y0:Int)))<|Ak .u8 (List.getD y1 (Int.toNat y3*1) .top) fun x1=>Ac (wrap .u64 x1) fun x2=>Ac (Jw .u64 x2 16) fun x3=>Ac (wrap .i64 (y3+1)) fun x4=>Ba (decide (x4<(↑y0:Int))) (Ac (wrap .i64 (y3+1)) fun x5=>A9 (decide (0<=x5)&&decide (x5<(↑y0:Int)))<|Ak .u8 (List.getD y1 (Int.toNat x5*1) .top) fun x6=>Ac (wrap .u64 x6) fun x7=>Ac (Jw .u64 x7 8) fun x8=>Ac (NQ .u64 x3 x8) fun x9=>Ac (wrap .i64 (y3+2)) fun E2=>Ba (decide (E2<(↑y0:Int))) (Ac (wrap .i64 (y3+2)) fun I3=>A9 (decide (0<=I3)&&decide (I3<(↑y0:Int)))<|Ak .u8 (List.getD y1 (Int.toNat I3*1) .top) fun J2=>Ac (wrap .u64 J2) fun E4=>Ac (NQ .u64 x9 E4) fun Ha=>B4 fu call Lf a0 nn (fu) (y0) (y1) (y2) (y3) Ha 0) (B4 fu call Lf a0 nn (fu) (y0) (y1) (y2) (y3) x9 0)) (Ac (wrap .i64 (y3+2)) fun Km=>Ba (decide (Km<(↑y0:Int))) (Ac (wrap .i64 (y3+2)) fun Hk=>A9 (decide (0<=Hk)&&decide (Hk<(↑y0:Int)))<|Ak .u8 (List.getD y1 (Int.toNat Hk*1) .top) fun Ib=>Ac (wrap .u64 Ib) fun Kp=>Ac (NQ .u64 x3 Kp) fun Jb=>B4 fu call Lf a0 nn (fu) (y0) (y1) (y2) (y3) Jb 0) (B4 fu call Lf a0 nn (fu) (y0) (y1) (y2) (y3) x3 0))) (some (Aq.mk [.sc (.string y2)] []))):=by kernel_rfl
theorem F9 (fu:Nat)(call:An)(Lf:Nat)(a0:List PV)(m0 nn y0:Nat)(y1:List PV)(y2:ByteArray)(y3 y4 y5:Int):B4 fu call Lf a0 m0 (nn+1) y0 y1 y2 y3 y4 y5=(Ba (decide (y5<4)) (Ac (wrap .i64 ((↑y0:Int)-y3)) fun Kw=>Ba (decide (y5<=Kw)) (Ac (wrap .u64 y5) fun K7=>Ac (wrap .u64 (6*K7)) fun Lx=>Ac (wrap .u64 (18-Lx)) fun Jz=>A9 (decide (0<=Jz))<|Ac (AC .u64 y4 Jz) fun Lo=>Ac (Akc .u64 Lo 63) fun Ld=>Ac (wrap .u64 (Ld+1)) fun Lt=>A9 (decide (0<=Ld))<|A9 (decide (0<=Lt))<|A9 (decide (Int.toNat Ld<=Int.toNat Lt)&&decide (Int.toNat Lt<=64))<|Ac (ByteArray.extract (ByteArray.mk #[65,66,67,68,69,70,71,72,73,74,75,76,77,78,79,80,81,82,83,84,85,86,87,88,89,90,97,98,99,100,101,102,103,104,105,106,107,108,109,110,111,112,113,114,115,116,117,118,119,120,121,122,48,49,50,51,52,53,54,55,56,57,45,95]) Ld.toNat Lt.toNat) fun Mq=>A9 (decide (ByteArray.size y2+ByteArray.size Mq<=9223372036854775807))<|Ac (y2++Mq) fun Ow=>Ac (wrap .i64 (y5+1)) fun M2=>B4 fu call Lf a0 m0 (nn) (y0) (y1) Ow (y3) (y4) M2) (Ac (wrap .i64 (y3+3)) fun Ox=>Cj fu call Lf a0 (m0) (y0) (y1) (y2) Ox)) (Ac (wrap .i64 (y3+3)) fun Pk=>Cj fu call Lf a0 (m0) (y0) (y1) (y2) Pk)):=by kernel_rfl
theorem M5 {p:Option (List PV->Option Aq)} (fu d Lf:Nat)(a0:List PV):Ae (CP p) prog fu (d+1) Hd [.lst false 1 Lf a0]=(fun (call:An)=>Cj fu call Lf a0 (fu) (Lf) (a0) (ByteArray.mk #[]) 0) (Ae (CP p) prog fu d):=by kernel_rfl
abbrev I9:FuncId:=41
theorem Q0 {p:Option (List PV->Option Aq)} (fu d:Nat)(a0:Int):Ae (CP p) prog fu (d+1) I9 [.sc (.int .i64 a0)]=(fun (call:An)=>Ba (a0==1) (some (Aq.mk [.sc (.string (ByteArray.mk #[112,97,115,115,107,101,121,46,99,114,101,97,116,101]))] [])) (Ba (a0==2) (some (Aq.mk [.sc (.string (ByteArray.mk #[112,97,115,115,107,101,121,46,103,101,116]))] [])) (some (Aq.mk [.sc (.string (ByteArray.mk #[]))] [])))) (Ae (CP p) prog fu d):=by kernel_rfl
abbrev O4:FuncId:=20
theorem Pc {p:Option (List PV->Option Aq)} (fu d:Nat)(Bp:Int)(Ga:Nat)(Bm:List PV)(H8:ByteArray)(Lw:Bool)(Hn:ByteArray)(Att:Int)(Ana:Nat)(Aqd:List PV)(Aul:ByteArray)(Atl:Bool)(Auk:ByteArray):Ae (CP p) prog fu (d+1) O4 [.agg [.sc (.int .i64 Bp),.lst false 1 Ga Bm,.sc (.string H8),.sc (.bool Lw),.sc (.string Hn)],.agg [.sc (.int .i64 Att),.lst false 1 Ana Aqd,.sc (.string Aul),.sc (.bool Atl),.sc (.string Auk)]]=(fun (call:An)=>Ba (Bp==Att) (A9 (decide (Bm.length=Ga))<|Cy (Nc Bm) fun x1=>A9 (decide (Aqd.length=Ana))<|Cy (Nc Aqd) fun x2=>Ba (Array.toList (ByteArray.data (ByteArray.mk (List.toArray x1)))==Array.toList (ByteArray.data (ByteArray.mk (List.toArray x2)))) (Ba (Array.toList (ByteArray.data H8)==Array.toList (ByteArray.data Aul)) (Ba (Lw==Atl) (some (Aq.mk [.sc (.bool (Array.toList (ByteArray.data Hn)==Array.toList (ByteArray.data Auk)))] [])) (some (Aq.mk [.sc (.bool false)] []))) (some (Aq.mk [.sc (.bool false)] []))) (some (Aq.mk [.sc (.bool false)] []))) (some (Aq.mk [.sc (.bool false)] []))) (Ae (CP p) prog fu d):=by kernel_rfl
abbrev Iq:FuncId:=16
theorem P8 {p:Option (List PV->Option Aq)} (fu d:Nat)(Bp:Int)(Ga:Nat)(Bm:List PV)(H8:ByteArray)(Lw:Bool)(Hn:ByteArray):Ae (CP p) prog fu (d+1) Iq [.agg [.sc (.int .i64 Bp),.lst false 1 Ga Bm,.sc (.string H8),.sc (.bool Lw),.sc (.string Hn)]]=(fun (call:An)=>Ai (call 18 [.agg [.sc (.int .i64 Bp),.lst false 1 Ga Bm,.sc (.string H8),.sc (.bool Lw),.sc (.string Hn)]]) fun x1 x2=>Ad x2<|Ab x1 fun x3 x4=>A0 x3 fun x5=>Ab x4 fun x6 x7=>Ak .i64 x6 fun x8=>Ad x7<|Ai (call 28 [.agg [.sc (.int .i64 Bp),.lst false 1 Ga Bm,.sc (.string H8),.sc (.bool Lw),.sc (.string Hn)]]) fun x9 E2=>Ad E2<|Ab x9 fun I3 J2=>A0 I3 fun E4=>Ab J2 fun Ha Km=>Ak .i64 Ha fun Hk=>Ad Km<|Ba (Array.toList (ByteArray.data x5)==Array.toList (ByteArray.data E4)) (some (Aq.mk [.sc (.bool (x8==Hk))] [])) (some (Aq.mk [.sc (.bool false)] []))) (Ae (CP p) prog fu d):=by kernel_rfl
abbrev S3:FuncId:=18
theorem Lg {p:Option (List PV->Option Aq)} (fu d:Nat)(Bp:Int)(Ga:Nat)(Bm:List PV)(H8:ByteArray)(Lw:Bool)(Hn:ByteArray):Ae (CP p) prog fu (d+1) S3 [.agg [.sc (.int .i64 Bp),.lst false 1 Ga Bm,.sc (.string H8),.sc (.bool Lw),.sc (.string Hn)]]=(fun (call:An)=>Ba (Bp==1) (Ba (decide ((↑Ga:Int)<1)) (some (Aq.mk [.sc (.string (ByteArray.mk #[])),.sc (.int .i64 9)] [])) (Ba (decide ((↑Ga:Int)>64)) (some (Aq.mk [.sc (.string (ByteArray.mk #[])),.sc (.int .i64 9)] [])) (Ai (call 32 [.sc (.string H8)]) fun x1 x2=>Ad x2<|Ab x1 fun x3 x4=>Fw x3 fun x5=>Ab x5 fun x6 x7=>Ao x6 fun x8=>Ab x7 fun x9 E2=>A0 x9 fun I3=>Ab E2 fun J2 E4=>Ak .i64 J2 fun Ha=>Ad E4<|Ab x4 fun Km Hk=>Ak .i64 Km fun Ib=>Ad Hk<|Ba (Ib != 0) (some (Aq.mk [.sc (.string (ByteArray.mk #[])),.sc (.int .i64 Ib)] [])) (Ba (!Array.toList (ByteArray.data Hn)==Array.toList (ByteArray.data (ByteArray.mk #[]))) (Ba (!Lw) (some (Aq.mk [.sc (.string (ByteArray.mk #[])),.sc (.int .i64 4)] [])) (Ai (call 12 [.lst false 1 Ga Bm]) fun Kp Jb=>Ad Jb<|Ab Kp fun Kw K7=>A0 Kw fun Lx=>Ad K7<|A9 (decide (38+ByteArray.size Lx<=9223372036854775807))<|Ac (ByteArray.mk #[123,34,116,121,112,101,34,58,34]++ByteArray.mk #[112,97,115,115,107,101,121,46,99,114,101,97,116,101]++ByteArray.mk #[34,44,34,99,104,97,108,108,101,110,103,101,34,58,34]++Lx) fun Jz=>A9 (decide (ByteArray.size Jz+12<=9223372036854775807))<|Ac (Jz++ByteArray.mk #[34,44,34,111,114,105,103,105,110,34,58,34]) fun Lo=>A9 (decide (ByteArray.size Lo+ByteArray.size H8<=9223372036854775807))<|Ac (Lo++H8) fun Ld=>Ba (!Lw) (A9 (decide (ByteArray.size Ld+22<=9223372036854775807))<|Ac (Ld++ByteArray.mk #[34,44,34,99,114,111,115,115,79,114,105,103,105,110,34,58,102,97,108,115,101,125]) fun Lt=>some (Aq.mk [.sc (.string Lt),.sc (.int .i64 0)] [])) (Ai (call 32 [.sc (.string Hn)]) fun Mq Ow=>Ad Ow<|Ab Mq fun M2 Ox=>Fw M2 fun Pk=>Ab Pk fun P4 Pi=>Ao P4 fun Ql=>Ab Pi fun Qt P7=>A0 Qt fun R0=>Ab P7 fun Q3 Pn=>Ak .i64 Q3 fun W0=>Ad Pn<|Ab Ox fun X8 Pq=>Ak .i64 X8 fun Qp=>Ad Pq<|Ba (Qp != 0) (some (Aq.mk [.sc (.string (ByteArray.mk #[])),.sc (.int .i64 Qp)] [])) (A9 (decide (ByteArray.size Ld+34<=9223372036854775807))<|Ac (Ld++ByteArray.mk #[34,44,34,99,114,111,115,115,79,114,105,103,105,110,34,58,116,114,117,101,44,34,116,111,112,79,114,105,103,105,110,34,58,34]) fun Wb=>A9 (decide (ByteArray.size Wb+ByteArray.size Hn<=9223372036854775807))<|Ac (Wb++Hn) fun Wa=>A9 (decide (ByteArray.size Wa+2<=9223372036854775807))<|Ac (Wa++ByteArray.mk #[34,125]) fun Z2=>some (Aq.mk [.sc (.string Z2),.sc (.int .i64 0)] []))))) (Ai (call 12 [.lst false 1 Ga Bm]) fun Zq Zr=>Ad Zr<|Ab Zq fun Xk Xn=>A0 Xk fun Zi=>Ad Xn<|A9 (decide (38+ByteArray.size Zi<=9223372036854775807))<|Ac (ByteArray.mk #[123,34,116,121,112,101,34,58,34]++ByteArray.mk #[112,97,115,115,107,101,121,46,99,114,101,97,116,101]++ByteArray.mk #[34,44,34,99,104,97,108,108,101,110,103,101,34,58,34]++Zi) fun N1=>A9 (decide (ByteArray.size N1+12<=9223372036854775807))<|Ac (N1++ByteArray.mk #[34,44,34,111,114,105,103,105,110,34,58,34]) fun Q8=>A9 (decide (ByteArray.size Q8+ByteArray.size H8<=9223372036854775807))<|Ac (Q8++H8) fun X5=>Ba (!Lw) (A9 (decide (ByteArray.size X5+22<=9223372036854775807))<|Ac (X5++ByteArray.mk #[34,44,34,99,114,111,115,115,79,114,105,103,105,110,34,58,102,97,108,115,101,125]) fun FB=>some (Aq.mk [.sc (.string FB),.sc (.int .i64 0)] [])) (Ai (call 32 [.sc (.string Hn)]) fun BG Zw=>Ad Zw<|Ab BG fun Zu GA=>Fw Zu fun II=>Ab II fun JO NU=>Ao JO fun TQ=>Ab NU fun SD NS=>A0 SD fun QJ=>Ab NS fun NJ QH=>Ak .i64 NJ fun SI=>Ad QH<|Ab GA fun NW NO=>Ak .i64 NW fun LI=>Ad NO<|Ba (LI != 0) (some (Aq.mk [.sc (.string (ByteArray.mk #[])),.sc (.int .i64 LI)] [])) (A9 (decide (ByteArray.size X5+34<=9223372036854775807))<|Ac (X5++ByteArray.mk #[34,44,34,99,114,111,115,115,79,114,105,103,105,110,34,58,116,114,117,101,44,34,116,111,112,79,114,105,103,105,110,34,58,34]) fun GL=>A9 (decide (ByteArray.size GL+ByteArray.size Hn<=9223372036854775807))<|Ac (GL++Hn) fun NP=>A9 (decide (ByteArray.size NP+2<=9223372036854775807))<|Ac (NP++ByteArray.mk #[34,125]) fun TH=>some (Aq.mk [.sc (.string TH),.sc (.int .i64 0)] [])))))))) (Ba (Bp==2) (Ba (decide ((↑Ga:Int)<1)) (some (Aq.mk [.sc (.string (ByteArray.mk #[])),.sc (.int .i64 9)] [])) (Ba (decide ((↑Ga:Int)>64)) (some (Aq.mk [.sc (.string (ByteArray.mk #[])),.sc (.int .i64 9)] [])) (Ai (call 32 [.sc (.string H8)]) fun ZN x77=>Ad x77<|Ab ZN fun WQ ZA=>Fw WQ fun RT=>Ab RT fun YE x82=>Ao YE fun x83=>Ab x82 fun VE WO=>A0 VE fun x86=>Ab WO fun ZH UG=>Ak .i64 ZH fun XB=>Ad UG<|Ab ZA fun x90 WJ=>Ak .i64 x90 fun WW=>Ad WJ<|Ba (WW != 0) (some (Aq.mk [.sc (.string (ByteArray.mk #[])),.sc (.int .i64 WW)] [])) (Ba (!Array.toList (ByteArray.data Hn)==Array.toList (ByteArray.data (ByteArray.mk #[]))) (Ba (!Lw) (some (Aq.mk [.sc (.string (ByteArray.mk #[])),.sc (.int .i64 4)] [])) (Ai (call 12 [.lst false 1 Ga Bm]) fun x93 WK=>Ad WK<|Ab x93 fun YO x96=>A0 YO fun VJ=>Ad x96<|A9 (decide (35+ByteArray.size VJ<=9223372036854775807))<|Ac (ByteArray.mk #[123,34,116,121,112,101,34,58,34]++ByteArray.mk #[112,97,115,115,107,101,121,46,103,101,116]++ByteArray.mk #[34,44,34,99,104,97,108,108,101,110,103,101,34,58,34]++VJ) fun x98=>A9 (decide (ByteArray.size x98+12<=9223372036854775807))<|Ac (x98++ByteArray.mk #[34,44,34,111,114,105,103,105,110,34,58,34]) fun ZM=>A9 (decide (ByteArray.size ZM+ByteArray.size H8<=9223372036854775807))<|Ac (ZM++H8) fun Tc=>Ba (!Lw) (A9 (decide (ByteArray.size Tc+22<=9223372036854775807))<|Ac (Tc++ByteArray.mk #[34,44,34,99,114,111,115,115,79,114,105,103,105,110,34,58,102,97,108,115,101,125]) fun Xf=>some (Aq.mk [.sc (.string Xf),.sc (.int .i64 0)] [])) (Ai (call 32 [.sc (.string Hn)]) fun Vv Yd=>Ad Yd<|Ab Vv fun Yb Qu=>Fw Yb fun Wp=>Ab Wp fun Ws Zs=>Ao Ws fun DE=>Ab Zs fun AF EB=>A0 AF fun HC=>Ab EB fun Z3 EW=>Ak .i64 Z3 fun HI=>Ad EW<|Ab Qu fun FK BQ=>Ak .i64 FK fun FG=>Ad BQ<|Ba (FG != 0) (some (Aq.mk [.sc (.string (ByteArray.mk #[])),.sc (.int .i64 FG)] [])) (A9 (decide (ByteArray.size Tc+34<=9223372036854775807))<|Ac (Tc++ByteArray.mk #[34,44,34,99,114,111,115,115,79,114,105,103,105,110,34,58,116,114,117,101,44,34,116,111,112,79,114,105,103,105,110,34,58,34]) fun Wc=>A9 (decide (ByteArray.size Wc+ByteArray.size Hn<=9223372036854775807))<|Ac (Wc++Hn) fun V3=>A9 (decide (ByteArray.size V3+2<=9223372036854775807))<|Ac (V3++ByteArray.mk #[34,125]) fun EI=>some (Aq.mk [.sc (.string EI),.sc (.int .i64 0)] []))))) (Ai (call 12 [.lst false 1 Ga Bm]) fun FU Xc=>Ad Xc<|Ab FU fun CO DG=>A0 CO fun AL=>Ad DG<|A9 (decide (35+ByteArray.size AL<=9223372036854775807))<|Ac (ByteArray.mk #[123,34,116,121,112,101,34,58,34]++ByteArray.mk #[112,97,115,115,107,101,121,46,103,101,116]++ByteArray.mk #[34,44,34,99,104,97,108,108,101,110,103,101,34,58,34]++AL) fun AK=>A9 (decide (ByteArray.size AK+12<=9223372036854775807))<|Ac (AK++ByteArray.mk #[34,44,34,111,114,105,103,105,110,34,58,34]) fun AB=>A9 (decide (ByteArray.size AB+ByteArray.size H8<=9223372036854775807))<|Ac (AB++H8) fun V2=>Ba (!Lw) (A9 (decide (ByteArray.size V2+22<=9223372036854775807))<|Ac (V2++ByteArray.mk #[34,44,34,99,114,111,115,115,79,114,105,103,105,110,34,58,102,97,108,115,101,125]) fun Zz=>some (Aq.mk [.sc (.string Zz),.sc (.int .i64 0)] [])) (Ai (call 32 [.sc (.string Hn)]) fun EX FD=>Ad FD<|Ab EX fun CA DY=>Fw CA fun DM=>Ab DM fun DD EF=>Ao DD fun HK=>Ab EF fun ES Z4=>A0 ES fun GZ=>Ab Z4 fun CW U6=>Ak .i64 CW fun Yr=>Ad U6<|Ab DY fun FC Z5=>Ak .i64 FC fun AM=>Ad Z5<|Ba (AM != 0) (some (Aq.mk [.sc (.string (ByteArray.mk #[])),.sc (.int .i64 AM)] [])) (A9 (decide (ByteArray.size V2+34<=9223372036854775807))<|Ac (V2++ByteArray.mk #[34,44,34,99,114,111,115,115,79,114,105,103,105,110,34,58,116,114,117,101,44,34,116,111,112,79,114,105,103,105,110,34,58,34]) fun AJ=>A9 (decide (ByteArray.size AJ+ByteArray.size Hn<=9223372036854775807))<|Ac (AJ++Hn) fun GN=>A9 (decide (ByteArray.size GN+2<=9223372036854775807))<|Ac (GN++ByteArray.mk #[34,125]) fun GW=>some (Aq.mk [.sc (.string GW),.sc (.int .i64 0)] [])))))))) (some (Aq.mk [.sc (.string (ByteArray.mk #[])),.sc (.int .i64 3)] [])))) (Ae (CP p) prog fu d):=by kernel_rfl
abbrev J3:FuncId:=8
theorem Rm {p:Option (List PV->Option Aq)} (fu d:Nat):Ae (CP p) prog fu (d+1) J3 []=(fun (call:An)=>Ai (call 18 [.agg [.sc (.int .i64 2),.lst false 1 2 [.sc (.int .u8 251),.sc (.int .u8 255)],.sc (.string (ByteArray.mk #[104,116,116,112,115,58,47,47,97,46,98])),.sc (.bool false),.sc (.string (ByteArray.mk #[]))]]) fun x1 x2=>Ad x2<|Ab x1 fun x3 x4=>A0 x3 fun x5=>Ab x4 fun x6 x7=>Ak .i64 x6 fun x8=>Ad x7<|Ai (call 19 [.sc (.string x5)]) fun x9 E2=>Ad E2<|Ab x9 fun I3 J2=>Fw I3 fun E4=>Ab E4 fun Ha Km=>Ak .i64 Ha fun Hk=>Ab Km fun Ib Kp=>Nb 1 Ib fun Jb Kw K7=>Ab Kp fun Lx Jz=>A0 Lx fun Lo=>Ab Jz fun Ld Lt=>Ao Ld fun Mq=>Ab Lt fun Ow M2=>A0 Ow fun Ox=>Ad M2<|Ab J2 fun Pk P4=>Ak .i64 Pk fun Pi=>Ad P4<|Ba (x8==0) (Ba (Pi==0) (Ba (Array.toList (ByteArray.data x5)==Array.toList (ByteArray.data (ByteArray.mk (List.toArray (List.append [123,34,116,121,112,101,34,58,34,112,97,115,115,107,101,121,46,103,101,116,34,44,34,99,104,97,108,108,101,110,103,101,34,58,34,45,95,56,34,44,34] [111,114,105,103,105,110,34,58,34,104,116,116,112,115,58,47,47,97,46,98,34,44,34,99,114,111,115,115,79,114,105,103,105,110,34,58,102,97,108,115,101,125]))))) (Ai (call 20 [.agg [.sc (.int .i64 2),.lst false 1 2 [.sc (.int .u8 251),.sc (.int .u8 255)],.sc (.string (ByteArray.mk #[104,116,116,112,115,58,47,47,97,46,98])),.sc (.bool false),.sc (.string (ByteArray.mk #[]))],.agg [.sc (.int .i64 Hk),.lst false 1 Kw K7,.sc (.string Lo),.sc (.bool Mq),.sc (.string Ox)]]) fun Ql Qt=>Ad Qt<|Ab Ql fun P7 R0=>Ao P7 fun Q3=>Ad R0<|some (Aq.mk [.sc (.bool Q3)] [])) (some (Aq.mk [.sc (.bool false)] []))) (some (Aq.mk [.sc (.bool false)] []))) (some (Aq.mk [.sc (.bool false)] []))) (Ae (CP p) prog fu d):=by kernel_rfl
end
section
open Go.Proofs.Tryd (prog)
open Go.IntKind (wrap)
set_option maxRecDepth 100000
theorem Ape (a b:Nat)(ha:a<18446744073709551616)(hb:b<18446744073709551616):Akc .u64 ((a:Nat):Int) ((b:Nat):Int)=((a &&& b:Nat):Int):=by
 have hx:a &&& b<2 ^ 64:=Nat.and_lt_two_pow _ (by omega)
 have h1:(BitVec.ofInt 64 (a:Int)).toNat=a:=by
  rw[BitVec.ofInt_natCast,BitVec.toNat_ofNat];exact Nat.mod_eq_of_lt (by omega)
 have h2:(BitVec.ofInt 64 (b:Int)).toNat=b:=by
  rw[BitVec.ofInt_natCast,BitVec.toNat_ofNat];exact Nat.mod_eq_of_lt (by omega)
 show IntKind.u64.wrap ((BitVec.ofInt 64 (a:Int) &&& BitVec.ofInt 64 (b:Int)).toNat:Int)=_;rw[BitVec.toNat_and,h1,h2];simp only[wrap,IntKind.bits,IntKind.signed,PE,Bool.false_eq_true,if_false];omega
theorem Aqt {x:Int}(h0:0<=x)(h1:x<16777216):Akc .u64 x 63=x % 64:=by
 obtain⟨n,rfl⟩:=Int.eq_ofNat_of_zero_le h0;have:=Ape n 63 (by omega) (by omega)
 refine this.trans ?_;rw[show (63:Nat)=2 ^ 6-1 by decide,Nat.and_two_pow_sub_one_eq_mod n 6]
 omega
theorem Atb {x:Int}{k:Nat}(hk:k<=64):AC .u64 x (k:Int)=x / ((2 ^ k:Nat):Int):=by
 show x.fdiv (2 ^ (min (k:Int).toNat IntKind.u64.bits))=_
 have:min (k:Int).toNat IntKind.u64.bits=k:=by
  rw[Kx];exact Nat.min_eq_left (by show k<=64;omega)
 rw[this];have e:(2:Int) ^ k=((2 ^ k:Nat):Int):=by simp
 rw[e,Int.fdiv_eq_ediv_of_nonneg _ (Int.natCast_nonneg _)]
theorem Afn:∀n:Fin 64,Yq.extract n.val (n.val+1)=Aa [Gv (n.val:Int)]:=by decide +kernel
theorem C6 (a b:List Int):Aa a++Aa b=Aa (a++b):=by
 apply ByteArray.ext;rw[ByteArray.data_append];unfold Aa;simp
def NM (x:Int)(k:Nat):Int:=Gv (x / ((2 ^ (18-6*k):Nat):Int) % 64)
section
variable {fu d:Nat} {p:Option (List PV->Option Aq)}
theorem WD {Lf:Nat}{a0:List PV}{m0:Nat}{y0:Nat}{y1:List PV}{i:Nat}{x:Int}(hx0:0<=x)(hx:x<16777216)(hi:i<y0)(hy:y0<=1000000)(m:Nat)(hm:m=min (y0-i) 3+1):∀(r k nn:Nat)(out:List Int),k+r=m->r+1<=nn->out.length+r<=10000000 ->
  B4 fu (Ae (CP p) prog fu d) Lf a0 m0 nn y0 y1 (Aa out) (i:Int) x (k:Int)=Cj fu (Ae (CP p) prog fu d) Lf a0 m0 y0 y1 (Aa (out++(List.range' k r).map (NM x))) ((i+3:Nat):Int)
 |0,k,nn,out,hkr,Pe,ho=>by
  obtain⟨q,rfl⟩:∃q,nn=q+1:=⟨nn-1,by omega⟩
  have a3:wrap .i64 ((i:Int)+3)=((i+3:Nat):Int):=by rw[Az (by omega) (by omega)];omega
  have e:out++(List.range' k 0).map (NM x)=out:=by simp
  rw[e,F9];by_cases h4:k<4
  ·have a1:=dT (q:=(k:Int)<4) (by omega)
   have a2:wrap .i64 ((y0:Int)-(i:Int))=(y0:Int)-(i:Int):=Az (by omega) (by omega)
   have a4:=dF (q:=(k:Int)<=(y0:Int)-(i:Int)) (by omega)
   simp only[B0,a1,a2,a4,a3]
  ·have a1:=dF (q:=(k:Int)<4) (by omega)
   simp only[B0,a1,a3]
 |r+1,k,nn,out,hkr,Pe,ho=>by
  obtain⟨q,rfl⟩:∃q,nn=q+1:=⟨nn-1,by omega⟩
  have Sf:k<4:=by omega
  have a1:=dT (q:=(k:Int)<4) (by omega)
  have a2:wrap .i64 ((y0:Int)-(i:Int))=(y0:Int)-(i:Int):=Az (by omega) (by omega)
  have a4:=dT (q:=(k:Int)<=(y0:Int)-(i:Int)) (by omega)
  have b1:wrap .u64 (k:Int)=(k:Int):=Ep (by omega) (by omega)
  have b2:wrap .u64 (6*(k:Int))=6*(k:Int):=Ep (by omega) (by omega)
  have b3:wrap .u64 (18-6*(k:Int))=((18-6*k:Nat):Int):=by rw[Ep (by omega) (by omega)];omega
  have b4:decide ((0:Int)<=((18-6*k:Nat):Int))=true:=by simp
  have b5:=Atb (x:=x) (k:=18-6*k) (by omega)
  have hp:0<2 ^ (18-6*k):=Nat.pow_pos (by omega)
  have G4:0<=x / ((2 ^ (18-6*k):Nat):Int):=Int.ediv_nonneg hx0 (Int.natCast_nonneg _)
  have hd1:x / ((2 ^ (18-6*k):Nat):Int)<16777216:=by
   have:=Int.ediv_le_self ((2 ^ (18-6*k):Nat):Int) hx0;omega
  have b6:=Aqt G4 hd1;generalize hv:x / ((2 ^ (18-6*k):Nat):Int) % 64=v at b6;have hv0:0<=v:=by omega
  have hv1:v<64:=by omega
  have b7:wrap .u64 (v+1)=v+1:=Ep (by omega) (by omega)
  have b8:=dT (q:=(0:Int)<=v) hv0;have b9:=dT (q:=(0:Int)<=v+1) (by omega)
  have c1:decide (Int.toNat v<=Int.toNat (v+1))=true:=dT (by omega)
  have c2:decide (Int.toNat (v+1)<=64)=true:=dT (by omega)
  have c3:Yq.extract (Int.toNat v) (Int.toNat (v+1))=Aa [NM x k]:=by
   have:=Afn ⟨Int.toNat v,by omega⟩
   rw[show Int.toNat (v+1)=Int.toNat v+1 by omega]
   refine this.trans ?_;unfold NM;rw[hv]
   congr 3
   show ((Int.toNat v:Nat):Int)=v;omega
  have c4:decide ((Aa out).size+(Aa [NM x k]).size<=9223372036854775807)=true:=dT (by rw[Af,Af];simp;omega)
  have c5:wrap .i64 ((k:Int)+1)=((k+1:Nat):Int):=by rw[Az (by omega) (by omega)];omega
  have ih:=WD (Lf:=Lf) (a0:=a0) (m0:=m0) (y1:=y1) hx0 hx hi hy m hm r (k+1) q (out++[NM x k]) (by omega) (by omega) (by simp;omega)
  have e:out++(List.range' k (r+1)).map (NM x)=(out++[NM x k])++(List.range' (k+1) r).map (NM x):=by
   rw[List.range'_succ];simp
  have ea:(ByteArray.mk #[(65:UInt8),(66:UInt8),(67:UInt8),(68:UInt8),(69:UInt8),(70:UInt8),(71:UInt8),(72:UInt8),(73:UInt8),(74:UInt8),(75:UInt8),(76:UInt8),(77:UInt8),(78:UInt8),(79:UInt8),(80:UInt8),(81:UInt8),(82:UInt8),(83:UInt8),(84:UInt8),(85:UInt8),(86:UInt8),(87:UInt8),(88:UInt8),(89:UInt8),(90:UInt8),(97:UInt8),(98:UInt8),(99:UInt8),(100:UInt8),(101:UInt8),(102:UInt8),(103:UInt8),(104:UInt8),(105:UInt8),(106:UInt8),(107:UInt8),(108:UInt8),(109:UInt8),(110:UInt8),(111:UInt8),(112:UInt8),(113:UInt8),(114:UInt8),(115:UInt8),(116:UInt8),(117:UInt8),(118:UInt8),(119:UInt8),(120:UInt8),(121:UInt8),(122:UInt8),(48:UInt8),(49:UInt8),(50:UInt8),(51:UInt8),(52:UInt8),(53:UInt8),(54:UInt8),(55:UInt8),(56:UInt8),(57:UInt8),(45:UInt8),(95:UInt8)])=Yq:=rfl;rw[e,F9,ea];simp only[B0,a1,a2,a4,b1,b2,b3,b4,b5,b6,b7,b8,b9,c1,c2,c3,c4,C6,c5];exact ih
theorem UI {a b c:Int}(h:Ct [a,b,c]) (m:Nat)(hm:m<=4):(List.range' 0 m).map (NM (a*65536+b*256+c))=(I0 a b c).take m:=by
 obtain⟨ha,h⟩:=Cq h;obtain⟨hb,h⟩:=Cq h;obtain⟨hc,h⟩:=Cq h;have e0:NM (a*65536+b*256+c) 0=Gv (a / 4):=by unfold NM;congr 1;simp;omega
 have e1:NM (a*65536+b*256+c) 1=Gv (a % 4*16+b / 16):=by unfold NM;congr 1;simp;omega
 have e2:NM (a*65536+b*256+c) 2=Gv (b % 16*4+c / 64):=by unfold NM;congr 1;simp;omega
 have e3:NM (a*65536+b*256+c) 3=Gv (c % 64):=by unfold NM;congr 1;simp;omega
 match m,hm with
 |0,_=>rfl
 |1,_=>simp[List.range',I0,e0]
 |2,_=>simp[List.range',I0,e0,e1]
 |3,_=>simp[List.range',I0,e0,e1,e2]
 |4,_=>simp[List.range',I0,e0,e1,e2,e3]
theorem Av9 {a b:Int}(ha:0<=a∧a<=255)(hb:0<=b∧b<=255):NQ .u64 (a*65536) (b*256)=a*65536+b*256:=by
 obtain⟨a,rfl⟩:=Int.eq_ofNat_of_zero_le ha.1;have:=(LZ (a:=b*256) (c:=(a:Int)*65536) 16 a (by omega) (by simp;omega) (by simp) (by omega)).2
 rw[this];omega
theorem A3y {y c:Int}(hy:0<=y∧y<=65535)(hc:0<=c∧c<=255):NQ .u64 (y*256) c=y*256+c:=by
 obtain⟨y,rfl⟩:=Int.eq_ofNat_of_zero_le hy.1;have:=(LZ (a:=c) (c:=(y:Int)*256) 8 y (by omega) (by simp;omega) (by simp) (by omega)).2
 rw[this];omega
theorem Alb {Lf:Nat}{a0:List PV}{l:List Int}(hB:Ct l)(hl:l.length<=100000)(Ei:10<=fu):∀(q:Nat)(r:List Int)(i nn:Nat)(out:List Int),l.drop i=r->i<=l.length+3->r.length<=q->q+1<=nn->out.length+4*r.length<=1000000 ->
  Cj fu (Ae (CP p) prog fu d) Lf a0 nn l.length (Bn .u8 l) (Aa out) (i:Int)=some ⟨[.sc (.string (Aa (out++Ev r)))],[]⟩:=by
 intro q
 induction q with
 |zero=>
  intro r i nn out hd hi3 hq Pe ho;have hr:r=[]:=List.eq_nil_of_length_eq_zero (by omega)
  subst hr;obtain⟨k,rfl⟩:∃k,nn=k+1:=⟨nn-1,by omega⟩
  have hi:=drop_nil hd;have a1:=dF (q:=(i:Int)<(l.length:Int)) (by omega)
  rw[Eg];simp only[B0,a1,Ev,List.append_nil]
 |succ q ih=>
  intro r i nn out hd hi3 hq Pe ho;obtain⟨k,rfl⟩:∃k,nn=k+1:=⟨nn-1,by omega⟩
  cases r with
  |nil=>
   have hi:=drop_nil hd;have a1:=dF (q:=(i:Int)<(l.length:Int)) (by omega)
   rw[Eg];simp only[B0,a1,Ev,List.append_nil]
  |cons a r1=>
   obtain⟨hi,ha,hd1⟩:=Fl hd;have haB:=hB a (List.mem_of_getElem? ha);have Cz:=congrArg List.length hd;rw[List.length_drop] at Cz;have a1:=dT (q:=(i:Int)<(l.length:Int)) (by omega)
   have a2:decide ((0:Int)<=(i:Int))=true:=by simp
   have a3:List.getD (Bn .u8 l) (Int.toNat (i:Int)*1) PV.top=.sc (.int .u8 a):=by rw[Kx,AZ];exact ati ha
   have a4:wrap .u64 a=a:=Ep (by omega) (by omega)
   have a5:Jw .u64 a 16=a*65536:=by
    have:=MD (a:=a) (k:=16) haB.1 (by omega) (by omega) (by simp;omega)
    rw[this];simp
   have a6:wrap .i64 ((i:Int)+1)=((i+1:Nat):Int):=by rw[Az (by omega) (by omega)];omega
   have a7:wrap .i64 ((i:Int)+2)=((i+2:Nat):Int):=by rw[Az (by omega) (by omega)];omega
   have b2:decide ((0:Int)<=((i+1:Nat):Int))=true:=dT (by omega)
   have b3:decide ((0:Int)<=((i+2:Nat):Int))=true:=dT (by omega)
   rw[Eg];cases r1 with
   |nil=>
    simp only[FM,List.length_nil] at Cz;have b1:=dF (q:=((i+1:Nat):Int)<(l.length:Int)) (by omega)
    have c1:=dF (q:=((i+2:Nat):Int)<(l.length:Int)) (by omega)
    have Ti:=WD (fu:=fu) (d:=d) (p:=p) (Lf:=Lf) (a0:=a0) (m0:=k) (y0:=l.length) (y1:=Bn .u8 l) (i:=i) (x:=a*65536) (by omega) (by omega) hi (by omega) 2 (by omega) 2 0 fu out rfl (by omega) (by simp at ho;omega)
    have Jd:=UI (a:=a) (b:=0) (c:=0) (fun x hx=>by simp at hx;rcases hx with rfl|rfl<;>omega) 2 (by omega)
    rw[show a*65536+0*256+0=a*65536 by omega] at Jd
    rw[Jd] at Ti;have hr:=ih [] (i+3) k (out++(I0 a 0 0).take 2) (List.drop_eq_nil_of_le (by omega)) (by omega) (by simp) (by omega) (by simp[I0] at ho ⊢;omega)
    simp only[B0,a1,a2,a3,a4,a5,a6,a7,b1,c1];refine Ti.trans (hr.trans ?_);simp[Ev,I0]
   |cons b r2=>
    obtain⟨hi1,hb,Iz⟩:=Fl hd1;have hbB:=hB b (List.mem_of_getElem? hb);have b1:=dT (q:=((i+1:Nat):Int)<(l.length:Int)) (by omega)
    have b4:List.getD (Bn .u8 l) (Int.toNat ((i+1:Nat):Int)*1) PV.top=.sc (.int .u8 b):=by rw[Kx,AZ];exact ati hb
    have b5:wrap .u64 b=b:=Ep (by omega) (by omega)
    have b6:Jw .u64 b 8=b*256:=by
     have:=MD (a:=b) (k:=8) hbB.1 (by omega) (by omega) (by simp;omega)
     rw[this];simp
    have b7:=Av9 haB hbB;cases r2 with
    |nil=>
     simp only[FM,List.length_nil] at Cz;have c1:=dF (q:=((i+2:Nat):Int)<(l.length:Int)) (by omega)
     have Ti:=WD (fu:=fu) (d:=d) (p:=p) (Lf:=Lf) (a0:=a0) (m0:=k) (y0:=l.length) (y1:=Bn .u8 l) (i:=i) (x:=a*65536+b*256) (by omega) (by omega) hi (by omega) 3 (by omega) 3 0 fu out rfl (by omega) (by simp at ho;omega)
     have Jd:=UI (a:=a) (b:=b) (c:=0) (fun x hx=>by simp at hx;rcases hx with rfl|rfl|rfl<;>omega) 3 (by omega)
     rw[show a*65536+b*256+0=a*65536+b*256 by omega] at Jd
     rw[Jd] at Ti;have hr:=ih [] (i+3) k (out++(I0 a b 0).take 3) (List.drop_eq_nil_of_le (by omega)) (by omega) (by simp) (by omega) (by simp[I0] at ho ⊢;omega)
     simp only[B0,a1,a2,a3,a4,a5,a6,a7,b1,b2,b4,b5,b6,b7,c1];refine Ti.trans (hr.trans ?_);simp[Ev,I0]
    |cons c t=>
     obtain⟨hi2,hc,hd3⟩:=Fl Iz;have GG:=hB c (List.mem_of_getElem? hc);simp only[FM] at Cz;have c1:=dT (q:=((i+2:Nat):Int)<(l.length:Int)) (by omega)
     have c2:List.getD (Bn .u8 l) (Int.toNat ((i+2:Nat):Int)*1) PV.top=.sc (.int .u8 c):=by rw[Kx,AZ];exact ati hc
     have c3:wrap .u64 c=c:=Ep (by omega) (by omega)
     have c4:NQ .u64 (a*65536+b*256) c=a*65536+b*256+c:=by
      have:=A3y (y:=a*256+b) (c:=c) (by omega) GG
      rw[show (a*256+b)*256=a*65536+b*256 by omega] at this
      exact this
     have Ti:=WD (fu:=fu) (d:=d) (p:=p) (Lf:=Lf) (a0:=a0) (m0:=k) (y0:=l.length) (y1:=Bn .u8 l) (i:=i) (x:=a*65536+b*256+c) (by omega) (by omega) hi (by omega) 4 (by omega) 4 0 fu out rfl (by omega) (by simp at ho;omega)
     have Jd:=UI (a:=a) (b:=b) (c:=c) (fun x hx=>by simp at hx;rcases hx with rfl|rfl|rfl<;>omega) 4 (by omega)
     rw[Jd] at Ti;have hr:=ih t (i+3) k (out++(I0 a b c).take 4) hd3 (by omega) (by simp at hq;omega) (by omega) (by simp[I0] at ho ⊢;omega)
     simp only[B0,a1,a2,a3,a4,a5,a6,a7,b1,b2,b4,b5,b6,b7,b3,c1,c2,c3,c4];refine Ti.trans (hr.trans ?_);simp[Ev,I0]
theorem Aj4 {l:List Int}(hB:Ct l)(hl:l.length<=100000)(Ei:10<=fu)(BD:l.length+1<=fu):Ae (CP p) prog fu (d+1) Hd [.lst false 1 l.length (Bn .u8 l)]=some ⟨[.sc (.string (Aa (Ev l)))],[]⟩:=by
 rw[M5];have:=Alb (fu:=fu) (d:=d) (p:=p) (Lf:=l.length) (a0:=Bn .u8 l) hB hl Ei l.length l 0 fu [] rfl (by omega) (Nat.le_refl _) BD (by simp;omega)
 exact this
end
end
section
open Go.Proofs.Tryd (prog)
open Go.IntKind (wrap)
set_option maxRecDepth 100000
def awT:List Int:=[123,34,116,121,112,101,34,58,34,112,97,115,115,107,101,121,46,103,101,116,34,44,34,99,104,97,108,108,101,110,103,101,34,58,34,45,95,56,34,44,34,111,114,105,103,105,110,34,58,34,104,116,116,112,115,58,47,47,97,46,98,34,44,34,99,114,111,115,115,79,114,105,103,105,110,34,58,102,97,108,115,101,125]
def awO:List Int:=[104,116,116,112,115,58,47,47,97,46,98]
theorem Aku:Ew awO=0:=by decide +kernel
theorem Ab2:N2 (Aa awT)=.ok (2,[251,255],awO,false,[]):=by kernel_rfl
section
variable {fu d:Nat}
theorem Aja (Ei:200<=fu):Ae C1 prog fu (d+9) J3 []=some ⟨[.sc (.bool true)],[]⟩:=by
 obtain⟨o1,o2,o3,ho⟩:=VT (fu:=fu) (d:=d) (p:=some Ip) (l:=awO) (fun x hx=>by simp[awO] at hx;omega) (by decide) Ei
 rw[Aku] at ho;have h32:Ae C1 prog fu (d+7) 32 [.sc (.string (ByteArray.mk #[(104:UInt8),(116:UInt8),(116:UInt8),(112:UInt8),(115:UInt8),(58:UInt8),(47:UInt8),(47:UInt8),(97:UInt8),(46:UInt8),(98:UInt8)]))]=_:=ho;have h12:Ae C1 prog fu (d+7) 12 [.lst false 1 2 [.sc (.int .u8 251),.sc (.int .u8 255)]]=some ⟨[.sc (.string (Aa [45,95,56]))],[]⟩:=by kernel_rfl
 have h18:Ae C1 prog fu (d+8) 18 [.agg [.sc (.int .i64 2),.lst false 1 2 [.sc (.int .u8 251),.sc (.int .u8 255)],.sc (.string (ByteArray.mk #[(104:UInt8),(116:UInt8),(116:UInt8),(112:UInt8),(115:UInt8),(58:UInt8),(47:UInt8),(47:UInt8),(97:UInt8),(46:UInt8),(98:UInt8)])),.sc (.bool false),.sc (.string (ByteArray.mk #[]))]]=some ⟨[.sc (.string (Aa awT)),.sc (.int .i64 0)],[]⟩:=by
  refine (Lg (p:=some Ip) fu (d+7) _ _ _ _ _ _).trans ?_;have a1:((2:Int)==1)=false:=rfl;have a2:((2:Int)==2)=true:=rfl;have a3:decide (((2:Nat):Int)<1)=false:=rfl;have a4:decide (((2:Nat):Int)>64)=false:=rfl;have a5:((0:Int) != 0)=false:=rfl;have a6:(!Array.toList (ByteArray.mk #[]).data==Array.toList (ByteArray.mk #[]).data)=false:=rfl;simp only[B0,a1,a2,a3,a4,a5,a6,h32,h12,Dl];show _=some (Aq.mk [.sc (.string (Aa awT)),.sc (.int .i64 0)] [])
  first|kernel_rfl|rfl
 have h19:Ae C1 prog fu (d+8) 19 [.sc (.string (Aa awT))]=some ⟨[.agg [.sc (.int .i64 2),.lst false 1 2 [.sc (.int .u8 251),.sc (.int .u8 255)],.sc (.string (Aa awO)),.sc (.bool false),.sc (.string (Aa []))],.sc (.int .i64 0)],[]⟩:=by
  have e:Ae C1 prog fu (d+8) 19 [.sc (.string (Aa awT))]=Ip [.sc (.string (Aa awT))]:=rfl;rw[e];unfold Ip;have hs:decide ((Aa awT).size<=9223372036854775807)=true:=rfl;simp only[hs,cond_true,Ab2];rfl
 have h20:Ae C1 prog fu (d+8) 20 [.agg [.sc (.int .i64 2),.lst false 1 2 [.sc (.int .u8 251),.sc (.int .u8 255)],.sc (.string (ByteArray.mk #[(104:UInt8),(116:UInt8),(116:UInt8),(112:UInt8),(115:UInt8),(58:UInt8),(47:UInt8),(47:UInt8),(97:UInt8),(46:UInt8),(98:UInt8)])),.sc (.bool false),.sc (.string (ByteArray.mk #[]))],.agg [.sc (.int .i64 2),.lst false 1 2 [.sc (.int .u8 251),.sc (.int .u8 255)],.sc (.string (Aa awO)),.sc (.bool false),.sc (.string (Aa []))]]=some ⟨[.sc (.bool true)],[]⟩:=
  (Pc (p:=some Ip) fu (d+7) _ _ _ _ _ _ _ _ _ _ _ _).trans (by kernel_rfl)
 refine (Rm (p:=some Ip) fu (d+8)).trans ?_;have b1:((0:Int)==0)=true:=rfl
 have b2:(Array.toList (Aa awT).data==Array.toList (ByteArray.mk (List.toArray (List.append [(123:UInt8),(34:UInt8),(116:UInt8),(121:UInt8),(112:UInt8),(101:UInt8),(34:UInt8),(58:UInt8),(34:UInt8),(112:UInt8),(97:UInt8),(115:UInt8),(115:UInt8),(107:UInt8),(101:UInt8),(121:UInt8),(46:UInt8),(103:UInt8),(101:UInt8),(116:UInt8),(34:UInt8),(44:UInt8),(34:UInt8),(99:UInt8),(104:UInt8),(97:UInt8),(108:UInt8),(108:UInt8),(101:UInt8),(110:UInt8),(103:UInt8),(101:UInt8),(34:UInt8),(58:UInt8),(34:UInt8),(45:UInt8),(95:UInt8),(56:UInt8),(34:UInt8),(44:UInt8),(34:UInt8)] [(111:UInt8),(114:UInt8),(105:UInt8),(103:UInt8),(105:UInt8),(110:UInt8),(34:UInt8),(58:UInt8),(34:UInt8),(104:UInt8),(116:UInt8),(116:UInt8),(112:UInt8),(115:UInt8),(58:UInt8),(47:UInt8),(47:UInt8),(97:UInt8),(46:UInt8),(98:UInt8),(34:UInt8),(44:UInt8),(34:UInt8),(99:UInt8),(114:UInt8),(111:UInt8),(115:UInt8),(115:UInt8),(79:UInt8),(114:UInt8),(105:UInt8),(103:UInt8),(105:UInt8),(110:UInt8),(34:UInt8),(58:UInt8),(102:UInt8),(97:UInt8),(108:UInt8),(115:UInt8),(101:UInt8),(125:UInt8)]))).data)=true:=by kernel_rfl
 have b3:decide (0+2*1<=List.length [PV.sc (.int .u8 251),PV.sc (.int .u8 255)])=true:=rfl;have b4:List.take (2*1) (List.drop 0 [PV.sc (.int .u8 251),PV.sc (.int .u8 255)])=[PV.sc (.int .u8 251),PV.sc (.int .u8 255)]:=rfl;simp only[B0,h18,h19,b1,b2,b3,b4,h20]
theorem HM:∀{l:List Int},Ct l->BV (Bn .u8 l)=some l
 |[],_=>rfl
 |n::l,h=>by
  obtain⟨hn,hl⟩:=Cq h;show (bif decide (0<=n)&&decide (n<=255) then (BV (Bn .u8 l)).map (n :: ·) else none)=_
  rw[HM hl,dT hn.1,dT hn.2];rfl
theorem Anz {l:List Int}{p:Option (List PV->Option Aq)} {z:Bool}(hB:Ct l)(hl:l.length<=100000):Ae (CP p) prog fu (d+1) 12 [.lst z 1 l.length (Bn .u8 l)]=some ⟨[.sc (.string (Aa (Ev l)))],[]⟩:=by
 have e:Ae (CP p) prog fu (d+1) 12 [.lst z 1 l.length (Bn .u8 l)]=Adi [.lst z 1 l.length (Bn .u8 l)]:=rfl;rw[e];unfold Adi
 have h1:(Nat.beq (Bn .u8 l).length l.length&&Nat.ble l.length 100000000)=true:=by
  rw[D9,Nat.beq_refl,Nat.ble_eq_true_of_le (by omega)]
  rfl
 simp only[h1,cond_true,HM hB]
end
end
section
open Go.Proofs.Tryd (prog)
open Go.IntKind (wrap)
set_option maxRecDepth 100000
abbrev Nf:FuncId:=9
theorem Vy {p:Option (List PV->Option Aq)} (fu d Lf:Nat)(a0:List PV):Ae (CP p) prog fu (d+1) Nf [.lst false 1 Lf a0]=(fun (call:An)=>some (Aq.mk [.pbox [.lst false 1 Lf a0,.sc (.int .i64 0)]] [])) (Ae (CP p) prog fu d):=by kernel_rfl
abbrev Nk:FuncId:=23
theorem Vt {p:Option (List PV->Option Aq)} (fu d:Nat)(a0 a1:Int):Ae (CP p) prog fu (d+1) Nk [.sc (.int .i64 a0),.sc (.int .i64 a1)]=(fun (call:An)=>Ac (wrap .u64 a0) fun x1=>Ac (wrap .u64 a1) fun x2=>A9 (decide (x2≠0))<|Ac (Int.tmod x1 x2) fun x3=>Ac (wrap .i64 x3) fun x4=>some (Aq.mk [.sc (.int .i64 x4)] [])) (Ae (CP p) prog fu d):=by kernel_rfl
abbrev Hx:FuncId:=11
theorem H4 {p:Option (List PV->Option Aq)} (fu d Y5:Nat)(Bp:List PV)(Bm a1:Int):Ae (CP p) prog fu (d+1) Hx [.pbox [.lst false 1 Y5 Bp,.sc (.int .i64 Bm)],.sc (.int .i64 a1)]=(fun (call:An)=>Ba (decide (Bm>=(↑Y5:Int))) (some (Aq.mk [.sc (.int .i64 0)] [[.lst false 1 Y5 Bp,.sc (.int .i64 Bm)]])) (Ac (wrap .i64 (Bm+1)) fun x1=>Ac (wrap .i64 (x1-1)) fun x2=>A9 (decide (0<=x2)&&decide (x2<(↑Y5:Int)))<|Ak .i64 (List.getD Bp (Int.toNat x2*1) .top) fun x3=>Ai (call 23 [.sc (.int .i64 x3),.sc (.int .i64 a1)]) fun x4 x5=>Ad x5<|Ab x4 fun x6 x7=>Ak .i64 x6 fun x8=>Ad x7<|some (Aq.mk [.sc (.int .i64 x8)] [[.lst false 1 Y5 Bp,.sc (.int .i64 x1)]]))) (Ae (CP p) prog fu d):=by kernel_rfl
abbrev Nv:FuncId:=30
theorem N8 {p:Option (List PV->Option Aq)} (fu d:Nat)(a0:Int):Ae (CP p) prog fu (d+1) Nv [.sc (.int .i64 a0)]=(fun (call:An)=>Ai (call 23 [.sc (.int .i64 a0),.sc (.int .i64 6)]) fun x1 x2=>Ad x2<|Ab x1 fun x3 x4=>Ak .i64 x3 fun x5=>Ad x4<|A9 (decide (0<=x5)&&decide (x5<6))<|A0 (List.getD [.sc (.string (ByteArray.mk #[104,116,116,112,115,58,47,47,101,120,97,109,112,108,101,46,99,111,109])),.sc (.string (ByteArray.mk #[104,116,116,112,115,58,47,47,108,111,103,105,110,46,101,120,97,109,112,108,101,46,99,111,109])),.sc (.string (ByteArray.mk #[104,116,116,112,115,58,47,47,101,118,105,108,46,116,101,115,116])),.sc (.string (ByteArray.mk #[104,116,116,112,58,47,47,108,111,99,97,108,104,111,115,116,58,56,48,56,48])),.sc (.string (ByteArray.mk #[104,116,116,112,115,58,47,47,98,46,99,111,46,117,107])),.sc (.string (ByteArray.mk #[104,116,116,112,58,47,47,101,120,97,109,112,108,101,46,99,111,109]))] (0+Int.toNat x5*1) .top) fun x6=>some (Aq.mk [.sc (.string x6)] [])) (Ae (CP p) prog fu d):=by kernel_rfl
abbrev Ui:FuncId:=31
theorem Uj {p:Option (List PV->Option Aq)} (fu d:Nat)(a0:Int):Ae (CP p) prog fu (d+1) Ui [.sc (.int .i64 a0)]=(fun (call:An)=>Ai (call 23 [.sc (.int .i64 a0),.sc (.int .i64 28)]) fun x1 x2=>Ad x2<|Ab x1 fun x3 x4=>Ak .i64 x3 fun x5=>Ad x4<|A9 (decide (0<=x5)&&decide (x5<28))<|A0 (List.getD [.sc (.string (ByteArray.mk #[101,120,97,109,112,108,101,46,99,111,109])),.sc (.string (ByteArray.mk #[108,111,103,105,110,46,101,120,97,109,112,108,101,46,99,111,109])),.sc (.string (ByteArray.mk #[97,46,98,46,99,111,46,117,107])),.sc (.string (ByteArray.mk #[98,46,99,111,46,117,107])),.sc (.string (ByteArray.mk #[99,111,46,117,107])),.sc (.string (ByteArray.mk #[117,107])),.sc (.string (ByteArray.mk #[120,46,121,46,99,107])),.sc (.string (ByteArray.mk #[119,119,119,46,99,107])),.sc (.string (ByteArray.mk #[99,107])),.sc (.string (ByteArray.mk #[108,111,99,97,108,104,111,115,116])),.sc (.string (ByteArray.mk #[101,118,105,108,46,116,101,115,116])),.sc (.string (ByteArray.mk #[101,120,97,109,112,108,101,46,99,111,109,46,101,118,105,108,46,116,101,115,116])),.sc (.string (ByteArray.mk #[97,46,108,111,103,105,110,46,101,120,97,109,112,108,101,46,99,111,109])),.sc (.string (ByteArray.mk #[120,97,109,112,108,101,46,99,111,109])),.sc (.string (ByteArray.mk #[121,46,99,107])),.sc (.string (ByteArray.mk #[122,46,120,46,121,46,99,107])),.sc (.string (ByteArray.mk #[103,105,116,104,117,98,46,105,111])),.sc (.string (ByteArray.mk #[109,101,46,103,105,116,104,117,98,46,105,111])),.sc (.string (ByteArray.mk #[121,111,117,46,103,105,116,104,117,98,46,105,111])),.sc (.string (ByteArray.mk #[105,111])),.sc (.string (ByteArray.mk #[49,46,50,46,51,46,52])),.sc (.string (ByteArray.mk #[])),.sc (.string (ByteArray.mk #[97,46,46,98])),.sc (.string (ByteArray.mk #[69,120,97,109,112,108,101,46,99,111,109])),.sc (.string (ByteArray.mk #[45,97,46,99,111,109])),.sc (.string (ByteArray.mk #[97,46,99,111,109,46])),.sc (.string (ByteArray.mk #[97,45,98,46,99,49])),.sc (.string (ByteArray.mk #[99,49]))] (0+Int.toNat x5*1) .top) fun x6=>some (Aq.mk [.sc (.string x6)] [])) (Ae (CP p) prog fu d):=by kernel_rfl
abbrev Kj:FuncId:=17
theorem Ks {p:Option (List PV->Option Aq)} (fu d Y5:Nat)(Bp:List PV)(Bm:Int):Ae (CP p) prog fu (d+1) Kj [.pbox [.lst false 1 Y5 Bp,.sc (.int .i64 Bm)]]=(fun (call:An)=>Ai (call 11 [.pbox [.lst false 1 Y5 Bp,.sc (.int .i64 Bm)],.sc (.int .i64 6)]) fun x1 x2=>Ab x1 fun x3 x4=>Ak .i64 x3 fun x5=>Ad x4<|Ab x2 fun x6 x7=>Ab x6 fun x8 x9=>Nb 1 x8 fun E2 I3 J2=>Ab x9 fun E4 Ha=>Ak .i64 E4 fun Km=>Ad Ha<|Ad x7<|A9 (decide (0<=x5)&&decide (x5<6))<|Ak .i64 (List.getD [.sc (.int .i64 1),.sc (.int .i64 2),.sc (.int .i64 2),.sc (.int .i64 1),.sc (.int .i64 0),.sc (.int .i64 3)] (0+Int.toNat x5*1) .top) fun Hk=>Ai (call 11 [.pbox [.lst false 1 I3 J2,.sc (.int .i64 Km)],.sc (.int .i64 9)]) fun Ib Kp=>Ab Ib fun Jb Kw=>Ak .i64 Jb fun K7=>Ad Kw<|Ab Kp fun Lx Jz=>Ab Lx fun Lo Ld=>Nb 1 Lo fun Lt Mq Ow=>Ab Ld fun M2 Ox=>Ak .i64 M2 fun Pk=>Ad Ox<|Ad Jz<|Ai (call 11 [.pbox [.lst false 1 Mq Ow,.sc (.int .i64 Pk)],.sc (.int .i64 7)]) fun P4 Pi=>Ab P4 fun Ql Qt=>Ak .i64 Ql fun P7=>Ad Qt<|Ab Pi fun R0 Q3=>Ab R0 fun Pn W0=>Nb 1 Pn fun X8 Pq Qp=>Ab W0 fun Wb Wa=>Ak .i64 Wb fun Z2=>Ad Wa<|Ad Q3<|A9 (decide (0<=P7)&&decide (P7<7))<|Ak .i64 (List.getD [.sc (.int .i64 16),.sc (.int .i64 1),.sc (.int .i64 64),.sc (.int .i64 2),.sc (.int .i64 3),.sc (.int .i64 0),.sc (.int .i64 65)] (0+Int.toNat P7*1) .top) fun Zq=>Ai (call 29 [.sc (.int .i64 K7),.sc (.int .i64 Zq)]) fun Zr Xk=>Ad Xk<|Ab Zr fun Xn Zi=>GH 1 Xn fun N1 Q8=>Ad Zi<|Ai (call 11 [.pbox [.lst false 1 Pq Qp,.sc (.int .i64 Z2)],.sc (.int .i64 6)]) fun X5 FB=>Ab X5 fun BG Zw=>Ak .i64 BG fun Zu=>Ad Zw<|Ab FB fun GA II=>Ab GA fun JO NU=>Nb 1 JO fun TQ SD NS=>Ab NU fun QJ NJ=>Ak .i64 QJ fun QH=>Ad NJ<|Ad II<|Ai (call 30 [.sc (.int .i64 Zu)]) fun SI NW=>Ad NW<|Ab SI fun NO LI=>A0 NO fun GL=>Ad LI<|Ai (call 11 [.pbox [.lst false 1 SD NS,.sc (.int .i64 QH)],.sc (.int .i64 3)]) fun NP TH=>Ab NP fun ZN x77=>Ak .i64 ZN fun WQ=>Ad x77<|Ab TH fun ZA RT=>Ab ZA fun YE x82=>Nb 1 YE fun x83 VE WO=>Ab x82 fun x86 ZH=>Ak .i64 x86 fun UG=>Ad ZH<|Ad RT<|Ba (WQ==2) (Ai (call 11 [.pbox [.lst false 1 VE WO,.sc (.int .i64 UG)],.sc (.int .i64 6)]) fun XB x90=>Ab XB fun WJ WW=>Ak .i64 WJ fun x93=>Ad WW<|Ab x90 fun WK YO=>Ab WK fun x96 VJ=>Nb 1 x96 fun x98 ZM Tc=>Ab VJ fun Xf Vv=>Ak .i64 Xf fun Yd=>Ad Vv<|Ad YO<|Ai (call 30 [.sc (.int .i64 x93)]) fun Yb Qu=>Ad Qu<|Ab Yb fun Wp Ws=>A0 Wp fun Zs=>Ad Ws<|Ai (call 11 [.pbox [.lst false 1 ZM Tc,.sc (.int .i64 Yd)],.sc (.int .i64 12)]) fun DE AF=>Ab DE fun EB HC=>Ak .i64 EB fun Z3=>Ad HC<|Ab AF fun EW HI=>Ab EW fun FK BQ=>Nb 1 FK fun FG Wc V3=>Ab BQ fun EI FU=>Ak .i64 EI fun Xc=>Ad FU<|Ad HI<|Ba (Z3==10) (Ai (call 11 [.pbox [.lst false 1 Wc V3,.sc (.int .i64 Xc)],.sc (.int .i64 28)]) fun CO DG=>Ab CO fun AL AK=>Ak .i64 AL fun AB=>Ad AK<|Ab DG fun V2 Zz=>Ab V2 fun EX FD=>Nb 1 EX fun CA DY DM=>Ab FD fun DD EF=>Ak .i64 DD fun HK=>Ad EF<|Ad Zz<|Ai (call 31 [.sc (.int .i64 AB)]) fun ES Z4=>Ad Z4<|Ab ES fun GZ CW=>A0 GZ fun U6=>Ad CW<|A9 (decide (8+ByteArray.size U6<=9223372036854775807))<|Ac (ByteArray.mk #[104,116,116,112,115,58,47,47]++U6) fun Yr=>A9 (decide (ByteArray.size Yr+1<=9223372036854775807))<|Ac (Yr++ByteArray.mk #[47]) fun FC=>A9 (decide (N1*1<=Q8.length))<|some (Aq.mk [.agg [.sc (.int .i64 Hk),.own 1 N1 (List.take (N1*1) Q8),.sc (.string FC),.sc (.bool true),.sc (.string Zs)]] [[.lst false 1 DY DM,.sc (.int .i64 HK)]])) (Ba (Z3==11) (Ai (call 11 [.pbox [.lst false 1 Wc V3,.sc (.int .i64 Xc)],.sc (.int .i64 6)]) fun Z5 AM=>Ab Z5 fun AJ GN=>Ak .i64 AJ fun GW=>Ad GN<|Ab AM fun TF UM=>Ab TF fun MQ SP=>Nb 1 MQ fun Aan QQ Ac9=>Ab SP fun Aff Ad9=>Ak .i64 Aff fun Afp=>Ad Ad9<|Ad UM<|Ai (call 30 [.sc (.int .i64 GW)]) fun Ak5 Adt=>Ad Adt<|Ab Ak5 fun ZU Agj=>A0 ZU fun Afh=>Ad Agj<|A9 (decide (N1*1<=Q8.length))<|some (Aq.mk [.agg [.sc (.int .i64 Hk),.own 1 N1 (List.take (N1*1) Q8),.sc (.string GL),.sc (.bool true),.sc (.string Afh)]] [[.lst false 1 QQ Ac9,.sc (.int .i64 Afp)]])) (A9 (decide (N1*1<=Q8.length))<|some (Aq.mk [.agg [.sc (.int .i64 Hk),.own 1 N1 (List.take (N1*1) Q8),.sc (.string GL),.sc (.bool true),.sc (.string Zs)]] [[.lst false 1 Wc V3,.sc (.int .i64 Xc)]])))) (Ai (call 11 [.pbox [.lst false 1 VE WO,.sc (.int .i64 UG)],.sc (.int .i64 12)]) fun Abu Afb=>Ab Abu fun Ah0 Ag5=>Ak .i64 Ah0 fun Aca=>Ad Ag5<|Ab Afb fun Acy Acs=>Ab Acy fun Aft Aes=>Nb 1 Aft fun Aim RN UY=>Ab Aes fun Ad4 YR=>Ak .i64 Ad4 fun UH=>Ad YR<|Ad Acs<|Ba (Aca==10) (Ai (call 11 [.pbox [.lst false 1 RN UY,.sc (.int .i64 UH)],.sc (.int .i64 28)]) fun Ad1 Af3=>Ab Ad1 fun Ae5 Aeb=>Ak .i64 Ae5 fun Ado=>Ad Aeb<|Ab Af3 fun Ahg Ahd=>Ab Ahg fun Afj ZL=>Nb 1 Afj fun Aln Af6 Aa0=>Ab ZL fun Af8 Ad3=>Ak .i64 Af8 fun Agf=>Ad Ad3<|Ad Ahd<|Ai (call 31 [.sc (.int .i64 Ado)]) fun Adc Aer=>Ad Aer<|Ab Adc fun Ah1 Afz=>A0 Ah1 fun Abp=>Ad Afz<|A9 (decide (8+ByteArray.size Abp<=9223372036854775807))<|Ac (ByteArray.mk #[104,116,116,112,115,58,47,47]++Abp) fun Aa9=>A9 (decide (ByteArray.size Aa9+1<=9223372036854775807))<|Ac (Aa9++ByteArray.mk #[47]) fun ZC=>A9 (decide (N1*1<=Q8.length))<|some (Aq.mk [.agg [.sc (.int .i64 Hk),.own 1 N1 (List.take (N1*1) Q8),.sc (.string ZC),.sc (.bool false),.sc (.string (ByteArray.mk #[]))]] [[.lst false 1 Af6 Aa0,.sc (.int .i64 Agf)]])) (Ba (Aca==11) (Ai (call 11 [.pbox [.lst false 1 RN UY,.sc (.int .i64 UH)],.sc (.int .i64 6)]) fun Aex Ahl=>Ab Aex fun TE Agw=>Ak .i64 TE fun Ahy=>Ad Agw<|Ab Ahl fun Aac Adv=>Ab Aac fun Ahn Ac1=>Nb 1 Ahn fun Aj8 Ah2 Ada=>Ab Ac1 fun Acx Aeu=>Ak .i64 Acx fun Agz=>Ad Aeu<|Ad Adv<|Ai (call 30 [.sc (.int .i64 Ahy)]) fun Aaz Ahb=>Ad Ahb<|Ab Aaz fun Ad5 Abq=>A0 Ad5 fun Agx=>Ad Abq<|A9 (decide (N1*1<=Q8.length))<|some (Aq.mk [.agg [.sc (.int .i64 Hk),.own 1 N1 (List.take (N1*1) Q8),.sc (.string GL),.sc (.bool false),.sc (.string Agx)]] [[.lst false 1 Ah2 Ada,.sc (.int .i64 Agz)]])) (A9 (decide (N1*1<=Q8.length))<|some (Aq.mk [.agg [.sc (.int .i64 Hk),.own 1 N1 (List.take (N1*1) Q8),.sc (.string GL),.sc (.bool false),.sc (.string (ByteArray.mk #[]))]] [[.lst false 1 RN UY,.sc (.int .i64 UH)]]))))) (Ae (CP p) prog fu d):=by kernel_rfl
abbrev Gy:FuncId:=5
theorem Ma {p:Option (List PV->Option Aq)} (fu d:Nat)(Bp:Int)(Ga:Nat)(Bm:List PV)(H8:ByteArray)(Lw:Bool)(Hn:ByteArray)(a1n:Nat)(a1:List PV):Ae (CP p) prog fu (d+1) Gy [.agg [.sc (.int .i64 Bp),.lst false 1 Ga Bm,.sc (.string H8),.sc (.bool Lw),.sc (.string Hn)],.lst false 1 a1n a1]=(fun (call:An)=>Ba (decide ((↑Ga:Int)>200)) (Ai (call 8 []) fun x1 x2=>Ad x2<|Ab x1 fun x3 x4=>Ao x3 fun x5=>Ad x4<|some (Aq.mk [.sc (.bool x5)] [])) (Ba (decide ((↑(ByteArray.size H8):Int)>300)) (Ai (call 8 []) fun x6 x7=>Ad x7<|Ab x6 fun x8 x9=>Ao x8 fun E2=>Ad x9<|some (Aq.mk [.sc (.bool E2)] [])) (Ba (decide ((↑(ByteArray.size Hn):Int)>300)) (Ai (call 8 []) fun I3 J2=>Ad J2<|Ab I3 fun E4 Ha=>Ao E4 fun Km=>Ad Ha<|some (Aq.mk [.sc (.bool Km)] [])) (Ai (call 16 [.agg [.sc (.int .i64 Bp),.lst false 1 Ga Bm,.sc (.string H8),.sc (.bool Lw),.sc (.string Hn)]]) fun Hk Ib=>Ad Ib<|Ab Hk fun Kp Jb=>Ao Kp fun Kw=>Ad Jb<|Ba Kw (Ai (call 9 [.lst false 1 a1n a1]) fun K7 Lx=>Ad Lx<|Ab K7 fun Jz Lo=>Tn Jz fun Ld=>Ab Ld fun Lt Mq=>Nb 1 Lt fun Ow M2 Ox=>Ab Mq fun Pk P4=>Ak .i64 Pk fun Pi=>Ad P4<|Ad Lo<|Ai (call 17 [.pbox [.lst false 1 M2 Ox,.sc (.int .i64 Pi)]]) fun Ql Qt=>Ab Ql fun P7 R0=>Fw P7 fun Q3=>Ab Q3 fun Pn W0=>Ak .i64 Pn fun X8=>Ab W0 fun Pq Qp=>GH 1 Pq fun Wb Wa=>Ab Qp fun Z2 Zq=>A0 Z2 fun Zr=>Ab Zq fun Xk Xn=>Ao Xk fun Zi=>Ab Xn fun N1 Q8=>A0 N1 fun X5=>Ad Q8<|Ad R0<|Ab Qt fun FB BG=>Ab FB fun Zw Zu=>Nb 1 Zw fun GA II JO=>Ab Zu fun NU TQ=>Ak .i64 NU fun SD=>Ad TQ<|Ad BG<|A9 (decide (0+Wb*1<=Wa.length))<|Ai (call 16 [.agg [.sc (.int .i64 X8),.lst false 1 Wb (List.take (Wb*1) (List.drop 0 Wa)),.sc (.string Zr),.sc (.bool Zi),.sc (.string X5)]]) fun NS QJ=>Ad QJ<|Ab NS fun NJ QH=>Ao NJ fun SI=>Ad QH<|Ba SI (Ai (call 8 []) fun NW NO=>Ad NO<|Ab NW fun LI GL=>Ao LI fun NP=>Ad GL<|some (Aq.mk [.sc (.bool NP)] [])) (some (Aq.mk [.sc (.bool false)] []))) (some (Aq.mk [.sc (.bool false)] [])))))) (Ae (CP p) prog fu d):=by kernel_rfl
end
section
open Go.Proofs.Tryd (prog)
open Go.IntKind (wrap)
abbrev NR (l:List Int)(a:Nat):List PV:=[.lst false 1 l.length (Bn .i64 l),.sc (.int .i64 (a:Int))]
section
variable {fu d:Nat} {p:Option (List PV->Option Aq)}
theorem Axw {l:List Int}:Ae (CP p) prog fu (d+1) Nf [.lst false 1 l.length (Bn .i64 l)]=some ⟨[.pbox (NR l 0)],[]⟩:=by
 rw[Vy];rfl
theorem Aqo (v n:Int)(hn:0<n)(hm:n<=9223372036854775807):∃r,0<=r∧r<n∧∀{fu d:Nat}{p:Option (List PV->Option Aq)},Ae (CP p) prog fu (d+1) Nk [.sc (.int .i64 v),.sc (.int .i64 n)]=some ⟨[.sc (.int .i64 r)],[]⟩:=by
 have h1:=DU v;have h2:wrap .u64 n=n:=Ep (by omega) (by omega)
 have h3:0<=Int.tmod (wrap .u64 v) n:=Int.tmod_nonneg _ h1.1;have h4:Int.tmod (wrap .u64 v) n<n:=Int.tmod_lt_of_pos _ hn;refine⟨_,h3,h4,fun {fu d p}=>?_⟩
 rw[Vt];simp only[Md,h2];rw[KX _ _ (by omega),Az (by omega) (by omega)]
theorem Qs {l:List Int}(hl:l.length<=maxLen)(a:Nat)(n:Int)(hn:0<n)(hm:n<=9223372036854775807):∃(v:Int)(a':Nat),0<=v∧v<n ∧
  ∀{fu d:Nat} {p:Option (List PV->Option Aq)},Ae (CP p) prog fu (d+2) Hx [.pbox (NR l a),.sc (.int .i64 n)]=some ⟨[.sc (.int .i64 v)],[NR l a']⟩:=by
 simp only[maxLen] at hl;by_cases h:a<l.length
 ·obtain⟨r,h1,h2,h3⟩:=Aqo l[a] n hn hm;refine⟨r,a+1,h1,h2,fun {fu d p}=>?_⟩
  rw[H4]
  have hg:(Bn .i64 l).getD (Int.toNat ((a:Int)+1-1)*1) .top=.sc (.int .i64 l[a]):=by
   have:=ati (k:=.i64) (List.getElem?_eq_getElem h);rw[show Int.toNat ((a:Int)+1-1)*1=a by omega]
   exact this
  simp (disch:=omega) only[B0,Az,hg,h3];rfl
 ·refine⟨0,a,by omega,hn,fun {fu d p}=>?_⟩
  rw[H4];simp (disch:=omega) only[B0]
end
end
section
open Go.IntKind (wrap)
set_option maxRecDepth 100000
section
variable {fu d:Nat} {p:Option (List PV->Option Aq)}
theorem Ay9 {l:List Int}(h:∀x∈l,(Lit.int .u8 x).wf=true):Ct l:=by
 intro x hx;have:=h x hx;simp[Lit.wf,IntKind.min,IntKind.max,IntKind.signed,IntKind.bits] at this;omega
end
section
variable {fu:Nat}
end
end
section
open Go.Proofs.Tryd (prog)
open Go.IntKind (wrap)
set_option maxRecDepth 100000
abbrev Qz:FuncId:=56
theorem Ja {p:Option (List PV->Option Aq)} (fu d:Nat)(a0:Bool):Ae (CP p) prog fu (d+1) Qz [.sc (.bool a0)]=(fun (call:An)=>Ba (a0) (some (Aq.mk [.sc (.string (ByteArray.mk #[104,116,116,112,115,58,47,47]))] [])) (some (Aq.mk [.sc (.string (ByteArray.mk #[104,116,116,112,58,47,47]))] []))) (Ae (CP p) prog fu d):=by kernel_rfl
abbrev Gp:FuncId:=58
theorem Mk {p:Option (List PV->Option Aq)} (fu d:Nat)(a0:Bool):Ae (CP p) prog fu (d+1) Gp [.sc (.bool a0)]=(fun (call:An)=>Ba (a0) (some (Aq.mk [.sc (.int .i64 443)] [])) (some (Aq.mk [.sc (.int .i64 80)] []))) (Ae (CP p) prog fu d):=by kernel_rfl
abbrev Ll:FuncId:=59
noncomputable def E8 (fu:Nat)(call:An)(a0:ByteArray)(a1:Bool)(nn:Nat)(y0:ByteArray)(y1:Bool)(y2 y3:Int):Option Aq:=Fy CB prog fu call 59 Tryd.f59 (Eb Tryd.f59) [.sc (.string a0),.sc (.bool a1)] [.r,.r,.r,.l,.r,.l] nn ⟨lk [(0,(.sc (.string y0))),(1,(.sc (.bool y1))),(6,(.sc (.int .i64 y2))),(7,(.sc (.int .i64 y3)))],Ij []⟩
theorem Id (fu:Nat)(call:An)(a0:ByteArray)(a1:Bool)(nn:Nat)(y0:ByteArray)(y1:Bool)(y2 y3:Int):E8 fu call a0 a1 (nn+1) y0 y1 y2 y3=(Ba (decide (y3<(↑(ByteArray.size y0):Int))) (A9 (decide (0<=y3))<|Cy ((Array.toList (ByteArray.data y0))[Int.toNat y3]?) fun x2=>Ai (call 76 [.sc (.int .u8 (↑(UInt8.toNat x2):Int))]) fun x3 x4=>Ad x4<|Ab x3 fun x5 x6=>Ao x5 fun x7=>Ad x6<|Ba (!x7) (some (Aq.mk [.sc (.int .i64 0),.sc (.bool false)] [])) (Ac (wrap .i64 (10*y2)) fun x8=>A9 (decide (0<=y3))<|Cy ((Array.toList (ByteArray.data y0))[Int.toNat y3]?) fun x9=>Ac (wrap .u8 ((↑(UInt8.toNat x9):Int)-48)) fun E2=>Ac (wrap .i64 E2) fun I3=>Ac (wrap .i64 (x8+I3)) fun J2=>Ac (wrap .i64 (y3+1)) fun E4=>E8 fu call a0 a1 (nn) (y0) (y1) J2 E4)) (Ba (decide (y2<=65535)) (Ai (call 58 [.sc (.bool y1)]) fun Ha Km=>Ad Km<|Ab Ha fun Hk Ib=>Ak .i64 Hk fun Kp=>Ad Ib<|some (Aq.mk [.sc (.int .i64 y2),.sc (.bool (y2 != Kp))] [])) (some (Aq.mk [.sc (.int .i64 y2),.sc (.bool false)] [])))):=by kernel_rfl
theorem S5 {p:Option (List PV->Option Aq)} (fu d:Nat)(a0:ByteArray)(a1:Bool):Ae (CP p) prog fu (d+1) Ll [.sc (.string a0),.sc (.bool a1)]=(fun (call:An)=>Ba (decide ((↑(ByteArray.size a0):Int)<1)) (some (Aq.mk [.sc (.int .i64 0),.sc (.bool false)] [])) (Ba (decide ((↑(ByteArray.size a0):Int)>5)) (some (Aq.mk [.sc (.int .i64 0),.sc (.bool false)] [])) (Cy ((Array.toList (ByteArray.data a0))[0]?) fun x1=>Ba ((↑(UInt8.toNat x1):Int)==48) (some (Aq.mk [.sc (.int .i64 0),.sc (.bool false)] [])) (E8 fu call a0 a1 (fu) (a0) (a1) 0 0)))) (Ae (CP p) prog fu d):=by kernel_rfl
abbrev Kd:FuncId:=74
noncomputable def Dz (fu:Nat)(call:An)(a0:ByteArray)(a1:Int)(nn:Nat)(y0:ByteArray)(y1:Int)(y2:Nat)(y3 y4:Int)(y5:List PV):Option Aq:=Fy CB prog fu call 74 Tryd.f74 (Eb Tryd.f74) [.sc (.string a0),.sc (.int .u8 a1)] [.r,.r,.r,.l,.r,.l] nn ⟨lk [(0,(.sc (.string y0))),(1,(.sc (.int .u8 y1))),(5,(.view 5 1 0 y2)),(6,(.sc (.int .i64 y3))),(7,(.sc (.int .i64 y4)))],Ij [(5,(.ar false y5))]⟩
theorem H2 (fu:Nat)(call:An)(a0:ByteArray)(a1:Int)(nn:Nat)(y0:ByteArray)(y1:Int)(y2:Nat)(y3 y4:Int)(y5:List PV):Dz fu call a0 a1 (nn+1) y0 y1 y2 y3 y4 y5=(Ba (decide (y4<(↑(ByteArray.size y0):Int))) (A9 (decide (0<=y4))<|Cy ((Array.toList (ByteArray.data y0))[Int.toNat y4]?) fun x1=>Ba ((↑(UInt8.toNat x1):Int)==y1) (A9 (decide (0<=y3))<|A9 (decide (0<=y4))<|A9 (decide (Int.toNat y3<=Int.toNat y4)&&decide (Int.toNat y4<=ByteArray.size y0))<|Ac (ByteArray.extract y0 y3.toNat y4.toNat) fun x2=>A9 (decide (y2*1<=y5.length)&&true&&decide ((y2+1)*16<=1099511627776)&&decide (y2+1<=1099511627776))<|Ac (y2+1) fun x3=>Ac (List.take (y2*1) y5++[.sc (.string x2)]) fun x4=>Ac (wrap .i64 (y4+1)) fun x5=>Ac (wrap .i64 (y4+1)) fun x6=>Dz fu call a0 a1 (nn) (y0) (y1) x3 x5 x6 x4) (Ac (wrap .i64 (y4+1)) fun x7=>Dz fu call a0 a1 (nn) (y0) (y1) (y2) (y3) x7 (y5))) (A9 (decide (0<=y3))<|A9 (decide (Int.toNat y3<=ByteArray.size y0)&&decide (ByteArray.size y0<=ByteArray.size y0))<|Ac (ByteArray.extract y0 y3.toNat (ByteArray.size y0)) fun x8=>A9 (decide (y2*1<=y5.length)&&true&&decide ((y2+1)*16<=1099511627776)&&decide (y2+1<=1099511627776))<|Ac (y2+1) fun x9=>Ac (List.take (y2*1) y5++[.sc (.string x8)]) fun E2=>A9 (decide (x9*1<=E2.length))<|some (Aq.mk [.own 1 x9 (List.take (x9*1) E2)] []))):=by kernel_rfl
theorem Q6 {p:Option (List PV->Option Aq)} (fu d:Nat)(a0:ByteArray)(a1:Int):Ae (CP p) prog fu (d+1) Kd [.sc (.string a0),.sc (.int .u8 a1)]=(fun (call:An)=>Dz fu call a0 a1 (fu) (a0) (a1) 0 0 0 ([])) (Ae (CP p) prog fu d):=by kernel_rfl
abbrev J7:FuncId:=76
theorem Q7 {p:Option (List PV->Option Aq)} (fu d:Nat)(a0:Int):Ae (CP p) prog fu (d+1) J7 [.sc (.int .u8 a0)]=(fun (call:An)=>Ba (decide (a0>=48)) (some (Aq.mk [.sc (.bool (decide (a0<=57)))] [])) (some (Aq.mk [.sc (.bool false)] []))) (Ae (CP p) prog fu d):=by kernel_rfl
abbrev Kf:FuncId:=75
noncomputable def Jc (fu:Nat)(call:An)(a0:ByteArray)(nn:Nat)(y0:ByteArray):Option Aq:=Fy CB prog fu call 75 Tryd.f75 (Eb Tryd.f75) [.sc (.string a0)] [.r] nn ⟨lk [(0,(.sc (.string y0)))],Ij []⟩
noncomputable def Ci (fu:Nat)(call:An)(a0:ByteArray)(nn:Nat)(y0:ByteArray)(y1:Int):Option Aq:=Fy CB prog fu call 75 Tryd.f75 (Eb Tryd.f75) [.sc (.string a0)] [.r,.r,.l,.r,.l] nn ⟨lk [(0,(.sc (.string y0))),(3,(.sc (.int .i64 y1)))],Ij []⟩
theorem Pg (fu:Nat)(call:An)(a0:ByteArray)(nn:Nat)(Pe:0<nn)(y0:ByteArray):Jc fu call a0 nn y0=(Ci fu call a0 (fu) (y0) 0):=by cases nn with|zero=>exact absurd Pe (Nat.lt_irrefl 0)|succ nn=>kernel_rfl
theorem Hz (fu:Nat)(call:An)(a0:ByteArray)(nn:Nat)(y0:ByteArray)(y1:Int):Ci fu call a0 (nn+1) y0 y1=(Ba (decide (y1<(↑(ByteArray.size y0):Int))) (A9 (decide (0<=y1))<|Cy ((Array.toList (ByteArray.data y0))[Int.toNat y1]?) fun x4=>Ba (decide ((↑(UInt8.toNat x4):Int)>=97)) (A9 (decide (0<=y1))<|Cy ((Array.toList (ByteArray.data y0))[Int.toNat y1]?) fun x5=>Ba (!decide ((↑(UInt8.toNat x5):Int)<=122)) (A9 (decide (0<=y1))<|Cy ((Array.toList (ByteArray.data y0))[Int.toNat y1]?) fun x6=>Ai (call 76 [.sc (.int .u8 (↑(UInt8.toNat x6):Int))]) fun x7 x8=>Ad x8<|Ab x7 fun x9 E2=>Ao x9 fun I3=>Ad E2<|Ba (!I3) (A9 (decide (0<=y1))<|Cy ((Array.toList (ByteArray.data y0))[Int.toNat y1]?) fun J2=>Ba ((↑(UInt8.toNat J2):Int) != 45) (some (Aq.mk [.sc (.bool false)] [])) (Ac (wrap .i64 (y1+1)) fun E4=>Ci fu call a0 (nn) (y0) E4)) (Ac (wrap .i64 (y1+1)) fun Ha=>Ci fu call a0 (nn) (y0) Ha)) (Ac (wrap .i64 (y1+1)) fun Km=>Ci fu call a0 (nn) (y0) Km)) (A9 (decide (0<=y1))<|Cy ((Array.toList (ByteArray.data y0))[Int.toNat y1]?) fun Hk=>Ai (call 76 [.sc (.int .u8 (↑(UInt8.toNat Hk):Int))]) fun Ib Kp=>Ad Kp<|Ab Ib fun Jb Kw=>Ao Jb fun K7=>Ad Kw<|Ba (!K7) (A9 (decide (0<=y1))<|Cy ((Array.toList (ByteArray.data y0))[Int.toNat y1]?) fun Lx=>Ba ((↑(UInt8.toNat Lx):Int) != 45) (some (Aq.mk [.sc (.bool false)] [])) (Ac (wrap .i64 (y1+1)) fun Jz=>Ci fu call a0 (nn) (y0) Jz)) (Ac (wrap .i64 (y1+1)) fun Lo=>Ci fu call a0 (nn) (y0) Lo))) (some (Aq.mk [.sc (.bool true)] []))):=by kernel_rfl
theorem Rj {p:Option (List PV->Option Aq)} (fu d:Nat)(a0:ByteArray):Ae (CP p) prog fu (d+1) Kf [.sc (.string a0)]=(fun (call:An)=>Ba (decide ((↑(ByteArray.size a0):Int)<1)) (some (Aq.mk [.sc (.bool false)] [])) (Ba (decide ((↑(ByteArray.size a0):Int)>63)) (some (Aq.mk [.sc (.bool false)] [])) (Cy ((Array.toList (ByteArray.data a0))[0]?) fun x1=>Ba ((↑(UInt8.toNat x1):Int)==45) (some (Aq.mk [.sc (.bool false)] [])) (Ac (wrap .i64 ((↑(ByteArray.size a0):Int)-1)) fun x2=>A9 (decide (0<=x2))<|Cy ((Array.toList (ByteArray.data a0))[Int.toNat x2]?) fun x3=>Ba ((↑(UInt8.toNat x3):Int)==45) (some (Aq.mk [.sc (.bool false)] [])) (Jc fu call a0 (fu) (a0)))))) (Ae (CP p) prog fu d):=by kernel_rfl
abbrev H7:FuncId:=57
noncomputable def D5 (fu:Nat)(call:An)(a0:ByteArray)(nn y0:Nat)(y1:Int)(y2:List PV):Option Aq:=Fy CB prog fu call 57 Tryd.f57 (Eb Tryd.f57) [.sc (.string a0)] [.r,.r,.r,.l,.r,.l] nn ⟨lk [(3,(.view 3 1 0 y0)),(4,(.sc (.int .i64 y1)))],Ij [(3,(.ar false y2))]⟩
noncomputable def D7 (fu:Nat)(call:An)(a0:ByteArray)(nn:Nat)(y0:ByteArray)(y1:Int):Option Aq:=Fy CB prog fu call 57 Tryd.f57 (Eb Tryd.f57) [.sc (.string a0)] [.r,.r,.r,.r,.r,.l,.r,.l] nn ⟨lk [(5,(.sc (.string y0))),(6,(.sc (.int .i64 y1)))],Ij []⟩
theorem Gq (fu:Nat)(call:An)(a0:ByteArray)(nn y0:Nat)(y1:Int)(y2:List PV):D5 fu call a0 (nn+1) y0 y1 y2=(Ba (decide (y1<(↑y0:Int))) (A9 (decide (0<=y1)&&decide (y1<(↑y0:Int)))<|A0 (List.getD y2 (0+Int.toNat y1*1) .top) fun x7=>Ai (call 75 [.sc (.string x7)]) fun x8 x9=>Ad x9<|Ab x8 fun E2 I3=>Ao E2 fun J2=>Ad I3<|Ba (!J2) (some (Aq.mk [.sc (.int .i64 2)] [])) (Ac (wrap .i64 (y1+1)) fun E4=>D5 fu call a0 (nn) (y0) E4 (y2))) (Ac (wrap .i64 ((↑y0:Int)-1)) fun Ha=>A9 (decide (0<=Ha)&&decide (Ha<(↑y0:Int)))<|A0 (List.getD y2 (0+Int.toNat Ha*1) .top) fun Km=>D7 fu call a0 (fu) Km 0)):=by kernel_rfl
theorem Gz (fu:Nat)(call:An)(a0:ByteArray)(nn:Nat)(y0:ByteArray)(y1:Int):D7 fu call a0 (nn+1) y0 y1=(Ba (decide (y1<(↑(ByteArray.size y0):Int))) (A9 (decide (0<=y1))<|Cy ((Array.toList (ByteArray.data y0))[Int.toNat y1]?) fun Hk=>Ai (call 76 [.sc (.int .u8 (↑(UInt8.toNat Hk):Int))]) fun Ib Kp=>Ad Kp<|Ab Ib fun Jb Kw=>Ao Jb fun K7=>Ad Kw<|Ba (!K7) (some (Aq.mk [.sc (.int .i64 0)] [])) (Ac (wrap .i64 (y1+1)) fun Lx=>D7 fu call a0 (nn) (y0) Lx)) (some (Aq.mk [.sc (.int .i64 2)] []))):=by kernel_rfl
theorem Oi {p:Option (List PV->Option Aq)} (fu d:Nat)(a0:ByteArray):Ae (CP p) prog fu (d+1) H7 [.sc (.string a0)]=(fun (call:An)=>Ba (decide ((↑(ByteArray.size a0):Int)>100)) (some (Aq.mk [.sc (.int .i64 8)] [])) (Ai (call 74 [.sc (.string a0),.sc (.int .u8 46)]) fun x1 x2=>Ad x2<|Ab x1 fun x3 x4=>GH 1 x3 fun x5 x6=>Ad x4<|D5 fu call a0 (fu) x5 0 x6)) (Ae (CP p) prog fu d):=by kernel_rfl
abbrev G0:FuncId:=42
noncomputable def Bg (fu:Nat)(call:An)(a0:ByteArray)(nn:Nat)(y0:ByteArray)(y1 y2:Int)(y3:Bool)(y4:ByteArray)(y5:Int)(y6:Bool)(y7:ByteArray)(y8:Int):Option Aq:=Fy CB prog fu call 42 Tryd.f42 (Eb Tryd.f42) [.sc (.string a0)] [.r,.r,.r,.r,.r,.r,.l,.r,.l] nn ⟨lk [(2,(.ptr 2 0)),(4,(.ptr 4 0)),(6,(.sc (.string y0))),(7,(.sc (.int .i64 y1))),(8,(.sc (.int .i64 y2)))],Ij [(2,(.st [(.sc (.bool y3)),(.sc (.string y4)),(.sc (.int .i64 y5))])),(4,(.st [(.sc (.bool y6)),(.sc (.string y7)),(.sc (.int .i64 y8))]))]⟩
theorem F1 (fu:Nat)(call:An)(a0:ByteArray)(nn:Nat)(y0:ByteArray)(y1 y2:Int)(y3:Bool)(y4:ByteArray)(y5:Int)(y6:Bool)(y7:ByteArray)(y8:Int):Bg fu call a0 (nn+1) y0 y1 y2 y3 y4 y5 y6 y7 y8=(Ba (decide (y2>=0)) (A9 (decide (0<=y2))<|Cy ((Array.toList (ByteArray.data y0))[Int.toNat y2]?) fun Kp=>Ba ((↑(UInt8.toNat Kp):Int)==58) (Ac (wrap .i64 (y2-1)) fun Jb=>Bg fu call a0 (nn) (y0) (y2) Jb (y3) (y4) (y5) (y6) (y7) (y8)) (Ac (wrap .i64 (y2-1)) fun Kw=>Bg fu call a0 (nn) (y0) (y1) Kw (y3) (y4) (y5) (y6) (y7) (y8))) (A9 (decide (0<=y1))<|A9 (decide (Int.toNat y1<=ByteArray.size y0))<|Ac (ByteArray.extract y0 0 y1.toNat) fun K7=>Ai (call 57 [.sc (.string K7)]) fun Lx Jz=>Ad Jz<|Ab Lx fun Lo Ld=>Ak .i64 Lo fun Lt=>Ad Ld<|Ba (Lt != 0) (some (Aq.mk [.agg [.sc (.bool false),.sc (.string (ByteArray.mk #[])),.sc (.int .i64 0)],.sc (.int .i64 Lt)] [])) (A9 (decide (0<=y1))<|A9 (decide (Int.toNat y1<=ByteArray.size y0))<|Ac (ByteArray.extract y0 0 y1.toNat) fun Mq=>Ai (call 58 [.sc (.bool y6)]) fun Ow M2=>Ad M2<|Ab Ow fun Ox Pk=>Ak .i64 Ox fun P4=>Ad Pk<|Ba (decide (y1<(↑(ByteArray.size y0):Int))) (Ac (wrap .i64 (y1+1)) fun Pi=>A9 (decide (0<=Pi))<|A9 (decide (Int.toNat Pi<=ByteArray.size y0)&&decide (ByteArray.size y0<=ByteArray.size y0))<|Ac (ByteArray.extract y0 Pi.toNat (ByteArray.size y0)) fun Ql=>Ai (call 59 [.sc (.string Ql),.sc (.bool y6)]) fun Qt P7=>Ad P7<|Ab Qt fun R0 Q3=>Ak .i64 R0 fun Pn=>Ab Q3 fun W0 X8=>Ao W0 fun Pq=>Ad X8<|Ba (!Pq) (some (Aq.mk [.agg [.sc (.bool false),.sc (.string (ByteArray.mk #[])),.sc (.int .i64 0)],.sc (.int .i64 2)] [])) (some (Aq.mk [.agg [.sc (.bool y6),.sc (.string Mq),.sc (.int .i64 Pn)],.sc (.int .i64 0)] []))) (some (Aq.mk [.agg [.sc (.bool y6),.sc (.string Mq),.sc (.int .i64 P4)],.sc (.int .i64 0)] []))))):=by kernel_rfl
theorem Mw {p:Option (List PV->Option Aq)} (fu d:Nat)(a0:ByteArray):Ae (CP p) prog fu (d+1) G0 [.sc (.string a0)]=(fun (call:An)=>Ba (decide ((↑(ByteArray.size a0):Int)>=8)) (A9 (decide (8<=ByteArray.size a0))<|Ac (ByteArray.extract a0 0 8) fun x1=>Ai (call 56 [.sc (.bool (Array.toList (ByteArray.data x1)==Array.toList (ByteArray.data (ByteArray.mk #[104,116,116,112,115,58,47,47]))))]) fun x2 x3=>Ad x3<|Ab x2 fun x4 x5=>A0 x4 fun x6=>Ad x5<|Ba (decide ((↑(ByteArray.size a0):Int)<(↑(ByteArray.size x6):Int))) (some (Aq.mk [.agg [.sc (.bool false),.sc (.string (ByteArray.mk #[])),.sc (.int .i64 0)],.sc (.int .i64 2)] [])) (A9 (decide (Int.toNat (↑(ByteArray.size x6):Int)<=ByteArray.size a0))<|Ac (ByteArray.extract a0 0 (Int.toNat (↑(ByteArray.size x6):Int))) fun x7=>Ba (!Array.toList (ByteArray.data x7)==Array.toList (ByteArray.data x6)) (some (Aq.mk [.agg [.sc (.bool false),.sc (.string (ByteArray.mk #[])),.sc (.int .i64 0)],.sc (.int .i64 2)] [])) (A9 (decide (Int.toNat (↑(ByteArray.size x6):Int)<=ByteArray.size a0)&&decide (ByteArray.size a0<=ByteArray.size a0))<|Ac (ByteArray.extract a0 (Int.toNat (↑(ByteArray.size x6):Int)) (ByteArray.size a0)) fun x8=>Ac (wrap .i64 ((↑(ByteArray.size x8):Int)-1)) fun x9=>Bg fu call a0 (fu) x8 ((↑(ByteArray.size x8):Int)) x9 (false) (ByteArray.mk #[]) 0 (Array.toList (ByteArray.data x1)==Array.toList (ByteArray.data (ByteArray.mk #[104,116,116,112,115,58,47,47]))) (ByteArray.mk #[]) 0))) (Ai (call 56 [.sc (.bool false)]) fun E2 I3=>Ad I3<|Ab E2 fun J2 E4=>A0 J2 fun Ha=>Ad E4<|Ba (decide ((↑(ByteArray.size a0):Int)<(↑(ByteArray.size Ha):Int))) (some (Aq.mk [.agg [.sc (.bool false),.sc (.string (ByteArray.mk #[])),.sc (.int .i64 0)],.sc (.int .i64 2)] [])) (A9 (decide (Int.toNat (↑(ByteArray.size Ha):Int)<=ByteArray.size a0))<|Ac (ByteArray.extract a0 0 (Int.toNat (↑(ByteArray.size Ha):Int))) fun Km=>Ba (!Array.toList (ByteArray.data Km)==Array.toList (ByteArray.data Ha)) (some (Aq.mk [.agg [.sc (.bool false),.sc (.string (ByteArray.mk #[])),.sc (.int .i64 0)],.sc (.int .i64 2)] [])) (A9 (decide (Int.toNat (↑(ByteArray.size Ha):Int)<=ByteArray.size a0)&&decide (ByteArray.size a0<=ByteArray.size a0))<|Ac (ByteArray.extract a0 (Int.toNat (↑(ByteArray.size Ha):Int)) (ByteArray.size a0)) fun Hk=>Ac (wrap .i64 ((↑(ByteArray.size Hk):Int)-1)) fun Ib=>Bg fu call a0 (fu) Hk ((↑(ByteArray.size Hk):Int)) Ib (false) (ByteArray.mk #[]) 0 (false) (ByteArray.mk #[]) 0)))) (Ae (CP p) prog fu d):=by kernel_rfl
abbrev M9:FuncId:=28
theorem M4 {p:Option (List PV->Option Aq)} (fu d:Nat)(Bp:Int)(Ga:Nat)(Bm:List PV)(H8:ByteArray)(Lw:Bool)(Hn:ByteArray):Ae (CP p) prog fu (d+1) M9 [.agg [.sc (.int .i64 Bp),.lst false 1 Ga Bm,.sc (.string H8),.sc (.bool Lw),.sc (.string Hn)]]=(fun (call:An)=>Ai (call 41 [.sc (.int .i64 Bp)]) fun x1 x2=>Ad x2<|Ab x1 fun x3 x4=>A0 x3 fun x5=>Ad x4<|Ba (Array.toList (ByteArray.data x5)==Array.toList (ByteArray.data (ByteArray.mk #[]))) (some (Aq.mk [.sc (.string (ByteArray.mk #[])),.sc (.int .i64 3)] [])) (Ba (decide ((↑Ga:Int)<1)) (some (Aq.mk [.sc (.string (ByteArray.mk #[])),.sc (.int .i64 9)] [])) (Ba (decide ((↑Ga:Int)>64)) (some (Aq.mk [.sc (.string (ByteArray.mk #[])),.sc (.int .i64 9)] [])) (Ai (call 42 [.sc (.string H8)]) fun x6 x7=>Ad x7<|Ab x6 fun x8 x9=>Fw x8 fun E2=>Ab E2 fun I3 J2=>Ao I3 fun E4=>Ab J2 fun Ha Km=>A0 Ha fun Hk=>Ab Km fun Ib Kp=>Ak .i64 Ib fun Jb=>Ad Kp<|Ab x9 fun Kw K7=>Ak .i64 Kw fun Lx=>Ad K7<|Ba (Lx != 0) (some (Aq.mk [.sc (.string (ByteArray.mk #[])),.sc (.int .i64 Lx)] [])) (Ai (call 41 [.sc (.int .i64 Bp)]) fun Jz Lo=>Ad Lo<|Ab Jz fun Ld Lt=>A0 Ld fun Mq=>Ad Lt<|A9 (decide (9+ByteArray.size Mq<=9223372036854775807))<|Ac (ByteArray.mk #[123,34,116,121,112,101,34,58,34]++Mq) fun Ow=>A9 (decide (ByteArray.size Ow+15<=9223372036854775807))<|Ac (Ow++ByteArray.mk #[34,44,34,99,104,97,108,108,101,110,103,101,34,58,34]) fun M2=>Ai (call 13 [.lst false 1 Ga Bm]) fun Ox Pk=>Ad Pk<|Ab Ox fun P4 Pi=>A0 P4 fun Ql=>Ad Pi<|A9 (decide (ByteArray.size M2+ByteArray.size Ql<=9223372036854775807))<|Ac (M2++Ql) fun Qt=>A9 (decide (ByteArray.size Qt+12<=9223372036854775807))<|Ac (Qt++ByteArray.mk #[34,44,34,111,114,105,103,105,110,34,58,34]) fun P7=>A9 (decide (ByteArray.size P7+ByteArray.size H8<=9223372036854775807))<|Ac (P7++H8) fun R0=>A9 (decide (ByteArray.size R0+16<=9223372036854775807))<|Ac (R0++ByteArray.mk #[34,44,34,99,114,111,115,115,79,114,105,103,105,110,34,58]) fun Q3=>Ba (!Lw) (Ba (!Array.toList (ByteArray.data Hn)==Array.toList (ByteArray.data (ByteArray.mk #[]))) (some (Aq.mk [.sc (.string (ByteArray.mk #[])),.sc (.int .i64 4)] [])) (A9 (decide (ByteArray.size Q3+6<=9223372036854775807))<|Ac (Q3++ByteArray.mk #[102,97,108,115,101,125]) fun Pn=>some (Aq.mk [.sc (.string Pn),.sc (.int .i64 0)] []))) (Ai (call 42 [.sc (.string Hn)]) fun W0 X8=>Ad X8<|Ab W0 fun Pq Qp=>Fw Pq fun Wb=>Ab Wb fun Wa Z2=>Ao Wa fun Zq=>Ab Z2 fun Zr Xk=>A0 Zr fun Xn=>Ab Xk fun Zi N1=>Ak .i64 Zi fun Q8=>Ad N1<|Ab Qp fun X5 FB=>Ak .i64 X5 fun BG=>Ad FB<|Ba (BG != 0) (some (Aq.mk [.sc (.string (ByteArray.mk #[])),.sc (.int .i64 BG)] [])) (A9 (decide (ByteArray.size Q3+18<=9223372036854775807))<|Ac (Q3++ByteArray.mk #[116,114,117,101,44,34,116,111,112,79,114,105,103,105,110,34,58,34]) fun Zw=>A9 (decide (ByteArray.size Zw+ByteArray.size Hn<=9223372036854775807))<|Ac (Zw++Hn) fun Zu=>A9 (decide (ByteArray.size Zu+2<=9223372036854775807))<|Ac (Zu++ByteArray.mk #[34,125]) fun GA=>some (Aq.mk [.sc (.string GA),.sc (.int .i64 0)] [])))))))) (Ae (CP p) prog fu d):=by kernel_rfl
end
section
open Go.Proofs.Tryd (prog)
open Go.IntKind (wrap)
set_option maxRecDepth 100000
theorem WI {l:List Int}(hl:Ct l)(a b:Nat):(Aa l).extract a b=Aa ((l.drop a).take (b-a)):=by
 have h:(Aa l).extract a b=Aa (Fc ((Aa l).extract a b)):=(G9 _).symm;rw[h]
 congr 1
 unfold Fc;rw[ByteArray.data_extract,Array.toList_extract,List.extract_eq_take_drop,List.map_take,List.map_drop];have:(List.map (fun b:UInt8=>(b.toNat:Int)) (Aa l).data.toList)=l:=Co hl
 rw[this]
theorem Rr {a b:List Int}(ha:Ct a)(hb:Ct b):(Array.toList (Aa a).data==Array.toList (Aa b).data)=decide (a=b):=by
 rw[Bool.eq_iff_iff,beq_iff_eq,decide_eq_true_iff];constructor
 ·intro h
  have h2:Aa a=Aa b:=by
   cases hx:Aa a;cases hy:Aa b;rw[hx,hy] at h;exact congrArg ByteArray.mk (Array.toList_inj.1 h)
  have h3:=congrArg Fc h2
  rwa [Co ha,Co hb] at h3
 ·rintro rfl;rfl
theorem RL {w l:List Int}(h:w.length<=l.length):decide (l.take w.length=w)=w.isPrefixOf l:=by
 rw[Bool.eq_iff_iff,decide_eq_true_iff,List.isPrefixOf_iff_prefix,List.prefix_iff_eq_take];exact⟨fun h=>h.symm,fun h=>h.symm⟩
theorem JY (c:Int):∀{cur:List Int},(∀x∈cur,x≠c)->∀r,A1 c (cur++c::r)=cur::A1 c r
 |[],_,r=>by
  show (if c=c then []::A1 c r else _)=_
  rw[D1 rfl]
 |x::cur,h,r=>by
  have hx:=h x (by simp)
  have ih:=JY c (cur:=cur) (fun y hy=>h y (by simp[hy])) r
  show (if x=c then []::A1 c (cur++c::r) else match A1 c (cur++c::r) with|a::t=>(x::a)::t|[]=>[[x]])=_
  rw[Dc hx,ih]
theorem BM (c:Int):∀{cur:List Int},(∀x∈cur,x≠c)->A1 c cur=[cur]
 |[],_=>rfl
 |x::cur,h=>by
  have hx:=h x (by simp)
  have ih:=BM c (cur:=cur) (fun y hy=>h y (by simp[hy]))
  show (if x=c then []::A1 c cur else match A1 c cur with|a::t=>(x::a)::t|[]=>[[x]])=_
  rw[Dc hx,ih]
section
variable {fu d:Nat} {p:Option (List PV->Option Aq)}
theorem SW {c:Int}:Ae (CP p) prog fu (d+1) J7 [.sc (.int .u8 c)]=some ⟨[.sc (.bool (Uu c))],[]⟩:=by
 rw[Q7];unfold Uu;by_cases h:48<=c
 ·have a1:=dT (q:=c>=48) h;have a2:=dT h;simp only[B0,a1,a2,Zzm]
 ·have a1:=dF (q:=c>=48) h;have a2:=dF h;simp only[B0,a1,a2,PE]
def lbB (x:Int):Bool:=VZ x||x==45
theorem WA {a0:ByteArray}{l:List Int}(hB:Ct l)(hs:l.length<=63):∀(r:List Int)(i nn:Nat),l.drop i=r->r.length+1<=nn ->
  Ci fu (Ae (CP p) prog fu (d+1)) a0 nn (Aa l) (i:Int)=some ⟨[.sc (.bool (r.all lbB))],[]⟩
 |[],i,nn,hd,hn=>by
  obtain⟨k,rfl⟩:∃k,nn=k+1:=⟨nn-1,by omega⟩
  have hi:=drop_nil hd;have a1:decide ((i:Int)<(l.length:Int))=false:=dF (by omega)
  rw[Hz];simp only[B0,Af,a1];rfl
 |c::r,i,nn,hd,hn=>by
  obtain⟨k,rfl⟩:∃k,nn=k+1:=⟨nn-1,by omega⟩
  obtain⟨hi,hc,Iz⟩:=Fl hd;have ih:=WA (a0:=a0) hB hs r (i+1) k Iz (by simp at hn;omega)
  have GG:=hB c (List.mem_of_getElem? hc);have a1:decide ((i:Int)<(l.length:Int))=true:=dT (by omega)
  have a2:decide ((0:Int)<=(i:Int))=true:=by simp
  have a3:(Array.toList (Aa l).data)[Int.toNat (i:Int)]?=some c.toNat.toUInt8:=by
   rw[Kx];show (l.map fun n=>n.toNat.toUInt8)[i]?=_
   rw[List.getElem?_map,hc];rfl
  have a4:=Jm GG;have a5:wrap .i64 ((i:Int)+1)=((i+1:Nat):Int):=by rw[Az (by omega) (by omega)];omega
  have e:Ae (CP p) prog fu (d+1) 76 [.sc (.int .u8 c)]=_:=SW (fu:=fu) (d:=d) (p:=p) (c:=c);have step:(c::r).all lbB=(lbB c&&r.all lbB):=List.all_cons;rw[Hz,step];by_cases hA:97<=c∧c<=122
  ·have q1:=dT (q:=c>=97) hA.1;have q2:=bT hA.2;have hl:lbB c=true:=by unfold lbB VZ;simp[hA]
   rw[hl,Zzm];simp only[B0,Af,a1,a2,a3,a4,a5,q1,q2];exact ih
  cases hD:Uu c
  ·rw[hD] at e
   have B7:VZ c=false:=by
    unfold VZ;rw[hD,Bool.or_false];simp;omega
   by_cases hM:c=45
   ·subst hM;have q1:decide ((45:Int)>=97)=false:=rfl;have q3:((45:Int) != 45)=false:=rfl;have hl:lbB 45=true:=rfl;rw[hl,Zzm];simp only[B0,Af,a1,a2,a3,a4,a5,q1,e,Dl,q3];exact ih
   ·have q3:(c != 45)=true:=by simp[hM]
    have hl:lbB c=false:=by unfold lbB;simp[B7,hM]
    rw[hl,PE];by_cases h97:97<=c
    ·have q1:=dT (q:=c>=97) h97;have q2:=bF (q:=c<=122) (by omega)
     simp only[B0,Af,a1,a2,a3,a4,a5,q1,q2,e,Dl,q3]
    ·have q1:=dF (q:=c>=97) h97;simp only[B0,Af,a1,a2,a3,a4,a5,q1,e,Dl,q3]
  ·rw[hD] at e;have h48:=(BE c).1 hD;have hl:lbB c=true:=by unfold lbB VZ;simp[hD]
   have q1:=dF (q:=c>=97) (by omega)
   rw[hl,Zzm];simp only[B0,Af,a1,a2,a3,a4,a5,q1,e,Cw];exact ih
theorem Ago {l:List Int}(hB:Ct l)(Ei:100<=fu):Ae (CP p) prog fu (d+2) Kf [.sc (.string (Aa l))]=some ⟨[.sc (.bool (I5 l))],[]⟩:=by
 rw[Rj];by_cases h1:1<=l.length
 ·have a1:decide (((l.length:Nat):Int)<1)=false:=dF (by omega)
  by_cases h2:l.length<=63
  ·have a2:decide (((l.length:Nat):Int)>63)=false:=dF (by omega)
   have e0:I5 l=(!(l.head?==some 45) && !(l.getLast?==some 45)&&l.all lbB):=by
    unfold I5;rw[dT h1,dT h2];rfl
   cases l with
   |nil=>simp at h1
   |cons c r=>
    have GG:=hB c (by simp)
    have a3:(Array.toList (Aa (c::r)).data)[0]?=some c.toNat.toUInt8:=rfl;have a4:=Jm GG;by_cases h0:c=45
    ·subst h0;have q:((45:Int)==45)=true:=rfl;have e:I5 (45::r)=false:=by rw[e0];simp
     rw[e];simp only[B0,Af,a1,a2,a3,a4,q]
    ·have q:(c==45)=false:=by simp[h0]
     obtain⟨z,hz⟩:∃z,(c::r).getLast?=some z:=⟨_,List.getLast?_eq_some_getLast (by simp)⟩
     have Mj:(c::r)[(c::r).length-1]?=some z:=by rw[←List.getLast?_eq_getElem?];exact hz
     have hzB:=hB z (List.mem_of_getElem? Mj);have b1:wrap .i64 (((c::r).length:Int)-1)=(((c::r).length-1:Nat):Int):=by rw[Az (by omega) (by omega)];omega
     have b2:decide ((0:Int)<=(((c::r).length-1:Nat):Int))=true:=dT (by omega)
     have b3:(Array.toList (Aa (c::r)).data)[Int.toNat (((c::r).length-1:Nat):Int)]?=some z.toNat.toUInt8:=by
      rw[Kx];show ((c::r).map fun n=>n.toNat.toUInt8)[(c::r).length-1]?=_
      rw[List.getElem?_map,Mj];rfl
     have b4:=Jm hzB;by_cases Ap1:z=45
     ·subst Ap1;have q2:((45:Int)==45)=true:=rfl;have e:I5 (c::r)=false:=by rw[e0,hz];simp
      rw[e];simp only[B0,Af,a1,a2,a3,a4,q,b1,b2,b3,b4,q2]
     ·have q2:(z==45)=false:=by simp[Ap1]
      have e:I5 (c::r)=(c::r).all lbB:=by rw[e0,hz];simp[h0,Ap1]
      have hl:=WA (fu:=fu) (d:=d) (p:=p) (a0:=Aa (c::r)) hB h2 (c::r) 0 fu rfl (by omega)
      rw[e];simp only[B0,Af,a1,a2,a3,a4,q,b1,b2,b3,b4,q2];rw[Pg (Pe:=by omega)]
      exact hl
  ·have a2:decide (((l.length:Nat):Int)>63)=true:=dT (by omega)
   have e:I5 l=false:=by unfold I5;simp[h2]
   rw[e];simp only[B0,Af,a1,a2]
 ·have a1:decide (((l.length:Nat):Int)<1)=true:=dT (by omega)
  have e:I5 l=false:=by unfold I5;simp[h1]
  rw[e];simp only[B0,Af,a1]
theorem MB {call:An}{a0:ByteArray}{a1 c:Int}{l:List Int}(hB:Ct l)(hl:l.length<=100000):∀(r cur:List Int)(done:List (List Int)) (f nn:Nat),l.drop f=cur++r->(∀x∈cur,x≠c)->done.length<=f->f<=l.length->r.length+1<=nn ->
  Dz fu call a0 a1 nn (Aa l) c done.length (f:Int) ((f+cur.length:Nat):Int) (done.map Qo)=some ⟨[.own 1 (done++A1 c (cur++r)).length ((done++A1 c (cur++r)).map Qo)],[]⟩
 |[],cur,done,f,nn,hd,hc,S4,hf,hn=>by
  obtain⟨k,rfl⟩:∃k,nn=k+1:=⟨nn-1,by omega⟩
  rw[List.append_nil] at hd;have Cz:=congrArg List.length hd;rw[List.length_drop] at Cz;have b1:decide (((f+cur.length:Nat):Int)<(l.length:Int))=false:=dF (by omega)
  have b2:decide ((0:Int)<=(f:Int))=true:=by simp
  have b3:decide (Int.toNat (f:Int)<=l.length)=true:=dT (by omega)
  have b4:(Aa l).extract (Int.toNat (f:Int)) l.length=Aa cur:=by
   rw[WI hB,Kx,hd,Zzf (by omega)]
  have b5:decide (done.length*1<=List.length (done.map Qo))=true:=by simp
  have b6:decide ((done.length+1)*16<=1099511627776)=true:=dT (by omega)
  have b7:decide (done.length+1<=1099511627776)=true:=dT (by omega)
  have b8:List.take (done.length*1) (done.map Qo)++[PV.sc (.string (Aa cur))]=(done++[cur]).map Qo:=by
   rw[Zzf (by simp)];simp[Qo]
  have b9:decide ((done.length+1)*1<=List.length ((done++[cur]).map Qo))=true:=by simp
  have c1:List.take ((done.length+1)*1) ((done++[cur]).map Qo)=(done++[cur]).map Qo:=Zzf (by simp)
  rw[H2,List.append_nil,BM c hc];simp only[B0,Af,dle,b1,b2,b3,b4,b5,b6,b7,b8,b9,c1];simp
 |x::r,cur,done,f,nn,hd,hc,S4,hf,hn=>by
  obtain⟨k,rfl⟩:∃k,nn=k+1:=⟨nn-1,by omega⟩
  have Cz:=congrArg List.length hd;rw[List.length_drop] at Cz;simp only[Zzg,FM] at Cz
  have hx:l[f+cur.length]?=some x:=by
   have:(l.drop f)[cur.length]?=some x:=by rw[hd];simp
   rwa [List.getElem?_drop] at this
  have hxB:=hB x (List.mem_of_getElem? hx);have b1:decide (((f+cur.length:Nat):Int)<(l.length:Int))=true:=dT (by omega)
  have b2:decide ((0:Int)<=((f+cur.length:Nat):Int))=true:=dT (by omega)
  have b2':decide ((0:Int)<=(f:Int))=true:=by simp
  have b3:(Array.toList (Aa l).data)[Int.toNat ((f+cur.length:Nat):Int)]?=some x.toNat.toUInt8:=by
   rw[Kx];show (l.map fun n=>n.toNat.toUInt8)[f+cur.length]?=_
   rw[List.getElem?_map,hx];rfl
  have b4:=Jm hxB;have b5:wrap .i64 (((f+cur.length:Nat):Int)+1)=((f+cur.length+1:Nat):Int):=by rw[Az (by omega) (by omega)];omega
  rw[H2];by_cases hxc:x=c
  ·subst hxc;have q:(x==x)=true:=by simp
   have c1:decide (Int.toNat (f:Int)<=Int.toNat ((f+cur.length:Nat):Int))=true:=dT (by omega)
   have c2:decide (Int.toNat ((f+cur.length:Nat):Int)<=l.length)=true:=dT (by omega)
   have c3:(Aa l).extract (Int.toNat (f:Int)) (Int.toNat ((f+cur.length:Nat):Int))=Aa cur:=by
    rw[WI hB,Kx,Kx,hd,Nat.add_sub_cancel_left,List.take_left]
   have c4:decide (done.length*1<=List.length (done.map Qo))=true:=by simp
   have c5:decide ((done.length+1)*16<=1099511627776)=true:=dT (by omega)
   have c6:decide (done.length+1<=1099511627776)=true:=dT (by omega)
   have c7:List.take (done.length*1) (done.map Qo)++[PV.sc (.string (Aa cur))]=(done++[cur]).map Qo:=by
    rw[Zzf (by simp)];simp[Qo]
   have Iz:l.drop (f+cur.length+1)=[]++r:=by
    rw[←List.drop_drop,←List.drop_drop,hd,List.drop_left];rfl
   have ih:=MB (call:=call) (a0:=a0) (a1:=a1) (c:=x) hB hl r [] (done++[cur]) (f+cur.length+1) k Iz (fun y hy=>nomatch hy) (by simp;omega) (by omega) (by simp at hn;omega)
   rw[JY x hc];simp only[B0,Af,b1,b2,b2',b3,b4,q,c1,c2,c3,c4,c5,c6,c7,b5];rw[show (done++[cur]).length=done.length+1 by simp,show f+cur.length+1+([]:List Int).length=f+cur.length+1 from rfl] at ih
   refine ih.trans ?_;simp
  ·have q:(x==c)=false:=by simp[hxc]
   have ih:=MB (call:=call) (a0:=a0) (a1:=a1) hB hl r (cur++[x]) done f k (by rw[hd];simp) (fun y hy=>by
    rcases List.mem_append.1 hy with hy|hy
    ·exact hc y hy
    ·simp at hy;subst hy;exact hxc) S4 hf (by simp at hn;omega)
   simp only[B0,Af,b1,b2,b3,b4,q,b5];rw[show f+(cur++[x]).length=f+cur.length+1 by simp;omega] at ih
   refine ih.trans ?_;simp
theorem Ad7 {c:Int}{l:List Int}(hB:Ct l)(hl:l.length<=100000)(Ei:l.length+1<=fu):Ae (CP p) prog fu (d+1) Kd [.sc (.string (Aa l)),.sc (.int .u8 c)]=some ⟨[.own 1 (A1 c l).length ((A1 c l).map Qo)],[]⟩:=by
 rw[Q6];have:=MB (fu:=fu) (call:=Ae (CP p) prog fu d) (a0:=Aa l) (a1:=c) (c:=c) hB hl l [] [] 0 fu rfl (fun y hy=>nomatch hy) (Nat.le_refl _) (by omega) Ei
 exact this
theorem NY {a0:ByteArray}{l:List Int}(hB:Ct l)(hs:l.length<=100000):∀(r:List Int)(i nn:Nat),l.drop i=r->r.length+1<=nn ->
  D7 fu (Ae (CP p) prog fu (d+1)) a0 nn (Aa l) (i:Int)=some ⟨[.sc (.int .i64 (if r.all Uu=true then 2 else 0))],[]⟩
 |[],i,nn,hd,hn=>by
  obtain⟨k,rfl⟩:∃k,nn=k+1:=⟨nn-1,by omega⟩
  have hi:=drop_nil hd;have a1:decide ((i:Int)<(l.length:Int))=false:=dF (by omega)
  rw[Gz];simp only[B0,Af,a1];rfl
 |c::r,i,nn,hd,hn=>by
  obtain⟨k,rfl⟩:∃k,nn=k+1:=⟨nn-1,by omega⟩
  obtain⟨hi,hc,Iz⟩:=Fl hd;have ih:=NY (a0:=a0) hB hs r (i+1) k Iz (by simp at hn;omega)
  have GG:=hB c (List.mem_of_getElem? hc);have a1:decide ((i:Int)<(l.length:Int))=true:=dT (by omega)
  have a2:decide ((0:Int)<=(i:Int))=true:=by simp
  have a3:(Array.toList (Aa l).data)[Int.toNat (i:Int)]?=some c.toNat.toUInt8:=by
   rw[Kx];show (l.map fun n=>n.toNat.toUInt8)[i]?=_
   rw[List.getElem?_map,hc];rfl
  have a4:=Jm GG;have a5:wrap .i64 ((i:Int)+1)=((i+1:Nat):Int):=by rw[Az (by omega) (by omega)];omega
  have e:Ae (CP p) prog fu (d+1) 76 [.sc (.int .u8 c)]=_:=SW (fu:=fu) (d:=d) (p:=p) (c:=c);rw[Gz,List.all_cons];cases hD:Uu c
  ·rw[hD] at e;simp only[B0,Af,a1,a2,a3,a4,e,Dl,PE,Bool.false_eq_true,if_false]
  ·rw[hD] at e;simp only[B0,Af,a1,a2,a3,a4,e,Cw,Zzm,a5];exact ih
theorem IR {a0:ByteArray}(Ei:2000<=fu){ls:List (List Int)} (hB:∀x∈ls,Ct x∧x.length<=1000)(h0:ls≠[]) (hN:ls.length<=1000):∀(r:List (List Int)) (i nn:Nat),ls.drop i=r->r.length+1<=nn ->
  D5 fu (Ae (CP p) prog fu (d+2)) a0 nn ls.length (i:Int) (ls.map Qo)=some ⟨[.sc (.int .i64 (if r.all I5=false then 2 else if (ls.getLastD []).all Uu=true then 2 else 0))],[]⟩
 |[],i,nn,hd,hn=>by
  obtain⟨k,rfl⟩:∃k,nn=k+1:=⟨nn-1,by omega⟩
  have hi:=drop_nil hd;have ZI:0<ls.length:=List.length_pos_iff.2 h0;have a1:decide ((i:Int)<(ls.length:Int))=false:=dF (by omega)
  have a2:wrap .i64 ((ls.length:Int)-1)=((ls.length-1:Nat):Int):=by rw[Az (by omega) (by omega)];omega
  have a3:decide ((0:Int)<=((ls.length-1:Nat):Int))=true:=dT (by omega)
  have a4:decide (((ls.length-1:Nat):Int)<(ls.length:Int))=true:=dT (by omega)
  have OS:ls.getLastD []=ls[ls.length-1]'(by omega):=by
   rw[List.getLastD_eq_getLast?,List.getLast?_eq_getElem?,List.getElem?_eq_getElem (by omega)]
   rfl
  have a5:List.getD (ls.map Qo) (0+Int.toNat ((ls.length-1:Nat):Int)*1) PV.top=.sc (.string (Aa (ls.getLastD []))):=by
   rw[Kx,SF,AZ,List.getD_eq_getElem?_getD,List.getElem?_map,List.getElem?_eq_getElem (by omega),OS]
   rfl
  have hm:=hB (ls.getLastD []) (by rw[OS];exact List.getElem_mem _)
  have hdl:=NY (fu:=fu) (d:=d+1) (p:=p) (a0:=a0) hm.1 (by omega) (ls.getLastD []) 0 fu rfl (by omega)
  rw[Gq];simp only[B0,a1,a2,a3,a4,a5,List.all_nil,Bool.true_eq_false,if_false];exact hdl
 |x::r,i,nn,hd,hn=>by
  obtain⟨k,rfl⟩:∃k,nn=k+1:=⟨nn-1,by omega⟩
  obtain⟨hi,hc,Iz⟩:=Fl hd;have ih:=IR (a0:=a0) Ei hB h0 hN r (i+1) k Iz (by simp at hn;omega)
  have hm:=hB x (List.mem_of_getElem? hc);have e:Ae (CP p) prog fu (d+2) 75 [.sc (.string (Aa x))]=_:=Ago (fu:=fu) (d:=d) (p:=p) hm.1 (by omega)
  have a1:decide ((i:Int)<(ls.length:Int))=true:=dT (by omega)
  have a2:decide ((0:Int)<=(i:Int))=true:=by simp
  have a5:List.getD (ls.map Qo) (0+Int.toNat (i:Int)*1) PV.top=.sc (.string (Aa x)):=by
   rw[Kx,SF,AZ,List.getD_eq_getElem?_getD,List.getElem?_map,hc];rfl
  have a6:wrap .i64 ((i:Int)+1)=((i+1:Nat):Int):=by rw[Az (by omega) (by omega)];omega
  rw[Gq];cases hq:I5 x
  ·rw[hq] at e;have:((x::r).all I5=false):=by simp[hq]
   rw[D1 this];simp only[B0,a1,a2,a5,e,Dl]
  ·rw[hq] at e;have:(x::r).all I5=r.all I5:=by simp[hq]
   rw[this];simp only[B0,a1,a2,a5,e,Cw,a6];exact ih
theorem Air {l:List Int}(hB:Ct l)(hs:l.length<=1000000)(Ei:2000<=fu):Ae (CP p) prog fu (d+4) H7 [.sc (.string (Aa l))]=some ⟨[.sc (.int .i64 (Sb l))],[]⟩:=by
 rw[Oi];unfold Sb;by_cases h:100<l.length
 ·have a1:decide (((l.length:Nat):Int)>100)=true:=dT (by omega)
  rw[D1 h];simp only[B0,Af,a1]
 ·have a1:decide (((l.length:Nat):Int)>100)=false:=dF (by omega)
  have e:Ae (CP p) prog fu (d+3) 74 [.sc (.string (Aa l)),.sc (.int .u8 46)]=_:=Ad7 (fu:=fu) (d:=d+2) (p:=p) (c:=46) hB (by omega) (by omega)
  have hn:=Sj 46 l;have hd:=IR (a0:=Aa l) (fu:=fu) (d:=d+1) (p:=p) (by omega) (ls:=A1 46 l) (fun x hx=>⟨(Re 46 hB x hx).1,by have:=(Re 46 hB x hx).2;omega⟩) (Ol 46 l) (by omega) (A1 46 l) 0 fu rfl (by omega)
  rw[Dc h];simp only[B0,Af,a1,e];exact hd
end
end
section
open Go.Proofs.Tryd (prog)
open Go.IntKind (wrap)
set_option maxRecDepth 100000
section
variable {fu d:Nat} {p:Option (List PV->Option Aq)}
theorem OK (s:Bool):Ae (CP p) prog fu (d+1) Gp [.sc (.bool s)]=some ⟨[.sc (.int .i64 (XT s))],[]⟩:=by
 rw[Mk];cases s<;>simp only[B0]<;>rfl
theorem FS {a0:ByteArray}{l:List Int}{s a1:Bool}(hB:Ct l)(hs:l.length<=5):∀(r:List Int)(i nn:Nat)(n:Int),l.drop i=r->r.length+1<=nn->0<=n->n<10 ^ i ->
  E8 fu (Ae (CP p) prog fu (d+1)) a0 a1 nn (Aa l) s n (i:Int)=some (if r.all Uu=true then ⟨[.sc (.int .i64 (r.foldl (fun n x=>10*n+(x-48)) n)),.sc (.bool (decide (r.foldl (fun n x=>10*n+(x-48)) n<=65535)&&decide (r.foldl (fun n x=>10*n+(x-48)) n≠XT s)))],[]⟩ else ⟨[.sc (.int .i64 0),.sc (.bool false)],[]⟩)
 |[],i,nn,n,hd,hn,h0,h1=>by
  obtain⟨k,rfl⟩:∃k,nn=k+1:=⟨nn-1,by omega⟩
  have hi:=drop_nil hd;have a1':decide ((i:Int)<(l.length:Int))=false:=dF (by omega)
  have e:Ae (CP p) prog fu (d+1) 58 [.sc (.bool s)]=_:=OK (fu:=fu) (d:=d) (p:=p) s;rw[Id];show _=some (Aq.mk [.sc (.int .i64 n),.sc (.bool (decide (n<=65535)&&decide (n≠XT s)))] []);by_cases hv:n<=65535
  ·have q:=dT hv
   have q2:(n != XT s)=decide (n≠XT s):=by
    by_cases h:n=XT s<;>simp[h]
   simp only[B0,Af,a1',q,e,q2,Zzm]
  ·have q:=dF hv;simp only[B0,Af,a1',q,PE]
 |c::r,i,nn,n,hd,hn,h0,h1=>by
  obtain⟨k,rfl⟩:∃k,nn=k+1:=⟨nn-1,by omega⟩
  obtain⟨hi,hc,Iz⟩:=Fl hd;have GG:=hB c (List.mem_of_getElem? hc)
  have hp:(10:Int) ^ i<=10 ^ 4:=by
   have h:=Nat.pow_le_pow_right (n:=10) (by omega) (show i<=4 by omega)
   exact_mod_cast h
  have hp2:(10:Int) ^ (i+1)=10 ^ i*10:=Int.pow_succ ..;have a1':decide ((i:Int)<(l.length:Int))=true:=dT (by omega)
  have a2:decide ((0:Int)<=(i:Int))=true:=by simp
  have a3:(Array.toList (Aa l).data)[Int.toNat (i:Int)]?=some c.toNat.toUInt8:=by
   rw[Kx];show (l.map fun n=>n.toNat.toUInt8)[i]?=_
   rw[List.getElem?_map,hc];rfl
  have a4:=Jm GG;have e:Ae (CP p) prog fu (d+1) 76 [.sc (.int .u8 c)]=_:=SW (fu:=fu) (d:=d) (p:=p) (c:=c);rw[Id];cases hD:Uu c
  ·rw[hD] at e;have ea:(c::r).all Uu=false:=by rw[List.all_cons,hD,PE]
   rw[ea];simp only[B0,Af,a1',a2,a3,a4,e,Dl,Bool.false_eq_true,if_false]
  ·rw[hD] at e;have hq:=(BE c).1 hD;have a5:wrap .i64 (10*n)=10*n:=Az (by omega) (by omega)
   have a6:wrap .u8 (c-48)=c-48:=Wd (by omega) (by omega)
   have a7:wrap .i64 (c-48)=c-48:=Az (by omega) (by omega)
   have a8:wrap .i64 (10*n+(c-48))=10*n+(c-48):=Az (by omega) (by omega)
   have a9:wrap .i64 ((i:Int)+1)=((i+1:Nat):Int):=by rw[Az (by omega) (by omega)];omega
   have ih:=FS (a0:=a0) (s:=s) (a1:=a1) hB hs r (i+1) k (10*n+(c-48)) Iz (by simp at hn;omega) (by omega) (by omega)
   have ea:(c::r).all Uu=r.all Uu:=by rw[List.all_cons,hD,Zzm]
   simp only[B0,Af,a1',a2,a3,a4,e,Cw,a5,a6,a7,a8,a9];rw[ih,ea];rfl
theorem Ak9 {l:List Int}{s:Bool}(hB:Ct l)(Ei:100<=fu):Ae (CP p) prog fu (d+2) Ll [.sc (.string (Aa l)),.sc (.bool s)]=some (if Hp l=true then ⟨[.sc (.int .i64 (Ud l)),.sc (.bool (decide (Ud l<=65535)&&decide (Ud l≠XT s)))],[]⟩ else ⟨[.sc (.int .i64 0),.sc (.bool false)],[]⟩):=by
 rw[S5];by_cases h1:1<=l.length
 ·by_cases h2:l.length<=5
  ·have a1:decide (((l.length:Nat):Int)<1)=false:=dF (by omega)
   have a2:decide (((l.length:Nat):Int)>5)=false:=dF (by omega)
   cases l with
   |nil=>simp at h1
   |cons c r=>
    have GG:=hB c (by simp)
    have a3:(Array.toList (Aa (c::r)).data)[0]?=some c.toNat.toUInt8:=rfl;have a4:=Jm GG;by_cases h0:c=48
    ·subst h0;have e:Hp (48::r)=false:=by unfold Hp;simp
     have q:((48:Int)==48)=true:=rfl;rw[e];simp only[B0,Af,a1,a2,a3,a4,q,Bool.false_eq_true,if_false]
    ·have q:(c==48)=false:=by simp[h0]
     have e:Hp (c::r)=(c::r).all Uu:=by
      unfold Hp;rw[dT h1,dT h2];simp[h0]
     have hl:=FS (fu:=fu) (d:=d) (p:=p) (a0:=Aa (c::r)) (a1:=s) (s:=s) hB h2 (c::r) 0 fu 0 rfl (by omega) (by omega) (by decide)
     rw[e];simp only[B0,Af,a1,a2,a3,a4,q];exact hl
  ·have a1:decide (((l.length:Nat):Int)<1)=false:=dF (by omega)
   have a2:decide (((l.length:Nat):Int)>5)=true:=dT (by omega)
   have e:Hp l=false:=by unfold Hp;simp[h2]
   rw[e];simp only[B0,Af,a1,a2,Bool.false_eq_true,if_false]
 ·have a1:decide (((l.length:Nat):Int)<1)=true:=dT (by omega)
  have e:Hp l=false:=by unfold Hp;simp[h1]
  rw[e];simp only[B0,Af,a1,Bool.false_eq_true,if_false]
theorem Apl {a0 s4 s7:ByteArray}{y3 y6:Bool}{y5 y8:Int}{r:List Int}(hr:Ct r)(hrl:r.length<=1000000)(Ei:2000<=fu){nn:Nat}:∃o1 o2 o3,Bg fu (Ae (CP p) prog fu (d+4)) a0 (nn+1) (Aa r) ((Bi 58 r).length:Int) (-1) y3 s4 y5 y6 s7 y8=some ⟨[.agg [.sc (.bool o1),.sc (.string o2),.sc (.int .i64 o3)],.sc (.int .i64 (Vx y6 r))],[]⟩:=by
 have Pj:=MZ 58 r;have hbB:Ct (Bi 58 r):=by rw[Ob];exact fun x hx=>hr x (List.mem_of_mem_take hx)
 have hdB:Ct (r.drop ((Bi 58 r).length+1)):=fun x hx=>hr x (List.mem_of_mem_drop hx)
 have c2:Ae (CP p) prog fu (d+4) 57 [.sc (.string (Aa (Bi 58 r)))]=_:=Air (fu:=fu) (d:=d) (p:=p) hbB (by omega) Ei
 have c3:Ae (CP p) prog fu (d+4) 58 [.sc (.bool y6)]=_:=OK (fu:=fu) (d:=d+3) (p:=p) y6;have c4:Ae (CP p) prog fu (d+4) 59 [.sc (.string (Aa (r.drop ((Bi 58 r).length+1)))),.sc (.bool y6)]=_:=Ak9 (fu:=fu) (d:=d+2) (p:=p) (s:=y6) hdB (by omega)
 have a1:decide ((-1:Int)>=0)=false:=rfl;have a2:decide ((0:Int)<=((Bi 58 r).length:Int))=true:=by simp
 have a3:decide (Int.toNat ((Bi 58 r).length:Int)<=r.length)=true:=dT (by omega)
 have a4:(Aa r).extract 0 (Int.toNat ((Bi 58 r).length:Int))=Aa (Bi 58 r):=by rw[Kx,Oc hr,←Ob]
 rw[F1];unfold Vx;by_cases hh:Sb (Bi 58 r)=0
 ·have z:((0:Int) != 0)=false:=rfl;rw[hh] at c2;simp only[ne_eq,hh,not_true_eq_false,if_false];by_cases hw:(Bi 58 r).length<r.length
  ·have a5:=dT (q:=((Bi 58 r).length:Int)<(r.length:Int)) (by omega)
   have a6:wrap .i64 (((Bi 58 r).length:Int)+1)=(((Bi 58 r).length+1:Nat):Int):=by rw[Az (by omega) (by omega)];omega
   have a7:decide ((0:Int)<=(((Bi 58 r).length+1:Nat):Int))=true:=dT (by omega)
   have a8:decide (Int.toNat (((Bi 58 r).length+1:Nat):Int)<=r.length)=true:=dT (by omega)
   have a9:(Aa r).extract (Int.toNat (((Bi 58 r).length+1:Nat):Int)) r.length=Aa (r.drop ((Bi 58 r).length+1)):=by rw[Kx,Qa hr]
   rw[Dc (show ¬(Bi 58 r).length=r.length by omega)]
   by_cases hp:Hp (r.drop ((Bi 58 r).length+1))=true
   ·rw[D1 hp] at c4;by_cases hv:Ud (r.drop ((Bi 58 r).length+1))<=65535∧Ud (r.drop ((Bi 58 r).length+1))≠XT y6
    ·rw[dT hv.1,dT hv.2] at c4;rw[D1 ⟨hp,hv.1,hv.2⟩];exact⟨_,_,_,by simp only[B0,Af,dle,a1,a2,a3,a4,c2,z,c3,a5,a6,a7,a8,a9,c4,Bool.and_true,Cw];rfl⟩
    ·have hb:(decide (Ud (r.drop ((Bi 58 r).length+1))<=65535)&&decide (Ud (r.drop ((Bi 58 r).length+1))≠XT y6))=false:=by
      rw[Bool.eq_false_iff];intro h;rw[Bool.and_eq_true,decide_eq_true_iff,decide_eq_true_iff] at h;exact hv h
     rw[hb] at c4;rw[Dc (by rintro⟨_,h1,h2⟩;exact hv ⟨h1,h2⟩)]
     exact⟨_,_,_,by simp only[B0,Af,dle,a1,a2,a3,a4,c2,z,c3,a5,a6,a7,a8,a9,c4,Dl];rfl⟩
   ·rw[Dc hp] at c4;rw[Dc (by rintro⟨h,_,_⟩;exact hp h)]
    exact⟨_,_,_,by simp only[B0,Af,dle,a1,a2,a3,a4,c2,z,c3,a5,a6,a7,a8,a9,c4,Dl];rfl⟩
  ·have a5:=dF (q:=((Bi 58 r).length:Int)<(r.length:Int)) (by omega)
   rw[D1 (show (Bi 58 r).length=r.length by omega)]
   exact⟨_,_,_,by simp only[B0,Af,a1,a2,a3,a4,c2,z,c3,a5];rfl⟩
 ·have b1:(Sb (Bi 58 r) != 0)=true:=by simp[hh]
  simp only[ne_eq,hh,not_false_eq_true,if_true];exact⟨_,_,_,by simp only[B0,Af,a1,a2,a3,a4,c2,b1];rfl⟩
theorem Ahf {r:List Int}{k:Nat}(hk:k<r.length){c:Int}(hc:r[k]?=some c):(Bi 58 (r.drop k)).length=if c=58 then 0 else (Bi 58 (r.drop (k+1))).length+1:=by
 have e:r.drop k=c::r.drop (k+1):=by
  rw[List.drop_eq_getElem_cons hk];rw[List.getElem?_eq_getElem hk] at hc;cases hc;rfl
 rw[e];by_cases h:c=58
 ·subst h;rw[LL,D1 rfl];rfl
 ·rw[PA _ h,Dc h];rfl
theorem Akn {a0 s4 s7:ByteArray}{y3 y6:Bool}{y5 y8:Int}{r:List Int}(hr:Ct r)(hrl:r.length<=1000000)(Ei:2000<=fu):∀(k nn:Nat),k<=r.length->k+1<=nn->∃o1 o2 o3,Bg fu (Ae (CP p) prog fu (d+4)) a0 nn (Aa r) ((k+(Bi 58 (r.drop k)).length:Nat):Int) ((k:Int)-1) y3 s4 y5 y6 s7 y8=some ⟨[.agg [.sc (.bool o1),.sc (.string o2),.sc (.int .i64 o3)],.sc (.int .i64 (Vx y6 r))],[]⟩:=by
 intro k
 induction k with
 |zero=>
  intro nn hk Pe;obtain⟨q,rfl⟩:∃q,nn=q+1:=⟨nn-1,by omega⟩
  have:=Apl (fu:=fu) (d:=d) (p:=p) (a0:=a0) (s4:=s4) (s7:=s7) (y3:=y3) (y6:=y6) (y5:=y5) (y8:=y8) hr hrl Ei (nn:=q);rw[Zze,SF];exact this
 |succ k ih=>
  intro nn hk Pe;obtain⟨q,rfl⟩:∃q,nn=q+1:=⟨nn-1,by omega⟩
  obtain⟨c,hc⟩:∃c,r[k]?=some c:=⟨_,List.getElem?_eq_getElem (by omega)⟩
  have GG:=hr c (List.mem_of_getElem? hc);have SE:=Ahf (show k<r.length by omega) hc
  obtain⟨o1,o2,o3,h⟩:=ih q (by omega) (by omega)
  refine⟨o1,o2,o3,?_⟩;have a1:decide (((k+1:Nat):Int)-1>=0)=true:=dT (by omega)
  have a2:decide ((0:Int)<=((k+1:Nat):Int)-1)=true:=dT (by omega)
  have a3:(Array.toList (Aa r).data)[Int.toNat (((k+1:Nat):Int)-1)]?=some c.toNat.toUInt8:=by
   rw[show Int.toNat (((k+1:Nat):Int)-1)=k by omega]
   show (r.map fun n=>n.toNat.toUInt8)[k]?=_
   rw[List.getElem?_map,hc];rfl
  have a4:=Jm GG;have a5:wrap .i64 (((k+1:Nat):Int)-1-1)=(k:Int)-1:=by rw[Az (by omega) (by omega)];omega
  rw[F1];by_cases h58:c=58
  ·rw[D1 h58] at SE;have q1:(c==58)=true:=by simp[h58]
   rw[SE] at h;simp only[B0,a1,a2,a3,a4,q1,a5];rw[show ((k+1:Nat):Int)-1=((k+0:Nat):Int) by omega]
   exact h
  ·rw[Dc h58] at SE;have q1:(c==58)=false:=by simp[h58]
   rw[SE] at h;simp only[B0,a1,a2,a3,a4,q1,a5];rw[show k+1+(Bi 58 (r.drop (k+1))).length=k+((Bi 58 (r.drop (k+1))).length+1) by omega]
   exact h
theorem Afq {l:List Int}(hB:Ct l)(hs:l.length<=1000000)(Ei:2000<=fu)(BD:l.length+1<=fu):∃o1 o2 o3,Ae (CP p) prog fu (d+5) G0 [.sc (.string (Aa l))]=some ⟨[.agg [.sc (.bool o1),.sc (.string o2),.sc (.int .i64 o3)],.sc (.int .i64 (Ew l))],[]⟩:=by
  have er:=Mw (p:=p) fu (d+4) (Aa l)
  have sT:Ae (CP p) prog fu (d+4) 56 [.sc (.bool true)]=some ⟨[.sc (.string (Aa [104,116,116,112,115,58,47,47]))],[]⟩:=by
    refine (Ja (p:=p) fu (d+3) true).trans ?_
    simp only[B0]
    rfl
  have sF:Ae (CP p) prog fu (d+4) 56 [.sc (.bool false)]=some ⟨[.sc (.string (Aa [104,116,116,112,58,47,47]))],[]⟩:=by
    refine (Ja (p:=p) fu (d+3) false).trans ?_
    simp only[B0]
    rfl
  have hB8:Ct [104,116,116,112,115,58,47,47]:=fun x hx=>by simp at hx;omega
  have hB7:Ct [104,116,116,112,58,47,47]:=fun x hx=>by simp at hx;omega
  have l8:(Aa [104,116,116,112,115,58,47,47]).size=8:=rfl
  have l7:(Aa [104,116,116,112,58,47,47]).size=7:=rfl
  have n8:([104,116,116,112,115,58,47,47]:List Int).length=8:=rfl
  have n7:([104,116,116,112,58,47,47]:List Int).length=7:=rfl
  have e8:(ByteArray.mk #[(104:UInt8),(116:UInt8),(116:UInt8),(112:UInt8),(115:UInt8),(58:UInt8),(47:UInt8),(47:UInt8)])=Aa [104,116,116,112,115,58,47,47]:=rfl
  have tk:∀n,Ct (l.take n):=fun n x hx=>hB x (List.mem_of_mem_take hx)
  have loop:∀(m:Nat) (s:Bool),m<=l.length->∃o1 o2 o3,Bg fu (Ae (CP p) prog fu (d+4)) (Aa l) fu (Aa (l.drop m)) (((Aa (l.drop m)).size:Nat):Int) (wrap .i64 ((((Aa (l.drop m)).size:Nat):Int)-1)) false (ByteArray.mk #[]) 0 s (ByteArray.mk #[]) 0=some ⟨[.agg [.sc (.bool o1),.sc (.string o2),.sc (.int .i64 o3)],.sc (.int .i64 (Vx s (l.drop m)))],[]⟩:=by
    intro m s hm
    have hd:Ct (l.drop m):=fun x hx=>hB x (List.mem_of_mem_drop hx)
    have hdl:(l.drop m).length=l.length-m:=List.length_drop
    obtain⟨o1,o2,o3,h⟩:=Akn (fu:=fu) (d:=d) (p:=p) (a0:=Aa l) (s4:=ByteArray.mk #[]) (s7:=ByteArray.mk #[]) (y3:=false) (y6:=s) (y5:=0) (y8:=0) hd (by omega) Ei (l.drop m).length fu (Nat.le_refl _) (by omega)
    refine⟨o1,o2,o3,?_⟩
    rw[Af,Az (by omega) (by omega)]
    have e:(l.drop m).length+(Bi 58 ((l.drop m).drop (l.drop m).length)).length=(l.drop m).length:=by
      rw[List.drop_length];rfl
    rw[e] at h
    exact h
  unfold Ew
  have plain:∀(h7:List.isPrefixOf [104,116,116,112,115,58,47,47] l=false),∃o1 o2 o3,(Ba (decide (((l.length:Nat):Int)<((7:Nat):Int)))
    (some (Aq.mk [PV.agg [PV.sc (Value.bool false),PV.sc (Value.string (ByteArray.mk #[])),PV.sc (Value.int IntKind.i64 (0:Int))],PV.sc (Value.int IntKind.i64 (2:Int))] []))
    (Ba (!decide (l.take 7=[104,116,116,112,58,47,47]))
     (some (Aq.mk [PV.agg [PV.sc (Value.bool false),PV.sc (Value.string (ByteArray.mk #[])),PV.sc (Value.int IntKind.i64 (0:Int))],PV.sc (Value.int IntKind.i64 (2:Int))] []))
     (Bg fu (Ae (CP p) prog fu (d+4)) (Aa l) fu (Aa (l.drop 7)) (((Aa (l.drop 7)).size:Nat):Int) (wrap .i64 ((((Aa (l.drop 7)).size:Nat):Int)-1)) false (ByteArray.mk #[]) 0 false (ByteArray.mk #[]) 0)))=some ⟨[.agg [.sc (.bool o1),.sc (.string o2),.sc (.int .i64 o3)],.sc (.int .i64 (if List.isPrefixOf [104,116,116,112,58,47,47] l=true then Vx false (l.drop 7) else 2))],[]⟩:=by
    intro _
    by_cases hl7:l.length<7
    · have hn:List.isPrefixOf [104,116,116,112,58,47,47] l=false:=by
        rw[Bool.eq_false_iff,ne_eq,List.isPrefixOf_iff_prefix]
        intro h
        have:=h.length_le
        simp at this
        omega
      rw[dT (show ((l.length:Nat):Int)<((7:Nat):Int) by omega),hn]
      exact⟨_,_,_,rfl⟩
    · rw[dF (show ¬((l.length:Nat):Int)<((7:Nat):Int) by omega)]
      have hp:=RL (w:=[104,116,116,112,58,47,47]) (l:=l) (by simp;omega)
      rw[show ([104,116,116,112,58,47,47]:List Int).length=7 from rfl] at hp
      rw[hp]
      cases List.isPrefixOf [104,116,116,112,58,47,47] l
      · exact⟨_,_,_,rfl⟩
      · obtain⟨o1,o2,o3,h⟩:=loop 7 false (by omega)
        exact⟨o1,o2,o3,h⟩
  have x7:(Aa l).extract 0 (Int.toNat ((7:Nat):Int))=Aa (l.take 7):=Oc hB 7
  have y7:(Aa l).extract (Int.toNat ((7:Nat):Int)) l.length=Aa (l.drop 7):=Qa hB 7
  have x8:(Aa l).extract 0 8=Aa (l.take 8):=Oc hB 8
  have x8':(Aa l).extract 0 (Int.toNat ((8:Nat):Int))=Aa (l.take 8):=Oc hB 8
  have y8:(Aa l).extract (Int.toNat ((8:Nat):Int)) l.length=Aa (l.drop 8):=Qa hB 8
  have q7:=Rr (tk 7) hB7
  have q8:=Rr (tk 8) hB8
  by_cases h8:l.length>=8
  · have a1:=dT (q:=((l.length:Nat):Int)>=8) (by omega)
    have a2:=dT (q:=8<=l.length) h8
    have hp:=RL (w:=[104,116,116,112,115,58,47,47]) (l:=l) (by simp;omega)
    rw[show ([104,116,116,112,115,58,47,47]:List Int).length=8 from rfl] at hp
    rw[hp] at q8
    have a3:=dT (q:=Int.toNat ((7:Nat):Int)<=l.length) (by omega)
    have a4:=dT (q:=Int.toNat ((8:Nat):Int)<=l.length) (by omega)
    cases h1:List.isPrefixOf [104,116,116,112,115,58,47,47] l
    · rw[h1] at q8
      simp only[Bool.false_eq_true,if_false]
      obtain⟨o1,o2,o3,Pm⟩:=plain h1
      refine⟨o1,o2,o3,er.trans ?_⟩
      rw[e8]
      simp only[B0,Af,dle,a1,a2,x8,q8,sF]
      simp only[B0,l7,n7,a3,x7,q7,y7] at Pm ⊢
      exact Pm
    · rw[h1] at q8
      simp only[if_true]
      have a5:=dF (q:=((l.length:Nat):Int)<((8:Nat):Int)) (by omega)
      obtain⟨o1,o2,o3,h⟩:=loop 8 true h8
      refine⟨o1,o2,o3,er.trans ?_⟩
      rw[e8]
      simp only[B0,Af,dle,a1,a2,x8,q8,sT]
      simp only[B0,l8,n8,a5,a4,x8',q8,y8,Cw]
      exact h
  · have a1:=dF (q:=((l.length:Nat):Int)>=8) (by omega)
    have h1:List.isPrefixOf [104,116,116,112,115,58,47,47] l=false:=by
      rw[Bool.eq_false_iff,ne_eq,List.isPrefixOf_iff_prefix]
      intro h
      have:=h.length_le
      simp at this
      omega
    rw[h1]
    simp only[Bool.false_eq_true,if_false]
    obtain⟨o1,o2,o3,Pm⟩:=plain h1
    refine⟨o1,o2,o3,er.trans ?_⟩
    simp only[B0,Af,dle,a1,sF]
    by_cases h7:l.length<7
    · have a2:=dT (q:=((l.length:Nat):Int)<((7:Nat):Int)) (by omega)
      rw[a2] at Pm
      simp only[B0,l7,n7,a2] at Pm ⊢
      exact Pm
    · have a2:=dF (q:=((l.length:Nat):Int)<((7:Nat):Int)) (by omega)
      have a3:=dT (q:=Int.toNat ((7:Nat):Int)<=l.length) (by omega)
      rw[a2] at Pm
      simp only[B0,l7,n7,a2,a3,x7,q7,y7] at Pm ⊢
      exact Pm
end
end
end Go.Proofs.YtodnjibebeghjaaDoor.Pv
