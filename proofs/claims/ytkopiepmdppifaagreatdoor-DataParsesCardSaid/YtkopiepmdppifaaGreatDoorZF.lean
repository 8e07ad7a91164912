/-
  The proof of DataParses, part 6.
-/
import Derived.Test.YtkopiepmdppifaaGreatDoorZE
import Derived.Test.YtkopiepmdppifaaGreatDoorRows
set_option linter.unusedSimpArgs false
set_option linter.unusedVariables false
namespace Go.Proofs.YtkopiepmdppifaaGreatDoor.Pv
open Go.IntKind (wrap)
open Go.Proofs.Tryz (prog)
set_option maxRecDepth 1000000
noncomputable section
section
variable {xs:FuncId->Option (Al->Option Bz)}(fu d:Nat)(call:A7)
theorem Q8{p:Option (Al->Option Bz)}(fu d:Nat)(Z:ByteArray)(Y X W:Int):Ae (CP p) prog fu (d+1) 52 [.pbox [.sc (.string Z),Y,X],W]=(fun (call:A7)=>As (X==0) (some ⟨[],[[.sc (.string Z),Y,W]]⟩) (some ⟨[],[[.sc (.string Z),Y,X]]⟩)) (Ae (CP p) prog fu d):=by kernel_rfl
theorem Q0{p:Option (Al->Option Bz)}(fu d:Nat)(Y:ByteArray)(Z X:Int):Ae (CP p) prog fu (d+1) 50 [.pbox [.sc (.string Y),Z,X]]=(fun (call:A7)=>As (X != 0) (some ⟨[.sc (.int .u8 0)],[[.sc (.string Y),Z,X]]⟩) (As (decide (Z>=(↑(ByteArray.size Y):Int))) (some ⟨[.sc (.int .u8 0)],[[.sc (.string Y),Z,X]]⟩) (A6 (decide (0<=Z))<|Dk ((Array.toList (ByteArray.data Y))[Z.toNat]?) fun a=>some ⟨[.sc (.int .u8 (↑(UInt8.toNat a):Int))],[[.sc (.string Y),Z,X]]⟩))) (Ae (CP p) prog fu d):=by kernel_rfl
def Cq(Z:ByteArray)(Y X:Int)(W:Nat)(V:ByteArray)(U T:Int):Option Bz:=Ri fu call 48 Tryz.f48 [.pbox [.sc (.string Z),Y,X]] [.l] W ⟨lk [(0,.ptr 52000 0)],H4 [(52000,.st [.sc (.string V),U,T])]⟩
theorem M3(Z:ByteArray)(Y X:Int)(W:Nat)(V:ByteArray)(U T:Int):Cq fu call Z Y X (W+1) V U T=(Ah (call 50 [.pbox [.sc (.string V),U,T]]) fun a b=>Au .u8 a fun a=>Ac b fun b c=>Ac b fun b e=>Ai b fun b=>Ca .i64 e fun e f=>Au .i64 f fun f=>Af c<|As (a != 32) (As (a != 9) (As (a != 10) (As (a != 13) (some ⟨[],[[.sc (.string b),e,f]]⟩) (Ab (wrap .i64 (e+1)) fun a=>Cq fu call Z Y X W b a f)) (Ab (wrap .i64 (e+1)) fun a=>Cq fu call Z Y X W b a f)) (Ab (wrap .i64 (e+1)) fun a=>Cq fu call Z Y X W b a f)) (Ab (wrap .i64 (e+1)) fun a=>Cq fu call Z Y X W b a f)):=by kernel_rfl
theorem Py{p:Option (Al->Option Bz)}(fu d:Nat)(Z:ByteArray)(Y X:Int):Ae (CP p) prog fu (d+1) 48 [.pbox [.sc (.string Z),Y,X]]=(fun (call:A7)=>Cq fu call Z Y X fu Z Y X) (Ae (CP p) prog fu d):=by kernel_rfl
theorem O7{p:Option (Al->Option Bz)}(fu d:Nat)(Y:ByteArray)(X W Z:Int):Ae (CP p) prog fu (d+1) 49 [.pbox [.sc (.string Y),X,W],.sc (.int .u8 Z)]=(fun (call:A7)=>Ah (call 50 [.pbox [.sc (.string Y),X,W]]) fun a b=>Au .u8 a fun a=>Ac b fun b c=>Ac b fun b e=>Ai b fun b=>Ca .i64 e fun e f=>Au .i64 f fun f=>Af c<|As (a != Z) (Ah (call 52 [.pbox [.sc (.string b),e,f],(2:Int)]) fun a b=>Af a<|Ac b fun a b=>Ac a fun a c=>Ai a fun a=>Ca .i64 c fun c e=>Au .i64 e fun e=>Af b<|some ⟨[],[[.sc (.string a),c,e]]⟩) (As (Z==0) (Ah (call 52 [.pbox [.sc (.string b),e,f],(2:Int)]) fun a b=>Af a<|Ac b fun a b=>Ac a fun a c=>Ai a fun a=>Ca .i64 c fun c e=>Au .i64 e fun e=>Af b<|some ⟨[],[[.sc (.string a),c,e]]⟩) (Ab (wrap .i64 (e+1)) fun a=>some ⟨[],[[.sc (.string b),a,f]]⟩))) (Ae (CP p) prog fu d):=by kernel_rfl
def C7(Z:ByteArray)(Y X:Int)(W:Nat)(V U:Int)(T:ByteArray)(S Q:Int):Option Bz:=Ri fu call 96 Tryz.f96 [.pbox [.sc (.string Z),Y,X]] [.r,.r,.l,.r,.l] W ⟨lk [(0,.ptr 118000 0),(3,.sc (.int .i32 V)),(4,U)],H4 [(118000,.st [.sc (.string T),S,Q])]⟩
theorem Ih(X:ByteArray)(W V:Int)(U:Nat)(Z Y:Int)(T:ByteArray)(S Q:Int):C7 fu call X W V (U+1) Z Y T S Q=(As (decide (Y<4)) (Ah (call 50 [.pbox [.sc (.string T),S,Q]]) fun a b=>Au .u8 a fun a=>Ac b fun b c=>Ac b fun b e=>Ai b fun b=>Ca .i64 e fun e f=>Au .i64 f fun f=>Af c<|Fv (call 76 [.sc (.int .u8 a)]) fun c g=>Cb c fun c=>Af g<|As c (Ab (H6 .i32 Z 4) fun c=>Ab (wrap .u8 (a-48)) fun a=>Ab (wrap .i32 a) fun a=>Ab (EO .i32 c a) fun a=>Ab (wrap .i64 (e+1)) fun c=>Ab (wrap .i64 (Y+1)) fun e=>C7 fu call X W V U a e b c f) (As (decide (a>=97)) (As (decide (a<=102)) (Ab (H6 .i32 Z 4) fun c=>Ab (wrap .u8 (a-97)) fun a=>Ab (wrap .u8 (a+10)) fun a=>Ab (wrap .i32 a) fun a=>Ab (EO .i32 c a) fun a=>Ab (wrap .i64 (e+1)) fun c=>Ab (wrap .i64 (Y+1)) fun e=>C7 fu call X W V U a e b c f) (As (decide (a>=65)) (As (decide (a<=70)) (Ab (H6 .i32 Z 4) fun c=>Ab (wrap .u8 (a-65)) fun a=>Ab (wrap .u8 (a+10)) fun a=>Ab (wrap .i32 a) fun a=>Ab (EO .i32 c a) fun a=>Ab (wrap .i64 (e+1)) fun c=>Ab (wrap .i64 (Y+1)) fun e=>C7 fu call X W V U a e b c f) (Ah (call 52 [.pbox [.sc (.string b),e,f],(2:Int)]) fun a b=>Af a<|Ac b fun a b=>Ac a fun a c=>Ai a fun a=>Ca .i64 c fun c e=>Au .i64 e fun e=>Af b<|some ⟨[.sc (.int .i32 0)],[[.sc (.string a),c,e]]⟩)) (Ah (call 52 [.pbox [.sc (.string b),e,f],(2:Int)]) fun a b=>Af a<|Ac b fun a b=>Ac a fun a c=>Ai a fun a=>Ca .i64 c fun c e=>Au .i64 e fun e=>Af b<|some ⟨[.sc (.int .i32 0)],[[.sc (.string a),c,e]]⟩))) (As (decide (a>=65)) (As (decide (a<=70)) (Ab (H6 .i32 Z 4) fun c=>Ab (wrap .u8 (a-65)) fun a=>Ab (wrap .u8 (a+10)) fun a=>Ab (wrap .i32 a) fun a=>Ab (EO .i32 c a) fun a=>Ab (wrap .i64 (e+1)) fun c=>Ab (wrap .i64 (Y+1)) fun e=>C7 fu call X W V U a e b c f) (Ah (call 52 [.pbox [.sc (.string b),e,f],(2:Int)]) fun a b=>Af a<|Ac b fun a b=>Ac a fun a c=>Ai a fun a=>Ca .i64 c fun c e=>Au .i64 e fun e=>Af b<|some ⟨[.sc (.int .i32 0)],[[.sc (.string a),c,e]]⟩)) (Ah (call 52 [.pbox [.sc (.string b),e,f],(2:Int)]) fun a b=>Af a<|Ac b fun a b=>Ac a fun a c=>Ai a fun a=>Ca .i64 c fun c e=>Au .i64 e fun e=>Af b<|some ⟨[.sc (.int .i32 0)],[[.sc (.string a),c,e]]⟩)))) (some ⟨[.sc (.int .i32 Z)],[[.sc (.string T),S,Q]]⟩)):=by kernel_rfl
theorem Sb{p:Option (Al->Option Bz)}(fu d:Nat)(Z:ByteArray)(Y X:Int):Ae (CP p) prog fu (d+1) 96 [.pbox [.sc (.string Z),Y,X]]=(fun (call:A7)=>C7 fu call Z Y X fu 0 0 Z Y X) (Ae (CP p) prog fu d):=by kernel_rfl
theorem Ok{p:Option (Al->Option Bz)}(fu d:Nat)(Z:ByteArray)(Y X:Int):Ae (CP p) prog fu (d+1) 70 [.pbox [.sc (.string Z),Y,X]]=(fun (call:A7)=>Ah (call 50 [.pbox [.sc (.string Z),Y,X]]) fun a b=>Au .u8 a fun a=>Ac b fun b c=>Ac b fun b e=>Ai b fun b=>Ca .i64 e fun e f=>Au .i64 f fun f=>Af c<|Ab (wrap .i64 (e+1)) fun c=>As (a==34) (some ⟨[.sc (.string (ByteArray.mk (List.toArray ((fun x=>Nat.toUInt8 a.toNat::x) []))))],[[.sc (.string b),c,f]]⟩) (As (a==92) (some ⟨[.sc (.string (ByteArray.mk (List.toArray ((fun x=>Nat.toUInt8 a.toNat::x) []))))],[[.sc (.string b),c,f]]⟩) (As (a==47) (some ⟨[.sc (.string (ByteArray.mk (List.toArray ((fun x=>Nat.toUInt8 a.toNat::x) []))))],[[.sc (.string b),c,f]]⟩) (As (a==98) (some ⟨[.sc (.string (ByteArray.mk #[8]))],[[.sc (.string b),c,f]]⟩) (As (a==102) (some ⟨[.sc (.string (ByteArray.mk #[12]))],[[.sc (.string b),c,f]]⟩) (As (a==110) (some ⟨[.sc (.string (ByteArray.mk #[10]))],[[.sc (.string b),c,f]]⟩) (As (a==114) (some ⟨[.sc (.string (ByteArray.mk #[13]))],[[.sc (.string b),c,f]]⟩) (As (a==116) (some ⟨[.sc (.string (ByteArray.mk #[9]))],[[.sc (.string b),c,f]]⟩) (As (a==117) (Ah (call 96 [.pbox [.sc (.string b),c,f]]) fun a b=>Au .i32 a fun a=>Ac b fun b c=>Ac b fun b e=>Ai b fun b=>Ca .i64 e fun e f=>Au .i64 f fun f=>Af c<|As (decide (a>=56320)) (As (decide (a<=57343)) (Ah (call 52 [.pbox [.sc (.string b),e,f],(2:Int)]) fun b c=>Af b<|Ac c fun b c=>Ac b fun b e=>Ai b fun b=>Ca .i64 e fun e f=>Au .i64 f fun f=>Af c<|As (decide (a>=55296)) (As (decide (a<=56319)) (Ah (call 49 [.pbox [.sc (.string b),e,f],.sc (.int .u8 92)]) fun b c=>Af b<|Ac c fun b c=>Ac b fun b e=>Ai b fun b=>Ca .i64 e fun e f=>Au .i64 f fun f=>Af c<|Ah (call 49 [.pbox [.sc (.string b),e,f],.sc (.int .u8 117)]) fun b c=>Af b<|Ac c fun b c=>Ac b fun b e=>Ai b fun b=>Ca .i64 e fun e f=>Au .i64 f fun f=>Af c<|Ah (call 96 [.pbox [.sc (.string b),e,f]]) fun b c=>Au .i32 b fun b=>Ac c fun c e=>Ac c fun c f=>Ai c fun c=>Ca .i64 f fun f g=>Au .i64 g fun g=>Af e<|As (decide (b<56320)) (Ah (call 52 [.pbox [.sc (.string c),f,g],(2:Int)]) fun a b=>Af a<|Ac b fun a b=>Ac a fun a c=>Ai a fun a=>Ca .i64 c fun c e=>Au .i64 e fun e=>Af b<|some ⟨[.sc (.string (ByteArray.mk #[]))],[[.sc (.string a),c,e]]⟩) (As (decide (b>57343)) (Ah (call 52 [.pbox [.sc (.string c),f,g],(2:Int)]) fun a b=>Af a<|Ac b fun a b=>Ac a fun a c=>Ai a fun a=>Ca .i64 c fun c e=>Au .i64 e fun e=>Af b<|some ⟨[.sc (.string (ByteArray.mk #[]))],[[.sc (.string a),c,e]]⟩) (Ab (wrap .i32 (a-55296)) fun a=>Ab (H6 .i32 a 10) fun a=>Ab (wrap .i32 (65536+a)) fun a=>Ab (wrap .i32 (b-56320)) fun b=>Ab (wrap .i32 (a+b)) fun a=>Ab (runesBytes ((fun x=>a::x) [])) fun a=>some ⟨[.sc (.string a)],[[.sc (.string c),f,g]]⟩))) (Ab (runesBytes ((fun x=>a::x) [])) fun a=>some ⟨[.sc (.string a)],[[.sc (.string b),e,f]]⟩)) (Ab (runesBytes ((fun x=>a::x) [])) fun a=>some ⟨[.sc (.string a)],[[.sc (.string b),e,f]]⟩)) (As (decide (a>=55296)) (As (decide (a<=56319)) (Ah (call 49 [.pbox [.sc (.string b),e,f],.sc (.int .u8 92)]) fun b c=>Af b<|Ac c fun b c=>Ac b fun b e=>Ai b fun b=>Ca .i64 e fun e f=>Au .i64 f fun f=>Af c<|Ah (call 49 [.pbox [.sc (.string b),e,f],.sc (.int .u8 117)]) fun b c=>Af b<|Ac c fun b c=>Ac b fun b e=>Ai b fun b=>Ca .i64 e fun e f=>Au .i64 f fun f=>Af c<|Ah (call 96 [.pbox [.sc (.string b),e,f]]) fun b c=>Au .i32 b fun b=>Ac c fun c e=>Ac c fun c f=>Ai c fun c=>Ca .i64 f fun f g=>Au .i64 g fun g=>Af e<|As (decide (b<56320)) (Ah (call 52 [.pbox [.sc (.string c),f,g],(2:Int)]) fun a b=>Af a<|Ac b fun a b=>Ac a fun a c=>Ai a fun a=>Ca .i64 c fun c e=>Au .i64 e fun e=>Af b<|some ⟨[.sc (.string (ByteArray.mk #[]))],[[.sc (.string a),c,e]]⟩) (As (decide (b>57343)) (Ah (call 52 [.pbox [.sc (.string c),f,g],(2:Int)]) fun a b=>Af a<|Ac b fun a b=>Ac a fun a c=>Ai a fun a=>Ca .i64 c fun c e=>Au .i64 e fun e=>Af b<|some ⟨[.sc (.string (ByteArray.mk #[]))],[[.sc (.string a),c,e]]⟩) (Ab (wrap .i32 (a-55296)) fun a=>Ab (H6 .i32 a 10) fun a=>Ab (wrap .i32 (65536+a)) fun a=>Ab (wrap .i32 (b-56320)) fun b=>Ab (wrap .i32 (a+b)) fun a=>Ab (runesBytes ((fun x=>a::x) [])) fun a=>some ⟨[.sc (.string a)],[[.sc (.string c),f,g]]⟩))) (Ab (runesBytes ((fun x=>a::x) [])) fun a=>some ⟨[.sc (.string a)],[[.sc (.string b),e,f]]⟩)) (Ab (runesBytes ((fun x=>a::x) [])) fun a=>some ⟨[.sc (.string a)],[[.sc (.string b),e,f]]⟩))) (As (decide (a>=55296)) (As (decide (a<=56319)) (Ah (call 49 [.pbox [.sc (.string b),e,f],.sc (.int .u8 92)]) fun b c=>Af b<|Ac c fun b c=>Ac b fun b e=>Ai b fun b=>Ca .i64 e fun e f=>Au .i64 f fun f=>Af c<|Ah (call 49 [.pbox [.sc (.string b),e,f],.sc (.int .u8 117)]) fun b c=>Af b<|Ac c fun b c=>Ac b fun b e=>Ai b fun b=>Ca .i64 e fun e f=>Au .i64 f fun f=>Af c<|Ah (call 96 [.pbox [.sc (.string b),e,f]]) fun b c=>Au .i32 b fun b=>Ac c fun c e=>Ac c fun c f=>Ai c fun c=>Ca .i64 f fun f g=>Au .i64 g fun g=>Af e<|As (decide (b<56320)) (Ah (call 52 [.pbox [.sc (.string c),f,g],(2:Int)]) fun a b=>Af a<|Ac b fun a b=>Ac a fun a c=>Ai a fun a=>Ca .i64 c fun c e=>Au .i64 e fun e=>Af b<|some ⟨[.sc (.string (ByteArray.mk #[]))],[[.sc (.string a),c,e]]⟩) (As (decide (b>57343)) (Ah (call 52 [.pbox [.sc (.string c),f,g],(2:Int)]) fun a b=>Af a<|Ac b fun a b=>Ac a fun a c=>Ai a fun a=>Ca .i64 c fun c e=>Au .i64 e fun e=>Af b<|some ⟨[.sc (.string (ByteArray.mk #[]))],[[.sc (.string a),c,e]]⟩) (Ab (wrap .i32 (a-55296)) fun a=>Ab (H6 .i32 a 10) fun a=>Ab (wrap .i32 (65536+a)) fun a=>Ab (wrap .i32 (b-56320)) fun b=>Ab (wrap .i32 (a+b)) fun a=>Ab (runesBytes ((fun x=>a::x) [])) fun a=>some ⟨[.sc (.string a)],[[.sc (.string c),f,g]]⟩))) (Ab (runesBytes ((fun x=>a::x) [])) fun a=>some ⟨[.sc (.string a)],[[.sc (.string b),e,f]]⟩)) (Ab (runesBytes ((fun x=>a::x) [])) fun a=>some ⟨[.sc (.string a)],[[.sc (.string b),e,f]]⟩))) (Ah (call 52 [.pbox [.sc (.string b),c,f],(2:Int)]) fun a b=>Af a<|Ac b fun a b=>Ac a fun a c=>Ai a fun a=>Ca .i64 c fun c e=>Au .i64 e fun e=>Af b<|some ⟨[.sc (.string (ByteArray.mk #[]))],[[.sc (.string a),c,e]]⟩)))))))))) (Ae (CP p) prog fu d):=by kernel_rfl
def Dj(Z:ByteArray)(Y X:Int)(W:Nat)(V U:ByteArray)(T S:Int):Option Bz:=Ri fu call 51 Tryz.f51 [.pbox [.sc (.string Z),Y,X]] [.r,.r,.r,.l,.l] W ⟨lk [(0,.ptr 134000 0),(3,.sc (.string V))],H4 [(134000,.st [.sc (.string U),T,S])]⟩
theorem F2(V:ByteArray)(U T:Int)(S:Nat)(W Z:ByteArray)(Y X:Int):Dj fu call V U T (S+1) W Z Y X=(As (X==0) (As (decide (Y>=(↑(ByteArray.size Z):Int))) (Ah (call 52 [.pbox [.sc (.string Z),Y,X],(2:Int)]) fun a b=>Af a<|Ac b fun a b=>Ac a fun a c=>Ai a fun a=>Ca .i64 c fun c e=>Au .i64 e fun e=>Af b<|some ⟨[.sc (.string (ByteArray.mk #[]))],[[.sc (.string a),c,e]]⟩) (A6 (decide (0<=Y))<|Dk ((Array.toList (ByteArray.data Z))[Y.toNat]?) fun a=>As (decide ((↑(UInt8.toNat a):Int)<32)) (Ah (call 52 [.pbox [.sc (.string Z),Y,X],(2:Int)]) fun a b=>Af a<|Ac b fun a b=>Ac a fun a c=>Ai a fun a=>Ca .i64 c fun c e=>Au .i64 e fun e=>Af b<|some ⟨[.sc (.string (ByteArray.mk #[]))],[[.sc (.string a),c,e]]⟩) (A6 (decide (0<=Y))<|Dk ((Array.toList (ByteArray.data Z))[Y.toNat]?) fun a=>Ab (wrap .i64 (Y+1)) fun b=>As ((↑(UInt8.toNat a):Int)==34) (some ⟨[.sc (.string W)],[[.sc (.string Z),b,X]]⟩) (As ((↑(UInt8.toNat a):Int)==92) (Ah (call 70 [.pbox [.sc (.string Z),b,X]]) fun a b=>Ac a fun a c=>Ai a fun a=>Af c<|Ac b fun b c=>Ac b fun b e=>Ai b fun b=>Ca .i64 e fun e f=>Au .i64 f fun f=>Af c<|A6 (decide (ByteArray.size W+ByteArray.size a<=9223372036854775807))<|Ab (W++a) fun a=>Dj fu call V U T S a b e f) (A6 (decide (ByteArray.size W+ByteArray.size (ByteArray.mk (List.toArray ((fun x=>Nat.toUInt8 (Int.toNat (↑(UInt8.toNat a):Int))::x) [])))<=9223372036854775807))<|Ab (W++ByteArray.mk (List.toArray ((fun x=>Nat.toUInt8 (Int.toNat (↑(UInt8.toNat a):Int))::x) []))) fun a=>Dj fu call V U T S a Z b X))))) (some ⟨[.sc (.string (ByteArray.mk #[]))],[[.sc (.string Z),Y,X]]⟩)):=by kernel_rfl
theorem Q9{p:Option (Al->Option Bz)}(fu d:Nat)(Z:ByteArray)(Y X:Int):Ae (CP p) prog fu (d+1) 51 [.pbox [.sc (.string Z),Y,X]]=(fun (call:A7)=>Ah (call 49 [.pbox [.sc (.string Z),Y,X],.sc (.int .u8 34)]) fun a b=>Af a<|Ac b fun a b=>Ac a fun a c=>Ai a fun a=>Ca .i64 c fun c e=>Au .i64 e fun e=>Af b<|Dj fu call Z Y X fu (ByteArray.mk #[]) a c e) (Ae (CP p) prog fu d):=by kernel_rfl
def E8(Z:ByteArray)(Y X:Int)(W:ByteArray)(V:Nat)(U:ByteArray)(T:Int)(S:ByteArray)(Q P:Int):Option Bz:=Ri fu call 72 Tryz.f72 [.pbox [.sc (.string Z),Y,X],.sc (.string W)] [.r,.l] V ⟨lk [(0,.ptr 32000 0),(1,.sc (.string U)),(4,T)],H4 [(32000,.st [.sc (.string S),Q,P])]⟩
theorem H8(U:ByteArray)(T S:Int)(Q:ByteArray)(P:Nat)(Y:ByteArray)(Z:Int)(X:ByteArray)(W V:Int):E8 fu call U T S Q (P+1) Y Z X W V=(As (decide (Z<(↑(ByteArray.size Y):Int))) (A6 (decide (0<=Z))<|Dk ((Array.toList (ByteArray.data Y))[Z.toNat]?) fun a=>Ah (call 49 [.pbox [.sc (.string X),W,V],.sc (.int .u8 (↑(UInt8.toNat a):Int))]) fun a b=>Af a<|Ac b fun a b=>Ac a fun a c=>Ai a fun a=>Ca .i64 c fun c e=>Au .i64 e fun e=>Af b<|Ab (wrap .i64 (Z+1)) fun b=>E8 fu call U T S Q P Y b a c e) (some ⟨[],[[.sc (.string X),W,V]]⟩)):=by kernel_rfl
theorem Q7{p:Option (Al->Option Bz)}(fu d:Nat)(Z:ByteArray)(Y X:Int)(W:ByteArray):Ae (CP p) prog fu (d+1) 72 [.pbox [.sc (.string Z),Y,X],.sc (.string W)]=(fun (call:A7)=>E8 fu call Z Y X W fu W 0 Z Y X) (Ae (CP p) prog fu d):=by kernel_rfl
def Du(Z:ByteArray)(Y X:Int)(W:Nat)(V:ByteArray)(U T:Int):Option Bz:=Ri fu call 97 Tryz.f97 [.pbox [.sc (.string Z),Y,X]] [.r,.l] W ⟨lk [(0,.ptr 36000 0)],H4 [(36000,.st [.sc (.string V),U,T])]⟩
theorem Mc(Z:ByteArray)(Y X:Int)(W:Nat)(V:ByteArray)(U T:Int):Du fu call Z Y X (W+1) V U T=(Ah (call 50 [.pbox [.sc (.string V),U,T]]) fun a b=>Au .u8 a fun a=>Ac b fun b c=>Ac b fun b e=>Ai b fun b=>Ca .i64 e fun e f=>Au .i64 f fun f=>Af c<|Fv (call 76 [.sc (.int .u8 a)]) fun a c=>Cb a fun a=>Af c<|As a (Ab (wrap .i64 (e+1)) fun a=>Du fu call Z Y X W b a f) (some ⟨[],[[.sc (.string b),e,f]]⟩)):=by kernel_rfl
theorem Ps{p:Option (Al->Option Bz)}(fu d:Nat)(Z:ByteArray)(Y X:Int):Ae (CP p) prog fu (d+1) 97 [.pbox [.sc (.string Z),Y,X]]=(fun (call:A7)=>Ah (call 50 [.pbox [.sc (.string Z),Y,X]]) fun a b=>Au .u8 a fun a=>Ac b fun b c=>Ac b fun b e=>Ai b fun b=>Ca .i64 e fun e f=>Au .i64 f fun f=>Af c<|Fv (call 76 [.sc (.int .u8 a)]) fun a c=>Cb a fun a=>Af c<|As (!a) (Ah (call 52 [.pbox [.sc (.string b),e,f],(2:Int)]) fun a b=>Af a<|Ac b fun a b=>Ac a fun a c=>Ai a fun a=>Ca .i64 c fun c e=>Au .i64 e fun e=>Af b<|Du fu call Z Y X fu a c e) (Du fu call Z Y X fu b e f)) (Ae (CP p) prog fu d):=by kernel_rfl
theorem Oy{p:Option (Al->Option Bz)}(fu d:Nat)(Z:ByteArray)(Y X:Int):Ae (CP p) prog fu (d+1) 73 [.pbox [.sc (.string Z),Y,X]]=(fun (call:A7)=>Ah (call 50 [.pbox [.sc (.string Z),Y,X]]) fun a b=>Au .u8 a fun a=>Ac b fun b c=>Ac b fun b e=>Ai b fun b=>Ca .i64 e fun e f=>Au .i64 f fun f=>Af c<|As (a==45) (Ab (wrap .i64 (e+1)) fun a=>Ah (call 50 [.pbox [.sc (.string b),a,f]]) fun a b=>Au .u8 a fun a=>Ac b fun b c=>Ac b fun b e=>Ai b fun b=>Ca .i64 e fun e f=>Au .i64 f fun f=>Af c<|As (a==48) (Ab (wrap .i64 (e+1)) fun a=>Ah (call 50 [.pbox [.sc (.string b),a,f]]) fun a b=>Au .u8 a fun a=>Ac b fun b c=>Ac b fun b e=>Ai b fun b=>Ca .i64 e fun e f=>Au .i64 f fun f=>Af c<|As (a==46) (Ab (wrap .i64 (e+1)) fun a=>Ah (call 97 [.pbox [.sc (.string b),a,f]]) fun a b=>Af a<|Ac b fun a b=>Ac a fun a c=>Ai a fun a=>Ca .i64 c fun c e=>Au .i64 e fun e=>Af b<|Ah (call 50 [.pbox [.sc (.string a),c,e]]) fun a b=>Au .u8 a fun a=>Ac b fun b c=>Ac b fun b e=>Ai b fun b=>Ca .i64 e fun e f=>Au .i64 f fun f=>Af c<|As (a==101) (Ab (wrap .i64 (e+1)) fun a=>Ah (call 50 [.pbox [.sc (.string b),a,f]]) fun a b=>Au .u8 a fun a=>Ac b fun b c=>Ac b fun b e=>Ai b fun b=>Ca .i64 e fun e f=>Au .i64 f fun f=>Af c<|As (a==43) (Ab (wrap .i64 (e+1)) fun a=>Ah (call 97 [.pbox [.sc (.string b),a,f]]) fun a b=>Af a<|Ac b fun a b=>Ac a fun a c=>Ai a fun a=>Ca .i64 c fun c e=>Au .i64 e fun e=>Af b<|some ⟨[],[[.sc (.string a),c,e]]⟩) (As (a==45) (Ab (wrap .i64 (e+1)) fun a=>Ah (call 97 [.pbox [.sc (.string b),a,f]]) fun a b=>Af a<|Ac b fun a b=>Ac a fun a c=>Ai a fun a=>Ca .i64 c fun c e=>Au .i64 e fun e=>Af b<|some ⟨[],[[.sc (.string a),c,e]]⟩) (Ah (call 97 [.pbox [.sc (.string b),e,f]]) fun a b=>Af a<|Ac b fun a b=>Ac a fun a c=>Ai a fun a=>Ca .i64 c fun c e=>Au .i64 e fun e=>Af b<|some ⟨[],[[.sc (.string a),c,e]]⟩))) (As (a==69) (Ab (wrap .i64 (e+1)) fun a=>Ah (call 50 [.pbox [.sc (.string b),a,f]]) fun a b=>Au .u8 a fun a=>Ac b fun b c=>Ac b fun b e=>Ai b fun b=>Ca .i64 e fun e f=>Au .i64 f fun f=>Af c<|As (a==43) (Ab (wrap .i64 (e+1)) fun a=>Ah (call 97 [.pbox [.sc (.string b),a,f]]) fun a b=>Af a<|Ac b fun a b=>Ac a fun a c=>Ai a fun a=>Ca .i64 c fun c e=>Au .i64 e fun e=>Af b<|some ⟨[],[[.sc (.string a),c,e]]⟩) (As (a==45) (Ab (wrap .i64 (e+1)) fun a=>Ah (call 97 [.pbox [.sc (.string b),a,f]]) fun a b=>Af a<|Ac b fun a b=>Ac a fun a c=>Ai a fun a=>Ca .i64 c fun c e=>Au .i64 e fun e=>Af b<|some ⟨[],[[.sc (.string a),c,e]]⟩) (Ah (call 97 [.pbox [.sc (.string b),e,f]]) fun a b=>Af a<|Ac b fun a b=>Ac a fun a c=>Ai a fun a=>Ca .i64 c fun c e=>Au .i64 e fun e=>Af b<|some ⟨[],[[.sc (.string a),c,e]]⟩))) (some ⟨[],[[.sc (.string b),e,f]]⟩))) (Ah (call 50 [.pbox [.sc (.string b),e,f]]) fun a b=>Au .u8 a fun a=>Ac b fun b c=>Ac b fun b e=>Ai b fun b=>Ca .i64 e fun e f=>Au .i64 f fun f=>Af c<|As (a==101) (Ab (wrap .i64 (e+1)) fun a=>Ah (call 50 [.pbox [.sc (.string b),a,f]]) fun a b=>Au .u8 a fun a=>Ac b fun b c=>Ac b fun b e=>Ai b fun b=>Ca .i64 e fun e f=>Au .i64 f fun f=>Af c<|As (a==43) (Ab (wrap .i64 (e+1)) fun a=>Ah (call 97 [.pbox [.sc (.string b),a,f]]) fun a b=>Af a<|Ac b fun a b=>Ac a fun a c=>Ai a fun a=>Ca .i64 c fun c e=>Au .i64 e fun e=>Af b<|some ⟨[],[[.sc (.string a),c,e]]⟩) (As (a==45) (Ab (wrap .i64 (e+1)) fun a=>Ah (call 97 [.pbox [.sc (.string b),a,f]]) fun a b=>Af a<|Ac b fun a b=>Ac a fun a c=>Ai a fun a=>Ca .i64 c fun c e=>Au .i64 e fun e=>Af b<|some ⟨[],[[.sc (.string a),c,e]]⟩) (Ah (call 97 [.pbox [.sc (.string b),e,f]]) fun a b=>Af a<|Ac b fun a b=>Ac a fun a c=>Ai a fun a=>Ca .i64 c fun c e=>Au .i64 e fun e=>Af b<|some ⟨[],[[.sc (.string a),c,e]]⟩))) (As (a==69) (Ab (wrap .i64 (e+1)) fun a=>Ah (call 50 [.pbox [.sc (.string b),a,f]]) fun a b=>Au .u8 a fun a=>Ac b fun b c=>Ac b fun b e=>Ai b fun b=>Ca .i64 e fun e f=>Au .i64 f fun f=>Af c<|As (a==43) (Ab (wrap .i64 (e+1)) fun a=>Ah (call 97 [.pbox [.sc (.string b),a,f]]) fun a b=>Af a<|Ac b fun a b=>Ac a fun a c=>Ai a fun a=>Ca .i64 c fun c e=>Au .i64 e fun e=>Af b<|some ⟨[],[[.sc (.string a),c,e]]⟩) (As (a==45) (Ab (wrap .i64 (e+1)) fun a=>Ah (call 97 [.pbox [.sc (.string b),a,f]]) fun a b=>Af a<|Ac b fun a b=>Ac a fun a c=>Ai a fun a=>Ca .i64 c fun c e=>Au .i64 e fun e=>Af b<|some ⟨[],[[.sc (.string a),c,e]]⟩) (Ah (call 97 [.pbox [.sc (.string b),e,f]]) fun a b=>Af a<|Ac b fun a b=>Ac a fun a c=>Ai a fun a=>Ca .i64 c fun c e=>Au .i64 e fun e=>Af b<|some ⟨[],[[.sc (.string a),c,e]]⟩))) (some ⟨[],[[.sc (.string b),e,f]]⟩)))) (Ah (call 97 [.pbox [.sc (.string b),e,f]]) fun a b=>Af a<|Ac b fun a b=>Ac a fun a c=>Ai a fun a=>Ca .i64 c fun c e=>Au .i64 e fun e=>Af b<|Ah (call 50 [.pbox [.sc (.string a),c,e]]) fun a b=>Au .u8 a fun a=>Ac b fun b c=>Ac b fun b e=>Ai b fun b=>Ca .i64 e fun e f=>Au .i64 f fun f=>Af c<|As (a==46) (Ab (wrap .i64 (e+1)) fun a=>Ah (call 97 [.pbox [.sc (.string b),a,f]]) fun a b=>Af a<|Ac b fun a b=>Ac a fun a c=>Ai a fun a=>Ca .i64 c fun c e=>Au .i64 e fun e=>Af b<|Ah (call 50 [.pbox [.sc (.string a),c,e]]) fun a b=>Au .u8 a fun a=>Ac b fun b c=>Ac b fun b e=>Ai b fun b=>Ca .i64 e fun e f=>Au .i64 f fun f=>Af c<|As (a==101) (Ab (wrap .i64 (e+1)) fun a=>Ah (call 50 [.pbox [.sc (.string b),a,f]]) fun a b=>Au .u8 a fun a=>Ac b fun b c=>Ac b fun b e=>Ai b fun b=>Ca .i64 e fun e f=>Au .i64 f fun f=>Af c<|As (a==43) (Ab (wrap .i64 (e+1)) fun a=>Ah (call 97 [.pbox [.sc (.string b),a,f]]) fun a b=>Af a<|Ac b fun a b=>Ac a fun a c=>Ai a fun a=>Ca .i64 c fun c e=>Au .i64 e fun e=>Af b<|some ⟨[],[[.sc (.string a),c,e]]⟩) (As (a==45) (Ab (wrap .i64 (e+1)) fun a=>Ah (call 97 [.pbox [.sc (.string b),a,f]]) fun a b=>Af a<|Ac b fun a b=>Ac a fun a c=>Ai a fun a=>Ca .i64 c fun c e=>Au .i64 e fun e=>Af b<|some ⟨[],[[.sc (.string a),c,e]]⟩) (Ah (call 97 [.pbox [.sc (.string b),e,f]]) fun a b=>Af a<|Ac b fun a b=>Ac a fun a c=>Ai a fun a=>Ca .i64 c fun c e=>Au .i64 e fun e=>Af b<|some ⟨[],[[.sc (.string a),c,e]]⟩))) (As (a==69) (Ab (wrap .i64 (e+1)) fun a=>Ah (call 50 [.pbox [.sc (.string b),a,f]]) fun a b=>Au .u8 a fun a=>Ac b fun b c=>Ac b fun b e=>Ai b fun b=>Ca .i64 e fun e f=>Au .i64 f fun f=>Af c<|As (a==43) (Ab (wrap .i64 (e+1)) fun a=>Ah (call 97 [.pbox [.sc (.string b),a,f]]) fun a b=>Af a<|Ac b fun a b=>Ac a fun a c=>Ai a fun a=>Ca .i64 c fun c e=>Au .i64 e fun e=>Af b<|some ⟨[],[[.sc (.string a),c,e]]⟩) (As (a==45) (Ab (wrap .i64 (e+1)) fun a=>Ah (call 97 [.pbox [.sc (.string b),a,f]]) fun a b=>Af a<|Ac b fun a b=>Ac a fun a c=>Ai a fun a=>Ca .i64 c fun c e=>Au .i64 e fun e=>Af b<|some ⟨[],[[.sc (.string a),c,e]]⟩) (Ah (call 97 [.pbox [.sc (.string b),e,f]]) fun a b=>Af a<|Ac b fun a b=>Ac a fun a c=>Ai a fun a=>Ca .i64 c fun c e=>Au .i64 e fun e=>Af b<|some ⟨[],[[.sc (.string a),c,e]]⟩))) (some ⟨[],[[.sc (.string b),e,f]]⟩))) (Ah (call 50 [.pbox [.sc (.string b),e,f]]) fun a b=>Au .u8 a fun a=>Ac b fun b c=>Ac b fun b e=>Ai b fun b=>Ca .i64 e fun e f=>Au .i64 f fun f=>Af c<|As (a==101) (Ab (wrap .i64 (e+1)) fun a=>Ah (call 50 [.pbox [.sc (.string b),a,f]]) fun a b=>Au .u8 a fun a=>Ac b fun b c=>Ac b fun b e=>Ai b fun b=>Ca .i64 e fun e f=>Au .i64 f fun f=>Af c<|As (a==43) (Ab (wrap .i64 (e+1)) fun a=>Ah (call 97 [.pbox [.sc (.string b),a,f]]) fun a b=>Af a<|Ac b fun a b=>Ac a fun a c=>Ai a fun a=>Ca .i64 c fun c e=>Au .i64 e fun e=>Af b<|some ⟨[],[[.sc (.string a),c,e]]⟩) (As (a==45) (Ab (wrap .i64 (e+1)) fun a=>Ah (call 97 [.pbox [.sc (.string b),a,f]]) fun a b=>Af a<|Ac b fun a b=>Ac a fun a c=>Ai a fun a=>Ca .i64 c fun c e=>Au .i64 e fun e=>Af b<|some ⟨[],[[.sc (.string a),c,e]]⟩) (Ah (call 97 [.pbox [.sc (.string b),e,f]]) fun a b=>Af a<|Ac b fun a b=>Ac a fun a c=>Ai a fun a=>Ca .i64 c fun c e=>Au .i64 e fun e=>Af b<|some ⟨[],[[.sc (.string a),c,e]]⟩))) (As (a==69) (Ab (wrap .i64 (e+1)) fun a=>Ah (call 50 [.pbox [.sc (.string b),a,f]]) fun a b=>Au .u8 a fun a=>Ac b fun b c=>Ac b fun b e=>Ai b fun b=>Ca .i64 e fun e f=>Au .i64 f fun f=>Af c<|As (a==43) (Ab (wrap .i64 (e+1)) fun a=>Ah (call 97 [.pbox [.sc (.string b),a,f]]) fun a b=>Af a<|Ac b fun a b=>Ac a fun a c=>Ai a fun a=>Ca .i64 c fun c e=>Au .i64 e fun e=>Af b<|some ⟨[],[[.sc (.string a),c,e]]⟩) (As (a==45) (Ab (wrap .i64 (e+1)) fun a=>Ah (call 97 [.pbox [.sc (.string b),a,f]]) fun a b=>Af a<|Ac b fun a b=>Ac a fun a c=>Ai a fun a=>Ca .i64 c fun c e=>Au .i64 e fun e=>Af b<|some ⟨[],[[.sc (.string a),c,e]]⟩) (Ah (call 97 [.pbox [.sc (.string b),e,f]]) fun a b=>Af a<|Ac b fun a b=>Ac a fun a c=>Ai a fun a=>Ca .i64 c fun c e=>Au .i64 e fun e=>Af b<|some ⟨[],[[.sc (.string a),c,e]]⟩))) (some ⟨[],[[.sc (.string b),e,f]]⟩))))) (Ah (call 50 [.pbox [.sc (.string b),e,f]]) fun a b=>Au .u8 a fun a=>Ac b fun b c=>Ac b fun b e=>Ai b fun b=>Ca .i64 e fun e f=>Au .i64 f fun f=>Af c<|As (a==48) (Ab (wrap .i64 (e+1)) fun a=>Ah (call 50 [.pbox [.sc (.string b),a,f]]) fun a b=>Au .u8 a fun a=>Ac b fun b c=>Ac b fun b e=>Ai b fun b=>Ca .i64 e fun e f=>Au .i64 f fun f=>Af c<|As (a==46) (Ab (wrap .i64 (e+1)) fun a=>Ah (call 97 [.pbox [.sc (.string b),a,f]]) fun a b=>Af a<|Ac b fun a b=>Ac a fun a c=>Ai a fun a=>Ca .i64 c fun c e=>Au .i64 e fun e=>Af b<|Ah (call 50 [.pbox [.sc (.string a),c,e]]) fun a b=>Au .u8 a fun a=>Ac b fun b c=>Ac b fun b e=>Ai b fun b=>Ca .i64 e fun e f=>Au .i64 f fun f=>Af c<|As (a==101) (Ab (wrap .i64 (e+1)) fun a=>Ah (call 50 [.pbox [.sc (.string b),a,f]]) fun a b=>Au .u8 a fun a=>Ac b fun b c=>Ac b fun b e=>Ai b fun b=>Ca .i64 e fun e f=>Au .i64 f fun f=>Af c<|As (a==43) (Ab (wrap .i64 (e+1)) fun a=>Ah (call 97 [.pbox [.sc (.string b),a,f]]) fun a b=>Af a<|Ac b fun a b=>Ac a fun a c=>Ai a fun a=>Ca .i64 c fun c e=>Au .i64 e fun e=>Af b<|some ⟨[],[[.sc (.string a),c,e]]⟩) (As (a==45) (Ab (wrap .i64 (e+1)) fun a=>Ah (call 97 [.pbox [.sc (.string b),a,f]]) fun a b=>Af a<|Ac b fun a b=>Ac a fun a c=>Ai a fun a=>Ca .i64 c fun c e=>Au .i64 e fun e=>Af b<|some ⟨[],[[.sc (.string a),c,e]]⟩) (Ah (call 97 [.pbox [.sc (.string b),e,f]]) fun a b=>Af a<|Ac b fun a b=>Ac a fun a c=>Ai a fun a=>Ca .i64 c fun c e=>Au .i64 e fun e=>Af b<|some ⟨[],[[.sc (.string a),c,e]]⟩))) (As (a==69) (Ab (wrap .i64 (e+1)) fun a=>Ah (call 50 [.pbox [.sc (.string b),a,f]]) fun a b=>Au .u8 a fun a=>Ac b fun b c=>Ac b fun b e=>Ai b fun b=>Ca .i64 e fun e f=>Au .i64 f fun f=>Af c<|As (a==43) (Ab (wrap .i64 (e+1)) fun a=>Ah (call 97 [.pbox [.sc (.string b),a,f]]) fun a b=>Af a<|Ac b fun a b=>Ac a fun a c=>Ai a fun a=>Ca .i64 c fun c e=>Au .i64 e fun e=>Af b<|some ⟨[],[[.sc (.string a),c,e]]⟩) (As (a==45) (Ab (wrap .i64 (e+1)) fun a=>Ah (call 97 [.pbox [.sc (.string b),a,f]]) fun a b=>Af a<|Ac b fun a b=>Ac a fun a c=>Ai a fun a=>Ca .i64 c fun c e=>Au .i64 e fun e=>Af b<|some ⟨[],[[.sc (.string a),c,e]]⟩) (Ah (call 97 [.pbox [.sc (.string b),e,f]]) fun a b=>Af a<|Ac b fun a b=>Ac a fun a c=>Ai a fun a=>Ca .i64 c fun c e=>Au .i64 e fun e=>Af b<|some ⟨[],[[.sc (.string a),c,e]]⟩))) (some ⟨[],[[.sc (.string b),e,f]]⟩))) (Ah (call 50 [.pbox [.sc (.string b),e,f]]) fun a b=>Au .u8 a fun a=>Ac b fun b c=>Ac b fun b e=>Ai b fun b=>Ca .i64 e fun e f=>Au .i64 f fun f=>Af c<|As (a==101) (Ab (wrap .i64 (e+1)) fun a=>Ah (call 50 [.pbox [.sc (.string b),a,f]]) fun a b=>Au .u8 a fun a=>Ac b fun b c=>Ac b fun b e=>Ai b fun b=>Ca .i64 e fun e f=>Au .i64 f fun f=>Af c<|As (a==43) (Ab (wrap .i64 (e+1)) fun a=>Ah (call 97 [.pbox [.sc (.string b),a,f]]) fun a b=>Af a<|Ac b fun a b=>Ac a fun a c=>Ai a fun a=>Ca .i64 c fun c e=>Au .i64 e fun e=>Af b<|some ⟨[],[[.sc (.string a),c,e]]⟩) (As (a==45) (Ab (wrap .i64 (e+1)) fun a=>Ah (call 97 [.pbox [.sc (.string b),a,f]]) fun a b=>Af a<|Ac b fun a b=>Ac a fun a c=>Ai a fun a=>Ca .i64 c fun c e=>Au .i64 e fun e=>Af b<|some ⟨[],[[.sc (.string a),c,e]]⟩) (Ah (call 97 [.pbox [.sc (.string b),e,f]]) fun a b=>Af a<|Ac b fun a b=>Ac a fun a c=>Ai a fun a=>Ca .i64 c fun c e=>Au .i64 e fun e=>Af b<|some ⟨[],[[.sc (.string a),c,e]]⟩))) (As (a==69) (Ab (wrap .i64 (e+1)) fun a=>Ah (call 50 [.pbox [.sc (.string b),a,f]]) fun a b=>Au .u8 a fun a=>Ac b fun b c=>Ac b fun b e=>Ai b fun b=>Ca .i64 e fun e f=>Au .i64 f fun f=>Af c<|As (a==43) (Ab (wrap .i64 (e+1)) fun a=>Ah (call 97 [.pbox [.sc (.string b),a,f]]) fun a b=>Af a<|Ac b fun a b=>Ac a fun a c=>Ai a fun a=>Ca .i64 c fun c e=>Au .i64 e fun e=>Af b<|some ⟨[],[[.sc (.string a),c,e]]⟩) (As (a==45) (Ab (wrap .i64 (e+1)) fun a=>Ah (call 97 [.pbox [.sc (.string b),a,f]]) fun a b=>Af a<|Ac b fun a b=>Ac a fun a c=>Ai a fun a=>Ca .i64 c fun c e=>Au .i64 e fun e=>Af b<|some ⟨[],[[.sc (.string a),c,e]]⟩) (Ah (call 97 [.pbox [.sc (.string b),e,f]]) fun a b=>Af a<|Ac b fun a b=>Ac a fun a c=>Ai a fun a=>Ca .i64 c fun c e=>Au .i64 e fun e=>Af b<|some ⟨[],[[.sc (.string a),c,e]]⟩))) (some ⟨[],[[.sc (.string b),e,f]]⟩)))) (Ah (call 97 [.pbox [.sc (.string b),e,f]]) fun a b=>Af a<|Ac b fun a b=>Ac a fun a c=>Ai a fun a=>Ca .i64 c fun c e=>Au .i64 e fun e=>Af b<|Ah (call 50 [.pbox [.sc (.string a),c,e]]) fun a b=>Au .u8 a fun a=>Ac b fun b c=>Ac b fun b e=>Ai b fun b=>Ca .i64 e fun e f=>Au .i64 f fun f=>Af c<|As (a==46) (Ab (wrap .i64 (e+1)) fun a=>Ah (call 97 [.pbox [.sc (.string b),a,f]]) fun a b=>Af a<|Ac b fun a b=>Ac a fun a c=>Ai a fun a=>Ca .i64 c fun c e=>Au .i64 e fun e=>Af b<|Ah (call 50 [.pbox [.sc (.string a),c,e]]) fun a b=>Au .u8 a fun a=>Ac b fun b c=>Ac b fun b e=>Ai b fun b=>Ca .i64 e fun e f=>Au .i64 f fun f=>Af c<|As (a==101) (Ab (wrap .i64 (e+1)) fun a=>Ah (call 50 [.pbox [.sc (.string b),a,f]]) fun a b=>Au .u8 a fun a=>Ac b fun b c=>Ac b fun b e=>Ai b fun b=>Ca .i64 e fun e f=>Au .i64 f fun f=>Af c<|As (a==43) (Ab (wrap .i64 (e+1)) fun a=>Ah (call 97 [.pbox [.sc (.string b),a,f]]) fun a b=>Af a<|Ac b fun a b=>Ac a fun a c=>Ai a fun a=>Ca .i64 c fun c e=>Au .i64 e fun e=>Af b<|some ⟨[],[[.sc (.string a),c,e]]⟩) (As (a==45) (Ab (wrap .i64 (e+1)) fun a=>Ah (call 97 [.pbox [.sc (.string b),a,f]]) fun a b=>Af a<|Ac b fun a b=>Ac a fun a c=>Ai a fun a=>Ca .i64 c fun c e=>Au .i64 e fun e=>Af b<|some ⟨[],[[.sc (.string a),c,e]]⟩) (Ah (call 97 [.pbox [.sc (.string b),e,f]]) fun a b=>Af a<|Ac b fun a b=>Ac a fun a c=>Ai a fun a=>Ca .i64 c fun c e=>Au .i64 e fun e=>Af b<|some ⟨[],[[.sc (.string a),c,e]]⟩))) (As (a==69) (Ab (wrap .i64 (e+1)) fun a=>Ah (call 50 [.pbox [.sc (.string b),a,f]]) fun a b=>Au .u8 a fun a=>Ac b fun b c=>Ac b fun b e=>Ai b fun b=>Ca .i64 e fun e f=>Au .i64 f fun f=>Af c<|As (a==43) (Ab (wrap .i64 (e+1)) fun a=>Ah (call 97 [.pbox [.sc (.string b),a,f]]) fun a b=>Af a<|Ac b fun a b=>Ac a fun a c=>Ai a fun a=>Ca .i64 c fun c e=>Au .i64 e fun e=>Af b<|some ⟨[],[[.sc (.string a),c,e]]⟩) (As (a==45) (Ab (wrap .i64 (e+1)) fun a=>Ah (call 97 [.pbox [.sc (.string b),a,f]]) fun a b=>Af a<|Ac b fun a b=>Ac a fun a c=>Ai a fun a=>Ca .i64 c fun c e=>Au .i64 e fun e=>Af b<|some ⟨[],[[.sc (.string a),c,e]]⟩) (Ah (call 97 [.pbox [.sc (.string b),e,f]]) fun a b=>Af a<|Ac b fun a b=>Ac a fun a c=>Ai a fun a=>Ca .i64 c fun c e=>Au .i64 e fun e=>Af b<|some ⟨[],[[.sc (.string a),c,e]]⟩))) (some ⟨[],[[.sc (.string b),e,f]]⟩))) (Ah (call 50 [.pbox [.sc (.string b),e,f]]) fun a b=>Au .u8 a fun a=>Ac b fun b c=>Ac b fun b e=>Ai b fun b=>Ca .i64 e fun e f=>Au .i64 f fun f=>Af c<|As (a==101) (Ab (wrap .i64 (e+1)) fun a=>Ah (call 50 [.pbox [.sc (.string b),a,f]]) fun a b=>Au .u8 a fun a=>Ac b fun b c=>Ac b fun b e=>Ai b fun b=>Ca .i64 e fun e f=>Au .i64 f fun f=>Af c<|As (a==43) (Ab (wrap .i64 (e+1)) fun a=>Ah (call 97 [.pbox [.sc (.string b),a,f]]) fun a b=>Af a<|Ac b fun a b=>Ac a fun a c=>Ai a fun a=>Ca .i64 c fun c e=>Au .i64 e fun e=>Af b<|some ⟨[],[[.sc (.string a),c,e]]⟩) (As (a==45) (Ab (wrap .i64 (e+1)) fun a=>Ah (call 97 [.pbox [.sc (.string b),a,f]]) fun a b=>Af a<|Ac b fun a b=>Ac a fun a c=>Ai a fun a=>Ca .i64 c fun c e=>Au .i64 e fun e=>Af b<|some ⟨[],[[.sc (.string a),c,e]]⟩) (Ah (call 97 [.pbox [.sc (.string b),e,f]]) fun a b=>Af a<|Ac b fun a b=>Ac a fun a c=>Ai a fun a=>Ca .i64 c fun c e=>Au .i64 e fun e=>Af b<|some ⟨[],[[.sc (.string a),c,e]]⟩))) (As (a==69) (Ab (wrap .i64 (e+1)) fun a=>Ah (call 50 [.pbox [.sc (.string b),a,f]]) fun a b=>Au .u8 a fun a=>Ac b fun b c=>Ac b fun b e=>Ai b fun b=>Ca .i64 e fun e f=>Au .i64 f fun f=>Af c<|As (a==43) (Ab (wrap .i64 (e+1)) fun a=>Ah (call 97 [.pbox [.sc (.string b),a,f]]) fun a b=>Af a<|Ac b fun a b=>Ac a fun a c=>Ai a fun a=>Ca .i64 c fun c e=>Au .i64 e fun e=>Af b<|some ⟨[],[[.sc (.string a),c,e]]⟩) (As (a==45) (Ab (wrap .i64 (e+1)) fun a=>Ah (call 97 [.pbox [.sc (.string b),a,f]]) fun a b=>Af a<|Ac b fun a b=>Ac a fun a c=>Ai a fun a=>Ca .i64 c fun c e=>Au .i64 e fun e=>Af b<|some ⟨[],[[.sc (.string a),c,e]]⟩) (Ah (call 97 [.pbox [.sc (.string b),e,f]]) fun a b=>Af a<|Ac b fun a b=>Ac a fun a c=>Ai a fun a=>Ca .i64 c fun c e=>Au .i64 e fun e=>Af b<|some ⟨[],[[.sc (.string a),c,e]]⟩))) (some ⟨[],[[.sc (.string b),e,f]]⟩)))))) (Ae (CP p) prog fu d):=by kernel_rfl
def B6(Z:ByteArray)(Y X:Int)(W:Bool)(V:Int)(U:Nat)(T:Bool)(S Q:Int)(P:ByteArray)(O N:Int):Option Bz:=Ri fu call 71 Tryz.f71 [.pbox [.sc (.string Z),Y,X],.sc (.bool W),V] [.r,.r,.r,.r,.r,.r,.l] U ⟨lk [(0,.ptr 134000 0),(1,.sc (.bool T)),(2,S),(6,.sc (.int .u8 Q))],H4 [(134000,.st [.sc (.string P),O,N])]⟩
theorem Ds(V:ByteArray)(U T:Int)(S:Bool)(Q:Int)(P:Nat)(X:Bool)(Z Y:Int)(O:ByteArray)(N W:Int):B6 fu call V U T S Q (P+1) X Z Y O N W=(As (W==0) (Ah (call 48 [.pbox [.sc (.string O),N,W]]) fun a b=>Af a<|Ac b fun a b=>Ac a fun a c=>Ai a fun a=>Ca .i64 c fun c e=>Au .i64 e fun e=>Af b<|As X (Ah (call 51 [.pbox [.sc (.string a),c,e]]) fun a b=>Ac a fun a c=>Ai a fun a=>Af c<|Ac b fun a b=>Ac a fun a c=>Ai a fun a=>Ca .i64 c fun c e=>Au .i64 e fun e=>Af b<|Ah (call 48 [.pbox [.sc (.string a),c,e]]) fun a b=>Af a<|Ac b fun a b=>Ac a fun a c=>Ai a fun a=>Ca .i64 c fun c e=>Au .i64 e fun e=>Af b<|Ah (call 49 [.pbox [.sc (.string a),c,e],.sc (.int .u8 58)]) fun a b=>Af a<|Ac b fun a b=>Ac a fun a c=>Ai a fun a=>Ca .i64 c fun c e=>Au .i64 e fun e=>Af b<|Ah (call 48 [.pbox [.sc (.string a),c,e]]) fun a b=>Af a<|Ac b fun a b=>Ac a fun a c=>Ai a fun a=>Ca .i64 c fun c e=>Au .i64 e fun e=>Af b<|Ab (wrap .i64 (Z+1)) fun b=>Ah (call 53 [.pbox [.sc (.string a),c,e],b]) fun a b=>Ca .i64 a fun a c=>Ac c fun a c=>Ai a fun a=>Af c<|Ac b fun a b=>Ac a fun a c=>Ai a fun a=>Ca .i64 c fun c e=>Au .i64 e fun e=>Af b<|Ah (call 48 [.pbox [.sc (.string a),c,e]]) fun a b=>Af a<|Ac b fun a b=>Ac a fun a c=>Ai a fun a=>Ca .i64 c fun c e=>Au .i64 e fun e=>Af b<|Ah (call 50 [.pbox [.sc (.string a),c,e]]) fun a b=>Au .u8 a fun a=>Ac b fun b c=>Ac b fun b e=>Ai b fun b=>Ca .i64 e fun e f=>Au .i64 f fun f=>Af c<|As (a != 44) (Ah (call 49 [.pbox [.sc (.string b),e,f],.sc (.int .u8 Y)]) fun a b=>Af a<|Ac b fun a b=>Ac a fun a c=>Ai a fun a=>Ca .i64 c fun c e=>Au .i64 e fun e=>Af b<|some ⟨[],[[.sc (.string a),c,e]]⟩) (Ab (wrap .i64 (e+1)) fun a=>B6 fu call V U T S Q P X Z Y b a f)) (Ab (wrap .i64 (Z+1)) fun b=>Ah (call 53 [.pbox [.sc (.string a),c,e],b]) fun a b=>Ca .i64 a fun a c=>Ac c fun a c=>Ai a fun a=>Af c<|Ac b fun a b=>Ac a fun a c=>Ai a fun a=>Ca .i64 c fun c e=>Au .i64 e fun e=>Af b<|Ah (call 48 [.pbox [.sc (.string a),c,e]]) fun a b=>Af a<|Ac b fun a b=>Ac a fun a c=>Ai a fun a=>Ca .i64 c fun c e=>Au .i64 e fun e=>Af b<|Ah (call 50 [.pbox [.sc (.string a),c,e]]) fun a b=>Au .u8 a fun a=>Ac b fun b c=>Ac b fun b e=>Ai b fun b=>Ca .i64 e fun e f=>Au .i64 f fun f=>Af c<|As (a != 44) (Ah (call 49 [.pbox [.sc (.string b),e,f],.sc (.int .u8 Y)]) fun a b=>Af a<|Ac b fun a b=>Ac a fun a c=>Ai a fun a=>Ca .i64 c fun c e=>Au .i64 e fun e=>Af b<|some ⟨[],[[.sc (.string a),c,e]]⟩) (Ab (wrap .i64 (e+1)) fun a=>B6 fu call V U T S Q P X Z Y b a f))) (some ⟨[],[[.sc (.string O),N,W]]⟩)):=by kernel_rfl
theorem Jn{p:Option (Al->Option Bz)}(fu d:Nat)(Z:ByteArray)(V Y:Int)(X:Bool)(W:Int):Ae (CP p) prog fu (d+1) 71 [.pbox [.sc (.string Z),V,Y],.sc (.bool X),W]=(fun (call:A7)=>As (decide (W>8)) (Ah (call 52 [.pbox [.sc (.string Z),V,Y],(5:Int)]) fun a b=>Af a<|Ac b fun a b=>Ac a fun a c=>Ai a fun a=>Ca .i64 c fun c e=>Au .i64 e fun e=>Af b<|some ⟨[],[[.sc (.string a),c,e]]⟩) (Ab (wrap .i64 (V+1)) fun a=>As X (Ah (call 48 [.pbox [.sc (.string Z),a,Y]]) fun a b=>Af a<|Ac b fun a b=>Ac a fun a c=>Ai a fun a=>Ca .i64 c fun c e=>Au .i64 e fun e=>Af b<|Ah (call 50 [.pbox [.sc (.string a),c,e]]) fun a b=>Au .u8 a fun a=>Ac b fun b c=>Ac b fun b e=>Ai b fun b=>Ca .i64 e fun e f=>Au .i64 f fun f=>Af c<|As (a==125) (Ab (wrap .i64 (e+1)) fun a=>some ⟨[],[[.sc (.string b),a,f]]⟩) (B6 fu call Z V Y X W fu X W 125 b e f)) (Ah (call 48 [.pbox [.sc (.string Z),a,Y]]) fun a b=>Af a<|Ac b fun a b=>Ac a fun a c=>Ai a fun a=>Ca .i64 c fun c e=>Au .i64 e fun e=>Af b<|Ah (call 50 [.pbox [.sc (.string a),c,e]]) fun a b=>Au .u8 a fun a=>Ac b fun b c=>Ac b fun b e=>Ai b fun b=>Ca .i64 e fun e f=>Au .i64 f fun f=>Af c<|As (a==93) (Ab (wrap .i64 (e+1)) fun a=>some ⟨[],[[.sc (.string b),a,f]]⟩) (B6 fu call Z V Y X W fu X W 93 b e f)))) (Ae (CP p) prog fu d):=by kernel_rfl
theorem E7{p:Option (Al->Option Bz)}(fu d:Nat)(Y:ByteArray)(X W Z:Int):Ae (CP p) prog fu (d+1) 53 [.pbox [.sc (.string Y),X,W],Z]=(fun (call:A7)=>Ah (call 50 [.pbox [.sc (.string Y),X,W]]) fun a b=>Au .u8 a fun a=>Ac b fun b c=>Ac b fun b e=>Ai b fun b=>Ca .i64 e fun e f=>Au .i64 f fun f=>Af c<|As (a==34) (Ah (call 51 [.pbox [.sc (.string b),e,f]]) fun a b=>Ac a fun a c=>Ai a fun a=>Af c<|Ac b fun b c=>Ac b fun b e=>Ai b fun b=>Ca .i64 e fun e f=>Au .i64 f fun f=>Af c<|some ⟨[(1:Int),.sc (.string a)],[[.sc (.string b),e,f]]⟩) (As (a==123) (Ah (call 71 [.pbox [.sc (.string b),e,f],.sc (.bool (a==123)),Z]) fun a b=>Af a<|Ac b fun a b=>Ac a fun a c=>Ai a fun a=>Ca .i64 c fun c e=>Au .i64 e fun e=>Af b<|some ⟨[(0:Int),.sc (.string (ByteArray.mk #[]))],[[.sc (.string a),c,e]]⟩) (As (a==91) (Ah (call 71 [.pbox [.sc (.string b),e,f],.sc (.bool (a==123)),Z]) fun a b=>Af a<|Ac b fun a b=>Ac a fun a c=>Ai a fun a=>Ca .i64 c fun c e=>Au .i64 e fun e=>Af b<|some ⟨[(0:Int),.sc (.string (ByteArray.mk #[]))],[[.sc (.string a),c,e]]⟩) (As (a==116) (Ah (call 72 [.pbox [.sc (.string b),e,f],.sc (.string (ByteArray.mk #[116,114,117,101]))]) fun a b=>Af a<|Ac b fun a b=>Ac a fun a c=>Ai a fun a=>Ca .i64 c fun c e=>Au .i64 e fun e=>Af b<|some ⟨[(2:Int),.sc (.string (ByteArray.mk #[]))],[[.sc (.string a),c,e]]⟩) (As (a==102) (Ah (call 72 [.pbox [.sc (.string b),e,f],.sc (.string (ByteArray.mk #[102,97,108,115,101]))]) fun a b=>Af a<|Ac b fun a b=>Ac a fun a c=>Ai a fun a=>Ca .i64 c fun c e=>Au .i64 e fun e=>Af b<|some ⟨[(3:Int),.sc (.string (ByteArray.mk #[]))],[[.sc (.string a),c,e]]⟩) (As (a==110) (Ah (call 72 [.pbox [.sc (.string b),e,f],.sc (.string (ByteArray.mk #[110,117,108,108]))]) fun a b=>Af a<|Ac b fun a b=>Ac a fun a c=>Ai a fun a=>Ca .i64 c fun c e=>Au .i64 e fun e=>Af b<|some ⟨[(0:Int),.sc (.string (ByteArray.mk #[]))],[[.sc (.string a),c,e]]⟩) (Ah (call 73 [.pbox [.sc (.string b),e,f]]) fun a b=>Af a<|Ac b fun a b=>Ac a fun a c=>Ai a fun a=>Ca .i64 c fun c e=>Au .i64 e fun e=>Af b<|some ⟨[(0:Int),.sc (.string (ByteArray.mk #[]))],[[.sc (.string a),c,e]]⟩))))))) (Ae (CP p) prog fu d):=by kernel_rfl
def Gt(Z:Nat)(Y:Al)(X:ByteArray)(W V:Nat)(U:Al)(T:ByteArray)(S:Int)(Q:ByteArray)(P:Int)(O:ByteArray):Option Bz:=Ri fu call 31 Tryz.f31 [Ed 3 Z Y,.sc (.string X)] [.r,.l,.r,.l] W ⟨lk [(0,Ed 3 V U),(1,.sc (.string T)),(4,.ptr 4 0),(6,S)],H4 [(4,.st [.sc (.string Q),P,.sc (.string O)])]⟩
theorem K1(V:Nat)(U:Al)(T:ByteArray)(S X:Nat)(Y:Al)(W:ByteArray)(Z:Int)(Q:ByteArray)(P:Int)(O:ByteArray):Gt fu call V U T (S+1) X Y W Z Q P O=(As (decide (Z<(↑X:Int))) (A6 (decide (0<=Z)&&decide (Z<(↑X:Int)))<|Ai (Y.getD (Z.toNat*3+0) .top) fun a=>As (Array.toList (ByteArray.data a)==Array.toList (ByteArray.data W)) (A6 (decide (0<=Z)&&decide (Z<(↑X:Int)))<|Ai (Y.getD (Z.toNat*3) .top) fun a=>Eh .i64 (Y.getD (Z.toNat*3+1) .top) fun b=>Ai (Y.getD (Z.toNat*3+1+1) .top) fun c=>Cg [.agg [.sc (.string a),b,.sc (.string c)],.sc (.bool true)]) (Ab (wrap .i64 (Z+1)) fun a=>Gt fu call V U T S X Y W a Q P O)) (Cg [.agg [.sc (.string (ByteArray.mk #[])),(0:Int),.sc (.string (ByteArray.mk #[]))],.sc (.bool false)])):=by kernel_rfl
theorem Wy{p:Option (Al->Option Bz)}(fu d Z:Nat)(Y:Al)(X:ByteArray):Ae (CP p) prog fu (d+1) 31 [Ed 3 Z Y,.sc (.string X)]=(fun (call:A7)=>Gt fu call Z Y X fu Z Y X 0 (ByteArray.mk #[]) 0 (ByteArray.mk #[])) (Ae (CP p) prog fu d):=by kernel_rfl
def Bm(Z:ByteArray)(Y X:Int)(W V:Nat)(U:ByteArray)(T S:Int)(Q:Al):Option Bz:=Ri fu call 29 Tryz.f29 [.pbox [.sc (.string Z),Y,X]] [.r,.r,.r,.r,.r,.l,.r,.r,.l] W ⟨lk [(0,.ptr 180000 0),(3,.view 3 3 0 V)],H4 [(180000,.st [.sc (.string U),T,S]),(3,.ar false Q)]⟩
theorem D8(W:ByteArray)(V U:Int)(T Z:Nat)(S:ByteArray)(Q X:Int)(Y:Al):Bm fu call W V U (T+1) Z S Q X Y=(As (X==0) (Ah (call 48 [.pbox [.sc (.string S),Q,X]]) fun a b=>Af a<|Ac b fun a b=>Ac a fun a c=>Ai a fun a=>Ca .i64 c fun c e=>Au .i64 e fun e=>Af b<|Ah (call 51 [.pbox [.sc (.string a),c,e]]) fun a b=>Ac a fun a c=>Ai a fun a=>Af c<|Ac b fun b c=>Ac b fun b e=>Ai b fun b=>Ca .i64 e fun e f=>Au .i64 f fun f=>Af c<|A6 (decide (0+Z*3<=Y.length))<|Fv (call 31 [Ed 3 Z (List.take (Z*3) (Y.drop 0)),.sc (.string a)]) fun c g=>Fo c fun c=>Ac c fun c h=>Ai c fun c=>Ca .i64 h fun c h=>Ac h fun c h=>Ai c fun c=>Af h<|F8 g fun c=>As c (Ah (call 52 [.pbox [.sc (.string b),e,f],(10:Int)]) fun b c=>Af b<|Ac c fun b c=>Ac b fun b e=>Ai b fun b=>Ca .i64 e fun e f=>Au .i64 f fun f=>Af c<|Ah (call 48 [.pbox [.sc (.string b),e,f]]) fun b c=>Af b<|Ac c fun b c=>Ac b fun b e=>Ai b fun b=>Ca .i64 e fun e f=>Au .i64 f fun f=>Af c<|Ah (call 49 [.pbox [.sc (.string b),e,f],.sc (.int .u8 58)]) fun b c=>Af b<|Ac c fun b c=>Ac b fun b e=>Ai b fun b=>Ca .i64 e fun e f=>Au .i64 f fun f=>Af c<|Ah (call 48 [.pbox [.sc (.string b),e,f]]) fun b c=>Af b<|Ac c fun b c=>Ac b fun b e=>Ai b fun b=>Ca .i64 e fun e f=>Au .i64 f fun f=>Af c<|Ah (call 53 [.pbox [.sc (.string b),e,f],(1:Int)]) fun b c=>Ca .i64 b fun b e=>Ac e fun e f=>Ai e fun e=>Af f<|Ac c fun c f=>Ac c fun c g=>Ai c fun c=>Ca .i64 g fun g h=>Au .i64 h fun h=>Af f<|ZzA Z 3 40 Y [.sc (.string a),b,.sc (.string e)] fun a b=>Ah (call 48 [.pbox [.sc (.string c),g,h]]) fun c e=>Af c<|Ac e fun c e=>Ac c fun c f=>Ai c fun c=>Ca .i64 f fun f g=>Au .i64 g fun g=>Af e<|Ah (call 50 [.pbox [.sc (.string c),f,g]]) fun c e=>Au .u8 c fun c=>Ac e fun e f=>Ac e fun e g=>Ai e fun e=>Ca .i64 g fun g h=>Au .i64 h fun h=>Af f<|As (c != 44) (Ah (call 49 [.pbox [.sc (.string e),g,h],.sc (.int .u8 125)]) fun c e=>Af c<|Ac e fun c e=>Ac c fun c f=>Ai c fun c=>Ca .i64 f fun f g=>Au .i64 g fun g=>Af e<|Ah (call 48 [.pbox [.sc (.string c),f,g]]) fun c e=>Af c<|Ac e fun c e=>Ac c fun c f=>Ai c fun c=>Ca .i64 f fun f g=>Au .i64 g fun g=>Af e<|As (decide (f<(↑(ByteArray.size c):Int))) (Ah (call 52 [.pbox [.sc (.string c),f,g],(2:Int)]) fun c e=>Af c<|Ac e fun c e=>Ac c fun c f=>Ai c fun c=>Ca .i64 f fun f g=>Au .i64 g fun g=>Af e<|A6 (decide (a*3<=b.length))<|some ⟨[.own 3 a (b.take (a*3))],[[.sc (.string c),f,g]]⟩) (A6 (decide (a*3<=b.length))<|some ⟨[.own 3 a (b.take (a*3))],[[.sc (.string c),f,g]]⟩)) (Ab (wrap .i64 (g+1)) fun c=>Bm fu call W V U T a e c h b)) (Ah (call 48 [.pbox [.sc (.string b),e,f]]) fun b c=>Af b<|Ac c fun b c=>Ac b fun b e=>Ai b fun b=>Ca .i64 e fun e f=>Au .i64 f fun f=>Af c<|Ah (call 49 [.pbox [.sc (.string b),e,f],.sc (.int .u8 58)]) fun b c=>Af b<|Ac c fun b c=>Ac b fun b e=>Ai b fun b=>Ca .i64 e fun e f=>Au .i64 f fun f=>Af c<|Ah (call 48 [.pbox [.sc (.string b),e,f]]) fun b c=>Af b<|Ac c fun b c=>Ac b fun b e=>Ai b fun b=>Ca .i64 e fun e f=>Au .i64 f fun f=>Af c<|Ah (call 53 [.pbox [.sc (.string b),e,f],(1:Int)]) fun b c=>Ca .i64 b fun b e=>Ac e fun e f=>Ai e fun e=>Af f<|Ac c fun c f=>Ac c fun c g=>Ai c fun c=>Ca .i64 g fun g h=>Au .i64 h fun h=>Af f<|ZzA Z 3 40 Y [.sc (.string a),b,.sc (.string e)] fun a b=>Ah (call 48 [.pbox [.sc (.string c),g,h]]) fun c e=>Af c<|Ac e fun c e=>Ac c fun c f=>Ai c fun c=>Ca .i64 f fun f g=>Au .i64 g fun g=>Af e<|Ah (call 50 [.pbox [.sc (.string c),f,g]]) fun c e=>Au .u8 c fun c=>Ac e fun e f=>Ac e fun e g=>Ai e fun e=>Ca .i64 g fun g h=>Au .i64 h fun h=>Af f<|As (c != 44) (Ah (call 49 [.pbox [.sc (.string e),g,h],.sc (.int .u8 125)]) fun c e=>Af c<|Ac e fun c e=>Ac c fun c f=>Ai c fun c=>Ca .i64 f fun f g=>Au .i64 g fun g=>Af e<|Ah (call 48 [.pbox [.sc (.string c),f,g]]) fun c e=>Af c<|Ac e fun c e=>Ac c fun c f=>Ai c fun c=>Ca .i64 f fun f g=>Au .i64 g fun g=>Af e<|As (decide (f<(↑(ByteArray.size c):Int))) (Ah (call 52 [.pbox [.sc (.string c),f,g],(2:Int)]) fun c e=>Af c<|Ac e fun c e=>Ac c fun c f=>Ai c fun c=>Ca .i64 f fun f g=>Au .i64 g fun g=>Af e<|A6 (decide (a*3<=b.length))<|some ⟨[.own 3 a (b.take (a*3))],[[.sc (.string c),f,g]]⟩) (A6 (decide (a*3<=b.length))<|some ⟨[.own 3 a (b.take (a*3))],[[.sc (.string c),f,g]]⟩)) (Ab (wrap .i64 (g+1)) fun c=>Bm fu call W V U T a e c h b))) (Ah (call 48 [.pbox [.sc (.string S),Q,X]]) fun a b=>Af a<|Ac b fun a b=>Ac a fun a c=>Ai a fun a=>Ca .i64 c fun c e=>Au .i64 e fun e=>Af b<|As (decide (c<(↑(ByteArray.size a):Int))) (Ah (call 52 [.pbox [.sc (.string a),c,e],(2:Int)]) fun a b=>Af a<|Ac b fun a b=>Ac a fun a c=>Ai a fun a=>Ca .i64 c fun c e=>Au .i64 e fun e=>Af b<|A6 (decide (Z*3<=Y.length))<|some ⟨[.own 3 Z (Y.take (Z*3))],[[.sc (.string a),c,e]]⟩) (A6 (decide (Z*3<=Y.length))<|some ⟨[.own 3 Z (Y.take (Z*3))],[[.sc (.string a),c,e]]⟩))):=by kernel_rfl
theorem N2{p:Option (Al->Option Bz)}(fu d:Nat)(Z:ByteArray)(Y X:Int):Ae (CP p) prog fu (d+1) 29 [.pbox [.sc (.string Z),Y,X]]=(fun (call:A7)=>Ah (call 48 [.pbox [.sc (.string Z),Y,X]]) fun a b=>Af a<|Ac b fun a b=>Ac a fun a c=>Ai a fun a=>Ca .i64 c fun c e=>Au .i64 e fun e=>Af b<|Ah (call 49 [.pbox [.sc (.string a),c,e],.sc (.int .u8 123)]) fun a b=>Af a<|Ac b fun a b=>Ac a fun a c=>Ai a fun a=>Ca .i64 c fun c e=>Au .i64 e fun e=>Af b<|Ah (call 48 [.pbox [.sc (.string a),c,e]]) fun a b=>Af a<|Ac b fun a b=>Ac a fun a c=>Ai a fun a=>Ca .i64 c fun c e=>Au .i64 e fun e=>Af b<|Ah (call 50 [.pbox [.sc (.string a),c,e]]) fun a b=>Au .u8 a fun a=>Ac b fun b c=>Ac b fun b e=>Ai b fun b=>Ca .i64 e fun e f=>Au .i64 f fun f=>Af c<|As (a==125) (Ab (wrap .i64 (e+1)) fun a=>Ah (call 48 [.pbox [.sc (.string b),a,f]]) fun a b=>Af a<|Ac b fun a b=>Ac a fun a c=>Ai a fun a=>Ca .i64 c fun c e=>Au .i64 e fun e=>Af b<|As (decide (c<(↑(ByteArray.size a):Int))) (Ah (call 52 [.pbox [.sc (.string a),c,e],(2:Int)]) fun a b=>Af a<|Ac b fun a b=>Ac a fun a c=>Ai a fun a=>Ca .i64 c fun c e=>Au .i64 e fun e=>Af b<|some ⟨[.own 3 0 []],[[.sc (.string a),c,e]]⟩) (some ⟨[.own 3 0 []],[[.sc (.string a),c,e]]⟩)) (Bm fu call Z Y X fu 0 b e f ([]))) (Ae (CP p) prog fu d):=by kernel_rfl
def Ez(Z:Nat)(Y:Al)(X W:Nat)(V:Al)(U:Nat)(T:Int)(S:Al):Option Bz:=Ri fu call 30 Tryz.f30 [Ed 3 Z Y] [.r,.r,.l,.r,.l] X ⟨lk [(0,Ed 3 W V),(3,.view 3 1 0 U),(4,T)],H4 [(3,.ar false S)]⟩
theorem Jm(U:Nat)(T:Al)(S Y:Nat)(X:Al)(W:Nat)(Z:Int)(V:Al):Ez fu call U T (S+1) Y X W Z V=(As (decide (Z<(↑W:Int))) (A6 (decide (0<=Z)&&decide (Z<(↑W:Int)))<|Ai (V.getD (0+Z.toNat*1) .top) fun a=>Fv (call 31 [Ed 3 Y X,.sc (.string a)]) fun a b=>Fo a fun a=>Ac a fun a c=>Ai a fun a=>Ca .i64 c fun a c=>Ac c fun c e=>Ai c fun c=>Af e<|F8 b fun b=>As (!b) (Cg [.sc (.bool false)]) (As (a != 1) (Cg [.sc (.bool false)]) (Ab (wrap .i64 (Z+1)) fun a=>Ez fu call U T S Y X W a V))) (Fv (call 31 [Ed 3 Y X,.sc (.string (ByteArray.mk #[99,114,111,115,115,79,114,105,103,105,110]))]) fun a b=>Fo a fun a=>Ac a fun a c=>Ai a fun a=>Ca .i64 c fun a c=>Ac c fun c e=>Ai c fun c=>Af e<|F8 b fun b=>Fv (call 31 [Ed 3 Y X,.sc (.string (ByteArray.mk #[116,111,112,79,114,105,103,105,110]))]) fun c e=>Fo c fun c=>Ac c fun c f=>Ai c fun c=>Ca .i64 f fun c f=>Ac f fun f g=>Ai f fun f=>Af g<|F8 e fun e=>As b (As (a != 2) (As (a != 3) (Cg [.sc (.bool false)]) (As e (As (c != 1) (Cg [.sc (.bool false)]) (As b (Cg [.sc (.bool (e==(a==2)))]) (Cg [.sc (.bool (e==false))]))) (As b (Cg [.sc (.bool (e==(a==2)))]) (Cg [.sc (.bool (e==false))])))) (As e (As (c != 1) (Cg [.sc (.bool false)]) (As b (Cg [.sc (.bool (e==(a==2)))]) (Cg [.sc (.bool (e==false))]))) (As b (Cg [.sc (.bool (e==(a==2)))]) (Cg [.sc (.bool (e==false))])))) (As e (As (c != 1) (Cg [.sc (.bool false)]) (As b (Cg [.sc (.bool (e==(a==2)))]) (Cg [.sc (.bool (e==false))]))) (As b (Cg [.sc (.bool (e==(a==2)))]) (Cg [.sc (.bool (e==false))]))))):=by kernel_rfl
theorem Tu{p:Option (Al->Option Bz)}(fu d Z:Nat)(Y:Al):Ae (CP p) prog fu (d+1) 30 [Ed 3 Z Y]=(fun (call:A7)=>Ez fu call Z Y fu Z Y 3 0 ([.sc (.string (ByteArray.mk #[116,121,112,101])),.sc (.string (ByteArray.mk #[99,104,97,108,108,101,110,103,101])),.sc (.string (ByteArray.mk #[111,114,105,103,105,110]))])) (Ae (CP p) prog fu d):=by kernel_rfl
theorem Rd{p:Option (Al->Option Bz)}(fu d:Nat)(Z:ByteArray):Ae (CP p) prog fu (d+1) 22 [.sc (.string Z)]=(fun (call:A7)=>As (decide ((↑(ByteArray.size Z):Int)>1024)) (Cg [.agg [(0:Int),.own 1 0 [],.sc (.string (ByteArray.mk #[])),.sc (.bool false),.sc (.string (ByteArray.mk #[]))],(8:Int)]) (Fv (call 25 [.sc (.string Z)]) fun a b=>Cb a fun a=>Af b<|As (!a) (Cg [.agg [(0:Int),.own 1 0 [],.sc (.string (ByteArray.mk #[])),.sc (.bool false),.sc (.string (ByteArray.mk #[]))],(6:Int)]) (Ah (call 29 [.pbox [.sc (.string Z),(0:Int),(0:Int)]]) fun a b=>ZzO 3 a fun a c e=>Af e<|Ac b fun b e=>Ac b fun b f=>Ai b fun b=>Ca .i64 f fun b f=>Au .i64 f fun b=>Af e<|As (b != 0) (Cg [.agg [(0:Int),.own 1 0 [],.sc (.string (ByteArray.mk #[])),.sc (.bool false),.sc (.string (ByteArray.mk #[]))],b]) (A6 (decide (0+a*3<=c.length))<|Fv (call 30 [Ed 3 a (List.take (a*3) (c.drop 0))]) fun b e=>Cb b fun b=>Af e<|As (!b) (Cg [.agg [(0:Int),.own 1 0 [],.sc (.string (ByteArray.mk #[])),.sc (.bool false),.sc (.string (ByteArray.mk #[]))],(4:Int)]) (A6 (decide (0+a*3<=c.length))<|Fv (call 31 [Ed 3 a (List.take (a*3) (c.drop 0)),.sc (.string (ByteArray.mk #[116,121,112,101]))]) fun b e=>Fo b fun b=>Ac b fun b f=>Ai b fun b=>Ca .i64 f fun b f=>Ac f fun b f=>Ai b fun b=>Af f<|F8 e fun e=>A6 (decide (0+a*3<=c.length))<|Fv (call 31 [Ed 3 a (List.take (a*3) (c.drop 0)),.sc (.string (ByteArray.mk #[99,104,97,108,108,101,110,103,101]))]) fun e f=>Fo e fun e=>Ac e fun e g=>Ai e fun e=>Ca .i64 g fun e g=>Ac g fun e g=>Ai e fun e=>Af g<|F8 f fun f=>A6 (decide (0+a*3<=c.length))<|Fv (call 31 [Ed 3 a (List.take (a*3) (c.drop 0)),.sc (.string (ByteArray.mk #[111,114,105,103,105,110]))]) fun f g=>Fo f fun f=>Ac f fun f h=>Ai f fun f=>Ca .i64 h fun f h=>Ac h fun f h=>Ai f fun f=>Af h<|F8 g fun g=>A6 (decide (0+a*3<=c.length))<|Fv (call 31 [Ed 3 a (List.take (a*3) (c.drop 0)),.sc (.string (ByteArray.mk #[116,111,112,79,114,105,103,105,110]))]) fun a c=>Fo a fun a=>Ac a fun a g=>Ai a fun a=>Ca .i64 g fun a g=>Ac g fun a g=>Ai a fun a=>Af g<|F8 c fun c=>Fv (call 32 [(1:Int)]) fun g h=>Ai g fun g=>Af h<|As (!Array.toList (ByteArray.data b)==Array.toList (ByteArray.data g)) (Fv (call 32 [(2:Int)]) fun g h=>Ai g fun g=>Af h<|As (!Array.toList (ByteArray.data b)==Array.toList (ByteArray.data g)) (Cg [.agg [(0:Int),.own 1 0 [],.sc (.string (ByteArray.mk #[])),.sc (.bool false),.sc (.string (ByteArray.mk #[]))],(3:Int)]) (Fv (call 33 [.sc (.string e)]) fun b e=>FJ 1 b fun b g=>Au .i64 e fun e=>As (e != 0) (Cg [.agg [(0:Int),.own 1 0 [],.sc (.string (ByteArray.mk #[])),.sc (.bool false),.sc (.string (ByteArray.mk #[]))],e]) (As (decide ((↑b:Int)<1)) (Cg [.agg [(0:Int),.own 1 0 [],.sc (.string (ByteArray.mk #[])),.sc (.bool false),.sc (.string (ByteArray.mk #[]))],(9:Int)]) (As (decide ((↑b:Int)>64)) (Cg [.agg [(0:Int),.own 1 0 [],.sc (.string (ByteArray.mk #[])),.sc (.bool false),.sc (.string (ByteArray.mk #[]))],(9:Int)]) (Fv (call 34 [.sc (.string f)]) fun e h=>Fo e fun e=>Ac e fun e i=>Cb e fun e=>Ac i fun e i=>Ai e fun e=>Au .i64 i fun e=>Au .i64 h fun e=>As (e != 0) (Cg [.agg [(0:Int),.own 1 0 [],.sc (.string (ByteArray.mk #[])),.sc (.bool false),.sc (.string (ByteArray.mk #[]))],e]) (Fv (call 34 [.sc (.string a)]) fun e h=>Fo e fun e=>Ac e fun e i=>Cb e fun e=>Ac i fun e i=>Ai e fun e=>Au .i64 i fun e=>Au .i64 h fun e=>As c (As (e != 0) (Cg [.agg [(0:Int),.own 1 0 [],.sc (.string (ByteArray.mk #[])),.sc (.bool false),.sc (.string (ByteArray.mk #[]))],e]) (A6 (decide (b*1<=g.length))<|Cg [.agg [(2:Int),.own 1 b (g.take (b*1)),.sc (.string f),.sc (.bool c),.sc (.string a)],(0:Int)])) (A6 (decide (b*1<=g.length))<|Cg [.agg [(2:Int),.own 1 b (g.take (b*1)),.sc (.string f),.sc (.bool c),.sc (.string a)],(0:Int)]))))))) (Fv (call 32 [(1:Int)]) fun g h=>Ai g fun g=>Af h<|As (!Array.toList (ByteArray.data b)==Array.toList (ByteArray.data g)) (Cg [.agg [(0:Int),.own 1 0 [],.sc (.string (ByteArray.mk #[])),.sc (.bool false),.sc (.string (ByteArray.mk #[]))],(3:Int)]) (Fv (call 33 [.sc (.string e)]) fun b e=>FJ 1 b fun b g=>Au .i64 e fun e=>As (e != 0) (Cg [.agg [(0:Int),.own 1 0 [],.sc (.string (ByteArray.mk #[])),.sc (.bool false),.sc (.string (ByteArray.mk #[]))],e]) (As (decide ((↑b:Int)<1)) (Cg [.agg [(0:Int),.own 1 0 [],.sc (.string (ByteArray.mk #[])),.sc (.bool false),.sc (.string (ByteArray.mk #[]))],(9:Int)]) (As (decide ((↑b:Int)>64)) (Cg [.agg [(0:Int),.own 1 0 [],.sc (.string (ByteArray.mk #[])),.sc (.bool false),.sc (.string (ByteArray.mk #[]))],(9:Int)]) (Fv (call 34 [.sc (.string f)]) fun e h=>Fo e fun e=>Ac e fun e i=>Cb e fun e=>Ac i fun e i=>Ai e fun e=>Au .i64 i fun e=>Au .i64 h fun e=>As (e != 0) (Cg [.agg [(0:Int),.own 1 0 [],.sc (.string (ByteArray.mk #[])),.sc (.bool false),.sc (.string (ByteArray.mk #[]))],e]) (Fv (call 34 [.sc (.string a)]) fun e h=>Fo e fun e=>Ac e fun e i=>Cb e fun e=>Ac i fun e i=>Ai e fun e=>Au .i64 i fun e=>Au .i64 h fun e=>As c (As (e != 0) (Cg [.agg [(0:Int),.own 1 0 [],.sc (.string (ByteArray.mk #[])),.sc (.bool false),.sc (.string (ByteArray.mk #[]))],e]) (A6 (decide (b*1<=g.length))<|Cg [.agg [(1:Int),.own 1 b (g.take (b*1)),.sc (.string f),.sc (.bool c),.sc (.string a)],(0:Int)])) (A6 (decide (b*1<=g.length))<|Cg [.agg [(1:Int),.own 1 b (g.take (b*1)),.sc (.string f),.sc (.bool c),.sc (.string a)],(0:Int)])))))))))))) (Ae (CP p) prog fu d):=by kernel_rfl
theorem Tt{p:Option (Al->Option Bz)}(fu d:Nat)(Z:ByteArray):Ae (CP p) prog fu (d+1) 10 [.sc (.string Z)]=(fun (call:A7)=>Fv (call 12 [.sc (.string Z)]) fun a b=>Fo a fun a=>Ca .i64 a fun a c=>K2 1 c fun c e f=>Ac f fun f g=>Ai f fun f=>Ac g fun g h=>Cb g fun g=>Ac h fun h i=>Ai h fun h=>Af i<|Au .i64 b fun b=>Fv (call 22 [.sc (.string Z)]) fun i j=>Fo i fun i=>Ca .i64 i fun i k=>ZzO 1 k fun k m n=>Ac n fun n o=>Ai n fun n=>Ac o fun o q=>Cb o fun o=>Ac q fun q s=>Ai q fun q=>Af s<|Au .i64 j fun j=>A6 (decide (0+k*1<=m.length))<|Fv (call 13 [.agg [a,Ed 1 c e,.sc (.string f),.sc (.bool g),.sc (.string h)],.agg [i,Ed 1 k (List.take (k*1) (m.drop 0)),.sc (.string n),.sc (.bool o),.sc (.string q)]]) fun a c=>Cb a fun a=>Af c<|As a (Cg [.sc (.bool (b==j))]) (Cg [.sc (.bool false)])) (Ae (CP p) prog fu d):=by kernel_rfl
end
theorem BA{x:Int}(h0:0<=x)(h1:x<=1114111)(h2:x<55296\/57343<x):runesBytes [x]=Aa (Lib.encodeRuneZ x):=by
 obtain⟨n,rfl⟩:=Int.eq_ofNat_of_zero_le h0
 have hv:Utf8.valid (n:Int)=true:=by
  unfold Utf8.valid;simp;omega
 have e1:runesBytes [(n:Int)]=Utf8.encode (n:Int):=by
  show ByteArray.empty++Utf8.encode (n:Int)=_;exact ByteArray.empty_append
 rw[e1];unfold Utf8.encode;simp only[hv,if_true,Kc];by_cases c1:n<128
 ·rw[Bq c1,Lib.encodeRuneZ_one (by omega) (by omega)];rfl
 rw[Bg c1];by_cases c2:n<2048
 ·rw[Bq c2,Lib.encodeRuneZ_two (by omega) (by omega)];have a1:(192+(n:Int) / 64).toNat=192+n / 64:=by omega
  have a2:(128+(n:Int) % 64).toNat=128+n % 64:=by omega
  show _=ByteArray.mk (List.toArray [(192+(n:Int) / 64).toNat.toUInt8,(128+(n:Int) % 64).toNat.toUInt8]);rw[a1,a2]
 rw[Bg c2];by_cases c3:n<65536
 ·rw[Bq c3,Lib.encodeRuneZ_three (by omega)];have a1:(224+(n:Int) / 4096).toNat=224+n / 4096:=by omega
  have a2:(128+(n:Int) / 64 % 64).toNat=128+n / 64 % 64:=by omega
  have a3:(128+(n:Int) % 64).toNat=128+n % 64:=by omega
  show _=ByteArray.mk (List.toArray [(224+(n:Int) / 4096).toNat.toUInt8,(128+(n:Int) / 64 % 64).toNat.toUInt8,(128+(n:Int) % 64).toNat.toUInt8]);rw[a1,a2,a3]
 ·rw[Bg c3,Lib.encodeRuneZ_four (by omega) (by omega)];have a0:(240+(n:Int) / 262144).toNat=240+n / 262144:=by omega
  have a1:(128+(n:Int) / 4096 % 64).toNat=128+n / 4096 % 64:=by omega
  have a2:(128+(n:Int) / 64 % 64).toNat=128+n / 64 % 64:=by omega
  have a3:(128+(n:Int) % 64).toNat=128+n % 64:=by omega
  show _=ByteArray.mk (List.toArray [(240+(n:Int) / 262144).toNat.toUInt8,(128+(n:Int) / 4096 % 64).toNat.toUInt8,(128+(n:Int) / 64 % 64).toNat.toUInt8,(128+(n:Int) % 64).toNat.toUInt8]);rw[a0,a1,a2,a3]
abbrev RS:=JR Am
def JS(t:ByteArray)(i e:Int):RS->Prop
 |.ok r=>e=0/\Dp t r/\i=(A9 t r:Int)
 |.error c=>e=c/\c≠0/\0<=i/\i<=(t.size:Int)+1
abbrev jC(t:ByteArray)(i e:Int):Al:=[.sc (.string t),B9 i,B9 e]
def Bp:RS->Int
 |.ok r=>BK r
 |.error _=>0
def Ad:RS->RS
 |.ok (_::r)=>.ok r
 |s=>s
def UJ(c:Int):RS->RS
 |.ok _=>.error c
 |s=>s
theorem JS.rng{t:ByteArray}{i e:Int}{s:RS}(h:JS t i e s):0<=i/\i<=(t.size:Int)+1:=by
 cases s with
 |ok r=>
  obtain⟨_,_,rfl⟩:=h;unfold A9;omega
 |error c=>exact⟨h.2.2.1,h.2.2.2⟩
theorem JS.hd{t:ByteArray}{i e:Int}{s:RS}(h:JS t i e s):0<=Bp s/\Bp s<=255:=by
 cases s with
 |ok r=>
  cases r with
  |nil=>exact⟨Int.le_refl _,by decide⟩
  |cons c r=>exact h.2.1.B c (by simp)
 |error c=>exact⟨Int.le_refl _,by show (0:Int)<=255;decide⟩
theorem JS.adv{t:ByteArray}{i e:Int}{s:RS}(h:JS t i e s)(ht:t.size<=1000000)(hc:Bp s≠0):JS t (i+1) e (Ad s)/\wrap .i64 (i+1)=i+1:=by
 have hr:=h.rng;refine⟨?_,Ar (by omega) (by omega)⟩;cases s with
 |ok r=>
  cases r with
  |nil=>exact absurd rfl hc
  |cons c r=>
   obtain⟨h1,h2,h3⟩:=h;exact⟨h1,h2.tail,by rw[h3,Hy h2];omega⟩
 |error c=>exact absurd rfl hc
theorem JS.fail{t:ByteArray}{i e:Int}{s:RS}(h:JS t i e s){c:Int}(hc:c≠0):JS t i (if e=0 then c else e) (UJ c s):=by
 have hr:=h.rng;cases s with
 |ok r=>
  obtain⟨rfl,h2,h3⟩:=h;rw[Bq rfl];exact⟨rfl,hc,hr.1,hr.2⟩
 |error c2=>
  obtain⟨rfl,h2,h3,h4⟩:=h;rw[Bg h2];exact⟨rfl,h2,h3,h4⟩
section
variable {fu d:Nat}{p:Option (Al->Option Bz)}
theorem Cj{t:ByteArray}{i e:Int}{s:RS}(h:JS t i e s):Ae (CP p) prog fu (d+1) 50 [.pbox (jC t i e)]=some ⟨[.sc (.int .u8 (Bp s))],[jC t i e]⟩:=by
 refine (Q0 (p:=p) fu d t i e).trans ?_;cases s with
 |error c=>
  obtain⟨rfl,h2,h3,h4⟩:=h;have z:(e != 0)=true:=by simp[h2]
  simp only[A2,A1,z];rfl
 |ok r=>
  obtain⟨rfl,h2,rfl⟩:=h;have z:((0:Int) != 0)=false:=rfl;cases r with
  |nil=>
   have a:decide ((A9 t []:Int)>=(t.size:Int))=true:=dT (by rw[L8];omega)
   simp only[A2,A1,z,a];rfl
  |cons c r=>
   have hl:=h2.len
   have hp:A9 t (c::r)<t.size:=by
    unfold A9;rw[Ub] at hl ⊢;omega
   obtain⟨b,hb,rfl⟩:=h2.at;have a:decide ((A9 t ((b.toNat:Int)::r):Int)>=(t.size:Int))=false:=dF (by omega);have a2:decide ((0:Int)<=(A9 t ((b.toNat:Int)::r):Int))=true:=by simp
   rw[<-Kc (A9 t ((b.toNat:Int)::r))] at hb;simp only[A2,A1,z,a,a2,hb];rfl
theorem Kn(t:ByteArray)(i e c:Int):Ae (CP p) prog fu (d+1) 52 [.pbox (jC t i e),B9 c]=some ⟨[],[jC t i (if e=0 then c else e)]⟩:=by
 refine (Q8 (p:=p) fu d t i e c).trans ?_;by_cases h:e=0
 ·have z:(e==0)=true:=by simp[h]
  rw[Bq h];simp only[A2,A1,z]
 ·have z:(e==0)=false:=by simp[h]
  rw[Bg h];simp only[A2,A1,z]
def AN:RS->RS
 |.ok r=>.ok (Ao r)
 |s=>s
def EH:RS->Nat
 |.ok r=>r.length
 |.error _=>0
theorem JS.len{t:ByteArray}{i e:Int}{s:RS}(h:JS t i e s):EH s<=t.size:=by
 cases s with
 |ok r=>exact h.2.1.len
 |error c=>exact Nat.zero_le _
theorem Aiw{s:RS}(h:Jr (Bp s)=true):AN (Ad s)=AN s/\EH (Ad s)+1=EH s:=by
 cases s with
 |ok r=>
  cases r with
  |nil=>cases h
  |cons c r=>
   have h:Jr c=true:=h;refine⟨?_,rfl⟩;show Except.ok (Ao r)=Except.ok (Ao (c::r));have:Ao (c::r)=if Jr c=true then Ao r else c::r:=rfl
   rw[this,Bq h]
 |error c=>cases h
theorem Ajv{s:RS}(h:Jr (Bp s)=false):AN s=s:=by
 cases s with
 |ok r=>
  cases r with
  |nil=>rfl
  |cons c r=>exact congrArg Except.ok (by
    have:Ao (c::r)=if Jr c=true then Ao r else c::r:=rfl
    have h:Jr c=false:=h;rw[this,Bg (by rw[h];decide)])
 |error c=>rfl
theorem XR{t:ByteArray}(ht:t.size<=1000000){t0:ByteArray}{i0 e0:Int}:∀(n nn:Nat)(i e:Int)(s:RS),EH s=n->n+1<=nn->JS t i e s->∃i',JS t i' e (AN s)/\Cq fu (Ae (CP p) prog fu (d+1)) t0 i0 e0 nn t i e=some ⟨[],[jC t i' e]⟩:=by
 intro n
 induction n using Nat.strongRecOn with
 |_ n ih=>
  intro nn i e s hn Jo h;obtain⟨k,rfl⟩:∃k,nn=k+1:=⟨nn-1,by omega⟩
  have pk:=Cj (fu:=fu) (d:=d) (p:=p) h;rw[M3];by_cases hw:Jr (Bp s)=true
  ·have Er:Bp s≠0:=by intro h0;rw[h0] at hw;cases hw
   obtain⟨h2,wr⟩:=h.adv ht Er;obtain⟨s1,s2⟩:=Aiw hw;obtain⟨i',g1,g2⟩:=ih (EH (Ad s)) (by omega) k (i+1) e (Ad s) rfl (by omega) h2;rw[s1] at g1;refine⟨i',g1,?_⟩
   have hc:Bp s=32\/Bp s=9\/Bp s=10\/Bp s=13:=by
    unfold Jr at hw;simp at hw;omega
   generalize Bp s=c at pk hc;rcases hc with rfl|rfl|rfl|rfl
   ·have z1:((32:Int) != 32)=false:=rfl;simp only[A2,A1,pk,z1,wr];exact g2
   ·have z1:((9:Int) != 32)=true:=rfl;have z2:((9:Int) != 9)=false:=rfl;simp only[A2,A1,pk,z1,z2,wr];exact g2
   ·have z1:((10:Int) != 32)=true:=rfl;have z2:((10:Int) != 9)=true:=rfl;have z3:((10:Int) != 10)=false:=rfl;simp only[A2,A1,pk,z1,z2,z3,wr];exact g2
   ·have z1:((13:Int) != 32)=true:=rfl;have z2:((13:Int) != 9)=true:=rfl;have z3:((13:Int) != 10)=true:=rfl;have z4:((13:Int) != 13)=false:=rfl;simp only[A2,A1,pk,z1,z2,z3,z4,wr];exact g2
  ·have hw:Jr (Bp s)=false:=Bool.eq_false_iff.2 hw;rw[Ajv hw];refine⟨i,h,?_⟩;unfold Jr at hw;simp at hw;have z1:(Bp s != 32)=true:=by simp[hw]
   have z2:(Bp s != 9)=true:=by simp[hw]
   have z3:(Bp s != 10)=true:=by simp[hw]
   have z4:(Bp s != 13)=true:=by simp[hw]
   simp only[A2,A1,pk,z1,z2,z3,z4]
theorem Gn{t:ByteArray}(ht:t.size<=1000000)(Ce:t.size+1<=fu){i e:Int}{s:RS}(h:JS t i e s):∃i',JS t i' e (AN s)/\Ae (CP p) prog fu (d+2) 48 [.pbox (jC t i e)]=some ⟨[],[jC t i' e]⟩:=by
 obtain⟨i',g1,g2⟩:=XR (fu:=fu) (d:=d) (p:=p) ht (t0:=t) (i0:=i) (e0:=e) (EH s) fu i e s rfl (by have:=h.len;omega) h
 exact⟨i',g1,(Py (p:=p) fu (d+1) t i e).trans g2⟩
def Oo(c:Int)(s:RS):RS:=if Bp s=c then Ad s else UJ 2 s
theorem Hs{t:ByteArray}(ht:t.size<=1000000){i e c:Int}{s:RS}(hc:c≠0)(h:JS t i e s):∃i' e',JS t i' e' (Oo c s)/\Ae (CP p) prog fu (d+2) 49 [.pbox (jC t i e),.sc (.int .u8 c)]=some ⟨[],[jC t i' e']⟩:=by
 have pk:=Cj (fu:=fu) (d:=d) (p:=p) h;have fl:=Kn (fu:=fu) (d:=d) (p:=p) t i e 2;have er:=O7 (p:=p) fu (d+1) t i e c;unfold Oo;by_cases hq:Bp s=c
 ·obtain⟨h2,wr⟩:=h.adv ht (by rw[hq];exact hc)
  rw[Bq hq];refine⟨i+1,e,h2,er.trans ?_⟩;rw[hq] at pk;have z1:(c != c)=false:=by simp
  have z2:(c==0)=false:=by simp[hc]
  simp only[A2,A1,pk,z1,z2,wr]
 ·rw[Bg hq];refine⟨i,_,h.fail (c:=2) (by decide),er.trans ?_⟩;have z1:(Bp s != c)=true:=by simp[hq]
  simp only[A2,A1,pk,z1,fl]
def jwd:Am->RS->RS
 |[],s=>s
 |c::w,s=>jwd w (Oo c s)
theorem LS{t:ByteArray}(ht:t.size<=1000000){w:Am}(hw:Ct w)(hw0:∀c∈w,c≠0)(QT:w.length<=100){t0:ByteArray}{i0 e0:Int}{w0:ByteArray}:∀(r:Am)(k nn:Nat)(i e:Int)(s:RS),w.drop k=r->r.length+1<=nn->JS t i e s ->
  ∃i' e',JS t i' e' (jwd r s)/\E8 fu (Ae (CP p) prog fu (d+2)) t0 i0 e0 w0 nn (Aa w) (k:Int) t i e=some ⟨[],[jC t i' e']⟩
 |[],k,nn,i,e,s,hd,hn,h=>by
  obtain⟨m,rfl⟩:∃m,nn=m+1:=⟨nn-1,by omega⟩
  have hi:=drop_nil hd;have a1:decide ((k:Int)<(w.length:Int))=false:=dF (by omega);refine⟨i,e,h,?_⟩;rw[H8];simp only[A2,A1,Ag,a1]
 |c::r,k,nn,i,e,s,hd,hn,h=>by
  obtain⟨m,rfl⟩:∃m,nn=m+1:=⟨nn-1,by omega⟩
  obtain⟨hi,hc,Lz⟩:=E0 hd;have AP:=hw c (List.mem_of_getElem? hc);obtain⟨i1,e1,h1,ex⟩:=Hs (fu:=fu) (d:=d) (p:=p) ht (hw0 c (List.mem_of_getElem? hc)) h;obtain⟨i2,e2,h2,g2⟩:=LS ht hw hw0 QT (t0:=t0) (i0:=i0) (e0:=e0) (w0:=w0) r (k+1) m i1 e1 _ Lz (by simp at hn;omega) h1
  have a1:decide ((k:Int)<(w.length:Int))=true:=dT (by omega);have a2:decide ((0:Int)<=(k:Int))=true:=by simp
  have a3:(Array.toList (Aa w).data)[Int.toNat (k:Int)]?=some c.toNat.toUInt8:=by
   rw[Kc];show (w.map fun n=>n.toNat.toUInt8)[k]?=_;rw[List.getElem?_map,hc];rfl
  have a4:=Je AP;have a5:wrap .i64 ((k:Int)+1)=((k+1:Nat):Int):=by rw[Ar (by omega) (by omega)];omega
  refine⟨i2,e2,h2,?_⟩;rw[H8];simp only[A2,A1,Ag,a1,a2,a3,a4,ex,a5];exact g2
theorem YN{t:ByteArray}(ht:t.size<=1000000)(Ce:200<=fu){w:Am}(hw:Ct w)(hw0:∀c∈w,c≠0)(QT:w.length<=100){i e:Int}{s:RS}(h:JS t i e s):∃i' e',JS t i' e' (jwd w s)/\Ae (CP p) prog fu (d+3) 72 [.pbox (jC t i e),.sc (.string (Aa w))]=some ⟨[],[jC t i' e']⟩:=by obtain⟨i',e',g1,g2⟩:=LS (fu:=fu) (d:=d) (p:=p) ht hw hw0 QT (t0:=t) (i0:=i) (e0:=e) (w0:=Aa w) w 0 fu i e s rfl (by omega) h;exact⟨i',e',g1,(Q7 (p:=p) fu (d+2) t i e (Aa w)).trans g2⟩
def jdr:RS->RS
 |.ok r=>.ok (Gw r)
 |s=>s
def Av(s:RS):RS:=if Oi (Bp s)=true then jdr s else UJ 2 s
theorem Ag7{s:RS}(h:Oi (Bp s)=true):jdr (Ad s)=jdr s/\EH (Ad s)+1=EH s:=by
 cases s with
 |ok r=>
  cases r with
  |nil=>cases h
  |cons c r=>
   have h:FP c=true:=h;refine⟨?_,rfl⟩;show Except.ok (Gw r)=Except.ok (Gw (c::r));have:Gw (c::r)=if FP c=true then Gw r else c::r:=rfl
   rw[this,Bq h]
 |error c=>cases h
theorem Af4{s:RS}(h:Oi (Bp s)=false):jdr s=s:=by
 cases s with
 |ok r=>
  cases r with
  |nil=>rfl
  |cons c r=>exact congrArg Except.ok (by
    have:Gw (c::r)=if FP c=true then Gw r else c::r:=rfl
    have h:FP c=false:=h;rw[this,Bg (by rw[h];decide)])
 |error c=>rfl
theorem Xk{t:ByteArray}(ht:t.size<=1000000){t0:ByteArray}{i0 e0:Int}:∀(n nn:Nat)(i e:Int)(s:RS),EH s=n->n+1<=nn->JS t i e s->∃i',JS t i' e (jdr s)/\Du fu (Ae (CP p) prog fu (d+1)) t0 i0 e0 nn t i e=some ⟨[],[jC t i' e]⟩:=by
 intro n
 induction n using Nat.strongRecOn with
 |_ n ih=>
  intro nn i e s hn Jo h;obtain⟨k,rfl⟩:∃k,nn=k+1:=⟨nn-1,by omega⟩
  have pk:=Cj (fu:=fu) (d:=d) (p:=p) h;have dg:Ae (CP p) prog fu (d+1) 76 [.sc (.int .u8 (Bp s))]=_:=BJ (fu:=fu) (d:=d) (p:=p) (c:=Bp s);rw[Mc];cases hw:Oi (Bp s) with
  |true=>
   have Er:Bp s≠0:=by intro h0;rw[h0] at hw;cases hw
   obtain⟨h2,wr⟩:=h.adv ht Er;obtain⟨s1,s2⟩:=Ag7 hw;obtain⟨i',g1,g2⟩:=ih (EH (Ad s)) (by omega) k (i+1) e (Ad s) rfl (by omega) h2;rw[s1] at g1;refine⟨i',g1,?_⟩;rw[hw] at dg;simp only[A2,A1,pk,dg,wr];exact g2
  |false=>
   rw[Af4 hw];refine⟨i,h,?_⟩;rw[hw] at dg;simp only[A2,A1,pk,dg]
theorem Ara(c:Int)(s:RS):jdr (UJ c s)=UJ c s:=by cases s<;>rfl
theorem Alv(c:Int)(s:RS):EH (UJ c s)=0:=by cases s<;>rfl
theorem Bb{t:ByteArray}(ht:t.size<=1000000)(Ce:t.size+1<=fu){i e:Int}{s:RS}(h:JS t i e s):∃i' e',JS t i' e' (Av s)/\Ae (CP p) prog fu (d+2) 97 [.pbox (jC t i e)]=some ⟨[],[jC t i' e']⟩:=by
 have pk:=Cj (fu:=fu) (d:=d) (p:=p) h;have dg:Ae (CP p) prog fu (d+1) 76 [.sc (.int .u8 (Bp s))]=_:=BJ (fu:=fu) (d:=d) (p:=p) (c:=Bp s);have er:=Ps (p:=p) fu (d+1) t i e;unfold Av;cases hw:Oi (Bp s) with
 |true=>
  rw[hw] at dg;obtain⟨i',g1,g2⟩:=Xk (fu:=fu) (d:=d) (p:=p) ht (t0:=t) (i0:=i) (e0:=e) (EH s) fu i e s rfl (by have:=h.len;omega) h
  rw[Bq rfl];refine⟨i',e,g1,er.trans ?_⟩;simp only[A2,A1,pk,dg,E1];exact g2
 |false=>
  rw[hw] at dg;have fl:=Kn (fu:=fu) (d:=d) (p:=p) t i e 2;have h2:=h.fail (c:=2) (by decide);obtain⟨i',g1,g2⟩:=Xk (fu:=fu) (d:=d) (p:=p) ht (t0:=t) (i0:=i) (e0:=e) 0 fu i _ _ (Alv 2 s) (by omega) h2;rw[Bg (by decide)];rw[Ara] at g1;refine⟨i',_,g1,er.trans ?_⟩;simp only[A2,A1,pk,dg,F9,fl];exact g2
end
theorem Ag3{x v:Int}(h0:0<=x)(h1:x<65536)(hv0:0<=v)(hv1:v<=15):EO .i32 (x*16) v=x*16+v:=by
 obtain⟨a,rfl⟩:=Int.eq_ofNat_of_zero_le h0;obtain⟨b,rfl⟩:=Int.eq_ofNat_of_zero_le hv0
 have e1:(BitVec.ofInt 32 ((a:Int)*16)).toNat=a*16:=by
  have:((a:Int)*16)=((a*16:Nat):Int):=by omega
  rw[this,BitVec.ofInt_natCast,BitVec.toNat_ofNat];exact Nat.mod_eq_of_lt (by omega)
 have e2:(BitVec.ofInt 32 (b:Int)).toNat=b:=by
  rw[BitVec.ofInt_natCast,BitVec.toNat_ofNat];exact Nat.mod_eq_of_lt (by omega)
 have e3:a*16 ||| b=a*16+b:=by
  have:=Nat.two_pow_add_eq_or_of_lt (i:=4) (b:=b) (by omega) a;rw[show 2 ^ 4*a=a*16 by omega] at this;exact this.symm
 show IntKind.i32.wrap ((BitVec.ofInt 32 ((a:Int)*16) ||| BitVec.ofInt 32 (b:Int)).toNat:Int)=_;rw[BitVec.toNat_or,e1,e2,e3,D5 (by omega) (by omega)];omega
def EI:Nat->Int->RS->Int × RS
 |0,n,s=>(n,s)
 |k+1,n,s=>match Wu (Bp s) with
  |some v=>EI k (n*16+v) (Ad s)
  |none=>(0,UJ 2 s)
theorem QW:∀(k:Nat)(n:Int)(r:Am),EI k n (.ok r)=match N0 k n r with
  |(some x,r')=>(x,.ok r')
  |(none,_)=>(0,.error 2)
 |0,n,r=>rfl
 |k+1,n,[]=>rfl
 |k+1,n,c::r=>by
  have e1:EI (k+1) n (.ok (c::r))=match Wu c with
   |some v=>EI k (n*16+v) (.ok r)
   |none=>(0,.error 2):=rfl
  have e2:N0 (k+1) n (c::r)=match Wu c with
   |some v=>N0 k (n*16+v) r
   |none=>(none,c::r):=rfl
  rw[e1,e2];cases Wu c with
  |some v=>exact QW k _ r
  |none=>rfl
theorem Alx(k:Nat)(n c:Int):EI (k+1) n (.error c)=(0,.error c):=rfl
section
variable {fu d:Nat}{p:Option (Al->Option Bz)}
theorem Tk{t:ByteArray}(ht:t.size<=1000000){t0:ByteArray}{i0 e0:Int}:∀(k nn:Nat)(x i e:Int)(s:RS),k<=4->k+1<=nn->0<=x->x<16 ^ (4-k)->JS t i e s ->
  0<=(EI k x s).1/\(EI k x s).1<65536/\∃i' e',JS t i' e' (EI k x s).2/\C7 fu (Ae (CP p) prog fu (d+1)) t0 i0 e0 nn x ((4-k:Nat):Int) t i e=some ⟨[.sc (.int .i32 (EI k x s).1)],[jC t i' e']⟩
 |0,nn,x,i,e,s,_,Jo,h0,h1,h=>by
  obtain⟨m,rfl⟩:∃m,nn=m+1:=⟨nn-1,by omega⟩
  refine⟨h0,h1,i,e,h,?_⟩;rw[Ih];simp only[A2,A1,show decide (((4-0:Nat):Int)<4)=false from rfl];rfl
 |k+1,nn,x,i,e,s,hk,Jo,h0,h1,h=>by
  obtain⟨m,rfl⟩:∃m,nn=m+1:=⟨nn-1,by omega⟩
  have pk:=Cj (fu:=fu) (d:=d) (p:=p) h;have dg:Ae (CP p) prog fu (d+1) 76 [.sc (.int .u8 (Bp s))]=_:=BJ (fu:=fu) (d:=d) (p:=p) (c:=Bp s);have fl:=Kn (fu:=fu) (d:=d) (p:=p) t i e 2
  have hx:x<4096:=by
   have:k+1=1\/k+1=2\/k+1=3\/k+1=4:=by omega
   rcases this with e|e|e|e<;>rw[e] at h1<;>simp at h1<;>omega
  have R4:∀v,0<=v->v<=15->x*16+v<16 ^ (4-k):=by
   intro v hv0 hv1;have e:4-k=(4-(k+1))+1:=by omega
   rw[e,Int.pow_succ];omega
  have e4:decide (((4-(k+1):Nat):Int)<4)=true:=by simp;omega
  have e5:wrap .i64 (((4-(k+1):Nat):Int)+1)=((4-k:Nat):Int):=by rw[Ar (by omega) (by omega)];omega
  have sh:=Aos h0 (by omega);have ej:EI (k+1) x s=match Wu (Bp s) with|some v=>EI k (x*16+v) (Ad s)|none=>(0,UJ 2 s):=rfl
  have hdr:=h.hd;have adv:=fun Er=>h.adv ht Er;have Xf:=h.fail (c:=2) (by decide);rw[ej,Ih];generalize hcg:Bp s=c at pk dg ej hdr adv;rcases BZ c with⟨g1,g2,g3⟩|⟨g1,g2,g3⟩|⟨g1,g2,g3⟩|⟨g1,g2,g3,g4⟩
  ·rw[g3];obtain⟨h2,wr⟩:=adv (by omega);have hd:Oi c=true:=by unfold Oi;rw[dT g1,dT g2];rfl
   rw[hd] at dg;have w1:wrap .u8 (c-48)=c-48:=Iy (by omega) (by omega);have w2:wrap .i32 (c-48)=c-48:=D5 (by omega) (by omega);have or1:=Ag3 (x:=x) (v:=c-48) h0 (by omega) (by omega) (by omega);obtain⟨r1,r2,i',e',r3,r4⟩:=Tk ht (t0:=t0) (i0:=i0) (e0:=e0) k m (x*16+(c-48)) (i+1) e (Ad s) (by omega) (by omega) (by omega) (R4 _ (by omega) (by omega)) h2;refine⟨r1,r2,i',e',r3,?_⟩;simp only[A2,A1,e4,pk,dg,sh,w1,w2,or1,wr,e5];exact r4
  ·rw[g3];obtain⟨h2,wr⟩:=adv (by omega);have hd:Oi c=false:=by unfold Oi;rw[dF (q:=c<=57) (by omega),Zzt]
   rw[hd] at dg;have b1:=dT (q:=c>=97) (by omega);have b2:=dT (q:=c<=102) (by omega);have w1:wrap .u8 (c-97)=c-97:=Iy (by omega) (by omega);have w3:wrap .u8 (c-97+10)=c-87:=by rw[Iy (by omega) (by omega)];omega
   have w2:wrap .i32 (c-87)=c-87:=D5 (by omega) (by omega);have or1:=Ag3 (x:=x) (v:=c-87) h0 (by omega) (by omega) (by omega);obtain⟨r1,r2,i',e',r3,r4⟩:=Tk ht (t0:=t0) (i0:=i0) (e0:=e0) k m (x*16+(c-87)) (i+1) e (Ad s) (by omega) (by omega) (by omega) (R4 _ (by omega) (by omega)) h2;refine⟨r1,r2,i',e',r3,?_⟩;simp only[A2,A1,e4,pk,dg,b1,b2,sh,w1,w2,w3,or1,wr,e5];exact r4
  ·rw[g3];obtain⟨h2,wr⟩:=adv (by omega);have hd:Oi c=false:=by unfold Oi;rw[dF (q:=c<=57) (by omega),Zzt]
   rw[hd] at dg;have b1:=dF (q:=c>=97) (by omega);have b2:=dT (q:=c>=65) (by omega);have b3:=dT (q:=c<=70) (by omega);have w1:wrap .u8 (c-65)=c-65:=Iy (by omega) (by omega);have w3:wrap .u8 (c-65+10)=c-55:=by rw[Iy (by omega) (by omega)];omega
   have w2:wrap .i32 (c-55)=c-55:=D5 (by omega) (by omega);have or1:=Ag3 (x:=x) (v:=c-55) h0 (by omega) (by omega) (by omega);obtain⟨r1,r2,i',e',r3,r4⟩:=Tk ht (t0:=t0) (i0:=i0) (e0:=e0) k m (x*16+(c-55)) (i+1) e (Ad s) (by omega) (by omega) (by omega) (R4 _ (by omega) (by omega)) h2;refine⟨r1,r2,i',e',r3,?_⟩;simp only[A2,A1,e4,pk,dg,b1,b2,b3,sh,w1,w2,w3,or1,wr,e5];exact r4
  ·rw[g4]
   have hd:Oi c=false:=by
    unfold Oi;by_cases q:48<=c
    ·rw[dF (q:=c<=57) (by omega),Zzt]
    ·rw[dF q,CS]
   rw[hd] at dg;refine⟨Int.le_refl _,by show (0:Int)<65536;decide,i,_,Xf,?_⟩
   by_cases k2:97<=c
   ·have b1:=dT (q:=c>=97) k2;have b2:=dF (q:=c<=102) (by omega);have b3:=dT (q:=c>=65) (by omega);have b4:=dF (q:=c<=70) (by omega);simp only[A2,A1,e4,pk,dg,b1,b2,b3,b4,fl]
   ·have b1:=dF (q:=c>=97) k2;by_cases k3:65<=c
    ·have b3:=dT (q:=c>=65) k3;have b4:=dF (q:=c<=70) (by omega);simp only[A2,A1,e4,pk,dg,b1,b3,b4,fl]
    ·have b3:=dF (q:=c>=65) k3;simp only[A2,A1,e4,pk,dg,b1,b3,fl]
theorem Aod{t:ByteArray}(ht:t.size<=1000000)(Ce:5<=fu){i e:Int}{s:RS}(h:JS t i e s):0<=(EI 4 0 s).1/\(EI 4 0 s).1<65536/\∃i' e',JS t i' e' (EI 4 0 s).2/\Ae (CP p) prog fu (d+2) 96 [.pbox (jC t i e)]=some ⟨[.sc (.int .i32 (EI 4 0 s).1)],[jC t i' e']⟩:=by obtain⟨r1,r2,i',e',r3,r4⟩:=Tk (fu:=fu) (d:=d) (p:=p) ht (t0:=t) (i0:=i) (e0:=e) 4 fu 0 i e s (by omega) (by omega) (by omega) (by decide) h;exact⟨r1,r2,i',e',r3,(Sb (p:=p) fu (d+1) t i e).trans r4⟩
theorem L6(x:Int):(runesBytes [x]).size<=4:=by
 have e1:runesBytes [x]=Utf8.encode x:=by
  show ByteArray.empty++Utf8.encode x=_;exact ByteArray.empty_append
 rw[e1];unfold Utf8.encode;simp only;generalize (if Utf8.valid x=true then x.toNat else Utf8.runeError)=c;by_cases c1:c<128
 ·rw[Bq c1];show (1:Nat)<=4
  decide
 rw[Bg c1];by_cases c2:c<2048
 ·rw[Bq c2];show (2:Nat)<=4
  decide
 rw[Bg c2];by_cases c3:c<65536
 ·rw[Bq c3];show (3:Nat)<=4
  decide
 ·rw[Bg c3];show (4:Nat)<=4
  decide
def jes(r:Am):RS:=match Kh r with
 |(some _,r')=>.ok r'
 |(none,_)=>.error 2
def EsQ(t:ByteArray)(r:Am)(q:Option Bz):Prop:=∃i' e' o,JS t i' e' (jes r)/\(∀x r',Kh r=(some x,r')->o=Aa (Lib.encodeRuneZ x))/\o.size<=4/\q=some ⟨[.sc (.string o)],[jC t i' e']⟩
theorem Alf{s:RS}(h:(∃r,s=.ok r)\/s=.error 2):UJ 2 s=.error 2:=by rcases h with⟨r,rfl⟩|rfl<;>rfl
theorem Aao{c:Int}{s:RS}(h:(∃r,s=.ok r)\/s=.error 2):(∃r,Oo c s=.ok r)\/Oo c s=.error 2:=by
 rcases h with⟨r,rfl⟩|rfl
 ·unfold Oo;split
  ·cases r with
   |nil=>exact .inl ⟨_,rfl⟩
   |cons a r=>exact .inl ⟨_,rfl⟩
  ·exact .inr rfl
 ·unfold Oo;split<;>exact .inr rfl
theorem Alm{s:RS}(h:(∃r,s=.ok r)\/s=.error 2):(∃r,(EI 4 0 s).2=.ok r)\/(EI 4 0 s).2=.error 2:=by
 rcases h with⟨r,rfl⟩|rfl
 ·rw[QW];rcases N0 4 0 r with⟨o,r'⟩;cases o with
  |some x=>exact .inl ⟨_,rfl⟩
  |none=>exact .inr rfl
 ·exact .inr rfl
set_option maxHeartbeats 4000000 in
theorem Ae8{t:ByteArray}(ht:t.size<=1000000)(Ce:5<=fu){r:Am}(hr:Dp t r):EsQ t r (Ae (CP p) prog fu (d+3) 70 [.pbox (jC t (A9 t r) 0)]):=by
 have h0:JS t (A9 t r) 0 (.ok r):=⟨rfl,hr,rfl⟩
 have pk:=Cj (fu:=fu) (d:=d+1) (p:=p) h0;have er:=Ok (p:=p) fu (d+2) t (A9 t r) 0;have hrg:=h0.rng;have wr:wrap .i64 ((A9 t r:Int)+1)=(A9 t r:Int)+1:=Ar (by omega) (by omega);have fl:=Kn (fu:=fu) (d:=d+1) (p:=p) t ((A9 t r:Int)+1) 0 2;rw[Bq rfl] at fl;cases r with
 |nil=>
  have e1:jes []=.error 2:=rfl;unfold EsQ;rw[e1];refine⟨(A9 t []:Int)+1,2,⟨#[]⟩,⟨rfl,by decide,by omega,by rw[L8];omega⟩,(fun x r' h=>by cases h),by decide,er.trans ?_⟩
  have pk:Ae (CP p) prog fu (d+2) 50 [.pbox (jC t (A9 t []) 0)]=some ⟨[.sc (.int .u8 0)],[jC t (A9 t []) 0]⟩:=pk;have z:∀k:Int,k≠0->((0:Int)==k)=false:=fun k hk=>by simp[Ne.symm hk]
  simp only[A2,A1,pk,wr,z 34 (by decide),z 92 (by decide),z 47 (by decide),z 98 (by decide),z 102 (by decide),z 110 (by decide),z 114 (by decide),z 116 (by decide),z 117 (by decide),fl]
 |cons c r=>
  have pk:Ae (CP p) prog fu (d+2) 50 [.pbox (jC t (A9 t (c::r)) 0)]=some ⟨[.sc (.int .u8 c)],[jC t (A9 t (c::r)) 0]⟩:=pk;have hs:=Hy hr;have hp:(A9 t (c::r):Int)+1=(A9 t r:Int):=by omega
  rw[hp] at fl;have wr:wrap .i64 ((A9 t (c::r):Int)+1)=(A9 t r:Int):=wr.trans hp;have ok1:JS t (A9 t r) 0 (.ok r):=⟨rfl,hr.tail,rfl⟩
  have he:Kh (c::r)=if c=117 then Ol r else match S8 c with|some x=>(some x,r)|none=>(none,c::r):=rfl
  by_cases hu:c=117
  rotate_left
  ·rw[Bg hu] at he
   have SM:∀{x:Int} {o:ByteArray},S8 c=some x->o=Aa (Lib.encodeRuneZ x)->o.size<=4->Ae (CP p) prog fu (d+3) 70 [.pbox (jC t (A9 t (c::r)) 0)]=some ⟨[.sc (.string o)],[jC t (A9 t r) 0]⟩->EsQ t (c::r) (Ae (CP p) prog fu (d+3) 70 [.pbox (jC t (A9 t (c::r)) 0)]):=by
    intro x o hx ho hos hq;rw[hx] at he;refine⟨A9 t r,0,o,?_,?_,hos,hq⟩
    ·unfold jes;rw[he];exact ok1
    ·intro x' r' h;rw[he] at h;cases h;exact ho
   by_cases q1:c=34
   ·subst q1;refine SM (x:=34) rfl rfl (by decide) (er.trans ?_);have z:((34:Int)==34)=true:=rfl;simp only[A2,A1,pk,wr,z];rfl
   have z1:(c==34)=false:=by simp[q1]
   by_cases q2:c=92
   ·subst q2;refine SM (x:=92) rfl rfl (by decide) (er.trans ?_);have z:((92:Int)==92)=true:=rfl;simp only[A2,A1,pk,wr,z1,z];rfl
   have z2:(c==92)=false:=by simp[q2]
   by_cases q3:c=47
   ·subst q3;refine SM (x:=47) rfl rfl (by decide) (er.trans ?_);have z:((47:Int)==47)=true:=rfl;simp only[A2,A1,pk,wr,z1,z2,z];rfl
   have z3:(c==47)=false:=by simp[q3]
   by_cases q4:c=98
   ·subst q4;refine SM (x:=8) rfl rfl (by decide) (er.trans ?_);have z:((98:Int)==98)=true:=rfl;simp only[A2,A1,pk,wr,z1,z2,z3,z];rfl
   have z4:(c==98)=false:=by simp[q4]
   by_cases q5:c=102
   ·subst q5;refine SM (x:=12) rfl rfl (by decide) (er.trans ?_);have z:((102:Int)==102)=true:=rfl;simp only[A2,A1,pk,wr,z1,z2,z3,z4,z];rfl
   have z5:(c==102)=false:=by simp[q5]
   by_cases q6:c=110
   ·subst q6;refine SM (x:=10) rfl rfl (by decide) (er.trans ?_);have z:((110:Int)==110)=true:=rfl;simp only[A2,A1,pk,wr,z1,z2,z3,z4,z5,z];rfl
   have z6:(c==110)=false:=by simp[q6]
   by_cases q7:c=114
   ·subst q7;refine SM (x:=13) rfl rfl (by decide) (er.trans ?_);have z:((114:Int)==114)=true:=rfl;simp only[A2,A1,pk,wr,z1,z2,z3,z4,z5,z6,z];rfl
   have z7:(c==114)=false:=by simp[q7]
   by_cases q8:c=116
   ·subst q8;refine SM (x:=9) rfl rfl (by decide) (er.trans ?_);have z:((116:Int)==116)=true:=rfl;simp only[A2,A1,pk,wr,z1,z2,z3,z4,z5,z6,z7,z];rfl
   have z8:(c==116)=false:=by simp[q8]
   have z9:(c==117)=false:=by simp[hu]
   have hn:S8 c=none:=by unfold S8;simp[q1,q2,q3,q4,q5,q6,q7,q8]
   rw[hn] at he;refine⟨A9 t r,2,⟨#[]⟩,?_,?_,by decide,er.trans ?_⟩
   ·unfold jes;rw[he];have:=ok1.rng;exact⟨rfl,by decide,this.1,this.2⟩
   ·intro x' r' h;rw[he] at h;cases h
   ·simp only[A2,A1,pk,wr,z1,z2,z3,z4,z5,z6,z7,z8,z9,fl]
  subst hu;rw[Bq rfl] at he;have y1:((117:Int)==34)=false:=rfl;have y2:((117:Int)==92)=false:=rfl;have y3:((117:Int)==47)=false:=rfl;have y4:((117:Int)==98)=false:=rfl;have y5:((117:Int)==102)=false:=rfl;have y6:((117:Int)==110)=false:=rfl;have y7:((117:Int)==114)=false:=rfl;have y8:((117:Int)==116)=false:=rfl;have y9:((117:Int)==117)=true:=rfl;obtain⟨n0,n1,i2,e2,j2,hx⟩:=Aod (fu:=fu) (d:=d) (p:=p) ht Ce ok1;have f2:=Kn (fu:=fu) (d:=d+1) (p:=p) t i2 e2 2;have j2f:=j2.fail (c:=2) (by decide);have hk:=QW 4 0 r
  have hcd:Ol r=match N0 4 0 r with
   |(none,r)=>(none,r)
   |(some x,r)=>if Rf x=true then (none,r) else if x<55296\/56319<x then (some x,r) else if YQ r=true then NW x (r.drop 2) else (none,r):=rfl
  rw[hcd] at he;rcases hq:N0 4 0 r with⟨o,r2⟩;rw[hq] at hk he;cases o with
  |none=>
   simp only at hk he;rw[hk] at n0 n1 j2 hx;refine⟨i2,e2,runesBytes [0],?_,?_,L6 _,er.trans ?_⟩
   ·unfold jes;rw[he];exact j2
   ·intro x' r' h;rw[he] at h;cases h
   ·have b1:decide ((0:Int)>=56320)=false:=rfl;have b2:decide ((0:Int)>=55296)=false:=rfl;simp only[A2,A1,pk,wr,y1,y2,y3,y4,y5,y6,y7,y8,y9,hx,b1,b2]
  |some x=>
   simp only at hk he;rw[hk] at n0 n1 j2 hx j2f;by_cases hB:56320<=x
   ·have b1:=dT (q:=x>=56320) hB;have b3:=dT (q:=x>=55296) (by omega);have b4:=dF (q:=x<=56319) (by omega);by_cases hA:x<=57343
    ·have b2:=dT (q:=x<=57343) hA;have hl:Rf x=true:=by unfold Rf;rw[dT hB,dT hA];rfl
     rw[Bq hl] at he;refine⟨i2,(if e2=0 then 2 else e2),runesBytes [x],?_,?_,L6 _,er.trans ?_⟩
     ·unfold jes;rw[he];exact j2f
     ·intro x' r' h;rw[he] at h;cases h
     ·simp only[A2,A1,pk,wr,y1,y2,y3,y4,y5,y6,y7,y8,y9,hx,b1,b2,f2,b3,b4]
    ·have b2:=dF (q:=x<=57343) hA;have hl:Rf x=false:=by unfold Rf;rw[dT hB,dF hA];rfl
     rw[hl,Bg (by decide),Bq (.inr (by omega))] at he;refine⟨i2,e2,runesBytes [x],?_,?_,L6 _,er.trans ?_⟩
     ·unfold jes;rw[he];exact j2
     ·intro x' r' h;rw[he] at h;cases h;exact BA n0 (by omega) (.inr (by omega))
     ·simp only[A2,A1,pk,wr,y1,y2,y3,y4,y5,y6,y7,y8,y9,hx,b1,b2,b3,b4]
   have b1:=dF (q:=x>=56320) hB;have hl:Rf x=false:=by unfold Rf;rw[dF hB];rfl
   rw[hl,Bg (by decide)] at he;by_cases hC:x<55296
   ·have b3:=dF (q:=x>=55296) (by omega);rw[Bq (.inl hC)] at he;refine⟨i2,e2,runesBytes [x],?_,?_,L6 _,er.trans ?_⟩
    ·unfold jes;rw[he];exact j2
    ·intro x' r' h;rw[he] at h;cases h;exact BA n0 (by omega) (.inl (by omega))
    ·simp only[A2,A1,pk,wr,y1,y2,y3,y4,y5,y6,y7,y8,y9,hx,b1,b3]
   have b3:=dT (q:=x>=55296) (by omega);have b4:=dT (q:=x<=56319) (by omega);rw[Bg (by omega)] at he;obtain⟨i3,e3,j3,x3⟩:=Hs (fu:=fu) (d:=d) (p:=p) ht (c:=92) (by decide) j2;obtain⟨i4,e4,j4,x4⟩:=Hs (fu:=fu) (d:=d) (p:=p) ht (c:=117) (by decide) j3;obtain⟨m0,m1,i5,e5,j5,x5⟩:=Aod (fu:=fu) (d:=d) (p:=p) ht Ce j4;have f5:=Kn (fu:=fu) (d:=d+1) (p:=p) t i5 e5 2;have j5f:=j5.fail (c:=2) (by decide);have tw:=Alm (Aao (c:=117) (Aao (c:=92) (.inl ⟨r2,rfl⟩)));rw[Alf tw] at j5f
   have Ajt:(Kh (117::r)=if 56320<=(EI 4 0 (Oo 117 (Oo 92 (.ok r2)))).1/\(EI 4 0 (Oo 117 (Oo 92 (.ok r2)))).1<=57343 then (some (65536+(x-55296)*1024+((EI 4 0 (Oo 117 (Oo 92 (.ok r2)))).1-56320)),(match (EI 4 0 (Oo 117 (Oo 92 (.ok r2)))).2 with | .ok r'=>r' | .error _=>[])) else (none,(Kh (117::r)).2))/\((56320<=(EI 4 0 (Oo 117 (Oo 92 (.ok r2)))).1/\(EI 4 0 (Oo 117 (Oo 92 (.ok r2)))).1<=57343)->∃r',(EI 4 0 (Oo 117 (Oo 92 (.ok r2)))).2=.ok r'):=by
    by_cases hbu:YQ r2=true
    ·obtain⟨r3,rfl⟩:∃r3,r2=92::117::r3:=by
      match r2,hbu with
      |92::117::r3,_=>exact⟨r3,rfl⟩
     rw[Bq hbu] at he;have s4:Oo 117 (Oo 92 (.ok (92::117::r3)))=.ok r3:=rfl
     have hp2:NW x (List.drop 2 (92::117::r3))=match N0 4 0 r3 with
      |(some y,r)=>if Rf y=true then (some (65536+(x-55296)*1024+(y-56320)),r) else (none,r)
      |(none,r)=>(none,r):=rfl
     rw[hp2] at he;rw[s4,QW];rcases hq3:N0 4 0 r3 with⟨o3,r4⟩;rw[hq3] at he;cases o3 with
     |none=>
      simp only at he ⊢;refine⟨?_,fun h=>by omega⟩;rw[Bg (by omega),he]
     |some y=>
      simp only at he ⊢;refine⟨?_,fun _=>⟨r4,rfl⟩⟩;by_cases hy:56320<=y/\y<=57343
      ·have hly:Rf y=true:=by unfold Rf;rw[dT hy.1,dT hy.2];rfl
       rw[Bq hy,he,Bq hly]
      ·have hly:Rf y=false:=by
        unfold Rf;by_cases q:56320<=y
        ·rw[dF (q:=y<=57343) (by omega),Zzt]
        ·rw[dF q,CS]
       rw[Bg hy,he,hly,Bg (by decide)]
    ·rw[Bg hbu] at he
     have s4:Oo 117 (Oo 92 (.ok r2))=.error 2:=by
      match r2,hbu with
      |[],_=>rfl
      |[a],_=>
       unfold Oo;by_cases ha:a=92
       ·subst ha;rfl
       ·have:Bp (.ok [a])=a:=rfl;rw[this,Bg ha];rfl
      |a::b::r3,hbu=>
       by_cases ha:a=92
       ·subst ha;by_cases hb:b=117
        ·subst hb;exact absurd rfl hbu
        ·show Oo 117 (.ok (b::r3))=_;unfold Oo;have:Bp (.ok (b::r3))=b:=rfl;rw[this,Bg hb];rfl
       ·have e:Oo 92 (.ok (a::b::r3))=.error 2:=by
         unfold Oo;have:Bp (.ok (a::b::r3))=a:=rfl;rw[this,Bg ha];rfl
        rw[e];rfl
     rw[s4,Alx];simp only;refine⟨?_,fun h=>by omega⟩;rw[Bg (by omega),he]
   generalize EI 4 0 (Oo 117 (Oo 92 (.ok r2)))=ys at m0 m1 j5 x5 Ajt tw;obtain⟨y,s5⟩:=ys;simp only at m0 m1 j5 x5 Ajt tw;obtain⟨Da,hp2⟩:=Ajt;by_cases hY:56320<=y/\y<=57343
   ·obtain⟨r5,rfl⟩:=hp2 hY;rw[Bq hY] at Da;simp only at Da;have c1:=dF (q:=y<56320) (by omega);have c2:=dF (q:=y>57343) (by omega);have w1:wrap .i32 (x-55296)=x-55296:=D5 (by omega) (by omega);have w2:=Afw (x:=x-55296) (by omega) (by omega);have w3:wrap .i32 (65536+(x-55296)*1024)=65536+(x-55296)*1024:=D5 (by omega) (by omega);have w4:wrap .i32 (y-56320)=y-56320:=D5 (by omega) (by omega);have w5:wrap .i32 (65536+(x-55296)*1024+(y-56320))=65536+(x-55296)*1024+(y-56320):=D5 (by omega) (by omega);refine⟨i5,e5,runesBytes [65536+(x-55296)*1024+(y-56320)],?_,?_,L6 _,er.trans ?_⟩
    ·unfold jes;rw[Da];exact j5
    ·intro x' r' h;rw[Da] at h;cases h;exact BA (by omega) (by omega) (.inr (by omega))
    ·simp only[A2,A1,pk,wr,y1,y2,y3,y4,y5,y6,y7,y8,y9,hx,b1,b3,b4,x3,x4,x5,c1,c2,w1,w2,w3,w4,w5]
   ·rw[Bg hY] at Da;refine⟨i5,(if e5=0 then 2 else e5),⟨#[]⟩,?_,?_,by decide,er.trans ?_⟩
    ·unfold jes;rw[Da];exact j5f
    ·intro x' r' h;rw[Da] at h;cases h
    ·by_cases hz:y<56320
     ·have c1:=dT hz;simp only[A2,A1,pk,wr,y1,y2,y3,y4,y5,y6,y7,y8,y9,hx,b1,b3,b4,x3,x4,x5,c1,f5]
     ·have c1:=dF hz;have c2:=dT (q:=y>57343) (by omega);simp only[A2,A1,pk,wr,y1,y2,y3,y4,y5,y6,y7,y8,y9,hx,b1,b3,b4,x3,x4,x5,c1,c2,f5]
end
def jtP(q:PR Am):Am × RS:=match q with
 |(some s,r)=>(s,.ok r)
 |(none,_)=>([],.error 2)
def LE:RS->Am × RS
 |.ok l=>jtP (De l)
 |.error c=>([],.error c)
section
variable {fu d:Nat}{p:Option (Al->Option Bz)}
theorem LU{t:ByteArray}{t0 y0:ByteArray}{i0 e0 i e:Int}(he:e≠0)(nn:Nat):Dj fu (Ae (CP p) prog fu (d+3)) t0 i0 e0 (nn+1) y0 t i e=some ⟨[.sc (.string (Aa []))],[jC t i e]⟩:=by
 have z:(e==0)=false:=by simp[he]
 rw[F2];simp only[A2,A1,z];rfl
theorem Vf{t:ByteArray}(ht:t.size<=1000000)(Ce:5<=fu){t0:ByteArray}{i0 e0:Int}:∀(n nn:Nat)(out r:Am),r.length<n->n<=nn->Dp t r->out.length+4*r.length<=4*t.size ->
    ∃i' e',JS t i' e' (jtP (Gf n out r)).2/\Dj fu (Ae (CP p) prog fu (d+3)) t0 i0 e0 nn (Aa out) t (A9 t r) 0=some ⟨[.sc (.string (Aa (jtP (Gf n out r)).1))],[jC t i' e']⟩
  |0,nn,out,r,h,_,_,_=>by omega
  |n+1,nn,out,[],h,Jo,hr,ho=>by
    obtain⟨m,rfl⟩:∃m,nn=m+1:=⟨nn-1,by omega⟩
    have h0:JS t (A9 t []) 0 (.ok []):=⟨rfl,hr,rfl⟩
    have hf:=h0.fail (c:=2) (by decide)
    rw[Bq rfl] at hf
    have fl:=Kn (fu:=fu) (d:=d+2) (p:=p) t (A9 t []) 0 2
    rw[Bq rfl] at fl
    have z:((0:Int)==0)=true:=rfl
    have a:decide ((A9 t []:Int)>=(t.size:Int))=true:=dT (by rw[L8];omega)
    refine⟨A9 t [],2,hf,?_⟩
    rw[F2]
    simp only[A2,A1,z,a,fl]
    rfl
  |n+1,nn,out,c::r,h,Jo,hr,ho=>by
    obtain⟨m,rfl⟩:∃m,nn=m+1:=⟨nn-1,by omega⟩
    have hrl:r.length+1<n+1:=by simpa using h
    have OY:out.length+4*(r.length+1)<=4*t.size:=by simpa using ho
    have hl:=hr.len
    have hp:A9 t (c::r)<t.size:=by
      unfold A9
      rw[Ub] at hl ⊢
      omega
    have h0:JS t (A9 t (c::r)) 0 (.ok (c::r)):=⟨rfl,hr,rfl⟩
    have hf:=h0.fail (c:=2) (by decide)
    rw[Bq rfl] at hf
    have fl:=Kn (fu:=fu) (d:=d+2) (p:=p) t (A9 t (c::r)) 0 2
    rw[Bq rfl] at fl
    have hs:=Hy hr
    have wr:wrap .i64 ((A9 t (c::r):Int)+1)=(A9 t r:Int):=by rw[Ar (by omega) (by omega)];omega
    have ok1:JS t (A9 t r) 0 (.ok r):=⟨rfl,hr.tail,rfl⟩
    have z:((0:Int)==0)=true:=rfl
    have AP:=hr.B c (by simp)
    obtain⟨b,hb,hbc⟩:=hr.at
    rw[<-Kc (A9 t (c::r))] at hb
    have a:decide ((A9 t (c::r):Int)>=(t.size:Int))=false:=dF (by omega)
    have a2:decide ((0:Int)<=(A9 t (c::r):Int))=true:=by simp
    have est:Gf (n+1) out (c::r)=if c<32 then (none,c::r) else if c=34 then (some out,r) else if c=92 then
      (match Kh r with
       |(some x,r')=>Gf n (out++Lib.encodeRuneZ x) r'
       |(none,r')=>(none,r')) else Gf n (out++[c]) r:=rfl
    rw[est,F2]
    by_cases h1:c<32
    · rw[Bq h1]
      have b1:=dT h1
      refine⟨A9 t (c::r),2,hf,?_⟩
      simp only[A2,A1,z,a,a2,hb,hbc,b1,fl]
      rfl
    have b1:=dF h1
    rw[Bg h1]
    by_cases h2:c=34
    · subst h2
      have b2:((34:Int)==34)=true:=rfl
      rw[Bq rfl]
      refine⟨A9 t r,0,ok1,?_⟩
      simp only[A2,A1,z,a,a2,hb,hbc,b1,wr,b2]
      rfl
    have b2:(c==34)=false:=by simp[h2]
    rw[Bg h2]
    by_cases h3:c=92
    · subst h3
      have b3:((92:Int)==92)=true:=rfl
      rw[Bq rfl]
      obtain⟨i',e',o,j1,j2,j3,ex⟩:=Ae8 (fu:=fu) (d:=d) (p:=p) ht Ce hr.tail
      have hel:=TJ (l:=r) hr.tail.B
      have Tr:=Rp hr.tail
      have c1:decide ((Aa out).size+o.size<=9223372036854775807)=true:=dT (by rw[Ag];omega)
      unfold jes at j1
      rcases hq:Kh r with⟨q,r'⟩
      rw[hq] at j1 hel Tr
      simp only at hel Tr
      cases q with
      |none=>
        have j1':=j1
        obtain⟨e1,e2,_,_⟩:=j1'
        obtain⟨k,rfl⟩:∃k,m=k+1:=⟨m-1,by omega⟩
        have st:=LU (fu:=fu) (d:=d) (p:=p) (t:=t) (t0:=t0) (y0:=Aa out++o) (i0:=i0) (e0:=e0) (i:=i') (e:=e') (by rw[e1];exact e2) k
        refine⟨i',e',j1,?_⟩
        simp only[A2,A1,z,a,a2,hb,hbc,b1,wr,b2,b3,ex,c1]
        exact st
      |some x=>
        obtain rfl:=j2 x r' hq
        obtain⟨rfl,_,rfl⟩:=j1
        have hx4:=(Lib.encodeRuneZ_length x).2
        obtain⟨i2,e2,g1,g2⟩:=Vf ht Ce (t0:=t0) (i0:=i0) (e0:=e0) n m (out++Lib.encodeRuneZ x) r' (by omega) (by omega) Tr (by rw[LG];omega)
        refine⟨i2,e2,g1,?_⟩
        simp only[A2,A1,z,a,a2,hb,hbc,b1,wr,b2,b3,ex,c1,Ie]
        exact g2
    · have b3:(c==92)=false:=by simp[h3]
      rw[Bg h3]
      have Rj:ByteArray.mk (List.toArray [Nat.toUInt8 (Int.toNat c)])=Aa [c]:=rfl
      have c1:decide (out.length+[c].length<=9223372036854775807)=true:=dT (by simp;omega)
      obtain⟨i2,e2,g1,g2⟩:=Vf ht Ce (t0:=t0) (i0:=i0) (e0:=e0) n m (out++[c]) r (by omega) (by omega) hr.tail (by simp;omega)
      refine⟨i2,e2,g1,?_⟩
      simp only[A2,A1,z,a,a2,hb,hbc,b1,wr,b2,b3,Rj,Ag,c1,Ie]
      exact g2
theorem YZ{t:ByteArray}(ht:t.size<=1000000)(Ce:5<=fu)(hft:t.size+2<=fu){i e:Int}{s:RS}(h:JS t i e s):∃i' e',JS t i' e' (LE s).2/\Ae (CP p) prog fu (d+4) 51 [.pbox (jC t i e)]=some ⟨[.sc (.string (Aa (LE s).1))],[jC t i' e']⟩:=by
 have er:=Q9 (p:=p) fu (d+3) t i e;obtain⟨i1,e1,j1,x1⟩:=Hs (fu:=fu) (d:=d+1) (p:=p) ht (c:=34) (by decide) h;obtain⟨f,hf⟩:∃f,fu=f+1:=⟨fu-1,by omega⟩
 have stop:∀c,Oo 34 s=.error c->LE s=([],.error c)->∃i' e',JS t i' e' (LE s).2/\Ae (CP p) prog fu (d+4) 51 [.pbox (jC t i e)]=some ⟨[.sc (.string (Aa (LE s).1))],[jC t i' e']⟩:=by
  intro c h1 h2;rw[h1] at j1;have j1':=j1;obtain⟨q1,q2,_,_⟩:=j1';have st:=LU (fu:=fu) (d:=d) (p:=p) (t:=t) (t0:=t) (y0:=Aa []) (i0:=i) (e0:=e) (i:=i1) (e:=e1) (by rw[q1];exact q2) f
  rw[<-hf] at st;rw[h2];refine⟨i1,e1,j1,er.trans ?_⟩;simp only[A2,A1,x1];exact st
 cases s with
 |error c=>exact stop c (by unfold Oo;split<;>rfl) rfl
 |ok l=>
  cases l with
  |nil=>exact stop 2 rfl rfl
  |cons a r=>
   by_cases ha:a=34
   ·subst ha;have e2:Oo 34 (.ok (34::r))=.ok r:=rfl;rw[e2] at j1;obtain⟨rfl,hr,rfl⟩:=j1;have hl:=hr.len;have e3:De (34::r)=Gf (r.length+1) [] r:=rfl;obtain⟨i2,e2,g1,g2⟩:=Vf (fu:=fu) (d:=d) (p:=p) ht Ce (t0:=t) (i0:=i) (e0:=e) (r.length+1) fu [] r (by omega) (by omega) hr (by simp;omega)
    have ej:LE (.ok (34::r))=jtP (Gf (r.length+1) [] r):=by
     show jtP (De (34::r))=_;rw[e3]
    rw[ej];refine⟨i2,e2,g1,er.trans ?_⟩;simp only[A2,A1,x1];exact g2
   ·exact stop 2 (by
     unfold Oo;have:Bp (.ok (a::r))=a:=rfl;rw[this,Bg ha];rfl) (by
     have:De (a::r)=if a=34 then Gf (r.length+1) [] r else (none,a::r):=rfl
     show jtP (De (a::r))=_;rw[this,Bg ha];rfl)
end
def Ajw(s:RS):RS:=if Bp s=45 then Ad s else s
def XB(s:RS):RS:=if Bp s=48 then Ad s else Av s
def Rw(s:RS):RS:=if Bp s=46 then Av (Ad s) else s
def Jd(s:RS):RS:=if Bp s=43\/Bp s=45 then Ad s else s
def Fg(s:RS):RS:=if Bp s=101\/Bp s=69 then Av (Jd (Ad s)) else s
def B4(s:RS):RS:=Fg (Rw (XB (Ajw s)))
section
variable {fu d:Nat}{p:Option (Al->Option Bz)}
theorem Dd{a b:Int}(h:a=b)(hb:b≠0):a≠0:=by rw[h];exact hb
set_option maxHeartbeats 8000000 in
theorem Ae9{t:ByteArray}(ht:t.size<=1000000)(Ce:t.size+1<=fu){i e:Int}{s:RS}(h:JS t i e s):∃i' e',JS t i' e' (B4 s)/\Ae (CP p) prog fu (d+3) 73 [.pbox (jC t i e)]=some ⟨[],[jC t i' e']⟩:=by
 have er:Ae (CP p) prog fu (d+3) 73 [.pbox (jC t i e)]=_:=Oy (p:=p) fu (d+2) t i e;have p1:Ae (CP p) prog fu (d+2) 50 [.pbox (jC t (i) (e))]=_:=Cj (fu:=fu) (d:=d+1) (p:=p) h;by_cases c2:Bp (s)=45
 ·have q1:Ajw (s)=Ad (s):=Bq c2;have z3:(Bp (s)==(45:Int))=true:=by simp[c2]
  obtain⟨h4,w5⟩:=h.adv ht (Dd c2 (by decide));simp only[A2,A1,p1,z3,w5] at er;have p6:Ae (CP p) prog fu (d+2) 50 [.pbox (jC t (i+1) (e))]=_:=Cj (fu:=fu) (d:=d+1) (p:=p) h4;by_cases c7:Bp (Ad (s))=48
  ·have q2:XB (Ad (s))=Ad (Ad (s)):=Bq c7;have z8:(Bp (Ad (s))==(48:Int))=true:=by simp[c7]
   obtain⟨h9,w10⟩:=h4.adv ht (Dd c7 (by decide));simp only[A2,A1,p6,z8,w10] at er;have p11:Ae (CP p) prog fu (d+2) 50 [.pbox (jC t (i+1+1) (e))]=_:=Cj (fu:=fu) (d:=d+1) (p:=p) h9;by_cases c12:Bp (Ad (Ad (s)))=46
   ·have q3:Rw (Ad (Ad (s)))=Av (Ad (Ad (Ad (s)))):=Bq c12;have z13:(Bp (Ad (Ad (s)))==(46:Int))=true:=by simp[c12]
    obtain⟨h14,w15⟩:=h9.adv ht (Dd c12 (by decide));obtain⟨i16,e17,h18,x19⟩:=Bb (fu:=fu) (d:=d) (p:=p) ht Ce h14;simp only[A2,A1,p11,z13,w15,x19] at er;have p20:Ae (CP p) prog fu (d+2) 50 [.pbox (jC t (i16) (e17))]=_:=Cj (fu:=fu) (d:=d+1) (p:=p) h18;by_cases c21:Bp (Av (Ad (Ad (Ad (s)))))=101
    ·have q4:Fg (Av (Ad (Ad (Ad (s)))))=Av (Jd (Ad (Av (Ad (Ad (Ad (s))))))):=Bq (.inl c21);have z22:(Bp (Av (Ad (Ad (Ad (s)))))==(101:Int))=true:=by simp[c21]
     obtain⟨h23,w24⟩:=h18.adv ht (Dd c21 (by decide));simp only[A2,A1,p20,z22,w24] at er;have p25:Ae (CP p) prog fu (d+2) 50 [.pbox (jC t (i16+1) (e17))]=_:=Cj (fu:=fu) (d:=d+1) (p:=p) h23;by_cases c26:Bp (Ad (Av (Ad (Ad (Ad (s))))))=43
     ·have q5:Jd (Ad (Av (Ad (Ad (Ad (s))))))=Ad (Ad (Av (Ad (Ad (Ad (s)))))):=Bq (.inl c26);have z27:(Bp (Ad (Av (Ad (Ad (Ad (s))))))==(43:Int))=true:=by simp[c26]
      obtain⟨h28,w29⟩:=h23.adv ht (Dd c26 (by decide));obtain⟨i30,e31,h32,x33⟩:=Bb (fu:=fu) (d:=d) (p:=p) ht Ce h28;simp only[A2,A1,p25,z27,w29,x33] at er;have ej:B4 s=Av (Ad (Ad (Av (Ad (Ad (Ad (s))))))):=by unfold B4;rw[q1,q2,q3,q4,q5]
      rw[ej];exact⟨_,_,h32,er⟩
     have z34:(Bp (Ad (Av (Ad (Ad (Ad (s))))))==(43:Int))=false:=by simp[c26]
     by_cases c35:Bp (Ad (Av (Ad (Ad (Ad (s))))))=45
     ·have q5:Jd (Ad (Av (Ad (Ad (Ad (s))))))=Ad (Ad (Av (Ad (Ad (Ad (s)))))):=Bq (.inr c35);have z36:(Bp (Ad (Av (Ad (Ad (Ad (s))))))==(45:Int))=true:=by simp[c35]
      obtain⟨h37,w38⟩:=h23.adv ht (Dd c35 (by decide));obtain⟨i39,e40,h41,x42⟩:=Bb (fu:=fu) (d:=d) (p:=p) ht Ce h37;simp only[A2,A1,p25,z34,z36,w38,x42] at er;have ej:B4 s=Av (Ad (Ad (Av (Ad (Ad (Ad (s))))))):=by unfold B4;rw[q1,q2,q3,q4,q5]
      rw[ej];exact⟨_,_,h41,er⟩
     ·have q5:Jd (Ad (Av (Ad (Ad (Ad (s))))))=Ad (Av (Ad (Ad (Ad (s))))):=Bg (fun h=>h.elim c26 c35);have z43:(Bp (Ad (Av (Ad (Ad (Ad (s))))))==(45:Int))=false:=by simp[c35]
      obtain⟨i44,e45,h46,x47⟩:=Bb (fu:=fu) (d:=d) (p:=p) ht Ce h23;simp only[A2,A1,p25,z34,z43,x47] at er;have ej:B4 s=Av (Ad (Av (Ad (Ad (Ad (s)))))):=by unfold B4;rw[q1,q2,q3,q4,q5]
      rw[ej];exact⟨_,_,h46,er⟩
    have z48:(Bp (Av (Ad (Ad (Ad (s)))))==(101:Int))=false:=by simp[c21]
    by_cases c49:Bp (Av (Ad (Ad (Ad (s)))))=69
    ·have q4:Fg (Av (Ad (Ad (Ad (s)))))=Av (Jd (Ad (Av (Ad (Ad (Ad (s))))))):=Bq (.inr c49);have z50:(Bp (Av (Ad (Ad (Ad (s)))))==(69:Int))=true:=by simp[c49]
     obtain⟨h51,w52⟩:=h18.adv ht (Dd c49 (by decide));simp only[A2,A1,p20,z48,z50,w52] at er;have p53:Ae (CP p) prog fu (d+2) 50 [.pbox (jC t (i16+1) (e17))]=_:=Cj (fu:=fu) (d:=d+1) (p:=p) h51;by_cases c54:Bp (Ad (Av (Ad (Ad (Ad (s))))))=43
     ·have q5:Jd (Ad (Av (Ad (Ad (Ad (s))))))=Ad (Ad (Av (Ad (Ad (Ad (s)))))):=Bq (.inl c54);have z55:(Bp (Ad (Av (Ad (Ad (Ad (s))))))==(43:Int))=true:=by simp[c54]
      obtain⟨h56,w57⟩:=h51.adv ht (Dd c54 (by decide));obtain⟨i58,e59,h60,x61⟩:=Bb (fu:=fu) (d:=d) (p:=p) ht Ce h56;simp only[A2,A1,p53,z55,w57,x61] at er;have ej:B4 s=Av (Ad (Ad (Av (Ad (Ad (Ad (s))))))):=by unfold B4;rw[q1,q2,q3,q4,q5]
      rw[ej];exact⟨_,_,h60,er⟩
     have z62:(Bp (Ad (Av (Ad (Ad (Ad (s))))))==(43:Int))=false:=by simp[c54]
     by_cases c63:Bp (Ad (Av (Ad (Ad (Ad (s))))))=45
     ·have q5:Jd (Ad (Av (Ad (Ad (Ad (s))))))=Ad (Ad (Av (Ad (Ad (Ad (s)))))):=Bq (.inr c63);have z64:(Bp (Ad (Av (Ad (Ad (Ad (s))))))==(45:Int))=true:=by simp[c63]
      obtain⟨h65,w66⟩:=h51.adv ht (Dd c63 (by decide));obtain⟨i67,e68,h69,x70⟩:=Bb (fu:=fu) (d:=d) (p:=p) ht Ce h65;simp only[A2,A1,p53,z62,z64,w66,x70] at er;have ej:B4 s=Av (Ad (Ad (Av (Ad (Ad (Ad (s))))))):=by unfold B4;rw[q1,q2,q3,q4,q5]
      rw[ej];exact⟨_,_,h69,er⟩
     ·have q5:Jd (Ad (Av (Ad (Ad (Ad (s))))))=Ad (Av (Ad (Ad (Ad (s))))):=Bg (fun h=>h.elim c54 c63);have z71:(Bp (Ad (Av (Ad (Ad (Ad (s))))))==(45:Int))=false:=by simp[c63]
      obtain⟨i72,e73,h74,x75⟩:=Bb (fu:=fu) (d:=d) (p:=p) ht Ce h51;simp only[A2,A1,p53,z62,z71,x75] at er;have ej:B4 s=Av (Ad (Av (Ad (Ad (Ad (s)))))):=by unfold B4;rw[q1,q2,q3,q4,q5]
      rw[ej];exact⟨_,_,h74,er⟩
    ·have q4:Fg (Av (Ad (Ad (Ad (s)))))=Av (Ad (Ad (Ad (s)))):=Bg (fun h=>h.elim c21 c49);have z76:(Bp (Av (Ad (Ad (Ad (s)))))==(69:Int))=false:=by simp[c49]
     simp only[A2,A1,p20,z48,z76] at er;have ej:B4 s=Av (Ad (Ad (Ad (s)))):=by unfold B4;rw[q1,q2,q3,q4]
     rw[ej];exact⟨_,_,h18,er⟩
   ·have q3:Rw (Ad (Ad (s)))=Ad (Ad (s)):=Bg c12;have z77:(Bp (Ad (Ad (s)))==(46:Int))=false:=by simp[c12]
    simp only[A2,A1,p11,z77] at er;have p78:Ae (CP p) prog fu (d+2) 50 [.pbox (jC t (i+1+1) (e))]=_:=Cj (fu:=fu) (d:=d+1) (p:=p) h9;by_cases c79:Bp (Ad (Ad (s)))=101
    ·have q4:Fg (Ad (Ad (s)))=Av (Jd (Ad (Ad (Ad (s))))):=Bq (.inl c79);have z80:(Bp (Ad (Ad (s)))==(101:Int))=true:=by simp[c79]
     obtain⟨h81,w82⟩:=h9.adv ht (Dd c79 (by decide));simp only[A2,A1,p78,z80,w82] at er;have p83:Ae (CP p) prog fu (d+2) 50 [.pbox (jC t (i+1+1+1) (e))]=_:=Cj (fu:=fu) (d:=d+1) (p:=p) h81;by_cases c84:Bp (Ad (Ad (Ad (s))))=43
     ·have q5:Jd (Ad (Ad (Ad (s))))=Ad (Ad (Ad (Ad (s)))):=Bq (.inl c84);have z85:(Bp (Ad (Ad (Ad (s))))==(43:Int))=true:=by simp[c84]
      obtain⟨h86,w87⟩:=h81.adv ht (Dd c84 (by decide));obtain⟨i88,e89,h90,x91⟩:=Bb (fu:=fu) (d:=d) (p:=p) ht Ce h86;simp only[A2,A1,p83,z85,w87,x91] at er;have ej:B4 s=Av (Ad (Ad (Ad (Ad (s))))):=by unfold B4;rw[q1,q2,q3,q4,q5]
      rw[ej];exact⟨_,_,h90,er⟩
     have z92:(Bp (Ad (Ad (Ad (s))))==(43:Int))=false:=by simp[c84]
     by_cases c93:Bp (Ad (Ad (Ad (s))))=45
     ·have q5:Jd (Ad (Ad (Ad (s))))=Ad (Ad (Ad (Ad (s)))):=Bq (.inr c93);have z94:(Bp (Ad (Ad (Ad (s))))==(45:Int))=true:=by simp[c93]
      obtain⟨h95,w96⟩:=h81.adv ht (Dd c93 (by decide));obtain⟨i97,e98,h99,A2o⟩:=Bb (fu:=fu) (d:=d) (p:=p) ht Ce h95;simp only[A2,A1,p83,z92,z94,w96,A2o] at er;have ej:B4 s=Av (Ad (Ad (Ad (Ad (s))))):=by unfold B4;rw[q1,q2,q3,q4,q5]
      rw[ej];exact⟨_,_,h99,er⟩
     ·have q5:Jd (Ad (Ad (Ad (s))))=Ad (Ad (Ad (s))):=Bg (fun h=>h.elim c84 c93);have z101:(Bp (Ad (Ad (Ad (s))))==(45:Int))=false:=by simp[c93]
      obtain⟨i102,e103,A44,Ay4⟩:=Bb (fu:=fu) (d:=d) (p:=p) ht Ce h81;simp only[A2,A1,p83,z92,z101,Ay4] at er;have ej:B4 s=Av (Ad (Ad (Ad (s)))):=by unfold B4;rw[q1,q2,q3,q4,q5]
      rw[ej];exact⟨_,_,A44,er⟩
    have z106:(Bp (Ad (Ad (s)))==(101:Int))=false:=by simp[c79]
    by_cases c107:Bp (Ad (Ad (s)))=69
    ·have q4:Fg (Ad (Ad (s)))=Av (Jd (Ad (Ad (Ad (s))))):=Bq (.inr c107);have z108:(Bp (Ad (Ad (s)))==(69:Int))=true:=by simp[c107]
     obtain⟨Aml,w110⟩:=h9.adv ht (Dd c107 (by decide));simp only[A2,A1,p78,z106,z108,w110] at er;have p111:Ae (CP p) prog fu (d+2) 50 [.pbox (jC t (i+1+1+1) (e))]=_:=Cj (fu:=fu) (d:=d+1) (p:=p) Aml;by_cases c112:Bp (Ad (Ad (Ad (s))))=43
     ·have q5:Jd (Ad (Ad (Ad (s))))=Ad (Ad (Ad (Ad (s)))):=Bq (.inl c112);have z113:(Bp (Ad (Ad (Ad (s))))==(43:Int))=true:=by simp[c112]
      obtain⟨A5p,w115⟩:=Aml.adv ht (Dd c112 (by decide));obtain⟨i116,e117,A47,A51⟩:=Bb (fu:=fu) (d:=d) (p:=p) ht Ce A5p;simp only[A2,A1,p111,z113,w115,A51] at er;have ej:B4 s=Av (Ad (Ad (Ad (Ad (s))))):=by unfold B4;rw[q1,q2,q3,q4,q5]
      rw[ej];exact⟨_,_,A47,er⟩
     have z120:(Bp (Ad (Ad (Ad (s))))==(43:Int))=false:=by simp[c112]
     by_cases c121:Bp (Ad (Ad (Ad (s))))=45
     ·have q5:Jd (Ad (Ad (Ad (s))))=Ad (Ad (Ad (Ad (s)))):=Bq (.inr c121);have z122:(Bp (Ad (Ad (Ad (s))))==(45:Int))=true:=by simp[c121]
      obtain⟨Alk,w124⟩:=Aml.adv ht (Dd c121 (by decide));obtain⟨i125,e126,Az0,A07⟩:=Bb (fu:=fu) (d:=d) (p:=p) ht Ce Alk;simp only[A2,A1,p111,z120,z122,w124,A07] at er;have ej:B4 s=Av (Ad (Ad (Ad (Ad (s))))):=by unfold B4;rw[q1,q2,q3,q4,q5]
      rw[ej];exact⟨_,_,Az0,er⟩
     ·have q5:Jd (Ad (Ad (Ad (s))))=Ad (Ad (Ad (s))):=Bg (fun h=>h.elim c112 c121);have z129:(Bp (Ad (Ad (Ad (s))))==(45:Int))=false:=by simp[c121]
      obtain⟨i130,e131,A5d,A0w⟩:=Bb (fu:=fu) (d:=d) (p:=p) ht Ce Aml;simp only[A2,A1,p111,z120,z129,A0w] at er;have ej:B4 s=Av (Ad (Ad (Ad (s)))):=by unfold B4;rw[q1,q2,q3,q4,q5]
      rw[ej];exact⟨_,_,A5d,er⟩
    ·have q4:Fg (Ad (Ad (s)))=Ad (Ad (s)):=Bg (fun h=>h.elim c79 c107);have z134:(Bp (Ad (Ad (s)))==(69:Int))=false:=by simp[c107]
     simp only[A2,A1,p78,z106,z134] at er;have ej:B4 s=Ad (Ad (s)):=by unfold B4;rw[q1,q2,q3,q4]
     rw[ej];exact⟨_,_,h9,er⟩
  ·have q2:XB (Ad (s))=Av (Ad (s)):=Bg c7;have z135:(Bp (Ad (s))==(48:Int))=false:=by simp[c7]
   obtain⟨i136,e137,Aen,A3b⟩:=Bb (fu:=fu) (d:=d) (p:=p) ht Ce h4;simp only[A2,A1,p6,z135,A3b] at er;have p140:Ae (CP p) prog fu (d+2) 50 [.pbox (jC t (i136) (e137))]=_:=Cj (fu:=fu) (d:=d+1) (p:=p) Aen;by_cases c141:Bp (Av (Ad (s)))=46
   ·have q3:Rw (Av (Ad (s)))=Av (Ad (Av (Ad (s)))):=Bq c141;have z142:(Bp (Av (Ad (s)))==(46:Int))=true:=by simp[c141]
    obtain⟨A4q,w144⟩:=Aen.adv ht (Dd c141 (by decide));obtain⟨i145,e146,An8,Ayx⟩:=Bb (fu:=fu) (d:=d) (p:=p) ht Ce A4q;simp only[A2,A1,p140,z142,w144,Ayx] at er;have p149:Ae (CP p) prog fu (d+2) 50 [.pbox (jC t (i145) (e146))]=_:=Cj (fu:=fu) (d:=d+1) (p:=p) An8;by_cases c150:Bp (Av (Ad (Av (Ad (s)))))=101
    ·have q4:Fg (Av (Ad (Av (Ad (s)))))=Av (Jd (Ad (Av (Ad (Av (Ad (s))))))):=Bq (.inl c150);have z151:(Bp (Av (Ad (Av (Ad (s)))))==(101:Int))=true:=by simp[c150]
     obtain⟨Al9,w153⟩:=An8.adv ht (Dd c150 (by decide));simp only[A2,A1,p149,z151,w153] at er;have p154:Ae (CP p) prog fu (d+2) 50 [.pbox (jC t (i145+1) (e146))]=_:=Cj (fu:=fu) (d:=d+1) (p:=p) Al9;by_cases c155:Bp (Ad (Av (Ad (Av (Ad (s))))))=43
     ·have q5:Jd (Ad (Av (Ad (Av (Ad (s))))))=Ad (Ad (Av (Ad (Av (Ad (s)))))):=Bq (.inl c155);have z156:(Bp (Ad (Av (Ad (Av (Ad (s))))))==(43:Int))=true:=by simp[c155]
      obtain⟨A40,w158⟩:=Al9.adv ht (Dd c155 (by decide));obtain⟨i159,e160,A06,A2r⟩:=Bb (fu:=fu) (d:=d) (p:=p) ht Ce A40;simp only[A2,A1,p154,z156,w158,A2r] at er;have ej:B4 s=Av (Ad (Ad (Av (Ad (Av (Ad (s))))))):=by unfold B4;rw[q1,q2,q3,q4,q5]
      rw[ej];exact⟨_,_,A06,er⟩
     have z163:(Bp (Ad (Av (Ad (Av (Ad (s))))))==(43:Int))=false:=by simp[c155]
     by_cases c164:Bp (Ad (Av (Ad (Av (Ad (s))))))=45
     ·have q5:Jd (Ad (Av (Ad (Av (Ad (s))))))=Ad (Ad (Av (Ad (Av (Ad (s)))))):=Bq (.inr c164);have z165:(Bp (Ad (Av (Ad (Av (Ad (s))))))==(45:Int))=true:=by simp[c164]
      obtain⟨A0j,w167⟩:=Al9.adv ht (Dd c164 (by decide));obtain⟨i168,e169,A1u,A1q⟩:=Bb (fu:=fu) (d:=d) (p:=p) ht Ce A0j;simp only[A2,A1,p154,z163,z165,w167,A1q] at er;have ej:B4 s=Av (Ad (Ad (Av (Ad (Av (Ad (s))))))):=by unfold B4;rw[q1,q2,q3,q4,q5]
      rw[ej];exact⟨_,_,A1u,er⟩
     ·have q5:Jd (Ad (Av (Ad (Av (Ad (s))))))=Ad (Av (Ad (Av (Ad (s))))):=Bg (fun h=>h.elim c155 c164);have z172:(Bp (Ad (Av (Ad (Av (Ad (s))))))==(45:Int))=false:=by simp[c164]
      obtain⟨i173,e174,A0c,Az1⟩:=Bb (fu:=fu) (d:=d) (p:=p) ht Ce Al9;simp only[A2,A1,p154,z163,z172,Az1] at er;have ej:B4 s=Av (Ad (Av (Ad (Av (Ad (s)))))):=by unfold B4;rw[q1,q2,q3,q4,q5]
      rw[ej];exact⟨_,_,A0c,er⟩
    have z177:(Bp (Av (Ad (Av (Ad (s)))))==(101:Int))=false:=by simp[c150]
    by_cases c178:Bp (Av (Ad (Av (Ad (s)))))=69
    ·have q4:Fg (Av (Ad (Av (Ad (s)))))=Av (Jd (Ad (Av (Ad (Av (Ad (s))))))):=Bq (.inr c178);have z179:(Bp (Av (Ad (Av (Ad (s)))))==(69:Int))=true:=by simp[c178]
     obtain⟨Amx,w181⟩:=An8.adv ht (Dd c178 (by decide));simp only[A2,A1,p149,z177,z179,w181] at er;have p182:Ae (CP p) prog fu (d+2) 50 [.pbox (jC t (i145+1) (e146))]=_:=Cj (fu:=fu) (d:=d+1) (p:=p) Amx;by_cases c183:Bp (Ad (Av (Ad (Av (Ad (s))))))=43
     ·have q5:Jd (Ad (Av (Ad (Av (Ad (s))))))=Ad (Ad (Av (Ad (Av (Ad (s)))))):=Bq (.inl c183);have z184:(Bp (Ad (Av (Ad (Av (Ad (s))))))==(43:Int))=true:=by simp[c183]
      obtain⟨A3j,w186⟩:=Amx.adv ht (Dd c183 (by decide));obtain⟨i187,e188,A23,A2m⟩:=Bb (fu:=fu) (d:=d) (p:=p) ht Ce A3j;simp only[A2,A1,p182,z184,w186,A2m] at er;have ej:B4 s=Av (Ad (Ad (Av (Ad (Av (Ad (s))))))):=by unfold B4;rw[q1,q2,q3,q4,q5]
      rw[ej];exact⟨_,_,A23,er⟩
     have z191:(Bp (Ad (Av (Ad (Av (Ad (s))))))==(43:Int))=false:=by simp[c183]
     by_cases c192:Bp (Ad (Av (Ad (Av (Ad (s))))))=45
     ·have q5:Jd (Ad (Av (Ad (Av (Ad (s))))))=Ad (Ad (Av (Ad (Av (Ad (s)))))):=Bq (.inr c192);have z193:(Bp (Ad (Av (Ad (Av (Ad (s))))))==(45:Int))=true:=by simp[c192]
      obtain⟨A5z,w195⟩:=Amx.adv ht (Dd c192 (by decide));obtain⟨i196,e197,A4d,A42⟩:=Bb (fu:=fu) (d:=d) (p:=p) ht Ce A5z;simp only[A2,A1,p182,z191,z193,w195,A42] at er;have ej:B4 s=Av (Ad (Ad (Av (Ad (Av (Ad (s))))))):=by unfold B4;rw[q1,q2,q3,q4,q5]
      rw[ej];exact⟨_,_,A4d,er⟩
     ·have q5:Jd (Ad (Av (Ad (Av (Ad (s))))))=Ad (Av (Ad (Av (Ad (s))))):=Bg (fun h=>h.elim c183 c192);have z200:(Bp (Ad (Av (Ad (Av (Ad (s))))))==(45:Int))=false:=by simp[c192]
      obtain⟨i201,e202,A1x,A0z⟩:=Bb (fu:=fu) (d:=d) (p:=p) ht Ce Amx;simp only[A2,A1,p182,z191,z200,A0z] at er;have ej:B4 s=Av (Ad (Av (Ad (Av (Ad (s)))))):=by unfold B4;rw[q1,q2,q3,q4,q5]
      rw[ej];exact⟨_,_,A1x,er⟩
    ·have q4:Fg (Av (Ad (Av (Ad (s)))))=Av (Ad (Av (Ad (s)))):=Bg (fun h=>h.elim c150 c178);have z205:(Bp (Av (Ad (Av (Ad (s)))))==(69:Int))=false:=by simp[c178]
     simp only[A2,A1,p149,z177,z205] at er;have ej:B4 s=Av (Ad (Av (Ad (s)))):=by unfold B4;rw[q1,q2,q3,q4]
     rw[ej];exact⟨_,_,An8,er⟩
   ·have q3:Rw (Av (Ad (s)))=Av (Ad (s)):=Bg c141;have z206:(Bp (Av (Ad (s)))==(46:Int))=false:=by simp[c141]
    simp only[A2,A1,p140,z206] at er;have p207:Ae (CP p) prog fu (d+2) 50 [.pbox (jC t (i136) (e137))]=_:=Cj (fu:=fu) (d:=d+1) (p:=p) Aen;by_cases c208:Bp (Av (Ad (s)))=101
    ·have q4:Fg (Av (Ad (s)))=Av (Jd (Ad (Av (Ad (s))))):=Bq (.inl c208);have z209:(Bp (Av (Ad (s)))==(101:Int))=true:=by simp[c208]
     obtain⟨Alw,w211⟩:=Aen.adv ht (Dd c208 (by decide));simp only[A2,A1,p207,z209,w211] at er;have p212:Ae (CP p) prog fu (d+2) 50 [.pbox (jC t (i136+1) (e137))]=_:=Cj (fu:=fu) (d:=d+1) (p:=p) Alw;by_cases c213:Bp (Ad (Av (Ad (s))))=43
     ·have q5:Jd (Ad (Av (Ad (s))))=Ad (Ad (Av (Ad (s)))):=Bq (.inl c213);have z214:(Bp (Ad (Av (Ad (s))))==(43:Int))=true:=by simp[c213]
      obtain⟨Ay2,w216⟩:=Alw.adv ht (Dd c213 (by decide));obtain⟨i217,e218,A2k,A0r⟩:=Bb (fu:=fu) (d:=d) (p:=p) ht Ce Ay2;simp only[A2,A1,p212,z214,w216,A0r] at er;have ej:B4 s=Av (Ad (Ad (Av (Ad (s))))):=by unfold B4;rw[q1,q2,q3,q4,q5]
      rw[ej];exact⟨_,_,A2k,er⟩
     have z221:(Bp (Ad (Av (Ad (s))))==(43:Int))=false:=by simp[c213]
     by_cases c222:Bp (Ad (Av (Ad (s))))=45
     ·have q5:Jd (Ad (Av (Ad (s))))=Ad (Ad (Av (Ad (s)))):=Bq (.inr c222);have z223:(Bp (Ad (Av (Ad (s))))==(45:Int))=true:=by simp[c222]
      obtain⟨A3f,w225⟩:=Alw.adv ht (Dd c222 (by decide));obtain⟨i226,e227,Az9,A5n⟩:=Bb (fu:=fu) (d:=d) (p:=p) ht Ce A3f;simp only[A2,A1,p212,z221,z223,w225,A5n] at er;have ej:B4 s=Av (Ad (Ad (Av (Ad (s))))):=by unfold B4;rw[q1,q2,q3,q4,q5]
      rw[ej];exact⟨_,_,Az9,er⟩
     ·have q5:Jd (Ad (Av (Ad (s))))=Ad (Av (Ad (s))):=Bg (fun h=>h.elim c213 c222);have z230:(Bp (Ad (Av (Ad (s))))==(45:Int))=false:=by simp[c222]
      obtain⟨i231,e232,Az7,A30⟩:=Bb (fu:=fu) (d:=d) (p:=p) ht Ce Alw;simp only[A2,A1,p212,z221,z230,A30] at er;have ej:B4 s=Av (Ad (Av (Ad (s)))):=by unfold B4;rw[q1,q2,q3,q4,q5]
      rw[ej];exact⟨_,_,Az7,er⟩
    have z235:(Bp (Av (Ad (s)))==(101:Int))=false:=by simp[c208]
    by_cases c236:Bp (Av (Ad (s)))=69
    ·have q4:Fg (Av (Ad (s)))=Av (Jd (Ad (Av (Ad (s))))):=Bq (.inr c236);have z237:(Bp (Av (Ad (s)))==(69:Int))=true:=by simp[c236]
     obtain⟨Ak4,w239⟩:=Aen.adv ht (Dd c236 (by decide));simp only[A2,A1,p207,z235,z237,w239] at er;have p240:Ae (CP p) prog fu (d+2) 50 [.pbox (jC t (i136+1) (e137))]=_:=Cj (fu:=fu) (d:=d+1) (p:=p) Ak4;by_cases c241:Bp (Ad (Av (Ad (s))))=43
     ·have q5:Jd (Ad (Av (Ad (s))))=Ad (Ad (Av (Ad (s)))):=Bq (.inl c241);have z242:(Bp (Ad (Av (Ad (s))))==(43:Int))=true:=by simp[c241]
      obtain⟨A5q,w244⟩:=Ak4.adv ht (Dd c241 (by decide));obtain⟨i245,e246,A2n,A1v⟩:=Bb (fu:=fu) (d:=d) (p:=p) ht Ce A5q;simp only[A2,A1,p240,z242,w244,A1v] at er;have ej:B4 s=Av (Ad (Ad (Av (Ad (s))))):=by unfold B4;rw[q1,q2,q3,q4,q5]
      rw[ej];exact⟨_,_,A2n,er⟩
     have z249:(Bp (Ad (Av (Ad (s))))==(43:Int))=false:=by simp[c241]
     by_cases c250:Bp (Ad (Av (Ad (s))))=45
     ·have q5:Jd (Ad (Av (Ad (s))))=Ad (Ad (Av (Ad (s)))):=Bq (.inr c250);have z251:(Bp (Ad (Av (Ad (s))))==(45:Int))=true:=by simp[c250]
      obtain⟨A0y,w253⟩:=Ak4.adv ht (Dd c250 (by decide));obtain⟨i254,e255,A3u,A1r⟩:=Bb (fu:=fu) (d:=d) (p:=p) ht Ce A0y;simp only[A2,A1,p240,z249,z251,w253,A1r] at er;have ej:B4 s=Av (Ad (Ad (Av (Ad (s))))):=by unfold B4;rw[q1,q2,q3,q4,q5]
      rw[ej];exact⟨_,_,A3u,er⟩
     ·have q5:Jd (Ad (Av (Ad (s))))=Ad (Av (Ad (s))):=Bg (fun h=>h.elim c241 c250);have z258:(Bp (Ad (Av (Ad (s))))==(45:Int))=false:=by simp[c250]
      obtain⟨i259,e260,Azj,A01⟩:=Bb (fu:=fu) (d:=d) (p:=p) ht Ce Ak4;simp only[A2,A1,p240,z249,z258,A01] at er;have ej:B4 s=Av (Ad (Av (Ad (s)))):=by unfold B4;rw[q1,q2,q3,q4,q5]
      rw[ej];exact⟨_,_,Azj,er⟩
    ·have q4:Fg (Av (Ad (s)))=Av (Ad (s)):=Bg (fun h=>h.elim c208 c236);have z263:(Bp (Av (Ad (s)))==(69:Int))=false:=by simp[c236]
     simp only[A2,A1,p207,z235,z263] at er;have ej:B4 s=Av (Ad (s)):=by unfold B4;rw[q1,q2,q3,q4]
     rw[ej];exact⟨_,_,Aen,er⟩
 ·have q1:Ajw (s)=s:=Bg c2;have z264:(Bp (s)==(45:Int))=false:=by simp[c2]
  simp only[A2,A1,p1,z264] at er;have p265:Ae (CP p) prog fu (d+2) 50 [.pbox (jC t (i) (e))]=_:=Cj (fu:=fu) (d:=d+1) (p:=p) h;by_cases c266:Bp (s)=48
  ·have q2:XB (s)=Ad (s):=Bq c266;have z267:(Bp (s)==(48:Int))=true:=by simp[c266]
   obtain⟨Aci,w269⟩:=h.adv ht (Dd c266 (by decide));simp only[A2,A1,p265,z267,w269] at er;have p270:Ae (CP p) prog fu (d+2) 50 [.pbox (jC t (i+1) (e))]=_:=Cj (fu:=fu) (d:=d+1) (p:=p) Aci;by_cases c271:Bp (Ad (s))=46
   ·have q3:Rw (Ad (s))=Av (Ad (Ad (s))):=Bq c271;have z272:(Bp (Ad (s))==(46:Int))=true:=by simp[c271]
    obtain⟨Azs,w274⟩:=Aci.adv ht (Dd c271 (by decide));obtain⟨i275,e276,Amw,A4w⟩:=Bb (fu:=fu) (d:=d) (p:=p) ht Ce Azs;simp only[A2,A1,p270,z272,w274,A4w] at er;have p279:Ae (CP p) prog fu (d+2) 50 [.pbox (jC t (i275) (e276))]=_:=Cj (fu:=fu) (d:=d+1) (p:=p) Amw;by_cases c280:Bp (Av (Ad (Ad (s))))=101
    ·have q4:Fg (Av (Ad (Ad (s))))=Av (Jd (Ad (Av (Ad (Ad (s)))))):=Bq (.inl c280);have z281:(Bp (Av (Ad (Ad (s))))==(101:Int))=true:=by simp[c280]
     obtain⟨Aku,w283⟩:=Amw.adv ht (Dd c280 (by decide));simp only[A2,A1,p279,z281,w283] at er;have p284:Ae (CP p) prog fu (d+2) 50 [.pbox (jC t (i275+1) (e276))]=_:=Cj (fu:=fu) (d:=d+1) (p:=p) Aku;by_cases c285:Bp (Ad (Av (Ad (Ad (s)))))=43
     ·have q5:Jd (Ad (Av (Ad (Ad (s)))))=Ad (Ad (Av (Ad (Ad (s))))):=Bq (.inl c285);have z286:(Bp (Ad (Av (Ad (Ad (s)))))==(43:Int))=true:=by simp[c285]
      obtain⟨A1n,w288⟩:=Aku.adv ht (Dd c285 (by decide));obtain⟨i289,e290,A1p,A4r⟩:=Bb (fu:=fu) (d:=d) (p:=p) ht Ce A1n;simp only[A2,A1,p284,z286,w288,A4r] at er;have ej:B4 s=Av (Ad (Ad (Av (Ad (Ad (s)))))):=by unfold B4;rw[q1,q2,q3,q4,q5]
      rw[ej];exact⟨_,_,A1p,er⟩
     have z293:(Bp (Ad (Av (Ad (Ad (s)))))==(43:Int))=false:=by simp[c285]
     by_cases c294:Bp (Ad (Av (Ad (Ad (s)))))=45
     ·have q5:Jd (Ad (Av (Ad (Ad (s)))))=Ad (Ad (Av (Ad (Ad (s))))):=Bq (.inr c294);have z295:(Bp (Ad (Av (Ad (Ad (s)))))==(45:Int))=true:=by simp[c294]
      obtain⟨A36,w297⟩:=Aku.adv ht (Dd c294 (by decide));obtain⟨i298,e299,A5r,Ay9⟩:=Bb (fu:=fu) (d:=d) (p:=p) ht Ce A36;simp only[A2,A1,p284,z293,z295,w297,Ay9] at er;have ej:B4 s=Av (Ad (Ad (Av (Ad (Ad (s)))))):=by unfold B4;rw[q1,q2,q3,q4,q5]
      rw[ej];exact⟨_,_,A5r,er⟩
     ·have q5:Jd (Ad (Av (Ad (Ad (s)))))=Ad (Av (Ad (Ad (s)))):=Bg (fun h=>h.elim c285 c294);have z302:(Bp (Ad (Av (Ad (Ad (s)))))==(45:Int))=false:=by simp[c294]
      obtain⟨i303,e304,Azo,A1d⟩:=Bb (fu:=fu) (d:=d) (p:=p) ht Ce Aku;simp only[A2,A1,p284,z293,z302,A1d] at er;have ej:B4 s=Av (Ad (Av (Ad (Ad (s))))):=by unfold B4;rw[q1,q2,q3,q4,q5]
      rw[ej];exact⟨_,_,Azo,er⟩
    have z307:(Bp (Av (Ad (Ad (s))))==(101:Int))=false:=by simp[c280]
    by_cases c308:Bp (Av (Ad (Ad (s))))=69
    ·have q4:Fg (Av (Ad (Ad (s))))=Av (Jd (Ad (Av (Ad (Ad (s)))))):=Bq (.inr c308);have z309:(Bp (Av (Ad (Ad (s))))==(69:Int))=true:=by simp[c308]
     obtain⟨Al8,w311⟩:=Amw.adv ht (Dd c308 (by decide));simp only[A2,A1,p279,z307,z309,w311] at er;have p312:Ae (CP p) prog fu (d+2) 50 [.pbox (jC t (i275+1) (e276))]=_:=Cj (fu:=fu) (d:=d+1) (p:=p) Al8;by_cases c313:Bp (Ad (Av (Ad (Ad (s)))))=43
     ·have q5:Jd (Ad (Av (Ad (Ad (s)))))=Ad (Ad (Av (Ad (Ad (s))))):=Bq (.inl c313);have z314:(Bp (Ad (Av (Ad (Ad (s)))))==(43:Int))=true:=by simp[c313]
      obtain⟨A3p,w316⟩:=Al8.adv ht (Dd c313 (by decide));obtain⟨i317,e318,A3c,A35⟩:=Bb (fu:=fu) (d:=d) (p:=p) ht Ce A3p;simp only[A2,A1,p312,z314,w316,A35] at er;have ej:B4 s=Av (Ad (Ad (Av (Ad (Ad (s)))))):=by unfold B4;rw[q1,q2,q3,q4,q5]
      rw[ej];exact⟨_,_,A3c,er⟩
     have z321:(Bp (Ad (Av (Ad (Ad (s)))))==(43:Int))=false:=by simp[c313]
     by_cases c322:Bp (Ad (Av (Ad (Ad (s)))))=45
     ·have q5:Jd (Ad (Av (Ad (Ad (s)))))=Ad (Ad (Av (Ad (Ad (s))))):=Bq (.inr c322);have z323:(Bp (Ad (Av (Ad (Ad (s)))))==(45:Int))=true:=by simp[c322]
      obtain⟨A0o,w325⟩:=Al8.adv ht (Dd c322 (by decide));obtain⟨i326,e327,Azu,A4a⟩:=Bb (fu:=fu) (d:=d) (p:=p) ht Ce A0o;simp only[A2,A1,p312,z321,z323,w325,A4a] at er;have ej:B4 s=Av (Ad (Ad (Av (Ad (Ad (s)))))):=by unfold B4;rw[q1,q2,q3,q4,q5]
      rw[ej];exact⟨_,_,Azu,er⟩
     ·have q5:Jd (Ad (Av (Ad (Ad (s)))))=Ad (Av (Ad (Ad (s)))):=Bg (fun h=>h.elim c313 c322);have z330:(Bp (Ad (Av (Ad (Ad (s)))))==(45:Int))=false:=by simp[c322]
      obtain⟨i331,e332,Ayy,A0k⟩:=Bb (fu:=fu) (d:=d) (p:=p) ht Ce Al8;simp only[A2,A1,p312,z321,z330,A0k] at er;have ej:B4 s=Av (Ad (Av (Ad (Ad (s))))):=by unfold B4;rw[q1,q2,q3,q4,q5]
      rw[ej];exact⟨_,_,Ayy,er⟩
    ·have q4:Fg (Av (Ad (Ad (s))))=Av (Ad (Ad (s))):=Bg (fun h=>h.elim c280 c308);have z335:(Bp (Av (Ad (Ad (s))))==(69:Int))=false:=by simp[c308]
     simp only[A2,A1,p279,z307,z335] at er;have ej:B4 s=Av (Ad (Ad (s))):=by unfold B4;rw[q1,q2,q3,q4]
     rw[ej];exact⟨_,_,Amw,er⟩
   ·have q3:Rw (Ad (s))=Ad (s):=Bg c271;have z336:(Bp (Ad (s))==(46:Int))=false:=by simp[c271]
    simp only[A2,A1,p270,z336] at er;have p337:Ae (CP p) prog fu (d+2) 50 [.pbox (jC t (i+1) (e))]=_:=Cj (fu:=fu) (d:=d+1) (p:=p) Aci;by_cases c338:Bp (Ad (s))=101
    ·have q4:Fg (Ad (s))=Av (Jd (Ad (Ad (s)))):=Bq (.inl c338);have z339:(Bp (Ad (s))==(101:Int))=true:=by simp[c338]
     obtain⟨Aks,w341⟩:=Aci.adv ht (Dd c338 (by decide));simp only[A2,A1,p337,z339,w341] at er;have p342:Ae (CP p) prog fu (d+2) 50 [.pbox (jC t (i+1+1) (e))]=_:=Cj (fu:=fu) (d:=d+1) (p:=p) Aks;by_cases c343:Bp (Ad (Ad (s)))=43
     ·have q5:Jd (Ad (Ad (s)))=Ad (Ad (Ad (s))):=Bq (.inl c343);have z344:(Bp (Ad (Ad (s)))==(43:Int))=true:=by simp[c343]
      obtain⟨A3o,w346⟩:=Aks.adv ht (Dd c343 (by decide));obtain⟨i347,e348,A5u,Az6⟩:=Bb (fu:=fu) (d:=d) (p:=p) ht Ce A3o;simp only[A2,A1,p342,z344,w346,Az6] at er;have ej:B4 s=Av (Ad (Ad (Ad (s)))):=by unfold B4;rw[q1,q2,q3,q4,q5]
      rw[ej];exact⟨_,_,A5u,er⟩
     have z351:(Bp (Ad (Ad (s)))==(43:Int))=false:=by simp[c343]
     by_cases c352:Bp (Ad (Ad (s)))=45
     ·have q5:Jd (Ad (Ad (s)))=Ad (Ad (Ad (s))):=Bq (.inr c352);have z353:(Bp (Ad (Ad (s)))==(45:Int))=true:=by simp[c352]
      obtain⟨Azz,w355⟩:=Aks.adv ht (Dd c352 (by decide));obtain⟨i356,e357,A4m,A5o⟩:=Bb (fu:=fu) (d:=d) (p:=p) ht Ce Azz;simp only[A2,A1,p342,z351,z353,w355,A5o] at er;have ej:B4 s=Av (Ad (Ad (Ad (s)))):=by unfold B4;rw[q1,q2,q3,q4,q5]
      rw[ej];exact⟨_,_,A4m,er⟩
     ·have q5:Jd (Ad (Ad (s)))=Ad (Ad (s)):=Bg (fun h=>h.elim c343 c352);have z360:(Bp (Ad (Ad (s)))==(45:Int))=false:=by simp[c352]
      obtain⟨i361,e362,A5g,A1a⟩:=Bb (fu:=fu) (d:=d) (p:=p) ht Ce Aks;simp only[A2,A1,p342,z351,z360,A1a] at er;have ej:B4 s=Av (Ad (Ad (s))):=by unfold B4;rw[q1,q2,q3,q4,q5]
      rw[ej];exact⟨_,_,A5g,er⟩
    have z365:(Bp (Ad (s))==(101:Int))=false:=by simp[c338]
    by_cases c366:Bp (Ad (s))=69
    ·have q4:Fg (Ad (s))=Av (Jd (Ad (Ad (s)))):=Bq (.inr c366);have z367:(Bp (Ad (s))==(69:Int))=true:=by simp[c366]
     obtain⟨Anx,w369⟩:=Aci.adv ht (Dd c366 (by decide));simp only[A2,A1,p337,z365,z367,w369] at er;have p370:Ae (CP p) prog fu (d+2) 50 [.pbox (jC t (i+1+1) (e))]=_:=Cj (fu:=fu) (d:=d+1) (p:=p) Anx;by_cases c371:Bp (Ad (Ad (s)))=43
     ·have q5:Jd (Ad (Ad (s)))=Ad (Ad (Ad (s))):=Bq (.inl c371);have z372:(Bp (Ad (Ad (s)))==(43:Int))=true:=by simp[c371]
      obtain⟨A4i,w374⟩:=Anx.adv ht (Dd c371 (by decide));obtain⟨i375,e376,A1e,A4s⟩:=Bb (fu:=fu) (d:=d) (p:=p) ht Ce A4i;simp only[A2,A1,p370,z372,w374,A4s] at er;have ej:B4 s=Av (Ad (Ad (Ad (s)))):=by unfold B4;rw[q1,q2,q3,q4,q5]
      rw[ej];exact⟨_,_,A1e,er⟩
     have z379:(Bp (Ad (Ad (s)))==(43:Int))=false:=by simp[c371]
     by_cases c380:Bp (Ad (Ad (s)))=45
     ·have q5:Jd (Ad (Ad (s)))=Ad (Ad (Ad (s))):=Bq (.inr c380);have z381:(Bp (Ad (Ad (s)))==(45:Int))=true:=by simp[c380]
      obtain⟨A1l,w383⟩:=Anx.adv ht (Dd c380 (by decide));obtain⟨i384,e385,A5h,Azd⟩:=Bb (fu:=fu) (d:=d) (p:=p) ht Ce A1l;simp only[A2,A1,p370,z379,z381,w383,Azd] at er;have ej:B4 s=Av (Ad (Ad (Ad (s)))):=by unfold B4;rw[q1,q2,q3,q4,q5]
      rw[ej];exact⟨_,_,A5h,er⟩
     ·have q5:Jd (Ad (Ad (s)))=Ad (Ad (s)):=Bg (fun h=>h.elim c371 c380);have z388:(Bp (Ad (Ad (s)))==(45:Int))=false:=by simp[c380]
      obtain⟨i389,e390,A2x,A33⟩:=Bb (fu:=fu) (d:=d) (p:=p) ht Ce Anx;simp only[A2,A1,p370,z379,z388,A33] at er;have ej:B4 s=Av (Ad (Ad (s))):=by unfold B4;rw[q1,q2,q3,q4,q5]
      rw[ej];exact⟨_,_,A2x,er⟩
    ·have q4:Fg (Ad (s))=Ad (s):=Bg (fun h=>h.elim c338 c366);have z393:(Bp (Ad (s))==(69:Int))=false:=by simp[c366]
     simp only[A2,A1,p337,z365,z393] at er;have ej:B4 s=Ad (s):=by unfold B4;rw[q1,q2,q3,q4]
     rw[ej];exact⟨_,_,Aci,er⟩
  ·have q2:XB (s)=Av (s):=Bg c266;have z394:(Bp (s)==(48:Int))=false:=by simp[c266]
   obtain⟨i395,e396,Acq,A3h⟩:=Bb (fu:=fu) (d:=d) (p:=p) ht Ce h;simp only[A2,A1,p265,z394,A3h] at er;have p399:Ae (CP p) prog fu (d+2) 50 [.pbox (jC t (i395) (e396))]=_:=Cj (fu:=fu) (d:=d+1) (p:=p) Acq;by_cases c400:Bp (Av (s))=46
   ·have q3:Rw (Av (s))=Av (Ad (Av (s))):=Bq c400;have z401:(Bp (Av (s))==(46:Int))=true:=by simp[c400]
    obtain⟨A14,w403⟩:=Acq.adv ht (Dd c400 (by decide));obtain⟨i404,e405,Am1,A02⟩:=Bb (fu:=fu) (d:=d) (p:=p) ht Ce A14;simp only[A2,A1,p399,z401,w403,A02] at er;have p408:Ae (CP p) prog fu (d+2) 50 [.pbox (jC t (i404) (e405))]=_:=Cj (fu:=fu) (d:=d+1) (p:=p) Am1;by_cases c409:Bp (Av (Ad (Av (s))))=101
    ·have q4:Fg (Av (Ad (Av (s))))=Av (Jd (Ad (Av (Ad (Av (s)))))):=Bq (.inl c409);have z410:(Bp (Av (Ad (Av (s))))==(101:Int))=true:=by simp[c409]
     obtain⟨Ana,w412⟩:=Am1.adv ht (Dd c409 (by decide));simp only[A2,A1,p408,z410,w412] at er;have p413:Ae (CP p) prog fu (d+2) 50 [.pbox (jC t (i404+1) (e405))]=_:=Cj (fu:=fu) (d:=d+1) (p:=p) Ana;by_cases c414:Bp (Ad (Av (Ad (Av (s)))))=43
     ·have q5:Jd (Ad (Av (Ad (Av (s)))))=Ad (Ad (Av (Ad (Av (s))))):=Bq (.inl c414);have z415:(Bp (Ad (Av (Ad (Av (s)))))==(43:Int))=true:=by simp[c414]
      obtain⟨A2l,w417⟩:=Ana.adv ht (Dd c414 (by decide));obtain⟨i418,e419,Ay8,Azl⟩:=Bb (fu:=fu) (d:=d) (p:=p) ht Ce A2l;simp only[A2,A1,p413,z415,w417,Azl] at er;have ej:B4 s=Av (Ad (Ad (Av (Ad (Av (s)))))):=by unfold B4;rw[q1,q2,q3,q4,q5]
      rw[ej];exact⟨_,_,Ay8,er⟩
     have z422:(Bp (Ad (Av (Ad (Av (s)))))==(43:Int))=false:=by simp[c414]
     by_cases c423:Bp (Ad (Av (Ad (Av (s)))))=45
     ·have q5:Jd (Ad (Av (Ad (Av (s)))))=Ad (Ad (Av (Ad (Av (s))))):=Bq (.inr c423);have z424:(Bp (Ad (Av (Ad (Av (s)))))==(45:Int))=true:=by simp[c423]
      obtain⟨A1g,w426⟩:=Ana.adv ht (Dd c423 (by decide));obtain⟨i427,e428,A4k,A34⟩:=Bb (fu:=fu) (d:=d) (p:=p) ht Ce A1g;simp only[A2,A1,p413,z422,z424,w426,A34] at er;have ej:B4 s=Av (Ad (Ad (Av (Ad (Av (s)))))):=by unfold B4;rw[q1,q2,q3,q4,q5]
      rw[ej];exact⟨_,_,A4k,er⟩
     ·have q5:Jd (Ad (Av (Ad (Av (s)))))=Ad (Av (Ad (Av (s)))):=Bg (fun h=>h.elim c414 c423);have z431:(Bp (Ad (Av (Ad (Av (s)))))==(45:Int))=false:=by simp[c423]
      obtain⟨i432,e433,A1b,Aza⟩:=Bb (fu:=fu) (d:=d) (p:=p) ht Ce Ana;simp only[A2,A1,p413,z422,z431,Aza] at er;have ej:B4 s=Av (Ad (Av (Ad (Av (s))))):=by unfold B4;rw[q1,q2,q3,q4,q5]
      rw[ej];exact⟨_,_,A1b,er⟩
    have z436:(Bp (Av (Ad (Av (s))))==(101:Int))=false:=by simp[c409]
    by_cases c437:Bp (Av (Ad (Av (s))))=69
    ·have q4:Fg (Av (Ad (Av (s))))=Av (Jd (Ad (Av (Ad (Av (s)))))):=Bq (.inr c437);have z438:(Bp (Av (Ad (Av (s))))==(69:Int))=true:=by simp[c437]
     obtain⟨Al3,w440⟩:=Am1.adv ht (Dd c437 (by decide));simp only[A2,A1,p408,z436,z438,w440] at er;have p441:Ae (CP p) prog fu (d+2) 50 [.pbox (jC t (i404+1) (e405))]=_:=Cj (fu:=fu) (d:=d+1) (p:=p) Al3;by_cases c442:Bp (Ad (Av (Ad (Av (s)))))=43
     ·have q5:Jd (Ad (Av (Ad (Av (s)))))=Ad (Ad (Av (Ad (Av (s))))):=Bq (.inl c442);have z443:(Bp (Ad (Av (Ad (Av (s)))))==(43:Int))=true:=by simp[c442]
      obtain⟨A2b,w445⟩:=Al3.adv ht (Dd c442 (by decide));obtain⟨i446,e447,Ay1,A49⟩:=Bb (fu:=fu) (d:=d) (p:=p) ht Ce A2b;simp only[A2,A1,p441,z443,w445,A49] at er;have ej:B4 s=Av (Ad (Ad (Av (Ad (Av (s)))))):=by unfold B4;rw[q1,q2,q3,q4,q5]
      rw[ej];exact⟨_,_,Ay1,er⟩
     have z450:(Bp (Ad (Av (Ad (Av (s)))))==(43:Int))=false:=by simp[c442]
     by_cases c451:Bp (Ad (Av (Ad (Av (s)))))=45
     ·have q5:Jd (Ad (Av (Ad (Av (s)))))=Ad (Ad (Av (Ad (Av (s))))):=Bq (.inr c451);have z452:(Bp (Ad (Av (Ad (Av (s)))))==(45:Int))=true:=by simp[c451]
      obtain⟨A29,w454⟩:=Al3.adv ht (Dd c451 (by decide));obtain⟨i455,e456,A3n,A1k⟩:=Bb (fu:=fu) (d:=d) (p:=p) ht Ce A29;simp only[A2,A1,p441,z450,z452,w454,A1k] at er;have ej:B4 s=Av (Ad (Ad (Av (Ad (Av (s)))))):=by unfold B4;rw[q1,q2,q3,q4,q5]
      rw[ej];exact⟨_,_,A3n,er⟩
     ·have q5:Jd (Ad (Av (Ad (Av (s)))))=Ad (Av (Ad (Av (s)))):=Bg (fun h=>h.elim c442 c451);have z459:(Bp (Ad (Av (Ad (Av (s)))))==(45:Int))=false:=by simp[c451]
      obtain⟨i460,e461,A2f,A1w⟩:=Bb (fu:=fu) (d:=d) (p:=p) ht Ce Al3;simp only[A2,A1,p441,z450,z459,A1w] at er;have ej:B4 s=Av (Ad (Av (Ad (Av (s))))):=by unfold B4;rw[q1,q2,q3,q4,q5]
      rw[ej];exact⟨_,_,A2f,er⟩
    ·have q4:Fg (Av (Ad (Av (s))))=Av (Ad (Av (s))):=Bg (fun h=>h.elim c409 c437);have z464:(Bp (Av (Ad (Av (s))))==(69:Int))=false:=by simp[c437]
     simp only[A2,A1,p408,z436,z464] at er;have ej:B4 s=Av (Ad (Av (s))):=by unfold B4;rw[q1,q2,q3,q4]
     rw[ej];exact⟨_,_,Am1,er⟩
   ·have q3:Rw (Av (s))=Av (s):=Bg c400;have z465:(Bp (Av (s))==(46:Int))=false:=by simp[c400]
    simp only[A2,A1,p399,z465] at er;have p466:Ae (CP p) prog fu (d+2) 50 [.pbox (jC t (i395) (e396))]=_:=Cj (fu:=fu) (d:=d+1) (p:=p) Acq;by_cases c467:Bp (Av (s))=101
    ·have q4:Fg (Av (s))=Av (Jd (Ad (Av (s)))):=Bq (.inl c467);have z468:(Bp (Av (s))==(101:Int))=true:=by simp[c467]
     obtain⟨Am9,w470⟩:=Acq.adv ht (Dd c467 (by decide));simp only[A2,A1,p466,z468,w470] at er;have p471:Ae (CP p) prog fu (d+2) 50 [.pbox (jC t (i395+1) (e396))]=_:=Cj (fu:=fu) (d:=d+1) (p:=p) Am9;by_cases c472:Bp (Ad (Av (s)))=43
     ·have q5:Jd (Ad (Av (s)))=Ad (Ad (Av (s))):=Bq (.inl c472);have z473:(Bp (Ad (Av (s)))==(43:Int))=true:=by simp[c472]
      obtain⟨A4x,w475⟩:=Am9.adv ht (Dd c472 (by decide));obtain⟨i476,e477,A0t,A3k⟩:=Bb (fu:=fu) (d:=d) (p:=p) ht Ce A4x;simp only[A2,A1,p471,z473,w475,A3k] at er;have ej:B4 s=Av (Ad (Ad (Av (s)))):=by unfold B4;rw[q1,q2,q3,q4,q5]
      rw[ej];exact⟨_,_,A0t,er⟩
     have z480:(Bp (Ad (Av (s)))==(43:Int))=false:=by simp[c472]
     by_cases c481:Bp (Ad (Av (s)))=45
     ·have q5:Jd (Ad (Av (s)))=Ad (Ad (Av (s))):=Bq (.inr c481);have z482:(Bp (Ad (Av (s)))==(45:Int))=true:=by simp[c481]
      obtain⟨A0p,w484⟩:=Am9.adv ht (Dd c481 (by decide));obtain⟨i485,e486,A39,Azm⟩:=Bb (fu:=fu) (d:=d) (p:=p) ht Ce A0p;simp only[A2,A1,p471,z480,z482,w484,Azm] at er;have ej:B4 s=Av (Ad (Ad (Av (s)))):=by unfold B4;rw[q1,q2,q3,q4,q5]
      rw[ej];exact⟨_,_,A39,er⟩
     ·have q5:Jd (Ad (Av (s)))=Ad (Av (s)):=Bg (fun h=>h.elim c472 c481);have z489:(Bp (Ad (Av (s)))==(45:Int))=false:=by simp[c481]
      obtain⟨i490,e491,Az8,A4p⟩:=Bb (fu:=fu) (d:=d) (p:=p) ht Ce Am9;simp only[A2,A1,p471,z480,z489,A4p] at er;have ej:B4 s=Av (Ad (Av (s))):=by unfold B4;rw[q1,q2,q3,q4,q5]
      rw[ej];exact⟨_,_,Az8,er⟩
    have z494:(Bp (Av (s))==(101:Int))=false:=by simp[c467]
    by_cases c495:Bp (Av (s))=69
    ·have q4:Fg (Av (s))=Av (Jd (Ad (Av (s)))):=Bq (.inr c495);have z496:(Bp (Av (s))==(69:Int))=true:=by simp[c495]
     obtain⟨Amo,w498⟩:=Acq.adv ht (Dd c495 (by decide));simp only[A2,A1,p466,z494,z496,w498] at er;have p499:Ae (CP p) prog fu (d+2) 50 [.pbox (jC t (i395+1) (e396))]=_:=Cj (fu:=fu) (d:=d+1) (p:=p) Amo;by_cases c500:Bp (Ad (Av (s)))=43
     ·have q5:Jd (Ad (Av (s)))=Ad (Ad (Av (s))):=Bq (.inl c500);have z501:(Bp (Ad (Av (s)))==(43:Int))=true:=by simp[c500]
      obtain⟨A1o,w503⟩:=Amo.adv ht (Dd c500 (by decide));obtain⟨i504,e505,A2a,Ay5⟩:=Bb (fu:=fu) (d:=d) (p:=p) ht Ce A1o;simp only[A2,A1,p499,z501,w503,Ay5] at er;have ej:B4 s=Av (Ad (Ad (Av (s)))):=by unfold B4;rw[q1,q2,q3,q4,q5]
      rw[ej];exact⟨_,_,A2a,er⟩
     have z508:(Bp (Ad (Av (s)))==(43:Int))=false:=by simp[c500]
     by_cases c509:Bp (Ad (Av (s)))=45
     ·have q5:Jd (Ad (Av (s)))=Ad (Ad (Av (s))):=Bq (.inr c509);have z510:(Bp (Ad (Av (s)))==(45:Int))=true:=by simp[c509]
      obtain⟨A50,w512⟩:=Amo.adv ht (Dd c509 (by decide));obtain⟨i513,e514,A5e,A5j⟩:=Bb (fu:=fu) (d:=d) (p:=p) ht Ce A50;simp only[A2,A1,p499,z508,z510,w512,A5j] at er;have ej:B4 s=Av (Ad (Ad (Av (s)))):=by unfold B4;rw[q1,q2,q3,q4,q5]
      rw[ej];exact⟨_,_,A5e,er⟩
     ·have q5:Jd (Ad (Av (s)))=Ad (Av (s)):=Bg (fun h=>h.elim c500 c509);have z517:(Bp (Ad (Av (s)))==(45:Int))=false:=by simp[c509]
      obtain⟨i518,e519,A3a,A2u⟩:=Bb (fu:=fu) (d:=d) (p:=p) ht Ce Amo;simp only[A2,A1,p499,z508,z517,A2u] at er;have ej:B4 s=Av (Ad (Av (s))):=by unfold B4;rw[q1,q2,q3,q4,q5]
      rw[ej];exact⟨_,_,A3a,er⟩
    ·have q4:Fg (Av (s))=Av (s):=Bg (fun h=>h.elim c467 c495);have z522:(Bp (Av (s))==(69:Int))=false:=by simp[c495]
     simp only[A2,A1,p466,z494,z522] at er;have ej:B4 s=Av (s):=by unfold B4;rw[q1,q2,q3,q4]
     rw[ej];exact⟨_,_,Acq,er⟩
end
def ro:Option Am->RS
 |some r=>.ok r
 |none=>.error 2
def Ty{α:Type}:JR (α × Am)->RS
 |.ok (_,r)=>.ok r
 |.error c=>.error c
theorem QG{α:Type}{c:Int}(hc:c≠0)(l:Am)(A:RS->α)(B:α):(if Bp (.ok l)=c then A (Ad (.ok l)) else B)=(match An [c] l with|some r=>A (.ok r)|none=>B):=by
 cases l with
 |nil=>
  have:Bp (.ok [])=0:=rfl;rw[this,Bg (Ne.symm hc),Ck]
 |cons a r=>
  have:Bp (.ok (a::r))=a:=rfl;rw[this,Ck];simp only;by_cases h:a=c
  ·rw[Bq h,Bq h];rfl
  ·rw[Bg h,Bg h]
theorem U7{c:Int}(hc:c≠0)(l:Am):Oo c (.ok l)=ro (An [c] l):=by have:=QG hc l (fun s=>s) (UJ 2 (.ok l));unfold Oo;rw[this];cases An [c] l<;>rfl
theorem Qn{c:Int}(hc:c≠0)(k:Int):Oo c (.error k)=.error k:=by unfold Oo;have:Bp (.error k:RS)=0:=rfl;rw[this,Bg (Ne.symm hc)];rfl
theorem GI(l:Am):Av (.ok l)=ro (C4 l):=by
 cases l with
 |nil=>rfl
 |cons a r=>
  unfold Av;have e1:Oi (Bp (.ok (a::r)))=FP a:=rfl;have e2:C4 (a::r)=if FP a=true then some (Gw r) else none:=rfl
  have e3:jdr (.ok (a::r))=.ok (Gw (a::r)):=rfl;have e4:Gw (a::r)=if FP a=true then Gw r else a::r:=rfl
  rw[e1,e2,e3,e4];by_cases h:FP a=true
  ·rw[Bq h,Bq h,Bq h];rfl
  ·rw[Bg h,Bg h];rfl
theorem Afd(r:Am):Av (Jd (.ok r))=ro (Na r):=by
 unfold Na;cases r with
 |nil=>rfl
 |cons a r=>
  unfold Jd;have e1:Bp (.ok (a::r))=a:=rfl;rw[e1,Ck,Ck];simp only;by_cases h:a=43
  ·rw[Bq (.inl h),Bq h];exact GI r
  ·by_cases h2:a=45
   ·rw[Bq (.inr h2),Bg h,Bq h2];exact GI r
   ·rw[Bg (fun q=>q.elim h h2),Bg h,Bg h2];exact GI (a::r)
theorem TU(l:Am):Fg (.ok l)=ro (U0 l):=by
 rw[Oe];cases l with
 |nil=>rfl
 |cons a r=>
  unfold Fg;have e1:Bp (.ok (a::r))=a:=rfl;rw[e1,Ck,Ck];simp only;by_cases h:a=101
  ·rw[Bq (.inl h),Bq h];exact Afd r
  ·by_cases h2:a=69
   ·rw[Bq (.inr h2),Bg h,Bq h2];exact Afd r
   ·rw[Bg (fun q=>q.elim h h2),Bg h,Bg h2];rfl
theorem Agk(o:Option Am):Fg (ro o)=ro (o.bind U0):=by
 cases o with
 |none=>rfl
 |some r=>exact TU r
theorem Aim(l:Am):Fg (Rw (.ok l))=ro (Xj l):=by
 have:=QG (c:=46) (by decide) l (fun s=>Fg (Av s)) (Fg (.ok l))
 have e:Fg (Rw (.ok l))=if Bp (.ok l)=46 then Fg (Av (Ad (.ok l))) else Fg (.ok l):=by
  unfold Rw;split<;>rfl
 rw[e,this,S7];cases An [46] l with
 |some r=>
  show Fg (Av (.ok r))=_;rw[GI,Agk]
 |none=>exact TU l
theorem Ajn(o:Option Am):Fg (Rw (ro o))=ro (o.bind Xj):=by
 cases o with
 |none=>rfl
 |some r=>exact Aim r
theorem Ame(l:Am):XB (.ok l)=ro (Adf l):=by
 have:=QG (c:=48) (by decide) l (fun s=>s) (Av (.ok l));unfold XB;rw[this,Wf];cases An [48] l with
 |some r=>rfl
 |none=>exact GI l
theorem Al1(l:Am):B4 (.ok l)=ro (Fz l):=by
 have e:Ajw (.ok l)=.ok (TH 45 l):=by
  have:=QG (c:=45) (by decide) l (fun s=>s) (.ok l:RS);unfold Ajw;rw[this,Rq];cases An [45] l<;>rfl
 unfold B4;rw[e,Ame,Ajn];rfl
theorem QA(k:Int):∀(w:Am),(∀c∈w,c≠0)->jwd w (.error k)=.error k
 |[],_=>rfl
 |c::w,h=>by
  show jwd w (Oo c (.error k))=_;rw[Qn (h c (by simp)),QA k w (fun x hx=>h x (by simp[hx]))]
theorem QQ:∀(w l:Am),(∀c∈w,c≠0)->jwd w (.ok l)=ro (An w l)
 |[],l,_=>rfl
 |c::w,l,h=>by
  show jwd w (Oo c (.ok l))=_;rw[U7 (h c (by simp)),Ck];cases l with
  |nil=>
   show jwd w (.error 2)=_;rw[QA 2 w (fun x hx=>h x (by simp[hx]))];rfl
  |cons a l=>
   simp only;by_cases ha:a=c
   ·subst ha;rw[Bq rfl];show jwd w (.ok l)=_;rw[QQ w l (fun x hx=>h x (by simp[hx]))];unfold An;simp
   ·rw[Bg ha];show jwd w (.error 2)=_;rw[QA 2 w (fun x hx=>h x (by simp[hx]))];unfold An;have hca:c≠a:=Ne.symm ha;simp[hca];rfl
theorem Aiz(l:Am):(LE (.ok l)).2=(match De l with|(some _,r)=>.ok r|(none,_)=>.error 2):=by have e:LE (.ok l)=jtP (De l):=rfl;rw[e];rcases De l with⟨o,r⟩;cases o<;>rfl
def WC(v:JV):Int:=if v.1=4 then 1 else if v.1=2 then (if v.2.2=true then 2 else 3) else 0
def txR(v:JV):Am:=if v.1=4 then v.2.1 else []
def jv(V:Am->JR (JV × Am)):RS->RS
 |.ok l=>Ty (V l)
 |.error c=>.error c
def YG(t:ByteArray)(V:Am->JR (JV × Am))(s:RS)(q:Option Bz):Prop:=
 ∃i e kd tx,JS t i e (jv V s)/\(∀l v r,s=.ok l->V l=.ok (v,r)->kd=WC v/\tx=Aa (txR v))/\q=some ⟨[B9 kd,.sc (.string tx)],[jC t i e]⟩
section
variable {fu d:Nat}{p:Option (Al->Option Bz)}
theorem Abi(c:Int):AN (.error c)=.error c:=rfl
set_option maxHeartbeats 2000000 in
theorem XJ{t:ByteArray}(ht:t.size<=1000000)(Ce:t.size+5<=fu){D:Int}(hD0:0<=D)(hD1:D<=100)(V:Am->JR (JV × Am))(HV:∀i e s,JS t i e s->YG t V s (Ae (CP p) prog fu (d+4) 53 [.pbox (jC t i e),B9 (D+1)]))(HL:∀l v r,Ct l->l.length<=1000000->V l=.ok (v,r)->r.length<=l.length){t0:ByteArray}{i0 e0 D0:Int}{b0:Bool}:∀(n nn:Nat) (l0:Am),(Ao l0).length<n->n+1<=nn->Dp t l0 ->
   ∃i' e',JS t i' e' (Ti V n (Ao l0))/\B6 fu (Ae (CP p) prog fu (d+4)) t0 i0 e0 b0 D0 nn false D 93 t (A9 t l0) 0=some ⟨[],[jC t i' e']⟩:=by
 intro n
 induction n with
 |zero=>intro nn l0 h;omega
 |succ n ih=>
  intro nn l0 Do Jo hs;obtain⟨m,rfl⟩:∃m,nn=m+1:=⟨nn-1,by omega⟩
  have h0:JS t (A9 t l0) 0 (.ok l0):=⟨rfl,hs,rfl⟩
  obtain⟨i1,j1,x1⟩:=Gn (fu:=fu) (d:=d+2) (p:=p) ht (by omega) h0;obtain⟨i2,e2,kd,tx,j2,_,x2⟩:=HV i1 0 _ j1;obtain⟨i3,j3,x3⟩:=Gn (fu:=fu) (d:=d+2) (p:=p) ht (by omega) j2;have pk:=Cj (fu:=fu) (d:=d+3) (p:=p) j3;have z0:((0:Int)==0)=true:=rfl;have wD:wrap .i64 (D+1)=D+1:=Ar (by omega) (by omega);rw[UT,Ds]
  have Ny:Bp (AN (jv V (AN (.ok l0))))≠44->∀X:RS,Oo 93 (AN (jv V (AN (.ok l0))))=X->∃i' e',JS t i' e' X/\(B6 fu (Ae (CP p) prog fu (d+4)) t0 i0 e0 b0 D0 (m+1) false D 93 t (A9 t l0) 0)=some ⟨[],[jC t i' e']⟩:=by
   intro Er X hX;obtain⟨i4,e4,j4,x4⟩:=Hs (fu:=fu) (d:=d+2) (p:=p) ht (c:=93) (by decide) j3;rw[hX] at j4;refine⟨i4,e4,j4,?_⟩;have zn:(Bp (AN (jv V (AN (.ok l0)))) != 44)=true:=by simp[Er]
   rw[Ds];simp only[A2,A1,z0,x1,wD,x2,x3,pk,zn,x4]
  rw[Ds] at Ny;have hl:AN (.ok l0)=.ok (Ao l0):=rfl;rw[hl] at Ny j2 j3 pk;have hsk:=Bw hs;cases hv:V (Ao l0) with
  |error c=>
   have e1:jv V (.ok (Ao l0))=.error c:=by show Ty (V (Ao l0))=_;rw[hv];rfl
   rw[e1] at Ny;exact Ny (by show (0:Int)≠44;decide) _ (Qn (by decide) c)
  |ok q=>
   obtain⟨v,r⟩:=q;have e1:jv V (.ok (Ao l0))=.ok r:=by show Ty (V (Ao l0))=_;rw[hv];rfl
   rw[e1] at Ny j2 j3 pk;have hrl:=HL _ _ _ hsk.B (by have:=hsk.len;omega) hv
   have hr:Dp t r:=j2.2.1;have e2:AN (.ok r)=.ok (Ao r):=rfl;rw[e2] at Ny j3 pk;simp only;cases QP:An [44] (Ao r) with
   |none=>
    have Er:Bp (.ok (Ao r))≠44:=by
     intro hq;rw[Ck] at QP;cases hk:Ao r with
     |nil=>rw[hk] at hq;cases hq
     |cons a b=>
      rw[hk] at hq QP;have hq:a=44:=hq;simp only at QP;rw[Bq hq] at QP;cases QP
    refine Ny Er _ ?_;rw[U7 (by decide)];cases An [93] (Ao r)<;>rfl
   |some r'=>
    have hk:Ao r=44::r':=by
     rw[Ck] at QP;cases hk:Ao r with
     |nil=>rw[hk] at QP;cases QP
     |cons a b=>
      rw[hk] at QP;simp only at QP;split at QP
      ·rename_i ha;cases QP;rw[ha]
      ·cases QP
    have h93:An [93] (Ao r)=none:=by rw[hk,Ck];rfl
    rw[h93];simp only;rw[hk] at j3 pk;obtain⟨ja,wa⟩:=j3.adv ht (by show (44:Int)≠0;decide)
    obtain⟨je,js,jp⟩:=ja
    have hlr:r'.length+1<=(Ao l0).length:=by
     have h1:=Gc r;rw[hk,Ub] at h1;omega
    have Pu:=Gc r';obtain⟨i5,e5,j5,x5⟩:=ih m r' (by omega) (by omega) js;refine⟨i5,e5,j5,?_⟩;have zn:(Bp (.ok (44::r')) != 44)=false:=rfl;subst je;rw[<-jp] at x5;simp only[A2,A1,z0,x1,wD,x2,x3,pk,zn,wa];exact x5
end
theorem L4:∀l:Am,Ao (Ao l)=Ao l
 |[]=>rfl
 |c::l=>by
  have e:Ao (c::l)=if Jr c=true then Ao l else c::l:=rfl
  by_cases h:Jr c=true
  ·rw[e,Bq h];exact L4 l
  ·rw[e,Bg h,e,Bg h]
theorem US{l s r:Am}{o:Option Am}(hl:Ct l)(h:De l=(o,r)):r.length<=l.length:=by have:=Gl (Dp.self hl);rw[h] at this;exact Dp.le this
def JE(V:Am->JR (JV × Am))(s:RS):RS:=AN (jv V (AN (Oo 58 (AN s))))
theorem OR(V:Am->JR (JV × Am))(c:Int):JE V (.error c)=.error c:=by unfold JE;rw[Abi,Qn (by decide),Abi];rfl
theorem Ah2(V:Am->JR (JV × Am))(HL:∀l v r,Ct l->l.length<=1000000->V l=.ok (v,r)->r.length<=l.length){r:Am}(hr:Ct r)(hrl:r.length<=1000000):
  (∃c,JE V (.ok r)=.error c/\(match An [58] (Ao r) with|none=>(.error 2:JR (JV × Am))|some r1=>V (Ao r1))=.error c) \/
  (∃v r2,JE V (.ok r)=.ok (Ao r2)/\r2.length<=r.length/\(match An [58] (Ao r) with|none=>(.error 2:JR (JV × Am))|some r1=>V (Ao r1))=.ok (v,r2)):=by
 unfold JE;have e1:AN (.ok r)=.ok (Ao r):=rfl;rw[e1,U7 (by decide)];cases h58:An [58] (Ao r) with
 |none=>exact .inl ⟨2,rfl,rfl⟩
 |some r1=>
  have e2:AN (ro (some r1))=.ok (Ao r1):=rfl;have e3:jv V (.ok (Ao r1))=Ty (V (Ao r1)):=rfl;have h1:=Y0 h58;have h2:=Gc r;have h3:=Gc r1;have hB:Ct (Ao r1):=(Bw (Ay (Bw (Dp.self hr)) h58)).B;rw[e2,e3];simp only;cases hv:V (Ao r1) with
  |error c=>exact .inl ⟨c,rfl,rfl⟩
  |ok q=>
   obtain⟨v,r2⟩:=q;have:=HL _ _ _ hB (by omega) hv;exact .inr ⟨v,r2,rfl,by omega,rfl⟩
theorem Aj4{V:Am->JR (JV × Am)}{n:Nat}{kp:Bool}{ms:List (Am × JV)}{l nm r:Am}(h:De l=(some nm,r))(hd:(kp&&ms.any fun m=>m.1==nm)=false):
  Jz V kp (n+1) ms l=match (match An [58] (Ao r) with|none=>(.error 2:JR (JV × Am))|some r1=>V (Ao r1)) with
   |.error c=>.error c
   |.ok (v,r2)=>match An [125] (Ao r2) with
    |some r3=>.ok (ms++[(nm,v)],r3)
    |none=>match An [44] (Ao r2) with
     |some r3=>Jz V kp n (ms++[(nm,v)]) (Ao r3)
     |none=>.error 2:=by
 rw[G3,h];simp only;rw[hd,Bg (by decide)];cases An [58] (Ao r)<;>rfl
theorem Apj{l:Am}(h:An [44] l=none):Bp (.ok l)≠44:=by
 intro hq;rw[Ck] at h;cases l with
 |nil=>cases hq
 |cons a b=>
  have hq:a=44:=hq;simp only at h;rw[Bq hq] at h;cases h
theorem Ahh{l r:Am}{c:Int}(h:An [c] l=some r):l=c::r:=by
 rw[Ck] at h;cases l with
 |nil=>cases h
 |cons a b=>
  simp only at h;split at h
  ·rename_i ha;cases h;rw[ha]
  ·cases h
section
variable {fu d:Nat}{p:Option (Al->Option Bz)}
set_option maxHeartbeats 4000000 in
theorem YV{t:ByteArray}(ht:t.size<=1000000)(Ce:t.size+5<=fu){D:Int}(hD0:0<=D)(hD1:D<=100)(V:Am->JR (JV × Am))(HV:∀i e s,JS t i e s->YG t V s (Ae (CP p) prog fu (d+4) 53 [.pbox (jC t i e),B9 (D+1)]))(HL:∀l v r,Ct l->l.length<=1000000->V l=.ok (v,r)->r.length<=l.length){t0:ByteArray}{i0 e0 D0:Int}{b0:Bool}:∀(n nn:Nat) (ms:List (Am × JV)) (l0:Am),(Ao l0).length<n->n+1<=nn->Dp t l0 ->
   ∃i' e',JS t i' e' (Ty (Jz V false n ms (Ao l0)))/\B6 fu (Ae (CP p) prog fu (d+4)) t0 i0 e0 b0 D0 nn true D 125 t (A9 t l0) 0=some ⟨[],[jC t i' e']⟩:=by
 intro n
 induction n with
 |zero=>intro nn ms l0 h;omega
 |succ n ih=>
  intro nn ms l0 Do Jo hs;obtain⟨m,rfl⟩:∃m,nn=m+1:=⟨nn-1,by omega⟩
  have h0:JS t (A9 t l0) 0 (.ok l0):=⟨rfl,hs,rfl⟩
  have hsk:=Bw hs;obtain⟨i1,j1,x1⟩:=Gn (fu:=fu) (d:=d+2) (p:=p) ht (by omega) h0;have hl:AN (.ok l0)=.ok (Ao l0):=rfl;rw[hl] at j1;obtain⟨i2,e2,j2,x2⟩:=YZ (fu:=fu) (d:=d) (p:=p) ht (by omega) (by omega) j1;obtain⟨i3,j3,x3⟩:=Gn (fu:=fu) (d:=d+2) (p:=p) ht (by omega) j2;obtain⟨i4,e4,j4,x4⟩:=Hs (fu:=fu) (d:=d+2) (p:=p) ht (c:=58) (by decide) j3;obtain⟨i5,j5,x5⟩:=Gn (fu:=fu) (d:=d+2) (p:=p) ht (by omega) j4;obtain⟨i6,e6,kd,tx,j6,_,x6⟩:=HV i5 e4 _ j5;obtain⟨i7,j7,x7⟩:=Gn (fu:=fu) (d:=d+2) (p:=p) ht (by omega) j6;have j7:JS t i7 e6 (JE V (LE (.ok (Ao l0))).2):=j7;have pk:Ae (CP p) prog fu (d+4) 50 [.pbox (jC t i7 e6)]=some ⟨[.sc (.int .u8 (Bp (JE V (LE (.ok (Ao l0))).2)))],[jC t i7 e6]⟩:=Cj (fu:=fu) (d:=d+3) (p:=p) j7;have z0:((0:Int)==0)=true:=rfl;have wD:wrap .i64 (D+1)=D+1:=Ar (by omega) (by omega)
  have Ny:Bp (JE V (LE (.ok (Ao l0))).2)≠44->∀X:RS,Oo 125 (JE V (LE (.ok (Ao l0))).2)=X->∃i' e',JS t i' e' X/\(B6 fu (Ae (CP p) prog fu (d+4)) t0 i0 e0 b0 D0 (m+1) true D 125 t (A9 t l0) 0)=some ⟨[],[jC t i' e']⟩:=by
   intro Er X hX;obtain⟨i8,e8,j8,x8⟩:=Hs (fu:=fu) (d:=d+2) (p:=p) ht (c:=125) (by decide) j7;rw[hX] at j8;refine⟨i8,e8,j8,?_⟩;have zn:(Bp (JE V (LE (.ok (Ao l0))).2) != 44)=true:=by simp[Er]
   rw[Ds];simp only[A2,A1,z0,x1,x2,x3,x4,x5,wD,x6,x7,pk,zn,x8]
  have e1:=Aiz (Ao l0);rcases hx:De (Ao l0) with⟨o,r⟩;rw[hx] at e1;cases o with
  |none=>
   simp only at e1;rw[e1,OR] at Ny;have e2:Jz V false (n+1) ms (Ao l0)=.error 2:=by rw[G3,hx]
   rw[e2];exact Ny (by show (0:Int)≠44;decide) _ (Qn (by decide) 2)
  |some nm=>
   simp only at e1
   have hrS:Dp t r:=by
    have:=Gl hsk;rw[hx] at this;exact this
   have hrl:=US (s:=[]) hsk.B hx;have hm:=Aj4 (V:=V) (n:=n) (kp:=false) (ms:=ms) hx rfl;rw[e1] at Ny j7 pk;rcases Ah2 V HL hrS.B (by have:=hrS.len;omega) with⟨c,g1,g2⟩|⟨v,r2,g1,g2,g3⟩
   ·rw[hm,g2];rw[g1] at Ny;exact Ny (by show (0:Int)≠44;decide) _ (Qn (by decide) c)
   ·rw[hm,g3];rw[g1] at Ny j7 pk;simp only;cases QP:An [44] (Ao r2) with
    |none=>
     refine Ny (Apj QP) _ ?_;rw[U7 (by decide)];cases An [125] (Ao r2)<;>rfl
    |some r'=>
     have hk:=Ahh QP;have BF:An [125] (Ao r2)=none:=by rw[hk,Ck];rfl
     rw[BF];simp only;rw[hk] at j7 pk;obtain⟨ja,wa⟩:=j7.adv ht (by show (44:Int)≠0;decide)
     obtain⟨je,js,jp⟩:=ja
     have hlr:r'.length+1<=(Ao l0).length:=by
      have h1:=Gc r2;rw[hk,Ub] at h1;omega
     have Pu:=Gc r';obtain⟨i9,e9,j9,x9⟩:=ih m (ms++[(nm,v)]) r' (by omega) (by omega) js;refine⟨i9,e9,j9,?_⟩;have zn:(Bp (.ok (44::r')) != 44)=false:=rfl;subst je;rw[<-jp] at x9;rw[Ds];simp only[A2,A1,z0,x1,x2,x3,x4,x5,wD,x6,x7,pk,zn,wa];exact x9
def jls(ob:Bool)(V:Am->JR (JV × Am))(r:Am):RS:=if ob=true then Ty (Q2 V false r) else Xb V r
set_option maxHeartbeats 4000000 in
theorem Ar9{t:ByteArray}(ht:t.size<=1000000)(Ce:t.size+5<=fu){D:Int}(hD0:0<=D)(hD1:D<=8)(V:Am->JR (JV × Am))(HV:∀i e s,JS t i e s->YG t V s (Ae (CP p) prog fu (d+4) 53 [.pbox (jC t i e),B9 (D+1)]))(HL:∀l v r,Ct l->l.length<=1000000->V l=.ok (v,r)->r.length<=l.length){c:Int}{r:Am}(ob:Bool)(hs:Dp t (c::r)):
   ∃i' e',JS t i' e' (jls ob V r)/\Ae (CP p) prog fu (d+5) 71 [.pbox (jC t (A9 t (c::r)) 0),.sc (.bool ob),B9 D]=some ⟨[],[jC t i' e']⟩:=by
 have er:Ae (CP p) prog fu (d+5) 71 [.pbox (jC t (A9 t (c::r)) 0),.sc (.bool ob),B9 D]=_:=Jn (p:=p) fu (d+4) t (A9 t (c::r)) 0 ob D;have hp:=Hy hs;have hl0:=hs.len;have BU:A9 t (c::r)<=t.size:=Nat.sub_le _ _;have wr:wrap .i64 ((A9 t (c::r):Int)+1)=(A9 t r:Int):=by rw[Ar (by omega) (by omega)];omega
 have ok1:JS t (A9 t r) 0 (.ok r):=⟨rfl,hs.tail,rfl⟩
 obtain⟨i1,j1,x1⟩:=Gn (fu:=fu) (d:=d+2) (p:=p) ht (by omega) ok1;have e1:AN (.ok r)=.ok (Ao r):=rfl;rw[e1] at j1;have pk:Ae (CP p) prog fu (d+4) 50 [.pbox (jC t i1 0)]=some ⟨[.sc (.int .u8 (Bp (.ok (Ao r))))],[jC t i1 0]⟩:=Cj (fu:=fu) (d:=d+3) (p:=p) j1;have zD:decide (D>8)=false:=dF (by omega);have hB:=(Bw hs.tail).len;have hip:i1=(A9 t (Ao r):Int):=j1.2.2;have hsr:=Bw hs.tail;cases ob with
 |true=>
  have ej:jls true V r=Ty (Q2 V false r):=rfl;rw[ej,Hz];cases h:An [125] (Ao r) with
  |some r'=>
   have hk:=Ahh h;rw[hk] at j1 pk;obtain⟨ja,wa⟩:=j1.adv ht (by show (125:Int)≠0;decide)
   refine⟨i1+1,0,ja,er.trans ?_⟩;have z:(Bp (.ok (125::r'))==125)=true:=rfl;simp only[A2,A1,zD,wr,x1,pk,z,wa]
  |none=>
   have Er:Bp (.ok (Ao r))≠125:=by
    intro hq;rw[Ck] at h;cases hk:Ao r with
    |nil=>rw[hk] at hq;cases hq
    |cons a b=>
     rw[hk] at hq h;have hq:a=125:=hq;simp only at h;rw[Bq hq] at h;cases h
   obtain⟨i2,e2,j2,x2⟩:=YV (fu:=fu) (d:=d) (p:=p) ht Ce hD0 (by omega) V HV HL (t0:=t) (i0:=A9 t (c::r)) (e0:=0) (D0:=D) (b0:=true) ((Ao r).length+1) fu [] (Ao r) (by rw[L4];omega) (by omega) hsr
   rw[L4] at j2;refine⟨i2,e2,j2,er.trans ?_⟩;have z:(Bp (.ok (Ao r))==125)=false:=by simp[Er]
   rw[<-hip] at x2;simp only[A2,A1,zD,wr,x1,pk,z];exact x2
 |false=>
  have ej:jls false V r=Xb V r:=rfl
  have ea:Xb V r=match An [93] (Ao r) with|some r'=>.ok r'|none=>Ti V ((Ao r).length+1) (Ao r):=by
   unfold Xb;rw[Ck];cases Ao r with
   |nil=>rfl
   |cons a b=>
    simp only;by_cases h:a=93
    ·subst h;rfl
    ·rw[Bg h];split
     ·rename_i e;injection e with e1 _;exact absurd e1 h
     ·rfl
  rw[ej,ea];cases h:An [93] (Ao r) with
  |some r'=>
   have hk:=Ahh h;rw[hk] at j1 pk;obtain⟨ja,wa⟩:=j1.adv ht (by show (93:Int)≠0;decide)
   refine⟨i1+1,0,ja,er.trans ?_⟩;have z:(Bp (.ok (93::r'))==93)=true:=rfl;simp only[A2,A1,zD,wr,x1,pk,z,wa]
  |none=>
   have Er:Bp (.ok (Ao r))≠93:=by
    intro hq;rw[Ck] at h;cases hk:Ao r with
    |nil=>rw[hk] at hq;cases hq
    |cons a b=>
     rw[hk] at hq h;have hq:a=93:=hq;simp only at h;rw[Bq hq] at h;cases h
   obtain⟨i2,e2,j2,x2⟩:=XJ (fu:=fu) (d:=d) (p:=p) ht Ce hD0 (by omega) V HV HL (t0:=t) (i0:=A9 t (c::r)) (e0:=0) (D0:=D) (b0:=false) ((Ao r).length+1) fu (Ao r) (by rw[L4];omega) (by omega) hsr
   rw[L4] at j2;refine⟨i2,e2,j2,er.trans ?_⟩;have z:(Bp (.ok (Ao r))==93)=false:=by simp[Er]
   rw[<-hip] at x2;simp only[A2,A1,zD,wr,x1,pk,z];exact x2
end
theorem F7{c:Int}{w l:Am}(h:BK l≠c)(hc:c≠0):An (c::w) l=none:=by
 unfold An;cases l with
 |nil=>rfl
 |cons a l=>
  have hca:c≠a:=fun q=>h q.symm;simp[hca]
theorem KA{l:Am}(h1:BK l≠45)(h2:BK l<48\/57<BK l):Fz l=none:=by
 have e:Fz l=(Adf (TH 45 l)).bind Xj:=rfl
 have e1:TH 45 l=l:=by
  rw[Rq,F7 h1 (by decide)];rfl
 rw[e,e1,Wf];cases l with
 |nil=>rfl
 |cons a l=>
  have ha:BK (a::l)=a:=rfl;rw[ha] at h1 h2;rw[Ck];simp only;rw[Bg (by omega)];have e2:C4 (a::l)=if FP a=true then some (Gw l) else none:=rfl
  have hd:FP a=false:=by
   unfold FP;rcases h2 with h|h
   ·rw[dF (q:=48<=a) (by omega),CS]
   ·rw[dF (q:=a<=57) (by omega),Zzt]
  rw[e2,hd];rfl
theorem Aa7{k:Nat}(hk:k<=8){l r:Am}{v:JV}(hl:Ct l)(hs:l.length<=1000000)(h:B3 k l=.ok (v,r)):r.length<=l.length:=by
 obtain⟨res,_,hr⟩:=Ai3 (fu:=1000001) (d:=0) (t:=Aa l) (by rw[Ag];exact hs) (by rw[Ag];omega) k (9-(k:Int)) (by omega) (by omega) l (Dp.self hl)
 rw[h] at hr;exact Dp.le hr.1
theorem ZY(k:Nat)(r:Am):B3 (k+1) (91::r)=match Xb (B3 k) r with | .error e=>.error e | .ok r'=>.ok ((5,[],false),r'):=rfl
theorem Aa5(k:Nat)(r:Am):B3 (k+1) (123::r)=match Q2 (B3 k) false r with | .error e=>.error e | .ok (_,r')=>.ok ((6,[],false),r'):=rfl
section
variable {fu d:Nat}{p:Option (Al->Option Bz)}
theorem Ant(V:Am->JR (JV × Am))(r:Am):jls false V r=Xb V r:=rfl
theorem And(V:Am->JR (JV × Am))(r:Am):jls true V r=Ty (Q2 V false r):=rfl
set_option maxHeartbeats 4000000 in
theorem DJ{t:ByteArray}(ht:t.size<=1000000)(Ce:t.size+200<=fu)(k:Nat){D i e:Int}{s:RS}(h:JS t i e s)(h1:Bp s≠34)(h2:Bp s≠123)(h3:Bp s≠91):
  YG t (B3 k) s (Ae (CP p) prog fu (d+5) 53 [.pbox (jC t i e),B9 D]):=by
 have er:Ae (CP p) prog fu (d+5) 53 [.pbox (jC t i e),B9 D]=_:=E7 (p:=p) fu (d+4) t i e D;have pk:Ae (CP p) prog fu (d+4) 50 [.pbox (jC t i e)]=_:=Cj (fu:=fu) (d:=d+3) (p:=p) h;have z1:(Bp s==34)=false:=by simp[h1]
 have z2:(Bp s==123)=false:=by simp[h2]
 have z3:(Bp s==91)=false:=by simp[h3]
 have lT:ByteArray.mk #[(116:UInt8),(114:UInt8),(117:UInt8),(101:UInt8)]=Aa [116,114,117,101]:=rfl;have lF:ByteArray.mk #[(102:UInt8),(97:UInt8),(108:UInt8),(115:UInt8),(101:UInt8)]=Aa [102,97,108,115,101]:=rfl;have lN:ByteArray.mk #[(110:UInt8),(117:UInt8),(108:UInt8),(108:UInt8)]=Aa [110,117,108,108]:=rfl
 have hw:∀l,s=.ok l->B3 k l=Z5 l:=by
  intro l hl;subst hl;exact BW k h2 h3 h1
 by_cases q1:Bp s=116
 ·obtain⟨i1,e1,j1,x1⟩:=YN (fu:=fu) (d:=d+1) (p:=p) ht (by omega) (w:=[116,114,117,101]) (fun x hx=>by simp at hx;omega) (fun x hx=>by simp at hx;omega) (by decide) h
  have z:(Bp s==116)=true:=by simp[q1]
  cases s with
  |error c=>cases q1
  |ok l=>
   have hq:BK l=116:=q1;have QT:=hw l rfl;rw[QQ _ _ (fun x hx=>by simp at hx;omega)] at j1
   have eW:Z5 l=match An [116,114,117,101] l with|some r=>.ok ((2,[],true),r)|none=>.error 2:=by
    unfold Z5;rw[F7 (c:=102) (by rw[hq];decide) (by decide),F7 (c:=110) (by rw[hq];decide) (by decide),KA (by rw[hq];decide) (.inr (by rw[hq];decide))]
    cases An [116,114,117,101] l<;>rfl
   refine⟨i1,e1,2,Aa [],?_,?_,er.trans ?_⟩
   ·show JS t i1 e1 (Ty (B3 k l));rw[QT,eW];cases hx:An [116,114,117,101] l with
    |none=>rw[hx] at j1;exact j1
    |some r=>rw[hx] at j1;exact j1
   ·intro l' v r hl hv;cases hl;rw[QT,eW] at hv;cases hx:An [116,114,117,101] l with
    |none=>rw[hx] at hv;cases hv
    |some r=>rw[hx] at hv;cases hv;exact⟨rfl,rfl⟩
   ·simp only[A2,A1,pk,z1,z2,z3,z,lT,x1];rfl
 have y1:(Bp s==116)=false:=by simp[q1]
 by_cases q2:Bp s=102
 ·obtain⟨i1,e1,j1,x1⟩:=YN (fu:=fu) (d:=d+1) (p:=p) ht (by omega) (w:=[102,97,108,115,101]) (fun x hx=>by simp at hx;omega) (fun x hx=>by simp at hx;omega) (by decide) h
  have z:(Bp s==102)=true:=by simp[q2]
  cases s with
  |error c=>cases q2
  |ok l=>
   have hq:BK l=102:=q2;have QT:=hw l rfl;rw[QQ _ _ (fun x hx=>by simp at hx;omega)] at j1
   have eW:Z5 l=match An [102,97,108,115,101] l with|some r=>.ok ((2,[],false),r)|none=>.error 2:=by
    unfold Z5;rw[F7 (c:=116) (by rw[hq];decide) (by decide),F7 (c:=110) (by rw[hq];decide) (by decide),KA (by rw[hq];decide) (.inr (by rw[hq];decide))]
    cases An [102,97,108,115,101] l<;>rfl
   refine⟨i1,e1,3,Aa [],?_,?_,er.trans ?_⟩
   ·show JS t i1 e1 (Ty (B3 k l));rw[QT,eW];cases hx:An [102,97,108,115,101] l with
    |none=>rw[hx] at j1;exact j1
    |some r=>rw[hx] at j1;exact j1
   ·intro l' v r hl hv;cases hl;rw[QT,eW] at hv;cases hx:An [102,97,108,115,101] l with
    |none=>rw[hx] at hv;cases hv
    |some r=>rw[hx] at hv;cases hv;exact⟨rfl,rfl⟩
   ·simp only[A2,A1,pk,z1,z2,z3,y1,z,lF,x1];rfl
 have y2:(Bp s==102)=false:=by simp[q2]
 by_cases q3:Bp s=110
 ·obtain⟨i1,e1,j1,x1⟩:=YN (fu:=fu) (d:=d+1) (p:=p) ht (by omega) (w:=[110,117,108,108]) (fun x hx=>by simp at hx;omega) (fun x hx=>by simp at hx;omega) (by decide) h
  have z:(Bp s==110)=true:=by simp[q3]
  cases s with
  |error c=>cases q3
  |ok l=>
   have hq:BK l=110:=q3;have QT:=hw l rfl;rw[QQ _ _ (fun x hx=>by simp at hx;omega)] at j1
   have eW:Z5 l=match An [110,117,108,108] l with|some r=>.ok ((1,[],false),r)|none=>.error 2:=by
    unfold Z5;rw[F7 (c:=116) (by rw[hq];decide) (by decide),F7 (c:=102) (by rw[hq];decide) (by decide),KA (by rw[hq];decide) (.inr (by rw[hq];decide))]
    cases An [110,117,108,108] l<;>rfl
   refine⟨i1,e1,0,Aa [],?_,?_,er.trans ?_⟩
   ·show JS t i1 e1 (Ty (B3 k l));rw[QT,eW];cases hx:An [110,117,108,108] l with
    |none=>rw[hx] at j1;exact j1
    |some r=>rw[hx] at j1;exact j1
   ·intro l' v r hl hv;cases hl;rw[QT,eW] at hv;cases hx:An [110,117,108,108] l with
    |none=>rw[hx] at hv;cases hv
    |some r=>rw[hx] at hv;cases hv;exact⟨rfl,rfl⟩
   ·simp only[A2,A1,pk,z1,z2,z3,y1,y2,z,lN,x1];rfl
 have y3:(Bp s==110)=false:=by simp[q3]
 obtain⟨i1,e1,j1,x1⟩:=Ae9 (fu:=fu) (d:=d+1) (p:=p) ht (by omega) h;refine⟨i1,e1,0,Aa [],?_,?_,er.trans ?_⟩
 ·cases s with
  |error c=>exact j1
  |ok l=>
   have QT:=hw l rfl;show JS t i1 e1 (Ty (B3 k l));rw[Al1] at j1
   have eW:Z5 l=match Fz l with|some r=>.ok ((3,[],false),r)|none=>.error 2:=by
    unfold Z5;rw[F7 (c:=116) q1 (by decide),F7 (c:=102) q2 (by decide),F7 (c:=110) q3 (by decide)];cases Fz l<;>rfl
   rw[QT,eW];cases hx:Fz l with
   |none=>rw[hx] at j1;exact j1
   |some r=>rw[hx] at j1;exact j1
 ·intro l v r hl hv;subst hl
  have eW:Z5 l=match Fz l with|some r=>.ok ((3,[],false),r)|none=>.error 2:=by
   unfold Z5;rw[F7 (c:=116) q1 (by decide),F7 (c:=102) q2 (by decide),F7 (c:=110) q3 (by decide)];cases Fz l<;>rfl
  rw[hw l rfl,eW] at hv;cases hx:Fz l with
  |none=>rw[hx] at hv;cases hv
  |some r=>rw[hx] at hv;cases hv;exact⟨rfl,rfl⟩
 ·simp only[A2,A1,pk,z1,z2,z3,y1,y2,y3,x1];rfl
theorem NR{t:ByteArray}(ht:t.size<=1000000)(Ce:t.size+200<=fu)(k:Nat){D i e:Int}{l:Am}(h:JS t i e (.ok (34::l))):
  YG t (B3 k) (.ok (34::l)) (Ae (CP p) prog fu (d+5) 53 [.pbox (jC t i e),B9 D]):=by
 have er:Ae (CP p) prog fu (d+5) 53 [.pbox (jC t i e),B9 D]=_:=E7 (p:=p) fu (d+4) t i e D;have pk:Ae (CP p) prog fu (d+4) 50 [.pbox (jC t i e)]=some ⟨[.sc (.int .u8 34)],[jC t i e]⟩:=Cj (fu:=fu) (d:=d+3) (p:=p) h;obtain⟨i1,e1,j1,x1⟩:=YZ (fu:=fu) (d:=d) (p:=p) ht (by omega) (by omega) h;have z:((34:Int)==34)=true:=rfl;have ex:LE (.ok (34::l))=jtP (De (34::l)):=rfl;refine⟨i1,e1,1,Aa (LE (.ok (34::l))).1,?_,?_,er.trans ?_⟩
 ·show JS t i1 e1 (Ty (B3 k (34::l)));rw[OK];rw[ex] at j1;rcases hx:De (34::l) with⟨o,r⟩;rw[hx] at j1;cases o<;>exact j1
 ·intro l' v r hl hv;cases hl;rw[OK] at hv;rw[ex];rcases hx:De (34::l) with⟨o,r'⟩;rw[hx] at hv;cases o with
  |none=>cases hv
  |some s=>cases hv;exact⟨rfl,rfl⟩
 ·simp only[A2,A1,pk,z,x1]
set_option maxHeartbeats 4000000 in
theorem Ao0{t:ByteArray}(ht:t.size<=1000000)(Ce:t.size+200<=fu):∀(k:Nat)(D:Int),D+k=9->1<=D->∀i e s,JS t i e s->YG t (B3 k) s (Ae (CP p) prog fu (d+2*k+5) 53 [.pbox (jC t i e),B9 D]):=by
 intro k
 induction k with
 |zero=>
  intro D hD h1 i e s h;by_cases g1:Bp s=34
  ·cases s with
   |error c=>cases g1
   |ok l=>
    cases l with
    |nil=>cases g1
    |cons a l=>
     have g1:a=34:=g1;subst g1;exact NR ht Ce 0 h
  by_cases g2:Bp s=123\/Bp s=91
  ·have pk:Ae (CP p) prog fu (d+4) 50 [.pbox (jC t i e)]=_:=Cj (fu:=fu) (d:=d+3) (p:=p) h;have er:Ae (CP p) prog fu (d+5) 53 [.pbox (jC t i e),B9 D]=_:=E7 (p:=p) fu (d+4) t i e D;have fl:=Kn (fu:=fu) (d:=d+2) (p:=p) t i e 5;have hf:=h.fail (c:=5) (by decide);have zD:decide (D>8)=true:=dT (by omega)
   have el:∀b,Ae (CP p) prog fu (d+4) 71 [.pbox (jC t i e),.sc (.bool b),B9 D]=some ⟨[],[jC t i (if e=0 then 5 else e)]⟩:=by
    intro b;refine (Jn (p:=p) fu (d+3) t i e b D).trans ?_;simp only[A2,A1,zD,fl]
   have z1:(Bp s==34)=false:=by simp[g1]
   cases s with
   |error c=>rcases g2 with g2|g2<;>cases g2
   |ok l=>
    cases l with
    |nil=>rcases g2 with g2|g2<;>cases g2
    |cons a l=>
     have ha:Bp (.ok (a::l))=a:=rfl;rw[ha] at g2 z1 pk;rcases g2 with g2|g2
     ·subst g2;have z2:((123:Int)==123)=true:=rfl;refine⟨i,_,0,Aa [],hf,(fun l' v r hl hv=>by cases hl;cases hv),er.trans ?_⟩
      simp only[A2,A1,pk,z1,z2,el];rfl
     ·subst g2;have z2:((91:Int)==123)=false:=rfl;have z3:((91:Int)==91)=true:=rfl;refine⟨i,_,0,Aa [],hf,(fun l' v r hl hv=>by cases hl;cases hv),er.trans ?_⟩
      simp only[A2,A1,pk,z1,z2,z3,el];rfl
  ·exact DJ ht Ce 0 h g1 (fun q=>g2 (.inl q)) (fun q=>g2 (.inr q))
 |succ k ih=>
  intro D hD h1 i e s h;by_cases g1:Bp s=34
  ·cases s with
   |error c=>cases g1
   |ok l=>
    cases l with
    |nil=>cases g1
    |cons a l=>
     have g1:a=34:=g1;subst g1;exact NR (d:=d+2*(k+1)) ht Ce (k+1) h
  by_cases g2:Bp s=123\/Bp s=91
  ·have pk:Ae (CP p) prog fu (d+2*(k+1)+4) 50 [.pbox (jC t i e)]=_:=Cj (fu:=fu) (d:=d+2*(k+1)+3) (p:=p) h;have er:Ae (CP p) prog fu (d+2*(k+1)+5) 53 [.pbox (jC t i e),B9 D]=_:=E7 (p:=p) fu (d+2*(k+1)+4) t i e D;have z1:(Bp s==34)=false:=by simp[g1]
   have HV:∀i e s,JS t i e s->YG t (B3 k) s (Ae (CP p) prog fu ((d+2*k+1)+4) 53 [.pbox (jC t i e),B9 (D+1)]):=fun i e s hs=>ih (D+1) (by omega) (by omega) i e s hs;have HL:∀l v r,Ct l->l.length<=1000000->B3 k l=.ok (v,r)->r.length<=l.length:=fun l v r hl hs hv=>Aa7 (by omega) hl hs hv;cases s with
   |error c=>rcases g2 with g2|g2<;>cases g2
   |ok l=>
    cases l with
    |nil=>rcases g2 with g2|g2<;>cases g2
    |cons a l=>
     have ha:Bp (.ok (a::l))=a:=rfl;rw[ha] at g2 z1 pk;obtain⟨rfl,hS,rfl⟩:=h
     have lj:∀ob,∃i' e',JS t i' e' (jls ob (B3 k) l)/\Ae (CP p) prog fu (d+2*(k+1)+4) 71 [.pbox (jC t (A9 t (a::l)) 0),.sc (.bool ob),B9 D]=some ⟨[],[jC t i' e']⟩:=fun ob=>
      Ar9 (fu:=fu) (d:=d+2*k+1) (p:=p) ht (by omega) (by omega) (by omega) (B3 k) HV HL ob hS
     rcases g2 with g2|g2
     ·subst g2;obtain⟨i1,e1,j1,x1⟩:=lj true;have z2:((123:Int)==123)=true:=rfl;rw[And] at j1;refine⟨i1,e1,0,Aa [],?_,?_,er.trans ?_⟩
      ·show JS t i1 e1 (Ty (B3 (k+1) (123::l)));rw[Aa5];cases hx:Q2 (B3 k) false l with
       |error c=>rw[hx] at j1;exact j1
       |ok q=>rw[hx] at j1;exact j1
      ·intro l' v r hl hv;cases hl;rw[Aa5] at hv;cases hx:Q2 (B3 k) false l with
       |error c=>rw[hx] at hv;cases hv
       |ok q=>rw[hx] at hv;cases hv;exact⟨rfl,rfl⟩
      ·simp only[A2,A1,pk,z1,z2,x1];rfl
     ·subst g2;obtain⟨i1,e1,j1,x1⟩:=lj false;have z2:((91:Int)==123)=false:=rfl;have z3:((91:Int)==91)=true:=rfl;rw[Ant] at j1;refine⟨i1,e1,0,Aa [],?_,?_,er.trans ?_⟩
      ·show JS t i1 e1 (Ty (B3 (k+1) (91::l)));rw[ZY];cases hx:Xb (B3 k) l with
       |error c=>rw[hx] at j1;exact j1
       |ok q=>rw[hx] at j1;exact j1
      ·intro l' v r hl hv;cases hl;rw[ZY] at hv;cases hx:Xb (B3 k) l with
       |error c=>rw[hx] at hv;cases hv
       |ok q=>rw[hx] at hv;cases hv;exact⟨rfl,rfl⟩
      ·simp only[A2,A1,pk,z1,z2,z3,x1];rfl
  ·exact DJ (d:=d+2*(k+1)) ht Ce (k+1) h g1 (fun q=>g2 (.inl q)) (fun q=>g2 (.inr q))
end
abbrev RM:=Am × Int × ByteArray
def Fw(ls:List RM):Al:=ls.flatMap fun m=>[.sc (.string (Aa m.1)),B9 m.2.1,.sc (.string m.2.2)]
theorem SU(ls:List RM):(Fw ls).length=ls.length*3:=by
 unfold Fw
 induction ls with
 |nil=>rfl
 |cons m ls ih=>
  rw[Kg,LG,ih];show 3+ls.length*3=(ls.length+1)*3;omega
theorem UP(a b:List RM):Fw (a++b)=Fw a++Fw b:=by unfold Fw;rw[List.flatMap_append]
theorem Ano{ls:List RM}{i:Nat}{m:RM}(h:ls[i]?=some m):List.getD (Fw ls) (i*3) .top=.sc (.string (Aa m.1))/\List.getD (Fw ls) (i*3+1) .top=B9 m.2.1/\List.getD (Fw ls) (i*3+1+1) .top=.sc (.string m.2.2):=by
 induction ls generalizing i with
 |nil=>cases h
 |cons a ls ih=>
  have e:Fw (a::ls)=.sc (.string (Aa a.1)) :: B9 a.2.1 :: .sc (.string a.2.2)::Fw ls:=rfl;rw[e];cases i with
  |zero=>cases h;exact⟨rfl,rfl,rfl⟩
  |succ i=>
   have h:ls[i]?=some m:=h;obtain⟨h1,h2,h3⟩:=ih h;rw[show (i+1)*3=i*3+1+1+1 by omega];exact⟨h1,h2,h3⟩
def JK(ls:List RM)(nm:Am):Bz:=match ls.find? (fun m=>m.1==nm) with
 |some m=>⟨[.agg [.sc (.string (Aa m.1)),B9 m.2.1,.sc (.string m.2.2)],.sc (.bool true)],[]⟩
 |none=>⟨[.agg [.sc (.string (Aa [])),B9 0,.sc (.string (Aa []))],.sc (.bool false)],[]⟩
def Pf(m:Am × JV):RM:=(m.1,WC m.2,Aa (txR m.2))
section
variable {fu d:Nat}{p:Option (Al->Option Bz)}
theorem DC{ls:List RM}{nm:Am}(hB:∀m∈ls,Ct m.1)(hn:Ct nm)(hl:ls.length<=2000000){call:A7}{Qs:Nat}{a0:Al}{a1 y4 y6:ByteArray}{y5:Int}:∀(r:List RM)(i nn:Nat),ls.drop i=r->r.length+1<=nn ->
  Gt fu call Qs a0 a1 nn ls.length (Fw ls) (Aa nm) (i:Int) y4 y5 y6=some (JK r nm)
 |[],i,nn,hd,Jo=>by
  obtain⟨k,rfl⟩:∃k,nn=k+1:=⟨nn-1,by omega⟩
  have hi:=drop_nil hd;have a1:decide ((i:Int)<(ls.length:Int))=false:=dF (by omega);rw[K1];simp only[A2,A1,a1];rfl
 |m::r,i,nn,hd,Jo=>by
  obtain⟨k,rfl⟩:∃k,nn=k+1:=⟨nn-1,by omega⟩
  obtain⟨hi,hc,Lz⟩:=E0 hd;have ih:=DC hB hn hl (call:=call) (Qs:=Qs) (a0:=a0) (a1:=a1) (y4:=y4) (y5:=y5) (y6:=y6) r (i+1) k Lz (by simp at Jo;omega)
  obtain⟨g1,g2,g3⟩:=Ano hc;have a1:decide ((i:Int)<(ls.length:Int))=true:=dT (by omega);have a2:decide ((0:Int)<=(i:Int))=true:=by simp
  have a3:Int.toNat (i:Int)*3=i*3:=by rw[Kc]
  have a5:wrap .i64 ((i:Int)+1)=((i+1:Nat):Int):=by rw[Ar (by omega) (by omega)];omega
  have q:=U6 (hB m (List.mem_of_getElem? hc)) hn
  have ef:JK (m::r) nm=if m.1=nm then ⟨[.agg [.sc (.string (Aa m.1)),B9 m.2.1,.sc (.string m.2.2)],.sc (.bool true)],[]⟩ else JK r nm:=by
   unfold JK;rw[List.find?_cons];by_cases h:m.1=nm
   ·have:(m.1==nm)=true:=by simp[h]
    rw[this,Bq h]
   ·have:(m.1==nm)=false:=by simp[h]
    rw[this,Bg h]
  rw[K1,ef];by_cases h:m.1=nm
  ·rw[Bq h];rw[dT h] at q;simp only[A2,A1,a1,a2,a3,g1,g2,g3,KT,q]
  ·rw[Bg h];rw[dF h] at q;simp only[A2,A1,a1,a2,a3,g1,KT,q,a5];exact ih
theorem Af8{ls:List RM}{nm:Am}(hB:∀m∈ls,Ct m.1)(hn:Ct nm)(hl:ls.length<=2000000)(Ce:ls.length+1<=fu):Ae (CP p) prog fu (d+1) 31 [.lst false 3 ls.length (Fw ls),.sc (.string (Aa nm))]=some (JK ls nm):=
 (Wy (p:=p) fu d ls.length (Fw ls) (Aa nm)).trans (DC hB hn hl ls 0 fu rfl Ce)
def JL(s:RS):RS:=match AN s with
 |.ok []=>.ok []
 |.ok (_::_)=>.error 2
 |.error c=>.error c
theorem Aar{t:ByteArray}(ht:t.size<=1000000)(Ce:t.size+1<=fu){i e:Int}{s:RS}(h:JS t i e s):∃i',Ae (CP p) prog fu (d+2) 48 [.pbox (jC t i e)]=some ⟨[],[jC t i' e]⟩ /\
  (decide (i'<(t.size:Int))=true->JS t i' (if e=0 then 2 else e) (JL s))/\(decide (i'<(t.size:Int))=false->JS t i' e (JL s)):=by
 obtain⟨i',g1,g2⟩:=Gn (fu:=fu) (d:=d) (p:=p) ht Ce h;refine⟨i',g2,?_,?_⟩
 ·intro hd;have hd:i'<(t.size:Int):=by simpa using hd
  have hf:=g1.fail (c:=2) (by decide);unfold JL;cases hs:AN s with
  |error c=>rw[hs] at hf;exact hf
  |ok r=>
   rw[hs] at hf g1;cases r with
   |nil=>
    obtain⟨_,_,hp⟩:=g1;rw[L8] at hp;omega
   |cons a r=>exact hf
 ·intro hd;have hd:¬i'<(t.size:Int):=by simpa using hd
  unfold JL;cases hs:AN s with
  |error c=>rw[hs] at g1;exact g1
  |ok r=>
   rw[hs] at g1;cases r with
   |nil=>exact g1
   |cons a r=>
    obtain⟨_,hS,hp⟩:=g1;have hl:=hS.len;rw[Ub] at hl;unfold A9 at hp;rw[Ub] at hp;omega
def WY(t:ByteArray)(X:JR (List (Am × JV) × Am))(q:Option Bz):Prop:=
 ∃i e ls,JS t i e (JL (Ty X))/\(∀ms r,X=.ok (ms,r)->ls=ms.map Pf)/\q=some ⟨[.own 3 ls.length (Fw ls)],[jC t i e]⟩
theorem Uq(ls:List RM):decide (ls.length*3<=(Fw ls).length)=true/\List.take (ls.length*3) (Fw ls)=Fw ls:=by refine⟨dT (by rw[SU];omega),FF (by rw[SU];omega)⟩
theorem RB{t t0:ByteArray}(ht:t.size<=1000000)(Ce:t.size+5<=fu){i0 e0 i e c:Int}(h:JS t i e (.error c))(ls:List RM)(nn:Nat){X:JR (List (Am × JV) × Am)}(hX:X=.error c):
  WY t X (Bm fu (Ae (CP p) prog fu (d+4)) t0 i0 e0 (nn+1) ls.length t i e (Fw ls)):=by
 obtain⟨i',x1,y1,y2⟩:=Aar (fu:=fu) (d:=d+2) (p:=p) ht (by omega) h;have Er:e≠0:=by obtain⟨q1,q2,_⟩:=h;rw[q1];exact q2
 have z:(e==0)=false:=by simp[Er]
 obtain⟨o1,o2⟩:=Uq ls;have fl:=Kn (fu:=fu) (d:=d+3) (p:=p) t i' e 2;subst hX;rw[D8];cases hd:decide (i'<(t.size:Int)) with
 |true=>
  refine⟨i',_,ls,y1 hd,(fun ms r h=>by cases h),?_⟩;simp only[A2,A1,z,x1,hd,fl,o1,o2]
 |false=>
  refine⟨i',_,ls,y2 hd,(fun ms r h=>by cases h),?_⟩;simp only[A2,A1,z,x1,hd,o1,o2]
end
theorem Ag8(ms:List (Am × JV))(nm:Am):(ms.any fun m=>m.1==nm)=((ms.map Pf).find? (fun m=>m.1==nm)).isSome:=by
 induction ms with
 |nil=>rfl
 |cons m ms ih=>
  rw[List.any_cons,Xy,List.find?_cons];have e:(Pf m).1=m.1:=rfl;rw[e];cases m.1==nm with
  |true=>rfl
  |false=>rw[ih];rfl
theorem Axn{l:Am}(hl:Ct l):Ct (LE (.ok l)).1:=by
 have e:LE (.ok l)=jtP (De l):=rfl;rw[e];rcases hx:De l with⟨o,r⟩;cases o with
 |none=>exact fun x hx=>nomatch hx
 |some s=>exact PE hl hx
section
variable {fu d:Nat}{p:Option (Al->Option Bz)}
set_option maxHeartbeats 8000000 in
theorem IM{t:ByteArray}(ht:t.size<=1000000)(Ce:t.size+300<=fu){t0:ByteArray}{i0 e0:Int}:∀(n nn:Nat)(ms:List (Am × JV)) (ls:List RM)(l0:Am),ls=ms.map Pf->(Ao l0).length<n->n+2<=nn->Dp t l0->(∀m∈ms,Ct m.1)->ms.length+(Ao l0).length<=t.size ->
  WY t (Jz (B3 8) true n ms (Ao l0)) (Bm fu (Ae (CP p) prog fu (d+21)) t0 i0 e0 nn ls.length t (A9 t l0) 0 (Fw ls)):=by
 intro n
 induction n with
 |zero=>intro nn ms ls l0 _ h;omega
 |succ n ih=>
  intro nn ms ls l0 hls Do Jo hs hmB hml;obtain⟨m,rfl⟩:∃m,nn=m+1:=⟨nn-1,by omega⟩
  have h0:JS t (A9 t l0) 0 (.ok l0):=⟨rfl,hs,rfl⟩
  have hsk:=Bw hs;have hll:ls.length=ms.length:=by rw[hls,List.length_map]
  have hlB:∀q∈ls,Ct q.1:=by
   intro q hq;rw[hls] at hq;obtain⟨w,hw,rfl⟩:=List.mem_map.1 hq;exact hmB w hw
  obtain⟨i1,j1,x1⟩:=Gn (fu:=fu) (d:=d+19) (p:=p) ht (by omega) h0;have e1:AN (.ok l0)=.ok (Ao l0):=rfl;rw[e1] at j1;obtain⟨i2,e2,j2,x2⟩:=YZ (fu:=fu) (d:=d+17) (p:=p) ht (by omega) (by omega) j1;have hnB:=Axn hsk.B;have R4:=Aiz (Ao l0)
  have EW:∀nm r,De (Ao l0)=(some nm,r)->(LE (.ok (Ao l0))).1=nm:=by
   intro nm r h;have e:LE (.ok (Ao l0))=jtP (De (Ao l0)):=rfl;rw[e,h];rfl
  generalize (LE (.ok (Ao l0))).1=nm' at x2 hnB EW;generalize (LE (.ok (Ao l0))).2=s2 at j2 R4;have fd:=Af8 (fu:=fu) (d:=d+20) (p:=p) hlB hnB (by omega) (by omega);have RE:=Ag8 ms nm';rw[<-hls] at RE;have z0:((0:Int)==0)=true:=rfl;obtain⟨o1,o2⟩:=Uq ls;have o3:decide (0+ls.length*3<=(Fw ls).length)=true:=by rw[Ob];exact o1
  have o4:List.take (ls.length*3) (List.drop 0 (Fw ls))=Fw ls:=by rw[SL];exact o2
  have c1:decide ((ls.length+1)*40<=1099511627776)=true:=dT (by omega);have c2:decide (ls.length+1<=1099511627776)=true:=dT (by omega);have hL8:∀l v r,Ct l->l.length<=1000000->B3 8 l=.ok (v,r)->r.length<=l.length:=fun l v r hl hs hv=>Aa7 (by decide) hl hs hv;cases hf:ls.find? (fun q=>q.1==nm') with
  |some q=>
   have fr:JK ls nm'=⟨[.agg [.sc (.string (Aa q.1)),B9 q.2.1,.sc (.string q.2.2)],.sc (.bool true)],[]⟩:=by unfold JK;rw[hf]
   rw[fr] at fd;rw[hf] at RE;have RE:(ms.any fun m=>m.1==nm')=true:=RE;have fl:=Kn (fu:=fu) (d:=d+20) (p:=p) t i2 e2 10;have h3:=j2.fail (c:=10) (by decide);obtain⟨i4,j4,x4⟩:=Gn (fu:=fu) (d:=d+19) (p:=p) ht (by omega) h3;obtain⟨i5,e5,j5,x5⟩:=Hs (fu:=fu) (d:=d+19) (p:=p) ht (c:=58) (by decide) j4;obtain⟨i6,j6,x6⟩:=Gn (fu:=fu) (d:=d+19) (p:=p) ht (by omega) j5;obtain⟨i7,e7,kd,tx,j7,kt,x7⟩:=Ao0 (fu:=fu) (d:=d) (p:=p) ht (by omega) 8 1 (by decide) (by decide) i6 e5 _ j6;have x7:Ae (CP p) prog fu (d+21) 53 [.pbox (jC t i6 e5),B9 1]=_:=x7;obtain⟨i8,j8,x8⟩:=Gn (fu:=fu) (d:=d+19) (p:=p) ht (by omega) j7;have j8:JS t i8 e7 (JE (B3 8) (UJ 10 s2)):=j8;have pk:Ae (CP p) prog fu (d+21) 50 [.pbox (jC t i8 e7)]=some ⟨[.sc (.int .u8 (Bp (JE (B3 8) (UJ 10 s2))))],[jC t i8 e7]⟩:=Cj (fu:=fu) (d:=d+20) (p:=p) j8
   obtain⟨ls2,Aej⟩:∃x,x=ls++[(nm',kd,tx)]:=⟨_,rfl⟩
   have Pu:ls2.length=ls.length+1:=by rw[Aej,LG];rfl
   have ea:Fw ls++[.sc (.string (Aa nm')),B9 kd,.sc (.string tx)]=Fw ls2:=by rw[Aej,UP];rfl
   obtain⟨p1,p2⟩:=Uq ls2;rw[Pu] at p1 p2
   have Ny:Bp (JE (B3 8) (UJ 10 s2))≠44->∀X:JR (List (Am × JV) × Am),JL (Ty X)=JL (Oo 125 (JE (B3 8) (UJ 10 s2)))->(∀ms r,X=.ok (ms,r)->ls2=ms.map Pf)->WY t X (Bm fu (Ae (CP p) prog fu (d+21)) t0 i0 e0 (m+1) ls.length t (A9 t l0) 0 (Fw ls)):=by
    intro Er X hX hXl;obtain⟨i9,e9,j9,x9⟩:=Hs (fu:=fu) (d:=d+19) (p:=p) ht (c:=125) (by decide) j8;obtain⟨i10,x10,y1,y2⟩:=Aar (fu:=fu) (d:=d+19) (p:=p) ht (by omega) j9;have fl2:=Kn (fu:=fu) (d:=d+20) (p:=p) t i10 e9 2;have zn:(Bp (JE (B3 8) (UJ 10 s2)) != 44)=true:=by simp[Er]
    rw[<-hX] at y1 y2;rw[D8];cases hd:decide (i10<(t.size:Int)) with
    |true=>
     refine⟨i10,_,ls2,y1 hd,hXl,?_⟩;rw[Pu];simp only[A2,A1,z0,x1,x2,o3,o4,fd,fl,x4,x5,x6,x7,o1,c1,c2,o2,Zzn,ea,x8,pk,zn,x9,x10,hd,fl2,p1,p2]
    |false=>
     refine⟨i10,_,ls2,y2 hd,hXl,?_⟩;rw[Pu];simp only[A2,A1,z0,x1,x2,o3,o4,fd,fl,x4,x5,x6,x7,o1,c1,c2,o2,Zzn,ea,x8,pk,zn,x9,x10,hd,p1,p2]
   have Alt:∀c,(UJ 10 s2)=.error c->∀X:JR (List (Am × JV) × Am),X=.error c->WY t X (Bm fu (Ae (CP p) prog fu (d+21)) t0 i0 e0 (m+1) ls.length t (A9 t l0) 0 (Fw ls)):=by
    intro c hc X hX;have hj:JE (B3 8) (UJ 10 s2)=.error c:=by rw[hc];exact OR _ c
    subst hX;refine Ny (by rw[hj];show (0:Int)≠44;decide) _ ?_ (fun ms r h=>by cases h)
    rw[hj,Qn (by decide)];rfl
   rcases hx:De (Ao l0) with⟨o,r⟩;rw[hx] at R4;cases o with
   |none=>
    exact Alt 2 (by rw[R4];rfl) _ (by rw[G3,hx])
   |some nm=>
    have:=EW nm r hx;subst this;exact Alt 10 (by rw[R4];rfl) _ (by rw[G3,hx];simp only;rw[RE];rfl)
  |none=>
   have fr:JK ls nm'=⟨[.agg [.sc (.string (Aa [])),B9 0,.sc (.string (Aa []))],.sc (.bool false)],[]⟩:=by unfold JK;rw[hf]
   rw[fr] at fd;rw[hf] at RE;have RE:(ms.any fun m=>m.1==nm')=false:=RE;have h3:=j2;obtain⟨i4,j4,x4⟩:=Gn (fu:=fu) (d:=d+19) (p:=p) ht (by omega) h3;obtain⟨i5,e5,j5,x5⟩:=Hs (fu:=fu) (d:=d+19) (p:=p) ht (c:=58) (by decide) j4;obtain⟨i6,j6,x6⟩:=Gn (fu:=fu) (d:=d+19) (p:=p) ht (by omega) j5;obtain⟨i7,e7,kd,tx,j7,kt,x7⟩:=Ao0 (fu:=fu) (d:=d) (p:=p) ht (by omega) 8 1 (by decide) (by decide) i6 e5 _ j6;have x7:Ae (CP p) prog fu (d+21) 53 [.pbox (jC t i6 e5),B9 1]=_:=x7;obtain⟨i8,j8,x8⟩:=Gn (fu:=fu) (d:=d+19) (p:=p) ht (by omega) j7;have j8:JS t i8 e7 (JE (B3 8) s2):=j8;have pk:Ae (CP p) prog fu (d+21) 50 [.pbox (jC t i8 e7)]=some ⟨[.sc (.int .u8 (Bp (JE (B3 8) s2)))],[jC t i8 e7]⟩:=Cj (fu:=fu) (d:=d+20) (p:=p) j8;obtain⟨ls2,Aej⟩:∃x,x=ls++[(nm',kd,tx)]:=⟨_,rfl⟩
   have Pu:ls2.length=ls.length+1:=by rw[Aej,LG];rfl
   have ea:Fw ls++[.sc (.string (Aa nm')),B9 kd,.sc (.string tx)]=Fw ls2:=by rw[Aej,UP];rfl
   obtain⟨p1,p2⟩:=Uq ls2;rw[Pu] at p1 p2
   have Ny:Bp (JE (B3 8) s2)≠44->∀X:JR (List (Am × JV) × Am),JL (Ty X)=JL (Oo 125 (JE (B3 8) s2))->(∀ms r,X=.ok (ms,r)->ls2=ms.map Pf)->WY t X (Bm fu (Ae (CP p) prog fu (d+21)) t0 i0 e0 (m+1) ls.length t (A9 t l0) 0 (Fw ls)):=by
    intro Er X hX hXl;obtain⟨i9,e9,j9,x9⟩:=Hs (fu:=fu) (d:=d+19) (p:=p) ht (c:=125) (by decide) j8;obtain⟨i10,x10,y1,y2⟩:=Aar (fu:=fu) (d:=d+19) (p:=p) ht (by omega) j9;have fl2:=Kn (fu:=fu) (d:=d+20) (p:=p) t i10 e9 2;have zn:(Bp (JE (B3 8) s2) != 44)=true:=by simp[Er]
    rw[<-hX] at y1 y2;rw[D8];cases hd:decide (i10<(t.size:Int)) with
    |true=>
     refine⟨i10,_,ls2,y1 hd,hXl,?_⟩;rw[Pu];simp only[A2,A1,z0,x1,x2,o3,o4,fd,x4,x5,x6,x7,o1,c1,c2,o2,Zzn,ea,x8,pk,zn,x9,x10,hd,fl2,p1,p2]
    |false=>
     refine⟨i10,_,ls2,y2 hd,hXl,?_⟩;rw[Pu];simp only[A2,A1,z0,x1,x2,o3,o4,fd,x4,x5,x6,x7,o1,c1,c2,o2,Zzn,ea,x8,pk,zn,x9,x10,hd,p1,p2]
   have Alt:∀c,s2=.error c->∀X:JR (List (Am × JV) × Am),X=.error c->WY t X (Bm fu (Ae (CP p) prog fu (d+21)) t0 i0 e0 (m+1) ls.length t (A9 t l0) 0 (Fw ls)):=by
    intro c hc X hX;have hj:JE (B3 8) s2=.error c:=by rw[hc];exact OR _ c
    subst hX;refine Ny (by rw[hj];show (0:Int)≠44;decide) _ ?_ (fun ms r h=>by cases h)
    rw[hj,Qn (by decide)];rfl
   rcases hx:De (Ao l0) with⟨o,r⟩;rw[hx] at R4;cases o with
   |none=>
    exact Alt 2 R4 _ (by rw[G3,hx])
   |some nm=>
    have:=EW nm r hx;subst this;simp only at R4
    have hrS:Dp t r:=by
     have:=Gl hsk;rw[hx] at this;exact this
    have hrl:=US (s:=[]) hsk.B hx;have hm:=Aj4 (V:=B3 8) (n:=n) (kp:=true) (ms:=ms) hx (by rw[RE];rfl)
    subst R4;rcases Ah2 (B3 8) hL8 hrS.B (by have:=hrS.len;omega) with⟨c,g1,g2⟩|⟨v,r2,g1,g2,g3⟩
    ·rw[hm,g2];refine Ny (by rw[g1];show (0:Int)≠44;decide) _ ?_ (fun ms r h=>by cases h)
     rw[g1,Qn (by decide)];rfl
    ·have hkt:kd=WC v/\tx=Aa (txR v):=by
      have e5:AN (.ok r)=.ok (Ao r):=rfl;rw[e5,U7 (by decide)] at kt;cases h58:An [58] (Ao r) with
      |none=>rw[h58] at g3;cases g3
      |some r1=>
       rw[h58] at g3 kt;exact kt (Ao r1) v r2 rfl g3
     have Avs:ls2=(ms++[(nm',v)]).map Pf:=by
      rw[Aej,List.map_append,hls,hkt.1,hkt.2];rfl
     rw[hm,g3];simp only;cases QP:An [44] (Ao r2) with
     |none=>
      have Er:Bp (JE (B3 8) (.ok r))≠44:=by rw[g1];exact Apj QP
      cases BF:An [125] (Ao r2) with
      |none=>
       refine Ny Er _ ?_ (fun ms r h=>by cases h);rw[g1,U7 (by decide),BF];rfl
      |some r3=>
       refine Ny Er _ ?_ (fun ms r h=>by cases h;exact Avs)
       rw[g1,U7 (by decide),BF];rfl
     |some r'=>
      have hk:=Ahh QP;have BF:An [125] (Ao r2)=none:=by rw[hk,Ck];rfl
      rw[BF];simp only;rw[g1,hk] at j8 pk;obtain⟨ja,wa⟩:=j8.adv ht (by show (44:Int)≠0;decide)
      obtain⟨je,js,jp⟩:=ja
      have hlr:r'.length+1<=(Ao l0).length:=by
       have h1:=Gc r2;rw[hk,Ub] at h1;omega
      have DV:=Gc r'
      have ih:=ih m (ms++[(nm',v)]) ls2 r' Avs (by omega) (by omega) js (fun q hq=>by
       rcases Bu.1 hq with hq|hq
       ·exact hmB q hq
       ·rw[P7] at hq;subst hq;exact hnB) (by rw[LG,List.length_singleton];omega)
      have zn:(Bp (.ok (44::r')) != 44)=false:=rfl;subst je;rw[<-jp,Pu] at ih;rw[D8];simp only[A2,A1,z0,x1,x2,o3,o4,fd,x4,x5,x6,x7,o1,c1,c2,o2,Zzn,ea,x8,pk,zn,wa];exact ih
theorem Ajg(t:ByteArray):A9 t (Eu t)=0:=by unfold A9;rw[Ik];omega
set_option maxHeartbeats 8000000 in
theorem Ace{t:ByteArray}(ht:t.size<=1000000)(Ce:t.size+300<=fu):∃i e ls,(match BH 8 (Eu t) with | .ok ms=>e=0/\ls=ms.map Pf | .error c=>e=c/\c≠0)/\Ae (CP p) prog fu (d+22) 29 [.pbox (jC t 0 0)]=some ⟨[.own 3 ls.length (Fw ls)],[jC t i e]⟩:=by
 have er:=N2 (p:=p) fu (d+21) t 0 0;have hS:=Dp.all t;have h0:JS t 0 0 (.ok (Eu t)):=⟨rfl,hS,by rw[Ajg];rfl⟩
 obtain⟨i1,j1,x1⟩:=Gn (fu:=fu) (d:=d+19) (p:=p) ht (by omega) h0;obtain⟨i2,e2,j2,x2⟩:=Hs (fu:=fu) (d:=d+19) (p:=p) ht (c:=123) (by decide) j1;obtain⟨i3,j3,x3⟩:=Gn (fu:=fu) (d:=d+19) (p:=p) ht (by omega) j2;have e1:AN (.ok (Eu t))=.ok (Ao (Eu t)):=rfl;rw[e1,U7 (by decide)] at j3;rw[Lr]
 have conv:∀{X:JR (List (Am × JV) × Am)} {q:Option Bz},WY t X q->Ae (CP p) prog fu (d+22) 29 [.pbox (jC t 0 0)]=q->∃i e ls,(match (match X with | .error e=>(.error e:JR (List (Am × JV))) | .ok (ms,r')=>if Ao r'=[] then .ok ms else .error 2) with | .ok ms=>e=0/\ls=ms.map Pf | .error c=>e=c/\c≠0)/\Ae (CP p) prog fu (d+22) 29 [.pbox (jC t 0 0)]=some ⟨[.own 3 ls.length (Fw ls)],[jC t i e]⟩:=by
  intro X q hq he;obtain⟨i,e,ls,g1,g2,g3⟩:=hq;refine⟨i,e,ls,?_,he.trans g3⟩;cases X with
  |error c=>exact⟨g1.1,g1.2.1⟩
  |ok w=>
   obtain⟨ms,r'⟩:=w;have g1:JS t i e (JL (.ok r')):=g1;unfold JL at g1;have e5:AN (.ok r')=.ok (Ao r'):=rfl;rw[e5] at g1;simp only;cases hk:Ao r' with
   |nil=>
    rw[hk] at g1;rw[Bq rfl];exact⟨g1.1,g2 ms r' rfl⟩
   |cons a b=>
    rw[hk] at g1;rw[Bg (by simp)];exact⟨g1.1,g1.2.1⟩
 cases Alk:An [123] (Ao (Eu t)) with
 |none=>
  rw[Alk] at j3;have j3:JS t i3 e2 (.error 2):=j3;have pk:Ae (CP p) prog fu (d+21) 50 [.pbox (jC t i3 e2)]=some ⟨[.sc (.int .u8 0)],[jC t i3 e2]⟩:=Cj (fu:=fu) (d:=d+20) (p:=p) j3;have z:((0:Int)==125)=false:=rfl;obtain⟨f,hf⟩:∃f,fu=f+1:=⟨fu-1,by omega⟩
  have st:=RB (fu:=fu) (d:=d+17) (p:=p) ht (by omega) (t0:=t) (i0:=0) (e0:=0) j3 [] f (X:=.error 2) rfl;rw[<-hf] at st;refine conv st (er.trans ?_);simp only[A2,A1,x1,x2,x3,pk,z];rfl
 |some r=>
  rw[Alk] at j3;have j3:JS t i3 e2 (.ok (Ao r)):=j3;have pk:Ae (CP p) prog fu (d+21) 50 [.pbox (jC t i3 e2)]=some ⟨[.sc (.int .u8 (Bp (.ok (Ao r))))],[jC t i3 e2]⟩:=Cj (fu:=fu) (d:=d+20) (p:=p) j3;simp only;rw[Hz];cases BF:An [125] (Ao r) with
  |some r'=>
   have hk:=Ahh BF;rw[hk] at j3 pk;obtain⟨ja,wa⟩:=j3.adv ht (by show (125:Int)≠0;decide)
   have ja:JS t (i3+1) e2 (.ok r'):=ja;obtain⟨i4,x4,y1,y2⟩:=Aar (fu:=fu) (d:=d+19) (p:=p) ht (by omega) ja;have fl:=Kn (fu:=fu) (d:=d+20) (p:=p) t i4 e2 2;have z:(Bp (.ok (125::r'))==125)=true:=rfl;cases hd:decide (i4<(t.size:Int)) with
   |true=>
    refine conv (X:=.ok ([],r')) ⟨i4,_,[],y1 hd,(fun ms r h=>by cases h;rfl),rfl⟩ (er.trans ?_)
    simp only[A2,A1,x1,x2,x3,pk,z,wa,x4,hd,fl];rfl
   |false=>
    refine conv (X:=.ok ([],r')) ⟨i4,_,[],y2 hd,(fun ms r h=>by cases h;rfl),rfl⟩ (er.trans ?_)
    simp only[A2,A1,x1,x2,x3,pk,z,wa,x4,hd];rfl
  |none=>
   have Er:Bp (.ok (Ao r))≠125:=by
    intro hq;rw[Ck] at BF;cases hk:Ao r with
    |nil=>rw[hk] at hq;cases hq
    |cons a b=>
     rw[hk] at hq BF;have hq:a=125:=hq;simp only at BF;rw[Bq hq] at BF;cases BF
   obtain⟨je,js,jp⟩:=j3;have DV:=js.len;have lp:=IM (fu:=fu) (d:=d) (p:=p) ht Ce (t0:=t) (i0:=0) (e0:=0) ((Ao r).length+1) fu [] [] (Ao r) rfl (by rw[L4];omega) (by omega) js (fun q hq=>nomatch hq) (by rw[L4];simpa using DV)
   rw[L4] at lp;have z:(Bp (.ok (Ao r))==125)=false:=by simp[Er]
   subst je;rw[<-jp] at lp;refine conv lp (er.trans ?_);simp only[A2,A1,x1,x2,x3,pk,z];rfl
end
def KV(v:JV):Prop:=1<=v.1/\v.1<=6/\(v.2.2=true->v.1=2)
theorem Ab9{k:Nat}{l r:Am}{v:JV}(h:B3 k l=.ok (v,r)):KV v:=by
 unfold B3 at h;split at h
 ·split at h
  ·cases h
  ·split at h
   ·cases h
   ·cases h;exact⟨by decide,by decide,fun h=>by cases h⟩
 ·split at h
  ·cases h
  ·split at h
   ·cases h
   ·cases h;exact⟨by decide,by decide,fun h=>by cases h⟩
 ·split at h
  ·cases h
  ·cases h;exact⟨by show (1:Int)<=4;decide,by show (4:Int)<=6;decide,fun h=>by cases h⟩
 ·repeat' split at h
  all_goals first|(cases h;exact⟨by decide,by decide,fun h=>by first|rfl|cases h⟩)|cases h
theorem Ad9:∀(n:Nat)(ms:List (Am × JV)) (l r:Am)(ms':List (Am × JV)),(∀m∈ms,KV m.2)->Jz (B3 8) true n ms l=.ok (ms',r)->∀m∈ms',KV m.2:=by
 intro n
 induction n with
 |zero=>intro ms l r ms' _ h;cases h
 |succ n ih=>
  intro ms l r ms' hm h;rw[G3] at h;rcases hx:De l with⟨o,q⟩;rw[hx] at h;cases o with
  |none=>cases h
  |some nm=>
   simp only at h;split at h
   ·cases h
   cases h1:An [58] (Ao q) with
   |none=>rw[h1] at h;cases h
   |some r1=>
    rw[h1] at h;simp only at h;cases hv:B3 8 (Ao r1) with
    |error e=>rw[hv] at h;cases h
    |ok x=>
     obtain⟨v,r2⟩:=x;rw[hv] at h
     have M9:∀m∈ms++[(nm,v)],KV m.2:=by
      intro m Jw;rcases Bu.1 Jw with Jw|Jw
      ·exact hm m Jw
      ·simp at Jw;subst Jw;exact Ab9 hv
     simp only at h;cases h2:An [125] (Ao r2) with
     |some r3=>rw[h2] at h;cases h;exact M9
     |none=>
      rw[h2] at h;simp only at h;cases h3:An [44] (Ao r2) with
      |none=>rw[h3] at h;cases h
      |some r3=>
       rw[h3] at h;exact ih _ _ _ _ M9 h
theorem Aee{l:Am}{ms:List (Am × JV)}(h:BH 8 l=.ok ms):∀m∈ms,KV m.2:=by
 rw[Lr] at h;cases h1:An [123] (Ao l) with
 |none=>rw[h1] at h;cases h
 |some r=>
  rw[h1] at h;simp only at h;rw[Hz] at h;cases h2:An [125] (Ao r) with
  |some r'=>
   rw[h2] at h;simp only at h;split at h
   ·cases h;exact fun m hm=>by cases hm
   ·cases h
  |none=>
   rw[h2] at h;simp only at h;cases h3:Jz (B3 8) true ((Ao r).length+1) [] (Ao r) with
   |error e=>rw[h3] at h;cases h
   |ok x=>
    obtain⟨ms',r'⟩:=x;rw[h3] at h;simp only at h;split at h
    ·cases h;exact Ad9 _ _ _ _ _ (fun m hm=>by cases hm) h3
    ·cases h
def fB(ms:List (Am × JV))(nm:Am):Bool:=(Hq nm ms).isSome
def fK(ms:List (Am × JV))(nm:Am):Int:=match Hq nm ms with|some v=>WC v|none=>0
def fX(ms:List (Am × JV))(nm:Am):Am:=match Hq nm ms with|some v=>txR v|none=>[]
theorem Aii(ms:List (Am × JV))(nm:Am):∃n1,JK (ms.map Pf) nm=⟨[.agg [.sc (.string n1),B9 (fK ms nm),.sc (.string (Aa (fX ms nm)))],.sc (.bool (fB ms nm))],[]⟩:=by
 have e:(ms.map Pf).find? (fun m=>m.1==nm)=(ms.find? (fun m=>m.1==nm)).map Pf:=by
  rw[List.find?_map];rfl
 unfold JK fB fK fX Hq;rw[e];cases ms.find? (fun m=>m.1==nm) with
 |none=>exact⟨_,rfl⟩
 |some m=>exact⟨_,rfl⟩
theorem NF{ms:List (Am × JV)}(h:∀m∈ms,KV m.2){nm:Am}{v:JV}(hv:Hq nm ms=some v):KV v:=by unfold Hq at hv;obtain⟨m,hm,rfl⟩:=Option.map_eq_some_iff.1 hv;exact h m (List.mem_of_find?_eq_some hm)
theorem Ky{ms:List (Am × JV)}(h:∀m∈ms,KV m.2)(nm:Am):
  (fB ms nm=true/\fK ms nm=1/\(Bs nm ms).1=4/\fX ms nm=(Bs nm ms).2.1)\/(fB ms nm=false/\fK ms nm=0/\Bs nm ms=(0,[],false)/\fX ms nm=[])\/(fB ms nm=true/\fK ms nm≠1/\(Bs nm ms).1≠4/\(Bs nm ms).1≠0):=by
 unfold fB fK fX Bs;cases hv:Hq nm ms with
 |none=>exact .inr (.inl ⟨rfl,rfl,rfl,rfl⟩)
 |some v=>
  obtain⟨k1,k2,k3⟩:=NF h hv;by_cases h4:v.1=4
  ·refine .inl ⟨rfl,?_,h4,?_⟩
   ·show WC v=1;unfold WC;rw[Bq h4]
   ·show txR v=v.2.1;unfold txR;rw[Bq h4]
  ·refine .inr (.inr ⟨rfl,?_,h4,?_⟩)
   ·show WC v≠1;unfold WC;rw[Bg h4];split
    ·split<;>decide
    ·decide
   ·show v.1≠0;omega
theorem Ad5{ms:List (Am × JV)}(h:∀m∈ms,KV m.2)(nm:Am):
  (fB ms nm=false/\Bs nm ms=(0,[],false))\/(fB ms nm=true/\fK ms nm=2/\(Bs nm ms).1=2/\(Bs nm ms).2.2=true)\/(fB ms nm=true/\fK ms nm=3/\(Bs nm ms).1=2/\(Bs nm ms).2.2=false)\/(fB ms nm=true/\fK ms nm≠2/\fK ms nm≠3/\(Bs nm ms).1≠0/\(Bs nm ms).1≠2):=by
 unfold fB fK Bs;cases hv:Hq nm ms with
 |none=>exact .inl ⟨rfl,rfl⟩
 |some v=>
  obtain⟨k1,k2,k3⟩:=NF h hv;show _\/(_/\WC v=2/\v.1=2/\v.2.2=true)\/(_/\WC v=3/\v.1=2/\v.2.2=false)\/(_/\WC v≠2/\WC v≠3/\v.1≠0/\v.1≠2);by_cases h4:v.1=4
  ·refine .inr (.inr (.inr ⟨rfl,?_,?_,by omega,by omega⟩))<;>(unfold WC;rw[Bq h4];decide)
  ·by_cases h2:v.1=2
   ·cases ht:v.2.2 with
    |true=>exact .inr (.inl ⟨rfl,by unfold WC;rw[Bg h4,Bq h2,Bq ht],h2,rfl⟩)
    |false=>exact .inr (.inr (.inl ⟨rfl,by unfold WC;rw[Bg h4,Bq h2,Bg (by rw[ht];decide)],h2,rfl⟩))
   ·refine .inr (.inr (.inr ⟨rfl,?_,?_,by omega,h2⟩))<;>(unfold WC;rw[Bg h4,Bg h2];decide)
def Aef(T C O X P:JV):Bool:=decide (T.1=4)&&(decide (C.1=4)&&(decide (O.1=4)&&((decide (X.1=0)||decide (X.1=2))&&(bif X.2.2 then decide (P.1=4) else decide (P.1=0)))))
theorem Aqr(T C O X P:JV):Jg T C O X P=if Aef T C O X P=true then (if T.2.1=tyC then Uk 1 C O X P else if T.2.1=tyG then Uk 2 C O X P else .error 3) else .error 4:=by
 unfold Jg Aef;by_cases h1:T.1=4
 ·by_cases h2:C.1=4
  ·by_cases h3:O.1=4
   ·rw[Bg (by simp[h1,h2,h3]),dT h1,dT h2,dT h3];by_cases h4:X.1≠0/\X.1≠2
    ·rw[Bq h4,dF h4.1,dF h4.2];simp
    ·rw[Bg h4]
     have e4:(decide (X.1=0)||decide (X.1=2))=true:=by
      by_cases q:X.1=0
      ·rw[dT q];rfl
      ·rw[dT (q:=X.1=2) (by omega),Bool.or_true]
     rw[e4];cases hx:X.2.2 with
     |true=>
      by_cases h5:P.1=4
      ·rw[dT h5,Bg (by simp[h5])];rfl
      ·rw[dF h5,Bq (.inl ⟨rfl,h5⟩)];rfl
     |false=>
      by_cases h5:P.1=0
      ·rw[dT h5,Bg (by simp[h5])];rfl
      ·rw[dF h5,Bq (.inr ⟨rfl,h5⟩)];rfl
   ·rw[Bq (.inr (.inr h3)),dF h3];simp
  ·rw[Bq (.inr (.inl h2)),dF h2];simp
 ·rw[Bq (.inl h1),dF h1];rfl
section
variable {fu d:Nat}{p:Option (Al->Option Bz)}
theorem AK{ms:List (Am × JV)}(hB:∀m∈ms,Ct m.1)(hl:ms.length<=1000000)(Ce:1000002<=fu){nm:Am}(hn:Ct nm):∃n1,Ae (CP p) prog fu (d+1) 31 [.lst false 3 (ms.map Pf).length (Fw (ms.map Pf)),.sc (.string (Aa nm))]=some ⟨[.agg [.sc (.string n1),B9 (fK ms nm),.sc (.string (Aa (fX ms nm)))],.sc (.bool (fB ms nm))],[]⟩:=by
 have hlB:∀q∈ms.map Pf,Ct q.1:=by
  intro q hq;obtain⟨w,hw,rfl⟩:=List.mem_map.1 hq;exact hB w hw
 have h:=Af8 (fu:=fu) (d:=d) (p:=p) hlB hn (by rw[List.length_map];omega) (by rw[List.length_map];omega)
 obtain⟨n1,h1⟩:=Aii ms nm;exact⟨n1,h.trans (by rw[h1])⟩
theorem Aok:Ct K4:=fun x hx=>by simp[K4] at hx;omega
theorem Ap0:Ct M2:=fun x hx=>by simp[M2] at hx;omega
theorem Apz:Ct Yi:=fun x hx=>by simp[Yi] at hx;omega
theorem Aw2:Ct AZ:=fun x hx=>by simp[AZ] at hx;omega
theorem Aoh:Ct Sk:=fun x hx=>by simp[Sk] at hx;omega
theorem Xc:ByteArray.mk #[(116:UInt8),(121:UInt8),(112:UInt8),(101:UInt8)]=Aa K4:=rfl
theorem Ws:ByteArray.mk #[(99:UInt8),(104:UInt8),(97:UInt8),(108:UInt8),(108:UInt8),(101:UInt8),(110:UInt8),(103:UInt8),(101:UInt8)]=Aa M2:=rfl
theorem Wt:ByteArray.mk #[(111:UInt8),(114:UInt8),(105:UInt8),(103:UInt8),(105:UInt8),(110:UInt8)]=Aa Yi:=rfl
theorem LF:ByteArray.mk #[(99:UInt8),(114:UInt8),(111:UInt8),(115:UInt8),(115:UInt8),(79:UInt8),(114:UInt8),(105:UInt8),(103:UInt8),(105:UInt8),(110:UInt8)]=Aa AZ:=rfl
theorem M4:ByteArray.mk #[(116:UInt8),(111:UInt8),(112:UInt8),(79:UInt8),(114:UInt8),(105:UInt8),(103:UInt8),(105:UInt8),(110:UInt8)]=Aa Sk:=rfl
theorem Ux{ms:List (Am × JV)}{Qs nn:Nat}{a0:Al}{call:A7}{cells:Al}{i:Nat}{nm:Am}{n1:ByteArray}(hi:i<3)(hc:List.getD cells i .top=.sc (.string (Aa nm)))(fd:call 31 [.lst false 3 (ms.map Pf).length (Fw (ms.map Pf)),.sc (.string (Aa nm))]=some ⟨[.agg [.sc (.string n1),B9 (fK ms nm),.sc (.string (Aa (fX ms nm)))],.sc (.bool (fB ms nm))],[]⟩):
  Ez fu call Qs a0 (nn+1) (ms.map Pf).length (Fw (ms.map Pf)) 3 (i:Int) cells=(bif fB ms nm&&(fK ms nm==1) then Ez fu call Qs a0 nn (ms.map Pf).length (Fw (ms.map Pf)) 3 ((i+1:Nat):Int) cells else some ⟨[.sc (.bool false)],[]⟩):=by
 have a1:decide ((i:Int)<((3:Nat):Int))=true:=dT (by omega);have a2:decide ((0:Int)<=(i:Int))=true:=by simp
 have a3:0+Int.toNat (i:Int)*1=i:=by omega
 have a5:wrap .i64 ((i:Int)+1)=((i+1:Nat):Int):=by rw[Ar (by omega) (by omega)];omega
 rw[Jm];cases hb:fB ms nm with
 |false=>
  rw[hb] at fd;simp only[A2,A1,a1,a2,a3,hc,fd,F9,CS,cond_false]
 |true=>
  rw[hb] at fd;by_cases hk:fK ms nm=1
  ·have z1:(fK ms nm==1)=true:=by simp[hk]
   have z2:(fK ms nm != 1)=false:=by simp[hk]
   simp only[A2,A1,a1,a2,a3,hc,fd,E1,z1,z2,a5,Bool.and_self,cond_true]
  ·have z1:(fK ms nm==1)=false:=by simp[hk]
   have z2:(fK ms nm != 1)=true:=by simp[hk]
   simp only[A2,A1,a1,a2,a3,hc,fd,E1,z1,z2,Zzt,cond_false]
theorem Aq5{ms:List (Am × JV)}(h:∀m∈ms,KV m.2)(nm:Am):(fB ms nm&&(fK ms nm==1))=decide ((Bs nm ms).1=4):=by
 rcases Ky h nm with⟨h1,h2,h3,_⟩|⟨h1,h2,h3,_⟩|⟨h1,h2,h3,_⟩
 ·rw[h1,h2,dT h3];rfl
 ·rw[h1,h3];rfl
 ·rw[h1,dF h3];simp[h2]
set_option maxHeartbeats 4000000 in
theorem Aiu{ms:List (Am × JV)}(hB:∀m∈ms,Ct m.1)(hK:∀m∈ms,KV m.2)(hl:ms.length<=1000000)(Ce:1000002<=fu):Ae (CP p) prog fu (d+2) 30 [.lst false 3 (ms.map Pf).length (Fw (ms.map Pf))]=some ⟨[.sc (.bool (Aef (Bs K4 ms) (Bs M2 ms) (Bs Yi ms) (Bs AZ ms) (Bs Sk ms)))],[]⟩:=by
 refine (Tu (p:=p) fu (d+1) (ms.map Pf).length (Fw (ms.map Pf))).trans ?_;obtain⟨u1,f1⟩:=AK (fu:=fu) (d:=d) (p:=p) hB hl Ce Aok;obtain⟨u2,f2⟩:=AK (fu:=fu) (d:=d) (p:=p) hB hl Ce Ap0;obtain⟨u3,f3⟩:=AK (fu:=fu) (d:=d) (p:=p) hB hl Ce Apz;obtain⟨u4,f4⟩:=AK (fu:=fu) (d:=d) (p:=p) hB hl Ce Aw2;obtain⟨u5,f5⟩:=AK (fu:=fu) (d:=d) (p:=p) hB hl Ce Aoh;obtain⟨f,rfl⟩:∃f,fu=f+4:=⟨fu-4,by omega⟩
 simp only[Xc,Ws,Wt];have s1:=Ux (fu:=f+4) (ms:=ms) (Qs:=(ms.map Pf).length) (nn:=f+3) (a0:=Fw (ms.map Pf)) (call:=Ae (CP p) prog (f+4) (d+1)) (cells:=[.sc (.string (Aa K4)),.sc (.string (Aa M2)),.sc (.string (Aa Yi))]) (i:=0) (by decide) rfl f1;have s2:=Ux (fu:=f+4) (ms:=ms) (Qs:=(ms.map Pf).length) (nn:=f+2) (a0:=Fw (ms.map Pf)) (call:=Ae (CP p) prog (f+4) (d+1)) (cells:=[.sc (.string (Aa K4)),.sc (.string (Aa M2)),.sc (.string (Aa Yi))]) (i:=1) (by decide) rfl f2;have s3:=Ux (fu:=f+4) (ms:=ms) (Qs:=(ms.map Pf).length) (nn:=f+1) (a0:=Fw (ms.map Pf)) (call:=Ae (CP p) prog (f+4) (d+1)) (cells:=[.sc (.string (Aa K4)),.sc (.string (Aa M2)),.sc (.string (Aa Yi))]) (i:=2) (by decide) rfl f3;rw[Aq5 hK] at s1 s2 s3;refine s1.trans ?_;unfold Aef
 cases h1:decide ((Bs K4 ms).1=4) with
 |false=>rfl
 |true=>
 rw[cond_true,QD];refine s2.trans ?_;cases h2:decide ((Bs M2 ms).1=4) with
 |false=>rfl
 |true=>
 rw[cond_true,QD];refine s3.trans ?_;cases h3:decide ((Bs Yi ms).1=4) with
 |false=>rfl
 |true=>
 rw[cond_true,QD,Jm];have a1:decide (((2+1:Nat):Int)<((3:Nat):Int))=false:=rfl;have tt:(true==true)=true:=rfl;have ft:(false==true)=false:=rfl;have tf:(true==false)=false:=rfl;have ff:(false==false)=true:=rfl;rcases Ad5 hK AZ with⟨x1,x2⟩|⟨x1,x2,x3,x4⟩|⟨x1,x2,x3,x4⟩|⟨x1,x2,x3,x4,x5⟩
 ·rw[x1] at f4;rw[x2];rcases Ky hK Sk with⟨p1,p2,p3,_⟩|⟨p1,p2,p3,_⟩|⟨p1,p2,p3,p4⟩
  ·rw[p1,p2] at f5;have z:((1:Int) != 1)=false:=rfl;rw[dF (q:=(Bs Sk ms).1=0) (by omega)];simp only[A2,A1,a1,LF,M4,f4,f5,z,tf];rfl
  ·rw[p1,p2] at f5;rw[p3];simp only[A2,A1,a1,LF,M4,f4,f5,ff];rfl
  ·rw[p1] at f5;have z:(fK ms Sk != 1)=true:=by simp[p2]
   rw[dF p4];simp only[A2,A1,a1,LF,M4,f4,f5,z];rfl
 ·rw[x1,x2] at f4;rw[x3,x4];have y2:((2:Int) != 2)=false:=rfl;have y3:((2:Int)==2)=true:=rfl;rcases Ky hK Sk with⟨p1,p2,p3,_⟩|⟨p1,p2,p3,_⟩|⟨p1,p2,p3,p4⟩
  ·rw[p1,p2] at f5;have z:((1:Int) != 1)=false:=rfl;rw[dT p3];simp only[A2,A1,a1,LF,M4,f4,f5,z,y2,y3,tt];rfl
  ·rw[p1,p2] at f5;rw[p3];simp only[A2,A1,a1,LF,M4,f4,f5,y2,y3,ft];rfl
  ·rw[p1] at f5;have z:(fK ms Sk != 1)=true:=by simp[p2]
   rw[dF p3];simp only[A2,A1,a1,LF,M4,f4,f5,z,y2];rfl
 ·rw[x1,x2] at f4;rw[x3,x4];have y2:((3:Int) != 2)=true:=rfl;have y3:((3:Int)==2)=false:=rfl;have y4:((3:Int) != 3)=false:=rfl;rcases Ky hK Sk with⟨p1,p2,p3,_⟩|⟨p1,p2,p3,_⟩|⟨p1,p2,p3,p4⟩
  ·rw[p1,p2] at f5;have z:((1:Int) != 1)=false:=rfl;rw[dF (q:=(Bs Sk ms).1=0) (by omega)];simp only[A2,A1,a1,LF,M4,f4,f5,z,y2,y3,y4,tf];rfl
  ·rw[p1,p2] at f5;rw[p3];simp only[A2,A1,a1,LF,M4,f4,f5,y2,y3,y4,ff];rfl
  ·rw[p1] at f5;have z:(fK ms Sk != 1)=true:=by simp[p2]
   rw[dF p4];simp only[A2,A1,a1,LF,M4,f4,f5,z,y2,y4];rfl
 ·rw[x1] at f4;have y2:(fK ms AZ != 2)=true:=by simp[x2]
  have y4:(fK ms AZ != 3)=true:=by simp[x3]
  rw[dF x4,dF x5];simp only[A2,A1,a1,LF,M4,f4,f5,y2,y4];rfl
end
theorem Agv:∀(n:Nat)(ms:List (Am × JV)) (l r:Am)(ms':List (Am × JV)),Jz (B3 8) true n ms l=.ok (ms',r)->ms'.length<=ms.length+n:=by
 intro n
 induction n with
 |zero=>intro ms l r ms' h;cases h
 |succ n ih=>
  intro ms l r ms' h;rw[G3] at h;rcases hx:De l with⟨o,q⟩;rw[hx] at h;cases o with
  |none=>cases h
  |some nm=>
   simp only at h;split at h
   ·cases h
   cases h1:An [58] (Ao q) with
   |none=>rw[h1] at h;cases h
   |some r1=>
    rw[h1] at h;simp only at h;cases hv:B3 8 (Ao r1) with
    |error e=>rw[hv] at h;cases h
    |ok x=>
     obtain⟨v,r2⟩:=x;rw[hv] at h;simp only at h;cases h2:An [125] (Ao r2) with
     |some r3=>rw[h2] at h;cases h;simp
     |none=>
      rw[h2] at h;simp only at h;cases h3:An [44] (Ao r2) with
      |none=>rw[h3] at h;cases h
      |some r3=>
       rw[h3] at h;have:=ih _ _ _ _ h;simp at this;omega
theorem Ajq{l:Am}{ms:List (Am × JV)}(h:BH 8 l=.ok ms):ms.length<=l.length+1:=by
 rw[Lr] at h;cases h1:An [123] (Ao l) with
 |none=>rw[h1] at h;cases h
 |some r=>
  rw[h1] at h;simp only at h;rw[Hz] at h;have q1:=Y0 h1;have q2:=Gc l;have q3:=Gc r;cases h2:An [125] (Ao r) with
  |some r'=>
   rw[h2] at h;simp only at h;split at h
   ·cases h;simp
   ·cases h
  |none=>
   rw[h2] at h;simp only at h;cases h3:Jz (B3 8) true ((Ao r).length+1) [] (Ao r) with
   |error e=>rw[h3] at h;cases h
   |ok x=>
    obtain⟨ms',r'⟩:=x;rw[h3] at h;simp only at h;split at h
    ·cases h;have:=Agv _ _ _ _ _ h3;simp at this;omega
    ·cases h
def pdR:JR CD->Bz
 |.ok (k,b,o,x,q)=>⟨[.agg [B9 k,.own 1 b.length (Bk .u8 b),.sc (.string (Aa o)),.sc (.bool x),.sc (.string (Aa q))],B9 0],[]⟩
 |.error e=>⟨[.agg [B9 0,.own 1 0 [],.sc (.string ⟨#[]⟩),.sc (.bool false),.sc (.string ⟨#[]⟩)],B9 e],[]⟩
section
variable {fu d:Nat}
theorem Amf(s:ByteArray)(h:s.size<=9223372036854775807):Ae C1 prog fu (d+1) 25 [.sc (.string s)]=some ⟨[.sc (.bool (Lib.validD s.data.toList))],[]⟩:=by have e:Ae C1 prog fu (d+1) 25 [.sc (.string s)]=JZ [.sc (.string s)]:=rfl;rw[e];unfold JZ;simp only[dT h,cond_true]
set_option maxHeartbeats 8000000 in
theorem Ak5{t:ByteArray}(Ce:1000400<=fu):Ae C1 prog fu (d+23) 22 [.sc (.string t)]=some (pdR (Jq t)):=by
 have er:=Rd (p:=some Dq) fu (d+22) t;refine er.trans ?_;clear er;unfold Jq;by_cases hs:1024<t.size
 ·have a1:=dT (q:=((t.size:Nat):Int)>1024) (by omega);rw[Bq hs];simp only[A2,A1,a1];rfl
 have a1:=dF (q:=((t.size:Nat):Int)>1024) (by omega);have vd:=Amf (fu:=fu) (d:=d+21) t (by omega);have vd:Ae C1 prog fu (d+22) 25 [.sc (.string t)]=_:=vd;rw[Bg hs];cases hv:Lib.validD t.data.toList with
 |false=>
  rw[hv] at vd;rw[Bq rfl];simp only[A2,A1,a1,vd,F9];rfl
 |true=>
 rw[hv] at vd;rw[Bg (by decide)];obtain⟨i,e,ls,m1,m2⟩:=Ace (fu:=fu) (d:=d) (p:=some Dq) (t:=t) (by omega) (by omega);have m2:Ae C1 prog fu (d+22) 29 [.pbox (jC t 0 0)]=_:=m2;have hB:=QH t;cases ht:BH 8 (Eu t) with
 |error c=>
  rw[ht] at m1;obtain⟨rfl,hc⟩:=m1;have z:(e != 0)=true:=by simp[hc]
  simp only[A2,A1,a1,vd,E1,m2,z];rfl
 |ok ms=>
 rw[ht] at m1;obtain⟨rfl,rfl⟩:=m1;have A5k:=Ajq ht;rw[Ik] at A5k;have hok:=ZZ hB (by rw[Ik];omega) ht
 have hmB:∀m∈ms,Ct m.1:=fun m hm=>(hok m hm).1.1;have hK:=Aee ht;have sh:=Aiu (fu:=fu) (d:=d+20) (p:=some Dq) hmB hK (by omega) (by omega);have sh:Ae C1 prog fu (d+22) 30 [.lst false 3 (ms.map Pf).length (Fw (ms.map Pf))]=_:=sh;obtain⟨u1,f1⟩:=AK (fu:=fu) (d:=d+21) (p:=some Dq) hmB (by omega) (by omega) Aok;have f1:Ae C1 prog fu (d+22) 31 [.lst false 3 (ms.map Pf).length (Fw (ms.map Pf)),.sc (.string (Aa K4))]=_:=f1;obtain⟨u2,f2⟩:=AK (fu:=fu) (d:=d+21) (p:=some Dq) hmB (by omega) (by omega) Ap0;have f2:Ae C1 prog fu (d+22) 31 [.lst false 3 (ms.map Pf).length (Fw (ms.map Pf)),.sc (.string (Aa M2))]=_:=f2;obtain⟨u3,f3⟩:=AK (fu:=fu) (d:=d+21) (p:=some Dq) hmB (by omega) (by omega) Apz
 have f3:Ae C1 prog fu (d+22) 31 [.lst false 3 (ms.map Pf).length (Fw (ms.map Pf)),.sc (.string (Aa Yi))]=_:=f3;obtain⟨u5,f5⟩:=AK (fu:=fu) (d:=d+21) (p:=some Dq) hmB (by omega) (by omega) Aoh;have f5:Ae C1 prog fu (d+22) 31 [.lst false 3 (ms.map Pf).length (Fw (ms.map Pf)),.sc (.string (Aa Sk))]=_:=f5;obtain⟨o1,o2⟩:=Uq (ms.map Pf);have o3:decide (0+(ms.map Pf).length*3<=(Fw (ms.map Pf)).length)=true:=by rw[Ob];exact o1
 have o4:List.take ((ms.map Pf).length*3) (List.drop 0 (Fw (ms.map Pf)))=Fw (ms.map Pf):=by rw[SL];exact o2
 have z0:((0:Int) != 0)=false:=rfl;show _=some (pdR (DI ms));unfold DI;rw[Aqr];cases hsh:Aef (Bs K4 ms) (Bs M2 ms) (Bs Yi ms) (Bs AZ ms) (Bs Sk ms) with
 |false=>
  rw[hsh] at sh;rw[Bg (by decide)];simp only[A2,A1,a1,vd,E1,m2,z0,o3,o4,sh,F9];rfl
 |true=>
 rw[hsh] at sh;rw[Bq rfl];have XG:=hsh;unfold Aef at XG;simp only[Fb,decide_eq_true_iff] at XG;obtain⟨hT,hC,hO,hX,hP⟩:=XG;have gT:fX ms K4=(Bs K4 ms).2.1:=by rcases Ky hK K4 with⟨_,_,_,h⟩|⟨_,_,h,_⟩|⟨_,_,h,_⟩<;>first|exact h|(rw[h] at hT;cases hT)|exact absurd hT h
 have gC:fX ms M2=(Bs M2 ms).2.1:=by rcases Ky hK M2 with⟨_,_,_,h⟩|⟨_,_,h,_⟩|⟨_,_,h,_⟩<;>first|exact h|(rw[h] at hC;cases hC)|exact absurd hC h
 have gO:fX ms Yi=(Bs Yi ms).2.1:=by rcases Ky hK Yi with⟨_,_,_,h⟩|⟨_,_,h,_⟩|⟨_,_,h,_⟩<;>first|exact h|(rw[h] at hO;cases hO)|exact absurd hO h
 have gP:fX ms Sk=(Bs Sk ms).2.1/\fB ms Sk=(Bs AZ ms).2.2:=by
  cases hx:(Bs AZ ms).2.2 with
  |true=>
   rw[hx] at hP;have hP:(Bs Sk ms).1=4:=by simpa using hP
   rcases Ky hK Sk with⟨h1,_,_,h⟩|⟨_,_,h,_⟩|⟨_,_,h,_⟩
   ·exact⟨h,h1⟩
   ·rw[h] at hP;cases hP
   ·exact absurd hP h
  |false=>
   rw[hx] at hP;have hP:(Bs Sk ms).1=0:=by simpa using hP
   rcases Ky hK Sk with⟨_,_,h,_⟩|⟨h1,_,h,h2⟩|⟨_,_,_,h⟩
   ·omega
   ·exact⟨by rw[h2,h],h1⟩
   ·exact absurd hP h
 have vB:∀nm,Ct (Bs nm ms).2.1/\(Bs nm ms).2.1.length<=4*t.size:=by
  intro nm;unfold Bs Hq;cases hq:ms.find? (fun m=>m.1==nm) with
  |none=>exact⟨(fun x hx=>nomatch hx),Nat.zero_le _⟩
  |some m=>
   have h:=(hok m (List.mem_of_find?_eq_some hq)).2;have h2:=h.2;rw[Ik] at h2;exact⟨h.1,h2⟩
 rw[gT] at f1;rw[gC] at f2;rw[gO] at f3;rw[gP.1,gP.2] at f5;obtain⟨tB,tL⟩:=vB K4;obtain⟨cB,cL⟩:=vB M2;obtain⟨oB,oL⟩:=vB Yi;obtain⟨pB,pL⟩:=vB Sk;generalize (Bs K4 ms).2.1=T at f1 tB tL ⊢;unfold Uk;generalize (Bs M2 ms).2.1=C at f2 cB cL ⊢;generalize (Bs Yi ms).2.1=O at f3 oB oL ⊢;generalize (Bs Sk ms).2.1=P at f5 pB pL ⊢;generalize (Bs AZ ms).2.2=X at f5 ⊢;have ty1:Ae C1 prog fu (d+22) 32 [B9 1]=some ⟨[.sc (.string (Aa tyC))],[]⟩:=Aai (fu:=fu) (d:=d+21) (p:=some Dq) 1;have ty2:Ae C1 prog fu (d+22) 32 [B9 2]=some ⟨[.sc (.string (Aa tyG))],[]⟩:=Aai (fu:=fu) (d:=d+21) (p:=some Dq) 2;have db:Ae C1 prog fu (d+22) 33 [.sc (.string (Aa C))]=_:=Ang (fu:=fu) (d:=d+20) (p:=some Dq) cB (by omega) (by omega) (by omega)
 obtain⟨r1,r2,r3,og⟩:=Agj (fu:=fu) (d:=d+17) (p:=some Dq) oB (by omega) (by omega) (by omega);have og:Ae C1 prog fu (d+22) 34 [.sc (.string (Aa O))]=_:=og;obtain⟨r4,r5,r6,og2⟩:=Agj (fu:=fu) (d:=d+17) (p:=some Dq) pB (by omega) (by omega) (by omega);have og2:Ae C1 prog fu (d+22) 34 [.sc (.string (Aa P))]=_:=og2;have tCB:Ct tyC:=fun x hx=>by simp[tyC] at hx;omega
 have tGB:Ct tyG:=fun x hx=>by simp[tyG] at hx;omega
 have q1:=U6 tB tCB;have q2:=U6 tB tGB;by_cases h1:T=tyC
 ·rw[dT h1] at q1;rw[Bq h1];cases hd:Ji C with
  |none=>
   rw[hd] at db;have zz:((2:Int) != 0)=true:=rfl;simp only[A2,A1,a1,vd,E1,m2,z0,o3,o4,sh,Xc,Ws,Wt,M4,f1,f2,f3,f5,ty1,q1,db,zz];rfl
  |some b=>
   rw[hd] at db;simp only;have k1:decide (b.length*1<=(Bk .u8 b).length)=true:=by rw[C3];simp
   have k2:List.take (b.length*1) (Bk .u8 b)=Bk .u8 b:=FF (by rw[C3];omega)
   by_cases Fy:b.length<1
   ·have b1:=dT (q:=((b.length:Nat):Int)<1) (by omega);rw[Bq (.inl Fy)];simp only[A2,A1,a1,vd,E1,m2,z0,o3,o4,sh,Xc,Ws,Wt,M4,f1,f2,f3,f5,ty1,q1,db,b1];rfl
   have b1:=dF (q:=((b.length:Nat):Int)<1) (by omega);by_cases It:64<b.length
   ·have b2:=dT (q:=((b.length:Nat):Int)>64) (by omega);rw[Bq (.inr It)];simp only[A2,A1,a1,vd,E1,m2,z0,o3,o4,sh,Xc,Ws,Wt,M4,f1,f2,f3,f5,ty1,q1,db,b1,b2];rfl
   have b2:=dF (q:=((b.length:Nat):Int)>64) (by omega);rw[Bg (fun h=>h.elim Fy It)];by_cases ho:Fc O=0
   rotate_left
   ·have zo:=nn0 _ ho;rw[Bq ho];simp only[A2,A1,a1,vd,E1,m2,z0,o3,o4,sh,Xc,Ws,Wt,M4,f1,f2,f3,f5,ty1,q1,db,b1,b2,og,zo];rfl
   rw[ho] at og;rw[Bg (by simp[ho])];cases X with
   |false=>
    rw[Bg (by simp)];simp only[A2,A1,a1,vd,E1,m2,z0,o3,o4,sh,Xc,Ws,Wt,M4,f1,f2,f3,f5,ty1,q1,db,b1,b2,og,og2,k1,k2];rfl
   |true=>
    by_cases hp:Fc P=0
    ·rw[hp] at og2;rw[Bg (by simp[hp])];simp only[A2,A1,a1,vd,E1,m2,z0,o3,o4,sh,Xc,Ws,Wt,M4,f1,f2,f3,f5,ty1,q1,db,b1,b2,og,og2,k1,k2];rfl
    ·have zp:=nn0 _ hp;rw[Bq ⟨rfl,hp⟩];simp only[A2,A1,a1,vd,E1,m2,z0,o3,o4,sh,Xc,Ws,Wt,M4,f1,f2,f3,f5,ty1,q1,db,b1,b2,og,og2,zp];rfl
 ·rw[dF h1] at q1;rw[Bg h1];by_cases h2:T=tyG
  rotate_left
  ·rw[dF h2] at q2;rw[Bg h2];simp only[A2,A1,a1,vd,E1,m2,z0,o3,o4,sh,Xc,Ws,Wt,M4,f1,f2,f3,f5,ty1,q1,ty2,q2,F9];rfl
  rw[dT h2] at q2;rw[Bq h2];cases hd:Ji C with
  |none=>
   rw[hd] at db;have zz:((2:Int) != 0)=true:=rfl;simp only[A2,A1,a1,vd,E1,m2,z0,o3,o4,sh,Xc,Ws,Wt,M4,f1,f2,f3,f5,ty1,q1,ty2,q2,F9,db,zz];rfl
  |some b=>
   rw[hd] at db;simp only;have k1:decide (b.length*1<=(Bk .u8 b).length)=true:=by rw[C3];simp
   have k2:List.take (b.length*1) (Bk .u8 b)=Bk .u8 b:=FF (by rw[C3];omega)
   by_cases Fy:b.length<1
   ·have b1:=dT (q:=((b.length:Nat):Int)<1) (by omega);rw[Bq (.inl Fy)];simp only[A2,A1,a1,vd,E1,m2,z0,o3,o4,sh,Xc,Ws,Wt,M4,f1,f2,f3,f5,ty1,q1,ty2,q2,F9,db,b1];rfl
   have b1:=dF (q:=((b.length:Nat):Int)<1) (by omega);by_cases It:64<b.length
   ·have b2:=dT (q:=((b.length:Nat):Int)>64) (by omega);rw[Bq (.inr It)];simp only[A2,A1,a1,vd,E1,m2,z0,o3,o4,sh,Xc,Ws,Wt,M4,f1,f2,f3,f5,ty1,q1,ty2,q2,F9,db,b1,b2];rfl
   have b2:=dF (q:=((b.length:Nat):Int)>64) (by omega);rw[Bg (fun h=>h.elim Fy It)];by_cases ho:Fc O=0
   rotate_left
   ·have zo:=nn0 _ ho;rw[Bq ho];simp only[A2,A1,a1,vd,E1,m2,z0,o3,o4,sh,Xc,Ws,Wt,M4,f1,f2,f3,f5,ty1,q1,ty2,q2,F9,db,b1,b2,og,zo];rfl
   rw[ho] at og;rw[Bg (by simp[ho])];cases X with
   |false=>
    rw[Bg (by simp)];simp only[A2,A1,a1,vd,E1,m2,z0,o3,o4,sh,Xc,Ws,Wt,M4,f1,f2,f3,f5,ty1,q1,ty2,q2,F9,db,b1,b2,og,og2,k1,k2];rfl
   |true=>
    by_cases hp:Fc P=0
    ·rw[hp] at og2;rw[Bg (by simp[hp])];simp only[A2,A1,a1,vd,E1,m2,z0,o3,o4,sh,Xc,Ws,Wt,M4,f1,f2,f3,f5,ty1,q1,ty2,q2,F9,db,b1,b2,og,og2,k1,k2];rfl
    ·have zp:=nn0 _ hp;rw[Bq ⟨rfl,hp⟩];simp only[A2,A1,a1,vd,E1,m2,z0,o3,o4,sh,Xc,Ws,Wt,M4,f1,f2,f3,f5,ty1,q1,ty2,q2,F9,db,b1,b2,og,og2,zp];rfl
end
section
variable {fu d:Nat}
theorem Ag1:Ae C1 prog fu (d+1) 13 [.agg [B9 0,.lst false 1 0 [],.sc (.string ⟨#[]⟩),.sc (.bool false),.sc (.string ⟨#[]⟩)],.agg [B9 0,.lst false 1 0 [],.sc (.string ⟨#[]⟩),.sc (.bool false),.sc (.string ⟨#[]⟩)]]=some ⟨[.sc (.bool true)],[]⟩:=by have h:=Afs (fu:=fu) (d:=d) (k:=0) (b:=[]) (o:=[]) (q:=[]) (x:=false);exact h
set_option maxHeartbeats 2000000 in
theorem Aft{t:ByteArray}(Ce:1000400<=fu)(ht:t.size<=9223372036854775807):Ae C1 prog fu (d+24) 10 [.sc (.string t)]=some ⟨[.sc (.bool true)],[]⟩:=by
 refine (Tt (p:=some Dq) fu (d+23) t).trans ?_;have pd:=Ak5 (fu:=fu) (d:=d) (t:=t) Ce;have e:Ae C1 prog fu (d+23) 12 [.sc (.string t)]=Dq [.sc (.string t)]:=rfl;unfold Dq at e;simp only[dT ht,cond_true] at e;cases hp:Jq t with
 |error c=>
  rw[hp] at e pd;have pd:Ae C1 prog fu (d+23) 22 [.sc (.string t)]=some ⟨[.agg [B9 0,.own 1 0 [],.sc (.string ⟨#[]⟩),.sc (.bool false),.sc (.string ⟨#[]⟩)],B9 c],[]⟩:=pd;have e:Ae C1 prog fu (d+23) 12 [.sc (.string t)]=some ⟨[.agg [B9 0,.lst false 1 0 [],.sc (.string ⟨#[]⟩),.sc (.bool false),.sc (.string ⟨#[]⟩)],B9 c],[]⟩:=e;have sm:Ae C1 prog fu (d+23) 13 [.agg [B9 0,.lst false 1 0 [],.sc (.string ⟨#[]⟩),.sc (.bool false),.sc (.string ⟨#[]⟩)],.agg [B9 0,.lst false 1 0 [],.sc (.string ⟨#[]⟩),.sc (.bool false),.sc (.string ⟨#[]⟩)]]=_:=Ag1 (fu:=fu) (d:=d+22);have c1:decide (0+0*1<=List.length ([]:Al))=true:=rfl;have c2:List.take (0*1) (List.drop 0 ([]:Al))=[]:=rfl;have z:(c==c)=true:=by simp
  simp only[A2,A1,e,pd,c1,c2,sm,z]
 |ok r=>
  obtain⟨k,b,o,x,q⟩:=r;rw[hp] at e pd;have pd:Ae C1 prog fu (d+23) 22 [.sc (.string t)]=some ⟨[.agg [B9 k,.own 1 b.length (Bk .u8 b),.sc (.string (Aa o)),.sc (.bool x),.sc (.string (Aa q))],B9 0],[]⟩:=pd;have e:Ae C1 prog fu (d+23) 12 [.sc (.string t)]=some ⟨[.agg [B9 k,.lst false 1 b.length (Bk .u8 b),.sc (.string (Aa o)),.sc (.bool x),.sc (.string (Aa q))],B9 0],[]⟩:=e;have sm:Ae C1 prog fu (d+23) 13 [.agg [B9 k,.lst false 1 b.length (Bk .u8 b),.sc (.string (Aa o)),.sc (.bool x),.sc (.string (Aa q))],.agg [B9 k,.lst false 1 b.length (Bk .u8 b),.sc (.string (Aa o)),.sc (.bool x),.sc (.string (Aa q))]]=_:=Afs (fu:=fu) (d:=d+22);have c1:decide (0+b.length*1<=List.length (Bk .u8 b))=true:=by rw[C3];simp
  have c2:List.take (b.length*1) (List.drop 0 (Bk .u8 b))=Bk .u8 b:=by rw[SL];exact FF (by rw[C3];omega)
  have z:((0:Int)==0)=true:=rfl;simp only[A2,A1,e,pd,c1,c2,sm,z]
end
section
variable {fu d:Nat}{p:Option (Al->Option Bz)}
set_option maxHeartbeats 2000000 in
theorem Km{l s:Am}(hl:l.length<=maxLen)(hB:Ct s)(DV:s.length<=100000){Qs:Nat}{a0:Al}{NH:Int}{aB:ByteArray}:∀(r:Am)(i nn a:Nat)(out:ByteArray),s.drop i=r->r.length+1<=nn->out.size+6*r.length<=1000000 ->
  ∃(q:ByteArray) (a':Nat),q.size<=out.size+6*r.length+1/\B0 fu (Ae (CP p) prog fu (d+2)) Qs a0 NH aB nn (Aa s) out (i:Int) l.length (Bk .i64 l) (a:Int)=some ⟨[.sc (.string q)],[L9 l a']⟩
 |[],i,nn,a,out,hd,hn,ho=>by
  obtain⟨k,rfl⟩:∃k,nn=k+1:=⟨nn-1,by omega⟩
  have hi:=drop_nil hd;have a1:decide ((i:Int)<(s.length:Int))=false:=dF (by omega);have a2:decide (out.size+1<=9223372036854775807)=true:=dT (by omega);refine⟨out++ByteArray.mk #[(34:UInt8)],a,by rw[ByteArray.size_append];show out.size+1<=_;omega,?_⟩
  rw[Ei];simp only[A2,A1,Ag,a1,a2]
 |c::r,i,nn,a,out,hd,hn,ho=>by
  obtain⟨k,rfl⟩:∃k,nn=k+1:=⟨nn-1,by omega⟩
  obtain⟨hi,hc,Lz⟩:=E0 hd;have RN:=hB c (List.mem_of_getElem? hc);have OY:out.size+6*(r.length+1)<=1000000:=by simpa using ho
  have hn':r.length+1<=k:=by simp at hn;omega
  have a1:decide ((i:Int)<(s.length:Int))=true:=dT (by omega);have a2:decide ((0:Int)<=(i:Int))=true:=by simp
  have a3:(Array.toList (Aa s).data)[Int.toNat (i:Int)]?=some c.toNat.toUInt8:=by
   rw[Kc];show (s.map fun n=>n.toNat.toUInt8)[i]?=_;rw[List.getElem?_map,hc];rfl
  have a4:=Je (c:=c) (by omega);have a5:wrap .i64 ((i:Int)+1)=((i+1:Nat):Int):=by rw[Ar (by omega) (by omega)];omega
  have hbc:ByteArray.mk (List.toArray [Nat.toUInt8 (Int.toNat c)])=Aa [c]:=rfl;have l92:ByteArray.mk #[(92:UInt8)]=Aa [92]:=rfl;have a6:decide (out.size+1<=9223372036854775807)=true:=dT (by omega);have a7:decide (out.size+[c].length<=9223372036854775807)=true:=dT (by simp;omega)
  have a8:decide ((out++Aa [92]).size+[c].length<=9223372036854775807)=true:=dT (by rw[ByteArray.size_append,Ag];simp;omega)
  obtain⟨v,b,p1,q1,n1⟩:=Hb hl a 9 (by omega) (by omega);have n1:Ae (CP p) prog fu (d+2) 6 [.pbox (L9 l a),B9 9]=_:=n1 (fu:=fu) (d:=d) (p:=p)
  have wrap_up:∀{out2:ByteArray} {b2:Nat},out2.size<=out.size+6->(∃(q:ByteArray) (a':Nat),q.size<=out2.size+6*r.length+1/\B0 fu (Ae (CP p) prog fu (d+2)) Qs a0 NH aB k (Aa s) out2 ((i+1:Nat):Int) l.length (Bk .i64 l) (b2:Int)=some ⟨[.sc (.string q)],[L9 l a']⟩) ->
    B0 fu (Ae (CP p) prog fu (d+2)) Qs a0 NH aB (k+1) (Aa s) out (i:Int) l.length (Bk .i64 l) (a:Int)=B0 fu (Ae (CP p) prog fu (d+2)) Qs a0 NH aB k (Aa s) out2 ((i+1:Nat):Int) l.length (Bk .i64 l) (b2:Int)->∃(q:ByteArray) (a':Nat),q.size<=out.size+6*(c::r).length+1/\B0 fu (Ae (CP p) prog fu (d+2)) Qs a0 NH aB (k+1) (Aa s) out (i:Int) l.length (Bk .i64 l) (a:Int)=some ⟨[.sc (.string q)],[L9 l a']⟩:=by
   intro out2 b2 h1 h2 h3;obtain⟨q,a',g1,g2⟩:=h2;refine⟨q,a',by rw[Ub];omega,h3.trans g2⟩
  by_cases h8:v=8
  ·have z:(v==8)=true:=by simp[h8]
   obtain⟨n4,n15⟩:=nib (c:=c) (by omega);obtain⟨x1,_⟩:=Arn (n:=c / 16) (by omega) (by omega);obtain⟨y1,_⟩:=Aqp (n:=c % 16) (by omega) (by omega);have w1:wrap .u8 (c / 16+1)=c / 16+1:=Iy (by omega) (by omega);have w2:wrap .u8 (c % 16+1)=c % 16+1:=Iy (by omega) (by omega);have b1:=dT (q:=(0:Int)<=c / 16) (by omega);have b2:=dT (q:=(0:Int)<=c / 16+1) (by omega);have b3:=dT (q:=Int.toNat (c / 16)<=Int.toNat (c / 16+1)) (by omega);have b4:=dT (q:=Int.toNat (c / 16+1)<=16) (by omega);have c1:=dT (q:=(0:Int)<=c % 16) (by omega);have c2:=dT (q:=(0:Int)<=c % 16+1) (by omega);have c3:=dT (q:=Int.toNat (c % 16)<=Int.toNat (c % 16+1)) (by omega);have c4:=dT (q:=Int.toNat (c % 16+1)<=16) (by omega);have lu:ByteArray.mk #[(92:UInt8),(117:UInt8),(48:UInt8),(48:UInt8)]=Aa [92,117,48,48]:=rfl;have d1:decide (4+[MW (c / 16)].length<=9223372036854775807)=true:=rfl
   have d2:decide (([92,117,48,48]++[MW (c / 16)]).length+[hxu (c % 16)].length<=9223372036854775807)=true:=rfl;have d3:decide (out.size+([92,117,48,48]++[MW (c / 16)]++[hxu (c % 16)]).length<=9223372036854775807)=true:=dT (by simp;omega)
   have hz:(out++Aa ([92,117,48,48]++[MW (c / 16)]++[hxu (c % 16)])).size=out.size+6:=by rw[ByteArray.size_append,Ag];rfl
   refine wrap_up (by omega) (Km hl hB DV (Qs:=Qs) (a0:=a0) (NH:=NH) (aB:=aB) r (i+1) k b (out++Aa ([92,117,48,48]++[MW (c / 16)]++[hxu (c % 16)])) Lz hn' (by rw[hz];omega)) ?_
   rw[Ei];simp only[A2,A1,Ag,a1,a2,a3,a4,n1,z,n4,n15,w1,w2,b1,b2,b3,b4,c1,c2,c3,c4,x1,y1,lu,Ie,d1,d2,d3,a5]
  have z:(v==8)=false:=by simp[h8]
  have PJ:(out++Aa [c]).size=out.size+1:=by rw[ByteArray.size_append,Ag];rfl
  by_cases h47:c=47
  ·have z2:(c==47)=true:=by simp[h47]
   obtain⟨v2,b2,p2,q2,n2⟩:=Hb hl b 3 (by omega) (by omega);have n2:Ae (CP p) prog fu (d+2) 6 [.pbox (L9 l b),B9 3]=_:=n2 (fu:=fu) (d:=d) (p:=p);by_cases hv2:v2=2
   ·have z3:(v2==2)=true:=by simp[hv2]
    have Ue:(out++Aa [92]++Aa [c]).size=out.size+2:=by rw[ByteArray.size_append,ByteArray.size_append,Ag,Ag];rfl
    refine wrap_up (by omega) (Km hl hB DV (Qs:=Qs) (a0:=a0) (NH:=NH) (aB:=aB) r (i+1) k b2 (out++Aa [92]++Aa [c]) Lz hn' (by rw[Ue];omega)) ?_
    rw[Ei];simp only[A2,A1,a1,a2,a3,a4,n1,z,z2,n2,z3,l92,hbc,a6,Ag,a8,a5]
   ·have z3:(v2==2)=false:=by simp[hv2]
    refine wrap_up (by omega) (Km hl hB DV (Qs:=Qs) (a0:=a0) (NH:=NH) (aB:=aB) r (i+1) k b2 (out++Aa [c]) Lz hn' (by rw[PJ];omega)) ?_
    rw[Ei];simp only[A2,A1,Ag,a1,a2,a3,a4,n1,z,z2,n2,z3,hbc,a7,a5]
  ·have z2:(c==47)=false:=by simp[h47]
   refine wrap_up (by omega) (Km hl hB DV (Qs:=Qs) (a0:=a0) (NH:=NH) (aB:=aB) r (i+1) k b (out++Aa [c]) Lz hn' (by rw[PJ];omega)) ?_
   rw[Ei];simp only[A2,A1,Ag,a1,a2,a3,a4,n1,z,z2,hbc,a7,a5]
theorem Vw{l:Am}(hl:l.length<=maxLen)(s:ByteArray)(DV:s.size<=100000)(Ce:s.size+1<=fu)(a:Nat):∃(q:ByteArray)(a':Nat),q.size<=6*s.size+2/\Ae (CP p) prog fu (d+3) 16 [.pbox (L9 l a),.sc (.string s)]=some ⟨[.sc (.string q)],[L9 l a']⟩:=by
 have e:=Kv s;have Do:=Ik s;obtain⟨q,a',h1,h2⟩:=Km (fu:=fu) (d:=d) (p:=p) hl (QH s) (by omega) (Qs:=l.length) (a0:=Bk .i64 l) (NH:=(a:Int)) (aB:=s) (Eu s) 0 fu a (ByteArray.mk #[(34:UInt8)]) rfl (by omega) (by show 1+_<=_;omega)
 rw[e] at h2;refine⟨q,a',?_,(T7 (p:=p) fu (d+2) l.length (Bk .i64 l) (a:Int) s).trans h2⟩;have:(ByteArray.mk #[(34:UInt8)]).size=1:=rfl;omega
end
def sC(xs:List ByteArray):Al:=xs.map fun x=>.sc (.string x)
theorem Ai7{xs:List ByteArray}{i:Nat}(h:i<xs.length):List.getD (sC xs) i .top=.sc (.string xs[i]):=by unfold sC;rw[List.getD_eq_getElem?_getD,List.getElem?_map,List.getElem?_eq_getElem h];rfl
theorem Ahn(xs:List ByteArray):(sC xs).length=xs.length:=by unfold sC;rw[List.length_map]
theorem Aq6{xs:List ByteArray}{i:Nat}{x:ByteArray}(h:i<xs.length):Cw (sC xs) [.sc (.string x)] i=sC (xs.set i x):=by
 unfold Cw sC;rw[List.map_set,List.set_eq_take_append_cons_drop,Bq (by rw[List.length_map];exact h),List.length_singleton,Zzv]
 rfl
def Amp(l:Am)(B:Nat)(r:Option Bz):Prop:=∃(W:ByteArray)(a':Nat),W.size<=B/\r=some ⟨[.sc (.string W)],[L9 l a']⟩
section
variable {fu d:Nat}{p:Option (Al->Option Bz)}
set_option maxHeartbeats 2000000 in
theorem A10{l:Am}(hl:l.length<=maxLen){Qs ZP:Nat}{a0 a1:Al}{NH a10:Int}{b2 b4:ByteArray}{b3:Bool}:
  ∀(n:Nat) (xs:List ByteArray) (out:ByteArray) (a nn:Nat),n<=xs.length->xs.length<=1000->n+1<=nn->(∀x∈xs,x.size<=8000)->out.size+n*8010<=500000 ->
   Amp l 600000 (Em fu (Ae (CP p) prog fu (d+3)) Qs a0 NH a10 ZP a1 b2 b3 b4 nn xs.length out (n:Int) l.length (Bk .i64 l) (a:Int) (sC xs)):=by
 intro n
 induction n with
 |zero=>
  intro xs out a nn hn MW Jo hM Oa;obtain⟨q,rfl⟩:∃q,nn=q+1:=⟨nn-1,by omega⟩
  obtain⟨w2,b4',hw2,A0l,s3⟩:=spD (fu:=fu) (d:=d) (p:=p) hl a;have k6:decide (((0:Nat):Int)>0)=false:=rfl;have c4:decide (out.size+1<=9223372036854775807)=true:=dT (by omega);have e1:(ByteArray.mk #[(125:UInt8)]).size=1:=rfl;have c5:decide ((out++ByteArray.mk #[(125:UInt8)]).size+(Aa w2).size<=9223372036854775807)=true:=dT (by rw[ByteArray.size_append,Ag,e1];omega)
  refine⟨out++ByteArray.mk #[(125:UInt8)]++Aa w2,b4',by rw[ByteArray.size_append,ByteArray.size_append,Ag,e1];omega,?_⟩
  rw[I8];simp only[A2,A1,k6,c4,s3,c5]
 |succ n ih=>
  intro xs out a nn hn MW Jo hM Oa;obtain⟨q,rfl⟩:∃q,nn=q+1:=⟨nn-1,by omega⟩
  obtain⟨v,b1,p1,q1,n1⟩:=Hb hl a ((n+1:Nat):Int) (by omega) (by omega);have n1:Ae (CP p) prog fu (d+3) 6 [.pbox (L9 l a),B9 ((n+1:Nat):Int)]=_:=n1 (fu:=fu) (d:=d+1) (p:=p);obtain⟨v,rfl⟩:=Int.eq_ofNat_of_zero_le p1;have hvx:v<xs.length:=by omega
  have hnx:n<xs.length:=by omega
  obtain⟨w,b2',hw,QT,s1⟩:=spD (fu:=fu) (d:=d) (p:=p) hl b1;obtain⟨w',b3',hw',A9i,s2⟩:=spD (fu:=fu) (d:=d) (p:=p) hl b2';have hml:=hM xs[v] (List.getElem_mem hvx);have g0:=Ai7 hvx;have g1:=Ai7 hnx;have st:=Aq6 (x:=xs[n]) hvx;have wl:=Ahn xs;have k1:decide (((n+1:Nat):Int)>0)=true:=dT (by omega);have k3:wrap .i64 (((n+1:Nat):Int)-1)=(n:Int):=by rw[Ar (by omega) (by omega)];omega
  have k4:decide ((0:Int)<=((v:Nat):Int))=true:=dT (by omega);have k5:decide (((v:Nat):Int)<((xs.length:Nat):Int))=true:=dT (by omega);have k6:decide ((0:Int)<=(n:Int))=true:=dT (by omega);have k7:decide ((n:Int)<((xs.length:Nat):Int))=true:=dT (by omega);have k8:(0+Int.toNat ((v:Nat):Int)*1)=v:=by omega
  have k9:(0+Int.toNat (n:Int)*1)=n:=by omega
  have kA:decide (v+1<=xs.length)=true:=dT (by omega);have z1:(Aa w++xs[v]).size=w.length+xs[v].size:=by rw[ByteArray.size_append,Ag]
  have z2:(Aa w++xs[v]++Aa w').size=w.length+xs[v].size+w'.length:=by rw[ByteArray.size_append,z1,Ag]
  have z3:(out++(Aa w++xs[v]++Aa w')).size=out.size+(w.length+xs[v].size+w'.length):=by rw[ByteArray.size_append,z2]
  have c1:decide ((Aa w).size+xs[v].size<=9223372036854775807)=true:=dT (by rw[Ag];omega)
  have c2:decide ((Aa w++xs[v]).size+(Aa w').size<=9223372036854775807)=true:=dT (by rw[z1,Ag];omega)
  have c3:decide (out.size+(Aa w++xs[v]++Aa w').size<=9223372036854775807)=true:=dT (by rw[z2];omega)
  have c4:decide ((out++(Aa w++xs[v]++Aa w')).size+1<=9223372036854775807)=true:=dT (by rw[z3];omega)
  have hM2:∀x∈xs.set v xs[n],x.size<=8000:=by
   intro x hx;rcases List.mem_or_eq_of_mem_set hx with hx|rfl
   ·exact hM x hx
   ·exact hM _ (List.getElem_mem hnx)
  have e1:(ByteArray.mk #[(44:UInt8)]).size=1:=rfl;rw[I8];by_cases h1:n=0
  ·have k2:decide (((n+1:Nat):Int)>1)=false:=dF (by omega);have ih:=ih (xs.set v xs[n]) (out++(Aa w++xs[v]++Aa w')) b3' q (by rw[List.length_set];omega) (by rw[List.length_set];omega) (by omega) hM2 (by rw[z3];omega)
   rw[List.length_set] at ih;simp only[A2,A1,k1,n1,s1,k4,k5,k6,k7,k8,k9,kA,g0,g1,c1,s2,c2,c3,k3,wl,st,k2];exact ih
  ·have k2:decide (((n+1:Nat):Int)>1)=true:=dT (by omega);have ih:=ih (xs.set v xs[n]) (out++(Aa w++xs[v]++Aa w')++ByteArray.mk #[(44:UInt8)]) b3' q (by rw[List.length_set];omega) (by rw[List.length_set];omega) (by omega) hM2 (by rw[ByteArray.size_append,z3,e1];omega)
   rw[List.length_set] at ih;simp only[A2,A1,k1,n1,s1,k4,k5,k6,k7,k8,k9,kA,g0,g1,c1,s2,c2,c3,k3,wl,st,k2,c4];exact ih
set_option maxHeartbeats 2000000 in
theorem A3g{l:Am}(hl:l.length<=maxLen)(Ce:2000<=fu){Qs ZP:Nat}{a0 a1:Al}{NH a10:Int}{b2 b4:ByteArray}{b3:Bool}:
  ∀(j:Nat) (xs:List ByteArray) (a nn:Nat),j<=2->xs.length+j<=20->j+1<=nn->(∀x∈xs,x.size<=8000) ->
   Amp l 600000 (B5 fu (Ae (CP p) prog fu (d+9)) Qs a0 NH a10 ZP a1 b2 b3 b4 nn xs.length (j:Int) l.length (Bk .i64 l) (a:Int) (sC xs)):=by
 intro j
 induction j with
 |zero=>
  intro xs a nn hj MW Jo hM;obtain⟨q,rfl⟩:∃q,nn=q+1:=⟨nn-1,by omega⟩
  obtain⟨w,b1,hw,QT,s1⟩:=spD (fu:=fu) (d:=d+6) (p:=p) hl a;have s1:Ae (CP p) prog fu (d+9) 15 [.pbox (L9 l a)]=_:=s1;have e1:(ByteArray.mk #[(123:UInt8)]).size=1:=rfl;have e:=A10 (fu:=fu) (d:=d+6) (p:=p) hl (Qs:=Qs) (ZP:=ZP) (a0:=a0) (a1:=a1) (NH:=NH) (a10:=a10) (b2:=b2) (b4:=b4) (b3:=b3) xs.length xs (Aa w++ByteArray.mk #[(123:UInt8)]) b1 fu (Cc _) (by omega) (by omega) hM (by rw[ByteArray.size_append,Ag,e1];omega)
  have k1:decide (((0:Nat):Int)>0)=false:=rfl;have c1:decide ((Aa w).size+1<=9223372036854775807)=true:=dT (by rw[Ag];omega)
  rw[I7];simp only[A2,A1,k1,s1,c1];exact e
 |succ j ih=>
  intro xs a nn hj MW Jo hM;obtain⟨q,rfl⟩:∃q,nn=q+1:=⟨nn-1,by omega⟩
  obtain⟨qt,b1,hq,s1⟩:=Vw (fu:=fu) (d:=d+6) (p:=p) hl (Aa [120,48+((j+1:Nat):Int)]) (by rw[Ag];simp) (by rw[Ag];simp;omega) a
  have s1:Ae (CP p) prog fu (d+9) 16 [.pbox (L9 l a),.sc (.string (Aa [120,48+((j+1:Nat):Int)]))]=_:=s1;rw[Ag] at hq;have hq:qt.size<=14:=hq;obtain⟨v,b2',p1,q1,n1⟩:=Hb hl b1 64 (by omega) (by omega);have n1:Ae (CP p) prog fu (d+9) 6 [.pbox (L9 l b1),B9 64]=_:=n1 (fu:=fu) (d:=d+7) (p:=p);obtain⟨u,b3',p2,q2,n2⟩:=Hb hl b2' 8 (by omega) (by omega);have n2:Ae (CP p) prog fu (d+9) 6 [.pbox (L9 l b2'),B9 8]=_:=n2 (fu:=fu) (d:=d+7) (p:=p);obtain⟨u,rfl⟩:=Int.eq_ofNat_of_zero_le p2;obtain⟨vt,vv,hvt,hvl,s2⟩:=Afi (fu:=fu) (d:=d+(7-u)) (p:=p) u v (by omega);rw[show d+(7-u)+u+2=d+9 by omega] at s2;have w1:wrap .i64 (48+((j+1:Nat):Int))=48+((j+1:Nat):Int):=Ar (by omega) (by omega);have w2:wrap .u8 (48+((j+1:Nat):Int))=48+((j+1:Nat):Int):=Iy (by omega) (by omega)
  have w3:wrap .i64 (((j+1:Nat):Int)-1)=(j:Int):=by rw[Ar (by omega) (by omega)];omega
  have k1:decide (((j+1:Nat):Int)>0)=true:=dT (by omega);have l1:ByteArray.mk #[(120:UInt8)]=Aa [120]:=rfl;have l2:ByteArray.mk (List.toArray [Nat.toUInt8 (Int.toNat (48+((j+1:Nat):Int)))])=Aa [48+((j+1:Nat):Int)]:=rfl;have l3:([120]:Am)++[48+((j+1:Nat):Int)]=[120,48+((j+1:Nat):Int)]:=rfl;have e1:(ByteArray.mk #[(58:UInt8)]).size=1:=rfl;have c1:decide (qt.size+1<=9223372036854775807)=true:=dT (by omega);have c2:decide ((qt++ByteArray.mk #[(58:UInt8)]).size+(Aa vt).size<=9223372036854775807)=true:=dT (by rw[ByteArray.size_append,e1,Ag];omega)
  have wl:=Ahn xs;have c3:decide (xs.length*1<=xs.length)=true:=dT (by omega);have c4:decide ((xs.length+1)*16<=1099511627776)=true:=dT (by omega);have c5:decide (xs.length+1<=1099511627776)=true:=dT (by omega);have c6:List.take (xs.length*1) (sC xs)=sC xs:=FF (by rw[wl];omega)
  have c7:sC xs++[.sc (.string (qt++ByteArray.mk #[(58:UInt8)]++Aa vt))]=sC (xs++[qt++ByteArray.mk #[(58:UInt8)]++Aa vt]):=by
   unfold sC;rw[List.map_append];rfl
  have h3:=ih (xs++[qt++ByteArray.mk #[(58:UInt8)]++Aa vt]) b3' q (by omega) (by rw[LG,List.length_singleton];omega) (by omega) (fun x hx=>by
    rcases Bu.1 hx with hx|hx
    ·exact hM x hx
    ·rw[P7] at hx;subst hx;rw[ByteArray.size_append,ByteArray.size_append,e1,Ag];omega)
  rw[LG,List.length_singleton] at h3;rw[I7];simp only[A2,A1,k1,w1,w2,l1,l2,Ie,l3,s1,c1,n1,n2,s2,c2,wl,c3,c4,c5,c6,c7,w3];exact h3
end
abbrev Aux:ByteArray:=ByteArray.mk #[(34:UInt8),(99:UInt8),(114:UInt8),(111:UInt8),(115:UInt8),(115:UInt8),(79:UInt8),(114:UInt8),(105:UInt8),(103:UInt8),(105:UInt8),(110:UInt8),(34:UInt8),(58:UInt8),(102:UInt8),(97:UInt8),(108:UInt8),(115:UInt8),(101:UInt8)]
abbrev Awq:ByteArray:=ByteArray.mk #[(34:UInt8),(99:UInt8),(114:UInt8),(111:UInt8),(115:UInt8),(115:UInt8),(79:UInt8),(114:UInt8),(105:UInt8),(103:UInt8),(105:UInt8),(110:UInt8),(34:UInt8),(58:UInt8),(116:UInt8),(114:UInt8),(117:UInt8),(101:UInt8)]
abbrev byP:ByteArray:=ByteArray.mk #[(34:UInt8),(116:UInt8),(111:UInt8),(112:UInt8),(79:UInt8),(114:UInt8),(105:UInt8),(103:UInt8),(105:UInt8),(110:UInt8),(34:UInt8),(58:UInt8)]
abbrev byO:ByteArray:=ByteArray.mk #[(34:UInt8),(111:UInt8),(114:UInt8),(105:UInt8),(103:UInt8),(105:UInt8),(110:UInt8),(34:UInt8),(58:UInt8)]
abbrev byT:ByteArray:=ByteArray.mk #[(34:UInt8),(116:UInt8),(121:UInt8),(112:UInt8),(101:UInt8),(34:UInt8)]
section
variable {fu d:Nat}{p:Option (Al->Option Bz)}
set_option maxHeartbeats 8000000 in
theorem Ai8{l:Am}(hl:l.length<=maxLen)(a:Nat){k:Int}{ch:Am}{o t:ByteArray}{x:Bool}(Ce:2000<=fu)(WA:Ct ch)(Mz:ch.length<=100)(hol:o.size<=100)(htl:t.size<=100):
  Amp l 600000 (Ae (CP p) prog fu (d+10) 8 [.pbox (L9 l a),.agg [B9 k,.lst false 1 ch.length (Bk .u8 ch),.sc (.string o),.sc (.bool x),.sc (.string t)]]):=by
 have e:=Sz (p:=p) fu (d+9) l.length (Bk .i64 l) (a:Int) k ch.length (Bk .u8 ch) o x t;have hel:=Abk ch;obtain⟨w1,a1,hw1,A9r,s1⟩:=spD (fu:=fu) (d:=d+6) (p:=p) hl a;have s1:Ae (CP p) prog fu (d+9) 15 [.pbox (L9 l a)]=_:=s1;obtain⟨w2,a2,hw2,A0l,s2⟩:=spD (fu:=fu) (d:=d+6) (p:=p) hl a1;have s2:Ae (CP p) prog fu (d+9) 15 [.pbox (L9 l a1)]=_:=s2;obtain⟨ty,hty,hz⟩:∃ty:ByteArray,ty.size<=14/\ty=(bif k==1 then Aa tyC else Aa tyG):=⟨_,by cases k==1<;>decide,rfl⟩
 obtain⟨q1,a3,V8,qt⟩:=Vw (fu:=fu) (d:=d+6) (p:=p) hl ty (by omega) (by omega) a2;have qt:Ae (CP p) prog fu (d+9) 16 [.pbox (L9 l a2),.sc (.string ty)]=_:=qt;have EV:(Aa M2).size=9:=rfl;obtain⟨q2,a4,K7,qc⟩:=Vw (fu:=fu) (d:=d+6) (p:=p) hl (Aa M2) (by omega) (by omega) a3;have qc:Ae (CP p) prog fu (d+9) 16 [.pbox (L9 l a3),.sc (.string (Aa [99,104,97,108,108,101,110,103,101]))]=_:=qc;have ec:Ae (CP p) prog fu (d+9) 17 [.lst false 1 ch.length (Bk .u8 ch)]=_:=Abj (fu:=fu) (d:=d+8) (p:=p) WA (by omega) (by omega) (by omega);have Tr:(Aa (Eo ch)).size<=200:=by rw[Ag];omega
 obtain⟨q3,a5,hq3,qe⟩:=Vw (fu:=fu) (d:=d+6) (p:=p) hl (Aa (Eo ch)) (by omega) (by omega) a4;have qe:Ae (CP p) prog fu (d+9) 16 [.pbox (L9 l a4),.sc (.string (Aa (Eo ch)))]=_:=qe;obtain⟨w3,a6,hw3,Ba2,s3⟩:=spD (fu:=fu) (d:=d+6) (p:=p) hl a5;have s3:Ae (CP p) prog fu (d+9) 15 [.pbox (L9 l a5)]=_:=s3;obtain⟨q4,a7,hq4,qo⟩:=Vw (fu:=fu) (d:=d+6) (p:=p) hl o (by omega) (by omega) a6;have qo:Ae (CP p) prog fu (d+9) 16 [.pbox (L9 l a6),.sc (.string o)]=_:=qo;have zT:ByteArray.size byT=6:=rfl;have zC:(ByteArray.mk #[(58:UInt8)]).size=1:=rfl;have zO:ByteArray.size byO=9:=rfl;have zP:ByteArray.size byP=12:=rfl;have zX1:ByteArray.size Awq=18:=rfl;have zX0:ByteArray.size Aux=19:=rfl;have u1:=Ag w1;have u2:=Ag w2;have u3:=Ag w3;generalize Aa w1=v1 at s1 u1;generalize Aa w2=v2 at s2 u2
 generalize Aa w3=v3 at s3 u3;have c1:decide (6+v1.size<=9223372036854775807)=true:=dT (by omega);have c2:decide ((byT++v1).size+1<=9223372036854775807)=true:=dT (by simp only[ByteArray.size_append,zT,zC,zO,zP];omega)
 have c3:decide ((byT++v1++ByteArray.mk #[(58:UInt8)]).size+v2.size<=9223372036854775807)=true:=dT (by simp only[ByteArray.size_append,zT,zC,zO,zP];omega)
 have c4:decide ((byT++v1++ByteArray.mk #[(58:UInt8)]++v2).size+q1.size<=9223372036854775807)=true:=dT (by simp only[ByteArray.size_append,zT,zC,zO,zP];omega)
 have c5:decide (q2.size+1<=9223372036854775807)=true:=dT (by omega);have c6:decide ((q2++ByteArray.mk #[(58:UInt8)]).size+q3.size<=9223372036854775807)=true:=dT (by simp only[ByteArray.size_append,zT,zC,zO,zP];omega)
 have c7:decide (9+v3.size<=9223372036854775807)=true:=dT (by omega);have c8:decide ((byO++v3).size+q4.size<=9223372036854775807)=true:=dT (by simp only[ByteArray.size_append,zT,zC,zO,zP];omega)
 have fin:∀(xs:List ByteArray) (v:Int) (b:Nat),0<=v->v<3->xs.length<=5->(∀m∈xs,m.size<=8000)->Amp l 600000 (B5 fu (Ae (CP p) prog fu (d+9)) l.length (Bk .i64 l) (a:Int) k ch.length (Bk .u8 ch) o x t fu xs.length v l.length (Bk .i64 l) (b:Int) (sC xs)):=by
  intro xs v b hv0 hv1 hx5 hM;obtain⟨j,rfl⟩:=Int.eq_ofNat_of_zero_le hv0;exact A3g hl Ce j xs b fu (by omega) (by omega) (by omega) hM
 have m1:(byT++v1++ByteArray.mk #[(58:UInt8)]++v2++q1).size<=8000:=by simp only[ByteArray.size_append,zT,zC,zO,zP];omega
 have m2:(q2++ByteArray.mk #[(58:UInt8)]++q3).size<=8000:=by simp only[ByteArray.size_append,zT,zC,zO,zP];omega
 have m3:(byO++v3++q4).size<=8000:=by simp only[ByteArray.size_append,zT,zC,zO,zP];omega
 have lyC:=Amm;have lyG:=Amt;cases x with
 |true=>
  obtain⟨q5,a8,hq5,qp⟩:=Vw (fu:=fu) (d:=d+6) (p:=p) hl t (by omega) (by omega) a7;have qp:Ae (CP p) prog fu (d+9) 16 [.pbox (L9 l a7),.sc (.string t)]=_:=qp;obtain⟨v,a9,p1,p2,n1⟩:=Hb hl a8 3 (by omega) (by omega);have n1:Ae (CP p) prog fu (d+9) 6 [.pbox (L9 l a8),B9 3]=_:=n1 (fu:=fu) (d:=d+7) (p:=p);have c9:decide (12+q5.size<=9223372036854775807)=true:=dT (by omega);have m5:(byP++q5).size<=8000:=by simp only[ByteArray.size_append,zT,zC,zO,zP];omega
  have f:=fin [byT++v1++ByteArray.mk #[(58:UInt8)]++v2++q1,q2++ByteArray.mk #[(58:UInt8)]++q3,byO++v3++q4,Awq,byP++q5] v a9 p1 p2 (by simp) (by
   intro m hm;simp only[List.mem_cons,List.not_mem_nil,or_false] at hm;rcases hm with rfl|rfl|rfl|rfl|rfl
   ·exact m1
   ·exact m2
   ·exact m3
   ·omega
   ·exact m5)
  obtain⟨W,a',r1,r2⟩:=f;refine⟨W,a',r1,?_⟩;refine Eq.trans ?_ r2;refine e.trans ?_;cases hk:k==1 with
  |true=>
   rw[hk,cond_true] at hz;subst hz;simp only[A2,A1,hk,s1,s2,lyC,qt,Aca,qc,ec,qe,s3,qo,qp,n1,c1,c2,c3,c4,c5,c6,c7,c8,c9];rfl
  |false=>
   rw[hk,cond_false] at hz;subst hz;simp only[A2,A1,hk,s1,s2,lyG,qt,Aca,qc,ec,qe,s3,qo,qp,n1,c1,c2,c3,c4,c5,c6,c7,c8,c9];rfl
 |false=>
  obtain⟨u,a8,p1,p2,n0⟩:=Hb hl a7 2 (by omega) (by omega);have n0:Ae (CP p) prog fu (d+9) 6 [.pbox (L9 l a7),B9 2]=_:=n0 (fu:=fu) (d:=d+7) (p:=p);obtain⟨v,a9,v1',v2',n1⟩:=Hb hl a8 3 (by omega) (by omega);have n1:Ae (CP p) prog fu (d+9) 6 [.pbox (L9 l a8),B9 3]=_:=n1 (fu:=fu) (d:=d+7) (p:=p);cases zu:u==1 with
  |true=>
   have f:=fin [byT++v1++ByteArray.mk #[(58:UInt8)]++v2++q1,q2++ByteArray.mk #[(58:UInt8)]++q3,byO++v3++q4,Aux] v a9 v1' v2' (by simp) (by
    intro m hm;simp only[List.mem_cons,List.not_mem_nil,or_false] at hm;rcases hm with rfl|rfl|rfl|rfl
    ·exact m1
    ·exact m2
    ·exact m3
    ·omega)
   obtain⟨W,a',r1,r2⟩:=f;refine⟨W,a',r1,?_⟩;refine Eq.trans ?_ r2;refine e.trans ?_;cases hk:k==1 with
   |true=>
    rw[hk,cond_true] at hz;subst hz;simp only[A2,A1,hk,s1,s2,lyC,qt,Aca,qc,ec,qe,s3,qo,n0,zu,n1,c1,c2,c3,c4,c5,c6,c7,c8];rfl
   |false=>
    rw[hk,cond_false] at hz;subst hz;simp only[A2,A1,hk,s1,s2,lyG,qt,Aca,qc,ec,qe,s3,qo,n0,zu,n1,c1,c2,c3,c4,c5,c6,c7,c8];rfl
  |false=>
   have f:=fin [byT++v1++ByteArray.mk #[(58:UInt8)]++v2++q1,q2++ByteArray.mk #[(58:UInt8)]++q3,byO++v3++q4] v a9 v1' v2' (by simp) (by
    intro m hm;simp only[List.mem_cons,List.not_mem_nil,or_false] at hm;rcases hm with rfl|rfl|rfl
    ·exact m1
    ·exact m2
    ·exact m3)
   obtain⟨W,a',r1,r2⟩:=f;refine⟨W,a',r1,?_⟩;refine Eq.trans ?_ r2;refine e.trans ?_;cases hk:k==1 with
   |true=>
    rw[hk,cond_true] at hz;subst hz;simp only[A2,A1,hk,s1,s2,lyC,qt,Aca,qc,ec,qe,s3,qo,n0,zu,n1,c1,c2,c3,c4,c5,c6,c7,c8];rfl
   |false=>
    rw[hk,cond_false] at hz;subst hz;simp only[A2,A1,hk,s1,s2,lyG,qt,Aca,qc,ec,qe,s3,qo,n0,zu,n1,c1,c2,c3,c4,c5,c6,c7,c8];rfl
end
section
variable {xs:FuncId->Option (Al->Option Bz)}(fu d:Nat)(call:A7)
def Ev(Z:ByteArray)(Y:Nat)(X:Al)(W:Nat)(V U:ByteArray)(T:Int)(S:Nat)(Q:Al)(P:Int):Option Bz:=Ri fu call 3 Tryz.f3 [.sc (.string Z),Ed 1 Y X] [.r,.r,.r,.r,.l,.r,.l] W ⟨lk [(0,.sc (.string V)),(5,.ptr 5 0),(6,.sc (.string U)),(7,T)],H4 [(5,.st [Ed 1 S Q,P])]⟩
def D3(Z:ByteArray)(Y:Nat)(X:Al)(W:Nat)(V U:ByteArray)(T S Q:ByteArray):Option Bz:=Ri fu call 3 Tryz.f3 [.sc (.string Z),Ed 1 Y X] [.r,.r,.r,.r,.r,.r,.r,.r,.r,.l,.l] W ⟨lk [(0,.sc (.string V)),(6,.sc (.string U)),(8,.sc (.string T)),(9,.sc (.string S)),(11,.sc (.string Q))],H4 []⟩
theorem Hr(Y:ByteArray)(X:Nat)(W:Al)(P:Nat)(V Z:ByteArray)(U:Int)(T:Nat)(S:Al)(Q:Int):Ev fu call Y X W (P+1) V Z U T S Q=(As (decide (U>0)) (Ah (call 6 [.pbox [Ed 1 T S,Q],(41:Int)]) fun a b=>Au .i64 a fun a=>Ac b fun b c=>K2 1 b fun b e f=>Au .i64 f fun f=>Af c<|Fv (call 7 [a]) fun a c=>Ai a fun a=>Af c<|A6 (decide (ByteArray.size Z+ByteArray.size a<=9223372036854775807))<|Ab (Z++a) fun a=>Ab (wrap .i64 (U-1)) fun c=>Ev fu call Y X W P V a c b e f) (Ah (call 9 [.pbox [Ed 1 T S,Q]]) fun a b=>Ac a fun a c=>Fo a fun a=>Ca .i64 a fun a e=>ZzO 1 e fun e f g=>Ac g fun g h=>Ai g fun g=>Ac h fun h i=>Cb h fun h=>Ac i fun i j=>Ai i fun i=>Af j<|Af c<|Ac b fun b c=>K2 1 b fun b j k=>Au .i64 k fun k=>Af c<|A6 (decide (0+e*1<=f.length))<|Ah (call 8 [.pbox [Ed 1 b j,k],.agg [a,Ed 1 e (List.take (e*1) (f.drop 0)),.sc (.string g),.sc (.bool h),.sc (.string i)]]) fun a b=>Ac a fun a c=>Ai a fun a=>Af c<|Ac b fun b c=>K2 1 b fun b e f=>Au .i64 f fun f=>Af c<|Ab (wrap .i64 ((↑(ByteArray.size a):Int)+1)) fun c=>Ah (call 6 [.pbox [Ed 1 b e,f],c]) fun b c=>Au .i64 b fun b=>Ac c fun c e=>K2 1 c fun c f g=>Au .i64 g fun g=>Af e<|Ah (call 6 [.pbox [Ed 1 c f,g],(2:Int)]) fun c e=>Au .i64 c fun c=>Ac e fun e f=>K2 1 e fun e g h=>Au .i64 h fun h=>Af f<|As (c==1) (A6 (decide (0<=b))<|A6 (decide (b.toNat<=ByteArray.size a))<|Ab (ByteArray.extract a 0 b.toNat) fun c=>Ah (call 6 [.pbox [Ed 1 e g,h],(41:Int)]) fun e f=>Au .i64 e fun e=>Ac f fun f g=>K2 1 f fun f h i=>Au .i64 i fun i=>Af g<|Fv (call 7 [e]) fun e g=>Ai e fun e=>Af g<|A6 (decide (ByteArray.size c+ByteArray.size e<=9223372036854775807))<|Ab (c++e) fun c=>Ah (call 6 [.pbox [Ed 1 f h,i],(3:Int)]) fun e f=>Au .i64 e fun e=>Ac f fun f g=>K2 1 f fun f h i=>Au .i64 i fun f=>Af g<|Ab (wrap .i64 (b+e)) fun b=>Ab (if b<(↑(ByteArray.size a):Int) then b else (↑(ByteArray.size a):Int)) fun b=>A6 (decide (0<=b))<|A6 (decide (b.toNat<=ByteArray.size a)&&decide (ByteArray.size a<=ByteArray.size a))<|Ab (ByteArray.extract a b.toNat (ByteArray.size a)) fun b=>A6 (decide (ByteArray.size c+ByteArray.size b<=9223372036854775807))<|Ab (c++b) fun b=>D3 fu call Y X W fu V Z a b a) (D3 fu call Y X W fu V Z a a a))):=by kernel_rfl
theorem Fq(U:ByteArray)(T:Nat)(S:Al)(Q:Nat)(X Y:ByteArray)(W V Z:ByteArray):D3 fu call U T S (Q+1) X Y W V Z=(As (decide ((↑(ByteArray.size Z):Int)<1023)) (A6 (decide (ByteArray.size Z+1<=9223372036854775807))<|Ab (Z++ByteArray.mk #[32]) fun a=>D3 fu call U T S Q X Y W V a) (Fv (call 10 [.sc (.string X)]) fun a b=>Cb a fun a=>Af b<|As a (Fv (call 10 [.sc (.string Y)]) fun a b=>Cb a fun a=>Af b<|As a (A6 (decide (ByteArray.size Y+1<=9223372036854775807))<|Ab (Y++ByteArray.mk #[125]) fun a=>Fv (call 10 [.sc (.string a)]) fun a b=>Cb a fun a=>Af b<|As a (Fv (call 10 [.sc (.string W)]) fun a b=>Cb a fun a=>Af b<|As a (Fv (call 10 [.sc (.string V)]) fun a b=>Cb a fun a=>Af b<|As a (Fv (call 10 [.sc (.string Z)]) fun a b=>Cb a fun a=>Af b<|As a (A6 (decide (ByteArray.size Z+1<=9223372036854775807))<|Ab (Z++ByteArray.mk #[32]) fun a=>Fv (call 10 [.sc (.string a)]) fun a b=>Cb a fun a=>Af b<|As a (A6 (decide (ByteArray.size Z+2<=9223372036854775807))<|Ab (Z++ByteArray.mk #[32,32]) fun a=>Fv (call 10 [.sc (.string a)]) fun a b=>Cb a fun a=>Af b<|As a (Fv (call 4 []) fun a b=>Cb a fun a=>Af b<|Cg [.sc (.bool a)]) (Cg [.sc (.bool false)])) (Cg [.sc (.bool false)])) (Cg [.sc (.bool false)])) (Cg [.sc (.bool false)])) (Cg [.sc (.bool false)])) (Cg [.sc (.bool false)])) (Cg [.sc (.bool false)])) (Cg [.sc (.bool false)]))):=by kernel_rfl
theorem Px{p:Option (Al->Option Bz)}(fu d:Nat)(Z:ByteArray)(Y:Nat)(X:Al):Ae (CP p) prog fu (d+1) 3 [.sc (.string Z),Ed 1 Y X]=(fun (call:A7)=>As (decide ((↑(ByteArray.size Z):Int)>1100)) (Fv (call 4 []) fun a b=>Cb a fun a=>Af b<|Cg [.sc (.bool a)]) (As (decide ((↑Y:Int)>400)) (Fv (call 4 []) fun a b=>Cb a fun a=>Af b<|Cg [.sc (.bool a)]) (Fv (call 5 [Ed 1 Y X]) fun a b=>Xm a fun a=>K2 1 a fun a c e=>Au .i64 e fun e=>Af b<|Ah (call 6 [.pbox [Ed 1 a c,e],(25:Int)]) fun a b=>Au .i64 a fun a=>Ac b fun b c=>K2 1 b fun b e f=>Au .i64 f fun f=>Af c<|Ev fu call Z Y X fu Z (ByteArray.mk #[123]) a b e f))) (Ae (CP p) prog fu d):=by kernel_rfl
end
section
variable {fu d:Nat}
theorem Aga{p:Option (Al->Option Bz)}(v:Int):∃s:ByteArray,s.size<=40/\Ae (CP p) prog fu (d+2) 7 [B9 v]=some ⟨[.sc (.string s)],[]⟩:=by
 obtain⟨r,h0,h1,hm⟩:=Ahj v 41 (by omega) (by omega);have hm:Ae (CP p) prog fu (d+1) 14 [B9 v,B9 41]=_:=hm;have e:=Vr (p:=p) fu (d+1) v;have a1:=dT (q:=(0:Int)<=r) h0;have a2:=dT (q:=r<41) h1;simp only[A2,A1,hm,a1,a2] at e;obtain⟨s,hs,h⟩:=Ajx e (by kernel_rfl) (by show 0+Int.toNat r*1<41;omega)
 exact⟨s,hs,h⟩
set_option maxHeartbeats 2000000 in
theorem LX(Ce:1000400<=fu){a0:ByteArray}{ZP:Nat}{a1:Al}{y0 y1 y2 y3:ByteArray}(s0:y0.size<=2000000)(s1:y1.size<=2000000)(s2:y2.size<=2000000)(s3:y3.size<=2000000):∀(k nn:Nat)(y4:ByteArray),1023<=y4.size+k->k<nn->y4.size+k<=2000000 ->
  D3 fu (Ae C1 prog fu (d+24)) a0 ZP a1 nn y0 y1 y2 y3 y4=some ⟨[.sc (.bool true)],[]⟩:=by
 have P:∀t:ByteArray,t.size<=3000000->Ae C1 prog fu (d+24) 10 [.sc (.string t)]=some ⟨[.sc (.bool true)],[]⟩:=fun t ht=>Aft Ce (by omega);have aw:Ae C1 prog fu (d+24) 4 []=_:=ZU (fu:=fu) (d:=d+15) (by omega);have e125:(ByteArray.mk #[(125:UInt8)]).size=1:=rfl;have e32:(ByteArray.mk #[(32:UInt8)]).size=1:=rfl;have e322:(ByteArray.mk #[(32:UInt8),(32:UInt8)]).size=2:=rfl;intro k
 induction k with
 |zero=>
  intro nn y4 h1 h2 h3;obtain⟨m,rfl⟩:∃m,nn=m+1:=⟨nn-1,by omega⟩
  have a1:=dF (q:=((y4.size:Nat):Int)<1023) (by omega);have c1:=dT (q:=y1.size+1<=9223372036854775807) (by omega);have c2:=dT (q:=y4.size+1<=9223372036854775807) (by omega);have c3:=dT (q:=y4.size+2<=9223372036854775807) (by omega);have p0:=P y0 (by omega);have p1:=P y1 (by omega);have p2:=P (y1++ByteArray.mk #[(125:UInt8)]) (by rw[ByteArray.size_append,e125];omega)
  have p3:=P y2 (by omega);have p4:=P y3 (by omega);have p5:=P y4 (by omega);have p6:=P (y4++ByteArray.mk #[(32:UInt8)]) (by rw[ByteArray.size_append,e32];omega)
  have p7:=P (y4++ByteArray.mk #[(32:UInt8),(32:UInt8)]) (by rw[ByteArray.size_append,e322];omega)
  rw[Fq];simp only[A2,A1,a1,c1,c2,c3,p0,p1,p2,p3,p4,p5,p6,p7,aw]
 |succ k ih=>
  intro nn y4 h1 h2 h3;obtain⟨m,rfl⟩:∃m,nn=m+1:=⟨nn-1,by omega⟩
  by_cases h:y4.size<1023
  ·have a1:=dT (q:=((y4.size:Nat):Int)<1023) (by omega);have c2:=dT (q:=y4.size+1<=9223372036854775807) (by omega);have e:=ih m (y4++ByteArray.mk #[(32:UInt8)]) (by rw[ByteArray.size_append,e32];omega) (by omega) (by rw[ByteArray.size_append,e32];omega)
   rw[Fq];simp only[A2,A1,a1,c2];exact e
  ·have a1:=dF (q:=((y4.size:Nat):Int)<1023) (by omega);have c1:=dT (q:=y1.size+1<=9223372036854775807) (by omega);have c2:=dT (q:=y4.size+1<=9223372036854775807) (by omega);have c3:=dT (q:=y4.size+2<=9223372036854775807) (by omega);have p0:=P y0 (by omega);have p1:=P y1 (by omega);have p2:=P (y1++ByteArray.mk #[(125:UInt8)]) (by rw[ByteArray.size_append,e125];omega)
   have p3:=P y2 (by omega);have p4:=P y3 (by omega);have p5:=P y4 (by omega);have p6:=P (y4++ByteArray.mk #[(32:UInt8)]) (by rw[ByteArray.size_append,e32];omega)
   have p7:=P (y4++ByteArray.mk #[(32:UInt8),(32:UInt8)]) (by rw[ByteArray.size_append,e322];omega)
   rw[Fq];simp only[A2,A1,a1,c1,c2,c3,p0,p1,p2,p3,p4,p5,p6,p7,aw]
set_option maxHeartbeats 4000000 in
theorem SC(Ce:1000400<=fu){l:Am}(hl:l.length<=maxLen){a0:ByteArray}{ZP:Nat}{a1:Al}{y0:ByteArray}(s0:y0.size<=2000000):∀(j nn a:Nat)(y1:ByteArray),y1.size+40*j<=100000->j<nn ->
  Ev fu (Ae C1 prog fu (d+24)) a0 ZP a1 nn y0 y1 (j:Int) l.length (Bk .i64 l) (a:Int)=some ⟨[.sc (.bool true)],[]⟩:=by
 intro j
 induction j with
 |zero=>
  intro nn a y1 h1 h2;obtain⟨m,rfl⟩:∃m,nn=m+1:=⟨nn-1,by omega⟩
  have k0:decide (((0:Nat):Int)>0)=false:=rfl;obtain⟨k,ch,o,t,x,b,hc,Mz,hol,htl,hcd⟩:=Aqa (fu:=fu) (d:=d+17) (p:=some Dq) hl a (by omega);have hcd:Ae C1 prog fu (d+24) 9 [.pbox (L9 l a)]=_:=hcd;have c0:List.take (ch.length*1) (List.drop 0 (Bk .u8 ch))=Bk .u8 ch:=by rw[SL];exact FF (by rw[C3];omega)
  have c1:decide (0+ch.length*1<=List.length (Bk .u8 ch))=true:=by rw[C3];simp
  obtain⟨W,b1,hW,hw⟩:=Ai8 (fu:=fu) (d:=d+14) (p:=some Dq) hl b (k:=k) (x:=x) (by omega) hc (by omega) hol htl;have hw:Ae C1 prog fu (d+24) 8 [.pbox (L9 l b),.agg [B9 k,.lst false 1 ch.length (Bk .u8 ch),.sc (.string o),.sc (.bool x),.sc (.string t)]]=_:=hw;have w1:wrap .i64 ((W.size:Int)+1)=((W.size+1:Nat):Int):=by rw[Ar (by omega) (by omega)];omega
  obtain⟨v1,b2,p1,q1,n1⟩:=Hb hl b1 ((W.size+1:Nat):Int) (by omega) (by omega);have n1:Ae C1 prog fu (d+24) 6 [.pbox (L9 l b1),B9 ((W.size+1:Nat):Int)]=_:=n1 (fu:=fu) (d:=d+22) (p:=some Dq);obtain⟨v2,b3,p2,q2,n2⟩:=Hb hl b2 2 (by omega) (by omega);have n2:Ae C1 prog fu (d+24) 6 [.pbox (L9 l b2),B9 2]=_:=n2 (fu:=fu) (d:=d+22) (p:=some Dq);rw[Hr];cases z:v2==1 with
  |false=>
   have e:=LX (fu:=fu) (d:=d) Ce (a0:=a0) (ZP:=ZP) (a1:=a1) s0 (y1:=y1) (by omega) (y2:=W) (by omega) (y3:=W) (by omega) 1023 fu W (by omega) (by omega) (by omega);simp only[A2,A1,k0,hcd,c0,c1,hw,w1,n1,n2,z];exact e
  |true=>
   obtain⟨v3,b4,p3,q3,n3⟩:=Hb hl b3 41 (by omega) (by omega);have n3:Ae C1 prog fu (d+24) 6 [.pbox (L9 l b3),B9 41]=_:=n3 (fu:=fu) (d:=d+22) (p:=some Dq);obtain⟨s,hs,hp⟩:=Aga (fu:=fu) (d:=d+22) (p:=some Dq) v3;have hp:Ae C1 prog fu (d+24) 7 [B9 v3]=_:=hp;obtain⟨v4,b5,p4,q4,n4⟩:=Hb hl b4 3 (by omega) (by omega);have n4:Ae C1 prog fu (d+24) 6 [.pbox (L9 l b4),B9 3]=_:=n4 (fu:=fu) (d:=d+22) (p:=some Dq);obtain⟨v1,rfl⟩:=Int.eq_ofNat_of_zero_le p1;obtain⟨v4,rfl⟩:=Int.eq_ofNat_of_zero_le p4;have g1:=dT (q:=(0:Int)<=((v1:Nat):Int)) (by omega);have g2:=dT (q:=Int.toNat ((v1:Nat):Int)<=W.size) (by omega);have z1:(W.extract 0 (Int.toNat ((v1:Nat):Int))).size<=W.size:=by rw[ByteArray.size_extract];omega
   have g3:=dT (q:=(W.extract 0 (Int.toNat ((v1:Nat):Int))).size+s.size<=9223372036854775807) (by omega);have w2:wrap .i64 (((v1:Nat):Int)+((v4:Nat):Int))=((v1+v4:Nat):Int):=by rw[Ar (by omega) (by omega)];omega
   obtain⟨e,Og,he⟩:∃e:Nat,e<=W.size/\(if ((v1+v4:Nat):Int)<((W.size:Nat):Int) then ((v1+v4:Nat):Int) else ((W.size:Nat):Int))=((e:Nat):Int):=by
    by_cases h:((v1+v4:Nat):Int)<((W.size:Nat):Int)
    ·exact⟨v1+v4,by omega,Bq h⟩
    ·exact⟨W.size,by omega,Bg h⟩
   have g4:=dT (q:=(0:Int)<=((e:Nat):Int)) (by omega);have g5:=dT (q:=Int.toNat ((e:Nat):Int)<=W.size) (by omega);have g7:=dT (q:=W.size<=W.size) (Cc _);have z2:(W.extract (Int.toNat ((e:Nat):Int)) W.size).size<=W.size:=by rw[ByteArray.size_extract];omega
   have z3:(W.extract 0 (Int.toNat ((v1:Nat):Int))++s).size<=W.size+40:=by rw[ByteArray.size_append];omega
   have g6:=dT (q:=(W.extract 0 (Int.toNat ((v1:Nat):Int))++s).size+(W.extract (Int.toNat ((e:Nat):Int)) W.size).size<=9223372036854775807) (by omega);have ee:=LX (fu:=fu) (d:=d) Ce (a0:=a0) (ZP:=ZP) (a1:=a1) s0 (y1:=y1) (by omega) (y2:=W) (by omega) (y3:=W.extract 0 (Int.toNat ((v1:Nat):Int))++s++W.extract (Int.toNat ((e:Nat):Int)) W.size) (by rw[ByteArray.size_append];omega) 1023 fu W (by omega) (by omega) (by omega)
   simp only[A2,A1,k0,hcd,c0,c1,hw,w1,n1,n2,z,g1,g2,n3,hp,g3,n4,w2,he,g4,g5,g7,g6];exact ee
 |succ j ih=>
  intro nn a y1 h1 h2;obtain⟨m,rfl⟩:∃m,nn=m+1:=⟨nn-1,by omega⟩
  have k0:=dT (q:=((j+1:Nat):Int)>0) (by omega);have k1:wrap .i64 (((j+1:Nat):Int)-1)=(j:Int):=by rw[Ar (by omega) (by omega)];omega
  obtain⟨v3,b4,p3,q3,n3⟩:=Hb hl a 41 (by omega) (by omega);have n3:Ae C1 prog fu (d+24) 6 [.pbox (L9 l a),B9 41]=_:=n3 (fu:=fu) (d:=d+22) (p:=some Dq);obtain⟨s,hs,hp⟩:=Aga (fu:=fu) (d:=d+22) (p:=some Dq) v3;have hp:Ae C1 prog fu (d+24) 7 [B9 v3]=_:=hp;have g3:=dT (q:=y1.size+s.size<=9223372036854775807) (by omega);have e:=ih m b4 (y1++s) (by rw[ByteArray.size_append];omega) (by omega)
  rw[Hr];simp only[A2,A1,k0,n3,hp,g3,k1];exact e
set_option maxHeartbeats 2000000 in
theorem dataParses_plain(qs:Al)(h:Bo (WTv prog) [9,22] qs):∃fu d,Ae C1 prog fu d 3 qs=some ⟨[.sc (.bool true)],[]⟩:=by
 obtain⟨q0,_,rfl,h0,g⟩:=h.cons_inv;obtain⟨q1,_,rfl,h1,g⟩:=g.cons_inv;obtain rfl:=g.nil_inv;clear h g;obtain⟨s,rfl,_⟩:=Ann (by kernel_rfl) (by kernel_rfl) h0;obtain⟨l,rfl,hl,_⟩:=Agt (k:=.i64) (e:=3) (by kernel_rfl) (by kernel_rfl) (by kernel_rfl) (by kernel_rfl) h1;clear h0 h1;obtain⟨fu,Ce⟩:∃fu,fu=1000400:=⟨_,rfl⟩
 refine⟨fu,25,?_⟩;refine (Px (p:=some Dq) fu 24 _ _ _).trans ?_;have aw:Ae C1 prog fu 24 4 []=_:=ZU (fu:=fu) (d:=15) (by omega);by_cases hs:1100<s.size
 ·have a1:=dT (q:=((s.size:Nat):Int)>1100) (by omega);simp only[A2,A1,a1,aw]
 have a1:=dF (q:=((s.size:Nat):Int)>1100) (by omega);by_cases h4:400<l.length
 ·have a2:=dT (q:=((l.length:Nat):Int)>400) (by omega);simp only[A2,A1,a1,a2,aw]
 have a2:=dF (q:=((l.length:Nat):Int)>400) (by omega);have nw:Ae C1 prog fu 24 5 [.lst false 1 l.length (Bk .i64 l)]=_:=A1i (fu:=fu) (d:=23) (p:=some Dq) (l:=l);obtain⟨v,b,p1,q1,n1⟩:=Hb hl 0 25 (by omega) (by omega);have n1:Ae C1 prog fu 24 6 [.pbox (L9 l 0),B9 25]=_:=n1 (fu:=fu) (d:=22) (p:=some Dq);obtain⟨j,rfl⟩:=Int.eq_ofNat_of_zero_le p1;have e1:(ByteArray.mk #[(123:UInt8)]).size=1:=rfl;have e:=SC (fu:=fu) (d:=0) (by omega) hl (a0:=s) (ZP:=l.length) (a1:=Bk .i64 l) (y0:=s) (by omega) j fu b (ByteArray.mk #[(123:UInt8)]) (by omega) (by omega);simp only[A2,A1,a1,a2,nw,n1];exact e
end
end
end Go.Proofs.YtkopiepmdppifaaGreatDoor.Pv
