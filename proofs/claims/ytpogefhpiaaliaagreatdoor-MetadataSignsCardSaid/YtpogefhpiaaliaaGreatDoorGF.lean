/-
  The proof of MetadataSigns, part 6.
-/
import Derived.Test.YtpogefhpiaaliaaGreatDoorGE
import Derived.Test.YtpogefhpiaaliaaGreatDoorRows
import Derived.Shelf.Abstract
import Derived.WalkKit
import Derived.OwnWalkIn
import Derived.TacticsInMore
import Derived.Lib.BytesEntry
import Derived.Lib.Bytealg
import Derived.Lib.Walk
import Derived.WalkMore
import Derived.Shelf.Unicode.ValidAny
import Derived.Lib.LaidU8T
set_option linter.unusedSimpArgs false
set_option linter.unusedVariables false
namespace Go.Proofs.YtpogefhpiaaliaaGreatDoor.Pv
open Go.IntKind (wrap)
open Go.Proofs.Tryz (prog)
set_option maxRecDepth 1000000
noncomputable section
theorem KI{d:Nat}{ps:Ab}(h:WT prog d 25 ps):∃(v0:Int)(v1:Cg)(v2:Cg),ps=[(Ao v0),(.lst false 1 v1.length (Ad .u64 v1)),(.lst false 1 v2.length (Ad .u64 v2))]/\(Lit.int .i64 v0).wf=true/\v1.length<=maxLen/\(∀n∈v1,(Lit.int .u64 n).wf=true)/\v2.length<=maxLen/\(∀n∈v2,(Lit.int .u64 n).wf=true):=by obtain⟨rs,rfl,h1⟩:=WM (ts:=[3,23,23]) (by kernel_rfl) h;obtain⟨r0,_,rfl,g0,h1⟩:=h1.cons_inv;obtain⟨r1,_,rfl,g1,h1⟩:=h1.cons_inv;obtain⟨r2,_,rfl,g2,h1⟩:=h1.cons_inv;obtain rfl:=h1.nil_inv;obtain⟨v0,rfl,w0_0⟩:=So (k:=.i64) (by kernel_rfl) g0;obtain⟨v1,rfl,w1_0,w1_1⟩:=Aad (k:=.u64) (e:=37) (by kernel_rfl) (by kernel_rfl) (by kernel_rfl) g1;obtain⟨v2,rfl,w2_0,w2_1⟩:=Aad (k:=.u64) (e:=37) (by kernel_rfl) (by kernel_rfl) (by kernel_rfl) g2;exact⟨v0,v1,v2,rfl,w0_0,w1_0,w1_1,w2_0,w2_1⟩
theorem NT{d:Nat}{ps:Ab}(h:WT prog d 27 ps):∃(v0:Int)(v1:Int)(v2:Int)(v3:List Ab) (v4v0:Int)(v4v1:Cg)(v4v2:Cg),ps=[(Ao v0),(Ao v1),(Ao v2),(.lst false 3 v3.length v3.flatten),(Ao v4v0),(.lst false 1 v4v1.length (Ad .u64 v4v1)),(.lst false 1 v4v2.length (Ad .u64 v4v2))]/\(Lit.int .i64 v0).wf=true/\(Lit.int .i64 v1).wf=true/\(Lit.int .i64 v2).wf=true/\v3.length<=maxLen/\(∀r∈v3,r.length=3/\WT prog (d-2) 61 r)/\(Lit.int .i64 v4v0).wf=true/\v4v1.length<=maxLen/\(∀n∈v4v1,(Lit.int .u64 n).wf=true)/\v4v2.length<=maxLen/\(∀n∈v4v2,(Lit.int .u64 n).wf=true):=by obtain⟨rs,rfl,h1⟩:=WM (ts:=[3,3,3,22,25]) (by kernel_rfl) h;obtain⟨r0,_,rfl,g0,h1⟩:=h1.cons_inv;obtain⟨r1,_,rfl,g1,h1⟩:=h1.cons_inv;obtain⟨r2,_,rfl,g2,h1⟩:=h1.cons_inv;obtain⟨r3,_,rfl,g3,h1⟩:=h1.cons_inv;obtain⟨r4,_,rfl,g4,h1⟩:=h1.cons_inv;obtain rfl:=h1.nil_inv;obtain⟨v0,rfl,w0_0⟩:=So (k:=.i64) (by kernel_rfl) g0;obtain⟨v1,rfl,w1_0⟩:=So (k:=.i64) (by kernel_rfl) g1;obtain⟨v2,rfl,w2_0⟩:=So (k:=.i64) (by kernel_rfl) g2;obtain⟨v3,rfl,w3_0,w3_1⟩:=Ahk (k:=3) (e:=61) (by kernel_rfl) (by kernel_rfl) g3;obtain⟨v4v0,v4v1,v4v2,rfl,w4_0,w4_1,w4_2,w4_3,w4_4⟩:=KI g4;exact⟨v0,v1,v2,v3,v4v0,v4v1,v4v2,rfl,w0_0,w1_0,w2_0,w3_0,w3_1,w4_0,w4_1,w4_2,w4_3,w4_4⟩
theorem HK{d:Nat}{ps:Ab}(h:WT prog d 61 ps):∃(v0:Int)(v1:List Ab) (v2:List Ab),ps=[(Ac v0),(.lst false 3 v1.length v1.flatten),(.lst false 2 v2.length v2.flatten)]/\(Lit.int .u64 v0).wf=true/\v1.length<=maxLen/\(∀r∈v1,r.length=3/\WT prog (d-2) 63 r)/\v2.length<=maxLen/\(∀r∈v2,r.length=2/\WT prog (d-2) 65 r):=by obtain⟨rs,rfl,h1⟩:=WM (ts:=[37,58,59]) (by kernel_rfl) h;obtain⟨r0,_,rfl,g0,h1⟩:=h1.cons_inv;obtain⟨r1,_,rfl,g1,h1⟩:=h1.cons_inv;obtain⟨r2,_,rfl,g2,h1⟩:=h1.cons_inv;obtain rfl:=h1.nil_inv;obtain⟨v0,rfl,w0_0⟩:=So (k:=.u64) (by kernel_rfl) g0;obtain⟨v1,rfl,w1_0,w1_1⟩:=Ahk (k:=3) (e:=63) (by kernel_rfl) (by kernel_rfl) g1;obtain⟨v2,rfl,w2_0,w2_1⟩:=Ahk (k:=2) (e:=65) (by kernel_rfl) (by kernel_rfl) g2;exact⟨v0,v1,v2,rfl,w0_0,w1_0,w1_1,w2_0,w2_1⟩
theorem Vm{d:Nat}{ps:Ab}(h:WT prog d 40 ps):∃(v0:Int)(v1:Int),ps=[(Ao v0),(Ac v1)]/\(Lit.int .i64 v0).wf=true/\(Lit.int .u64 v1).wf=true:=by obtain⟨rs,rfl,h1⟩:=WM (ts:=[3,37]) (by kernel_rfl) h;obtain⟨r0,_,rfl,g0,h1⟩:=h1.cons_inv;obtain⟨r1,_,rfl,g1,h1⟩:=h1.cons_inv;obtain rfl:=h1.nil_inv;obtain⟨v0,rfl,w0_0⟩:=So (k:=.i64) (by kernel_rfl) g0;obtain⟨v1,rfl,w1_0⟩:=So (k:=.u64) (by kernel_rfl) g1;exact⟨v0,v1,rfl,w0_0,w1_0⟩
theorem UL{d:Nat}{ps:Ab}(h:WT prog d 63 ps):∃(v0:ByteArray)(v1v0:Int)(v1v1:Int),ps=[(.sc (.string v0)),(Ao v1v0),(Ac v1v1)]/\v0.size<=maxLen/\(Lit.int .i64 v1v0).wf=true/\(Lit.int .u64 v1v1).wf=true:=by obtain⟨rs,rfl,h1⟩:=WM (ts:=[9,40]) (by kernel_rfl) h;obtain⟨r0,_,rfl,g0,h1⟩:=h1.cons_inv;obtain⟨r1,_,rfl,g1,h1⟩:=h1.cons_inv;obtain rfl:=h1.nil_inv;obtain⟨v0,rfl,w0_0⟩:=Ayl (by kernel_rfl) g0;obtain⟨v1v0,v1v1,rfl,w1_0,w1_1⟩:=Vm g1;exact⟨v0,v1v0,v1v1,rfl,w0_0,w1_0,w1_1⟩
theorem UX{d:Nat}{ps:Ab}(h:WT prog d 65 ps):∃(v0:Int)(v1:Int),ps=[(Ao v0),(Ao v1)]/\(Lit.int .i64 v0).wf=true/\(Lit.int .i64 v1).wf=true:=by obtain⟨rs,rfl,h1⟩:=WM (ts:=[3,3]) (by kernel_rfl) h;obtain⟨r0,_,rfl,g0,h1⟩:=h1.cons_inv;obtain⟨r1,_,rfl,g1,h1⟩:=h1.cons_inv;obtain rfl:=h1.nil_inv;obtain⟨v0,rfl,w0_0⟩:=So (k:=.i64) (by kernel_rfl) g0;obtain⟨v1,rfl,w1_0⟩:=So (k:=.i64) (by kernel_rfl) g1;exact⟨v0,v1,rfl,w0_0,w1_0⟩
section
variable {xs:FuncId->Option (Ab->Option Dl)}(fu d:Nat)(call:Bi)
def I3(Z Y X:Int)(W:Nat)(V:Ab)(U:Int)(T:Nat)(S:Ab)(Q:Nat)(P:Ab)(O N:Int)(M:Nat)(L:Ab)(K J:Int)(I:Nat)(H G:Int)(E D B:Int)(A:Nat)(z:Ab)(w:Int)(v:Nat)(u:Ab)(t:Nat)(y11:Ab)(y12 y13:Int)(y14:Nat)(y15:Ab)(y16 y17:Int)(y18 y19:Int)(UO:Nat)(UG:Ab)(TK:Int)(OB:Nat)(LR:Ab)(QS:Nat)(YS:Ab)(y27 ZT YG:Int)(y30:Nat)(y31:Ab)(y32:Int)(y33:Nat)(y34:Ab)(y35:Nat)(y36:Ab)(y37 y38:Int)(y39 y40 y41:Int)(y42:Nat)(y43:Ab)(y44:Int)(y45:Nat)(y46:Ab)(y47:Nat)(y48:Ab):Option Dl:=Lu fu call 4 Tryz.f4 [.agg [Z,Y,X,Ai 3 W V,U,Ai 1 T S,Ai 1 Q P],.agg [O,Ac N],Ai 1 M L,Ac K,J] [.r,.r,.r,.r,.r,.r,.r,.r] I ⟨lk [(5,.ptr 5 0),(6,.ptr 6 0),(11,.ptr 11 0),(14,.ptr 14 0),(15,H),(16,.ptr 16 0),(17,G),(18,.ptr 18 0),(19,.ptr 19 0)],Bq [(5,.st [E,D,B,Ai 3 A z,w,Ai 1 v u,Ai 1 t y11]),(6,.st [y12,Ac y13]),(11,.st [Ai 1 y14 y15,y16]),(14,.st [y17,y18,y19,Ai 3 UO UG,TK,Ai 1 OB LR,Ai 1 QS YS]),(16,.st [y27,ZT,YG,Ai 3 y30 y31,y32,Ai 1 y33 y34,Ai 1 y35 y36]),(18,.st [y37,Ac y38]),(19,.st [y39,y40,y41,Ai 3 y42 y43,y44,Ai 1 y45 y46,Ai 1 y47 y48])]⟩
def Df(Z Y X:Int)(W:Nat)(V:Ab)(U:Int)(T:Nat)(S:Ab)(Q:Nat)(P:Ab)(O N:Int)(M:Nat)(L:Ab)(K J:Int)(I:Nat)(H G:Int)(E D B:Int)(A:Nat)(z:Ab)(w:Int)(v:Nat)(u:Ab)(t:Nat)(y11:Ab)(y12 y13:Int)(y14 y15 y16:Int)(y17:Nat)(y18:Ab)(y19:Int)(UO:Nat)(UG:Ab)(TK:Nat)(OB:Ab)(LR QS YS:Int)(y27:Nat)(ZT:Ab)(YG:Int)(y30:Nat)(y31:Ab)(y32:Nat)(y33:Ab)(y34 y35:Int)(y36 y37 y38:Int)(y39:Nat)(y40:Ab)(y41:Int)(y42:Nat)(y43:Ab)(y44:Nat)(y45:Ab):Option Dl:=Lu fu call 4 Tryz.f4 [.agg [Z,Y,X,Ai 3 W V,U,Ai 1 T S,Ai 1 Q P],.agg [O,Ac N],Ai 1 M L,Ac K,J] [.r,.r,.r,.r,.r,.r,.r,.r,.r] I ⟨lk [(5,.ptr 5 0),(6,.ptr 6 0),(14,.ptr 14 0),(15,H),(16,.ptr 16 0),(17,G),(18,.ptr 18 0),(19,.ptr 19 0)],Bq [(5,.st [E,D,B,Ai 3 A z,w,Ai 1 v u,Ai 1 t y11]),(6,.st [y12,Ac y13]),(14,.st [y14,y15,y16,Ai 3 y17 y18,y19,Ai 1 UO UG,Ai 1 TK OB]),(16,.st [LR,QS,YS,Ai 3 y27 ZT,YG,Ai 1 y30 y31,Ai 1 y32 y33]),(18,.st [y34,Ac y35]),(19,.st [y36,y37,y38,Ai 3 y39 y40,y41,Ai 1 y42 y43,Ai 1 y44 y45])]⟩
theorem D8(Z Y X:Int)(W:Nat)(V:Ab)(U:Int)(T:Nat)(S:Ab)(Q:Nat)(P:Ab)(O N:Int)(M:Nat)(L:Ab)(K J:Int)(nn:Nat)(Ld:0<nn)(I H:Int)(G E D:Int)(B:Nat)(A:Ab)(z:Int)(w:Nat)(v:Ab)(u:Nat)(t:Ab)(y12 y13:Int)(y14:Nat)(y15:Ab)(y16 y17:Int)(y18 y19:Int)(UO:Nat)(UG:Ab)(TK:Int)(OB:Nat)(LR:Ab)(QS:Nat)(YS:Ab)(y27 ZT YG:Int)(y30:Nat)(y31:Ab)(y32:Int)(y33:Nat)(y34:Ab)(y35:Nat)(y36:Ab)(y37 y38:Int)(y39 y40 y41:Int)(y42:Nat)(y43:Ab)(y44:Int)(y45:Nat)(y46:Ab)(y47:Nat)(y48:Ab):I3 fu call Z Y X W V U T S Q P O N M L K J nn I H G E D B A z w v u t y12 y13 y14 y15 y16 y17 y18 y19 UO UG TK OB LR QS YS y27 ZT YG y30 y31 y32 y33 y34 y35 y36 y37 y38 y39 y40 y41 y42 y43 y44 y45 y46 y47 y48=(Bk (call 15 [.pbox [Ai 1 y14 y15,y16],(4:Int)]) fun a b=>D1 .i64 a fun a=>Av b fun b c=>J9 1 b fun b e f=>D1 .i64 f fun b=>Aq c<|Bd (a==0) (Aa (wrap .i64 (y39+1)) fun a=>Df fu call Z Y X W V U T S Q P O N M L K J fu I H G E D B A z w v u t y12 y13 y17 y18 y19 UO UG TK OB LR QS YS y27 ZT YG y30 y31 y32 y33 y34 y35 y36 y37 y38 a y40 y41 y42 y43 y44 y45 y46 y47 y48) (Bd (a==1) (Aa (wrap .i64 (y44+1)) fun a=>Df fu call Z Y X W V U T S Q P O N M L K J fu I H G E D B A z w v u t y12 y13 y17 y18 y19 UO UG TK OB LR QS YS y27 ZT YG y30 y31 y32 y33 y34 y35 y36 y37 y38 y39 y40 y41 y42 y43 a y45 y46 y47 y48) (Bd (a==2) (Aa (wrap .i64 (y41+1)) fun a=>Df fu call Z Y X W V U T S Q P O N M L K J fu I H G E D B A z w v u t y12 y13 y17 y18 y19 UO UG TK OB LR QS YS y27 ZT YG y30 y31 y32 y33 y34 y35 y36 y37 y38 y39 y40 a y42 y43 y44 y45 y46 y47 y48) (Df fu call Z Y X W V U T S Q P O N M L K J fu I H G E D B A z w v u t y12 y13 y17 y18 y19 UO UG TK OB LR QS YS y27 ZT YG y30 y31 y32 y33 y34 y35 y36 y37 y38 y39 y40 y41 y42 y43 y44 y45 y46 y47 y48)))):=by cases nn with|zero=>exact absurd Ld (Nat.lt_irrefl 0)|succ nn=>kernel_rfl
theorem D7(Dc Cj Ef:Int)(Gt:Nat)(Ku:Ab)(Kz:Int)(Gv:Nat)(Kx:Ab)(Gu:Nat)(K4:Ab)(CA CH:Int)(a2n:Nat)(a2:Ab)(a3 a4:Int)(X:Nat)(Ld:0<X)(y0 y1:Int)(L K J:Int)(I:Nat)(H:Ab)(G:Int)(E:Nat)(D:Ab)(B:Nat)(A:Ab)(z w:Int)(y14 y15 y16:Int)(y17:Nat)(y18:Ab)(y19:Int)(UO:Nat)(UG:Ab)(TK:Nat)(OB:Ab)(W V U:Int)(T:Nat)(S:Ab)(Q:Int)(P:Nat)(O:Ab)(N:Nat)(M:Ab)(Z Y:Int)(v u t:Int)(y39:Nat)(y40:Ab)(y41:Int)(y42:Nat)(y43:Ab)(y44:Nat)(y45:Ab):Df fu call Dc Cj Ef Gt Ku Kz Gv Kx Gu K4 CA CH a2n a2 a3 a4 X y0 y1 L K J I H G E D B A z w y14 y15 y16 y17 y18 y19 UO UG TK OB W V U T S Q P O N M Z Y v u t y39 y40 y41 y42 y43 y44 y45=(Eb (call 18 [.agg [y14,y15,y16,Ai 3 y17 y18,y19,Ai 1 UO UG,Ai 1 TK OB],.agg [W,V,U,Ai 3 T S,Q,Ai 1 P O,Ai 1 N M]]) fun a b=>Co a fun a=>Aq b<|Bd a (Bd (y0==y1) (J1 .i64 (call 19 [.agg [L,K,J,Ai 3 I H,G,Ai 1 E D,Ai 1 B A],.agg [z,Ac w]]) fun a=>J1 .i64 (call 20 [.agg [L,K,J,Ai 3 I H,G,Ai 1 E D,Ai 1 B A],.agg [z,Ac w]]) fun b=>Bd (a==b) (J1 .i64 (call 19 [.agg [W,V,U,Ai 3 T S,Q,Ai 1 P O,Ai 1 N M],.agg [Z,Ac Y]]) fun a=>J1 .i64 (call 20 [.agg [W,V,U,Ai 3 T S,Q,Ai 1 P O,Ai 1 N M],.agg [Z,Ac Y]]) fun b=>Bd (a==b) (J1 .i64 (call 19 [.agg [v,u,t,Ai 3 y39 y40,y41,Ai 1 y42 y43,Ai 1 y44 y45],.agg [Z,Ac Y]]) fun a=>J1 .i64 (call 20 [.agg [v,u,t,Ai 3 y39 y40,y41,Ai 1 y42 y43,Ai 1 y44 y45],.agg [Z,Ac Y]]) fun b=>Bd (a==b) (Eb (call 9 []) fun a b=>Co a fun a=>Aq b<|Bv [.sc (.bool a)]) (Bv [.sc (.bool false)])) (Bv [.sc (.bool false)])) (Bv [.sc (.bool false)])) (Bv [.sc (.bool false)])) (Bv [.sc (.bool false)])):=by cases X with|zero=>exact absurd Ld (Nat.lt_irrefl 0)|succ X=>kernel_rfl
theorem Qu(Y X W:Int)(V:Nat)(U:Ab)(T:Int)(S:Nat)(Q:Ab)(P:Nat)(O:Ab)(M L:Int)(K:Nat)(J:Ab)(Z N:Int):F1 C0 fu d 4 [.agg [Y,X,W,Ai 3 V U,T,Ai 1 S Q,Ai 1 P O],.agg [M,Ac L],Ai 1 K J,Ac Z,N] fun call=>Eb (call 8 [.agg [Y,X,W,Ai 3 V U,T,Ai 1 S Q,Ai 1 P O]]) fun a b=>Co a fun a=>Aq b<|Bd (!a) (Eb (call 9 []) fun a b=>Co a fun a=>Aq b<|Bv [.sc (.bool a)]) (Eb (call 10 [Ai 1 K J]) fun a b=>DB a fun a=>J9 1 a fun a c e=>D1 .i64 e fun e=>Aq b<|Bk (call 11 [.pbox [Ai 1 a c,e]]) fun a b=>Av a fun a c=>D3 a fun a=>Di .i64 a fun a e=>Di .i64 e fun e f=>Di .i64 f fun f g=>J9 3 g fun g h i=>Di .i64 i fun i j=>J9 1 j fun j k m=>J9 1 m fun m n o=>Aq o<|Aq c<|Av b fun b c=>J9 1 b fun b o p=>D1 .i64 p fun p=>Aq c<|J1 .i64 (call 14 [N,(7:Int)]) fun c=>Aa (wrap .i64 (c-1)) fun c=>Bk (call 15 [.pbox [Ai 1 b o,p],(3:Int)]) fun b o=>D1 .i64 b fun b=>Av o fun o p=>J9 1 o fun o q s=>D1 .i64 s fun s=>Aq p<|At (decide (0<=b)&&decide (b<3))<|A8 .i64 (List.getD [N,c,(4:Int)] (0+b.toNat*1) .top) fun b=>Eb (call 16 [.agg [a,e,f,Ai 3 g h,i,Ai 1 j k,Ai 1 m n],Ac Z,b]) fun c p=>D3 c fun c=>Di .i64 c fun c t=>Di .i64 t fun t u=>Di .i64 u fun u v=>J9 3 v fun v w z=>Di .i64 z fun z A=>J9 1 A fun A B D=>J9 1 D fun D E G=>Aq G<|D1 .i64 p fun p=>Eb (call 12 [.agg [a,e,f,Ai 3 g h,i,Ai 1 j k,Ai 1 m n],Ac Z,b]) fun a e=>D3 a fun a=>Di .i64 a fun a f=>Di .i64 f fun f g=>Di .i64 g fun g h=>J9 3 h fun h i j=>Di .i64 j fun j k=>J9 1 k fun k m n=>J9 1 n fun n G H=>Aq H<|D1 .i64 e fun e=>J1 .i64 (call 14 [b,(5:Int)]) fun b=>Eb (call 17 [Ac Z,b]) fun b H=>D3 b fun b=>Di .i64 b fun b I=>D1 .u64 I fun I=>Aq H<|I3 fu call Y X W V U T S Q P O M L K J Z N fu p e Y X W V U T S Q P O M L o q s c t u v w z A B D E a f g h i j k m n G b I a f g h i j k m n G):=by show _=_;kernel_rfl
end
theorem Asp{p:PV}(h:WTv prog 27 p):∃m:Md,p=.agg m.cells/\m.ok:=by
 obtain⟨ps,rfl,k0⟩:=Ahz (by kernel_rfl) h;obtain⟨v0,v1,v2,rows,v4,v5,v6,rfl,e0,e1,e2,e3,e4,e5,e6,e7,e8,e9⟩:=NT k0
 obtain⟨es,h1,h2,h3⟩:=Qk Me.cells (fun x=>Ui x.model/\x.rts) (rows:=rows) fun r hr=>by
  obtain⟨w0,ra,rs,rfl,f0,f1,f2,f3,f4⟩:=HK (e4 r hr).2
  obtain⟨la,a1,a2,a3⟩:=Qk An.cells (fun a=>Ui a.key.root) (rows:=ra) fun r' hr'=>by
   obtain⟨u0,u1,u2,rfl,g0,g1,g2⟩:=UL (f2 r' hr').2;exact⟨⟨u0,⟨u1,u2⟩⟩,rfl,Aak g2⟩
  obtain⟨ss,s1,s2,s3⟩:=Qk Sa.cells (fun _=>True) (rows:=rs) fun r' hr'=>by
   obtain⟨u0,u1,rfl,g0,g1⟩:=UX (f4 r' hr').2;exact⟨⟨u0,u1⟩,rfl,trivial⟩
  refine⟨⟨w0,la,ss⟩,?_,Aak f0,a3⟩;rw[a1,a2,s1,s2];rfl
 refine⟨⟨v0,v1,v2,es,⟨v4,v5,v6⟩⟩,?_,⟨h3,⟨fun x hx=>Aak (e7 x hx),fun x hx=>Aak (e9 x hx)⟩⟩⟩;rw[h1,h2];rfl
theorem Md.plain.ok{m:Md}(h:m.plain):m.ok:=⟨fun x hx=>⟨(h.ent x hx).model,(h.ent x hx).rts⟩,by rw[h.sg];exact⟨fun x hx=>(by cases hx),fun x hx=>(by cases hx)⟩⟩
theorem Md.plain.shrt{m:Md}(h:m.plain):m.shrt:=⟨by have:=h.len;omega,fun x hx=>by have:=h.ent x hx;have:=this.ans;have:=(h.ent x hx).sts;omega⟩
theorem Alc{m:Md}(hm:m.shrt)(ho:m.ok)(seed h:Int):(Nm m seed h).1.shrt:=by
 rcases (Abz ho seed h).2.2.2 with e|⟨s,e⟩
 ·rw[e];exact⟨by decide,fun x hx=>(by cases hx)⟩
 ·rw[e];exact hm
theorem metadataSigns_plain(qs:Ab)(h:Bw (WTv prog) [27,40,28,37,3] qs):∃fu d,Ap C0 prog fu d 4 qs=some ⟨[.sc (.bool true)],[]⟩:=by
 obtain⟨q0,_,rfl,h0,g⟩:=h.cons_inv;obtain⟨q1,_,rfl,h1,g⟩:=g.cons_inv;obtain⟨q2,_,rfl,h2,g⟩:=g.cons_inv;obtain⟨q3,_,rfl,h3,g⟩:=g.cons_inv;obtain⟨q4,_,rfl,h4,g⟩:=g.cons_inv;obtain rfl:=g.nil_inv;clear h g;obtain⟨m,rfl,hm⟩:=Asp h0;obtain⟨ps,rfl,k1⟩:=Ahz (by kernel_rfl) h1;obtain⟨kh,kr,rfl,_,_⟩:=Vm k1;obtain⟨l,rfl,hl,_⟩:=Ark (k:=.i64) (e:=3) (by kernel_rfl) (by kernel_rfl) (by kernel_rfl) (by kernel_rfl) h2;obtain⟨seed,rfl,_⟩:=Ah7 (k:=.u64) (by kernel_rfl) (by kernel_rfl) h3;obtain⟨hgt,rfl,_⟩:=Ah7 (k:=.i64) (by kernel_rfl) (by kernel_rfl) h4;clear h0 h1 h2 h3 h4 k1;refine⟨20000,20,?_⟩;refine (Qu 20000 19 m.ver m.iss m.nxt m.ents.length (B0 m.ents) m.sig.leaf m.sig.chains.length (Ad .u64 m.sig.chains) m.sig.path.length (Ad .u64 m.sig.path) kh kr l.length (Ad .i64 l) seed hgt).trans ?_
 have aw:=Ak8 (fu:=20000) (d:=5) (by omega);obtain⟨b,hb,sm⟩:=Akk (fu:=20000) (d:=18) (by omega) m;cases b
 ·simp only[Md.cells] at sm
  repeat(with_reducible(first|apply Al|apply Af|apply Ak|apply As|apply A7|apply Ay|apply Kt|apply Ag|apply Aj|apply Do);· first|constructor|(simp(disch:=omega)only[Dp,sm,aw,Ll]<;>first|constructor|omega)|omega)
  try simp(disch:=omega)only[Aa,sm,aw,Ll]
  all_goals rfl
 have nq:=Azj (fu:=20000) (d:=18) (l:=l);obtain⟨x,j,hx,xe⟩:=An9 (fu:=20000) (d:=5) (by omega) hl 0;obtain⟨r0,r00,r01,md⟩:=Agq hgt 7 (by omega) (by omega);obtain⟨v0,j0,v00,v01,n0⟩:=H7 hl j 3 (by omega) (by omega);have md:=md (fu:=20000) (d:=18);have n0:=n0 (fu:=20000) (d:=17);have c3:(decide ((0:Int)<=v0)&&decide (v0<3))=true:=by simp;omega
 obtain⟨hh,gh⟩:∃hh:Int,List.getD [PV.sc (Value.int IntKind.i64 hgt),PV.sc (Value.int IntKind.i64 (wrap IntKind.i64 (r0-1))),PV.sc (Value.int IntKind.i64 (4:Int))] ((0:Nat)+Int.toNat v0*(1:Nat)) PV.top=Ao hh:=by
  have:v0=0\/v0=1\/v0=2:=by omega
  rcases this with rfl|rfl|rfl
  ·exact⟨_,rfl⟩
  ·exact⟨_,rfl⟩
  ·exact⟨_,rfl⟩
 have sp:=Adc (fu:=20000) (d:=8) (m:=x) (by omega) hx.ok.wf seed hh;have sg:=Akr (fu:=20000) (d:=6) (m:=x) (by omega) hx.ok.wf seed hh;obtain⟨s1,s2,s3,_⟩:=Abz hx.ok seed hh;have sh:=Alc hx.shrt hx.ok seed hh;have sa:=Acd (fu:=20000) (d:=16) (m:=(Nm x seed hh).1) (by omega) sh (by omega) (by omega);obtain⟨r5,r50,r51,m5⟩:=Agq hh 5 (by omega) (by omega);have m5:=m5 (fu:=20000) (d:=18);have ky:=Anp (fu:=20000) (d:=6) (by omega) seed r5;obtain⟨v1,j1,v10,v11,n1⟩:=H7 hl j0 4 (by omega) (by omega);have n1:=n1 (fu:=20000) (d:=17);have p1:=BB (fu:=20000) (d:=8) (m:=m) (by omega) hm.wf ⟨kh,kr⟩;have p2:=AD (fu:=20000) (d:=11) (m:=m) (by omega) hm.wf ⟨kh,kr⟩;generalize (Nm x seed hh).2=er at *
 generalize (Nm x seed hh).1=y at *
 generalize Xd seed r5=K at *
 have p3:=BB (fu:=20000) (d:=8) (m:=y) (by omega) s1.wf K;have p4:=AD (fu:=20000) (d:=11) (m:=y) (by omega) s1.wf K;have q1:∀l:Int,(l==l)=true:=fun l=>beq_self_eq_true l;have z0:((0:Nat):Int)=0:=rfl;have h4:v1=0\/v1=1\/v1=2\/v1=3:=by omega
 rcases h4 with rfl|rfl|rfl|rfl
 ·have p5:=BB (fu:=20000) (d:=8) (m:=⟨wrap .i64 (y.ver+1),y.iss,y.nxt,y.ents,y.sig⟩) (by omega) ⟨s1.wf.mod⟩ K;have p6:=AD (fu:=20000) (d:=11) (m:=⟨wrap .i64 (y.ver+1),y.iss,y.nxt,y.ents,y.sig⟩) (by omega) ⟨s1.wf.mod⟩ K;generalize JA _ K=e1 at p5 p6;simp only[Md.cells,YW,Ky.cells] at sm nq xe sp sg sa ky n0 n1 p1 p2 p3 p4 p5 p6;rw[z0] at nq xe
  repeat(with_reducible(first|apply Al|apply Af|apply Ak|apply As|apply A7|apply Ay|apply Kt|apply Ag|apply Aj|apply Do);· first|constructor|(simp(disch:=omega)only[Dp,sm,aw,nq,xe,md,n0,c3,gh,sp,sg,m5,ky,n1,sa,p1,p2,p3,p4,p5,p6,q1,Dx,Int.reduceBEq]<;>first|constructor|omega)|omega)
  try simp(disch:=omega)only[Aa,sm,aw,nq,xe,md,n0,c3,gh,sp,sg,m5,ky,n1,sa,p1,p2,p3,p4,p5,p6,q1,Dx,Int.reduceBEq]
  rw[D8 (Ld:=by omega)]
  repeat(with_reducible(first|apply Al|apply Af|apply Ak|apply As|apply A7|apply Ay|apply Kt|apply Ag|apply Aj|apply Do);· first|constructor|(simp(disch:=omega)only[Dp,sm,aw,nq,xe,md,n0,c3,gh,sp,sg,m5,ky,n1,sa,p1,p2,p3,p4,p5,p6,q1,Dx,Int.reduceBEq]<;>first|constructor|omega)|omega)
  try simp(disch:=omega)only[Aa,sm,aw,nq,xe,md,n0,c3,gh,sp,sg,m5,ky,n1,sa,p1,p2,p3,p4,p5,p6,q1,Dx,Int.reduceBEq]
  rw[D7 (Ld:=by omega)]
  repeat(with_reducible(first|apply Al|apply Af|apply Ak|apply As|apply A7|apply Ay|apply Kt|apply Ag|apply Aj|apply Do);· first|constructor|(simp(disch:=omega)only[Dp,sm,aw,nq,xe,md,n0,c3,gh,sp,sg,m5,ky,n1,sa,p1,p2,p3,p4,p5,p6,q1,Dx,Int.reduceBEq]<;>first|constructor|omega)|omega)
  try simp(disch:=omega)only[Aa,sm,aw,nq,xe,md,n0,c3,gh,sp,sg,m5,ky,n1,sa,p1,p2,p3,p4,p5,p6,q1,Dx,Int.reduceBEq]
  all_goals rfl
 ·have p5:=BB (fu:=20000) (d:=8) (m:=⟨y.ver,y.iss,y.nxt,y.ents,⟨wrap .i64 (y.sig.leaf+1),y.sig.chains,y.sig.path⟩⟩) (by omega) ⟨s1.wf.mod⟩ K;have p6:=AD (fu:=20000) (d:=11) (m:=⟨y.ver,y.iss,y.nxt,y.ents,⟨wrap .i64 (y.sig.leaf+1),y.sig.chains,y.sig.path⟩⟩) (by omega) ⟨s1.wf.mod⟩ K;generalize JA _ K=e1 at p5 p6;simp only[Md.cells,YW,Ky.cells] at sm nq xe sp sg sa ky n0 n1 p1 p2 p3 p4 p5 p6;rw[z0] at nq xe
  repeat(with_reducible(first|apply Al|apply Af|apply Ak|apply As|apply A7|apply Ay|apply Kt|apply Ag|apply Aj|apply Do);· first|constructor|(simp(disch:=omega)only[Dp,sm,aw,nq,xe,md,n0,c3,gh,sp,sg,m5,ky,n1,sa,p1,p2,p3,p4,p5,p6,q1,Dx,Int.reduceBEq]<;>first|constructor|omega)|omega)
  try simp(disch:=omega)only[Aa,sm,aw,nq,xe,md,n0,c3,gh,sp,sg,m5,ky,n1,sa,p1,p2,p3,p4,p5,p6,q1,Dx,Int.reduceBEq]
  rw[D8 (Ld:=by omega)]
  repeat(with_reducible(first|apply Al|apply Af|apply Ak|apply As|apply A7|apply Ay|apply Kt|apply Ag|apply Aj|apply Do);· first|constructor|(simp(disch:=omega)only[Dp,sm,aw,nq,xe,md,n0,c3,gh,sp,sg,m5,ky,n1,sa,p1,p2,p3,p4,p5,p6,q1,Dx,Int.reduceBEq]<;>first|constructor|omega)|omega)
  try simp(disch:=omega)only[Aa,sm,aw,nq,xe,md,n0,c3,gh,sp,sg,m5,ky,n1,sa,p1,p2,p3,p4,p5,p6,q1,Dx,Int.reduceBEq]
  rw[D7 (Ld:=by omega)]
  repeat(with_reducible(first|apply Al|apply Af|apply Ak|apply As|apply A7|apply Ay|apply Kt|apply Ag|apply Aj|apply Do);· first|constructor|(simp(disch:=omega)only[Dp,sm,aw,nq,xe,md,n0,c3,gh,sp,sg,m5,ky,n1,sa,p1,p2,p3,p4,p5,p6,q1,Dx,Int.reduceBEq]<;>first|constructor|omega)|omega)
  try simp(disch:=omega)only[Aa,sm,aw,nq,xe,md,n0,c3,gh,sp,sg,m5,ky,n1,sa,p1,p2,p3,p4,p5,p6,q1,Dx,Int.reduceBEq]
  all_goals rfl
 ·have p5:=BB (fu:=20000) (d:=8) (m:=⟨y.ver,y.iss,wrap .i64 (y.nxt+1),y.ents,y.sig⟩) (by omega) ⟨s1.wf.mod⟩ K;have p6:=AD (fu:=20000) (d:=11) (m:=⟨y.ver,y.iss,wrap .i64 (y.nxt+1),y.ents,y.sig⟩) (by omega) ⟨s1.wf.mod⟩ K;generalize JA _ K=e1 at p5 p6;simp only[Md.cells,YW,Ky.cells] at sm nq xe sp sg sa ky n0 n1 p1 p2 p3 p4 p5 p6;rw[z0] at nq xe
  repeat(with_reducible(first|apply Al|apply Af|apply Ak|apply As|apply A7|apply Ay|apply Kt|apply Ag|apply Aj|apply Do);· first|constructor|(simp(disch:=omega)only[Dp,sm,aw,nq,xe,md,n0,c3,gh,sp,sg,m5,ky,n1,sa,p1,p2,p3,p4,p5,p6,q1,Dx,Int.reduceBEq]<;>first|constructor|omega)|omega)
  try simp(disch:=omega)only[Aa,sm,aw,nq,xe,md,n0,c3,gh,sp,sg,m5,ky,n1,sa,p1,p2,p3,p4,p5,p6,q1,Dx,Int.reduceBEq]
  rw[D8 (Ld:=by omega)]
  repeat(with_reducible(first|apply Al|apply Af|apply Ak|apply As|apply A7|apply Ay|apply Kt|apply Ag|apply Aj|apply Do);· first|constructor|(simp(disch:=omega)only[Dp,sm,aw,nq,xe,md,n0,c3,gh,sp,sg,m5,ky,n1,sa,p1,p2,p3,p4,p5,p6,q1,Dx,Int.reduceBEq]<;>first|constructor|omega)|omega)
  try simp(disch:=omega)only[Aa,sm,aw,nq,xe,md,n0,c3,gh,sp,sg,m5,ky,n1,sa,p1,p2,p3,p4,p5,p6,q1,Dx,Int.reduceBEq]
  rw[D7 (Ld:=by omega)]
  repeat(with_reducible(first|apply Al|apply Af|apply Ak|apply As|apply A7|apply Ay|apply Kt|apply Ag|apply Aj|apply Do);· first|constructor|(simp(disch:=omega)only[Dp,sm,aw,nq,xe,md,n0,c3,gh,sp,sg,m5,ky,n1,sa,p1,p2,p3,p4,p5,p6,q1,Dx,Int.reduceBEq]<;>first|constructor|omega)|omega)
  try simp(disch:=omega)only[Aa,sm,aw,nq,xe,md,n0,c3,gh,sp,sg,m5,ky,n1,sa,p1,p2,p3,p4,p5,p6,q1,Dx,Int.reduceBEq]
  all_goals rfl
 ·simp only[Md.cells,YW,Ky.cells] at sm nq xe sp sg sa ky n0 n1 p1 p2 p3 p4;rw[z0] at nq xe
  repeat(with_reducible(first|apply Al|apply Af|apply Ak|apply As|apply A7|apply Ay|apply Kt|apply Ag|apply Aj|apply Do);· first|constructor|(simp(disch:=omega)only[Dp,sm,aw,nq,xe,md,n0,c3,gh,sp,sg,m5,ky,n1,sa,p1,p2,p3,p4,q1,Dx,Int.reduceBEq]<;>first|constructor|omega)|omega)
  try simp(disch:=omega)only[Aa,sm,aw,nq,xe,md,n0,c3,gh,sp,sg,m5,ky,n1,sa,p1,p2,p3,p4,q1,Dx,Int.reduceBEq]
  rw[D8 (Ld:=by omega)]
  repeat(with_reducible(first|apply Al|apply Af|apply Ak|apply As|apply A7|apply Ay|apply Kt|apply Ag|apply Aj|apply Do);· first|constructor|(simp(disch:=omega)only[Dp,sm,aw,nq,xe,md,n0,c3,gh,sp,sg,m5,ky,n1,sa,p1,p2,p3,p4,q1,Dx,Int.reduceBEq]<;>first|constructor|omega)|omega)
  try simp(disch:=omega)only[Aa,sm,aw,nq,xe,md,n0,c3,gh,sp,sg,m5,ky,n1,sa,p1,p2,p3,p4,q1,Dx,Int.reduceBEq]
  rw[D7 (Ld:=by omega)]
  repeat(with_reducible(first|apply Al|apply Af|apply Ak|apply As|apply A7|apply Ay|apply Kt|apply Ag|apply Aj|apply Do);· first|constructor|(simp(disch:=omega)only[Dp,sm,aw,nq,xe,md,n0,c3,gh,sp,sg,m5,ky,n1,sa,p1,p2,p3,p4,q1,Dx,Int.reduceBEq]<;>first|constructor|omega)|omega)
  try simp(disch:=omega)only[Aa,sm,aw,nq,xe,md,n0,c3,gh,sp,sg,m5,ky,n1,sa,p1,p2,p3,p4,q1,Dx,Int.reduceBEq]
  all_goals rfl
section
open Go Go.RowKit
def sL:Code->Code
 |.seq a _=>a
 |c=>c
def sR:Code->Code
 |.seq _ b=>b
 |c=>c
def sB:Code->Code
 |.block _ c=>c
 |.loop c=>c
 |c=>c
def sF:Code->Code
 |.rangeFunc _ _ _ b=>b
 |c=>c
def sA:Code->Code
 |.rangeFunc _ _ a _=>a
 |c=>c
def Hj:Code->Array Oper
 |.region _ ops _=>ops
 |_=> #[]
abbrev FK:Code:=RI Tryz.f113
abbrev SF:Code:=RI Tryz.f36
def CS:Jm:={ CB with shr:=fun _=>true }
abbrev LN(N:Nat)(call:Bi)(c:Code)(L:Nat)(s:St):Option (Nat × St):=
 Nf CB prog 2000 N call c L (fun _=>L) 0 (fun s=>Jg N L s fun s'=>some (0,s')) (fun id s=>Jg N L s fun s'=>some (id+1,s')) (fun _=>none) s
section
variable {N:Nat}{w0:World}{X0:F6}{Y:Nat->Prop}{β:Bt}{s s1:St}{a:Act}{w:World}
theorem Dh{G:Vs}(Jz:MD prog G w0 X0)(hm:prog.follows .mixedOrders=true){call:Bi}(C6:∀f args res,call f args=some res->C7 G prog f args res){c:Code}{L t:Nat}{Q:Exit->Act->World->Prop}(h:B9 N w0 X0 Y β s a w)(hk:LN N call c L s=some (t,s1))(hQ:∀a' w' β',B9 N w0 X0 Y β' s1 a' w'->match t with|0=>Q .normal a' w'|id+1=>Q (.exit id) a' w'):c.wp prog Q a w:=by
 refine EM Jz C6 hm c h hk (fun s' a' w' β' h1 h2=>?_) (fun id s' a' w' β' h1 h2=>?_) (fun s' a' w' β' h1 h2=>by cases h1)
 ·obtain⟨β1,s2,h3,h4⟩:=Cb h2 h1;cases h3;exact hQ _ _ _ h4
 ·obtain⟨β1,s2,h3,h4⟩:=Cb h2 h1;cases h3;exact hQ _ _ _ h4
theorem DN{G:Vs}(Jz:MD prog G w0 X0)(hm:prog.follows .mixedOrders=true){call:Bi}(C6:∀f args res,call f args=some res->C7 G prog f args res){ro:Option Nat}{n:Nat}{c:Code}(ho:okR c=true){L t:Nat}{Q:Exit->Act->World->Prop}(DV:∀a w,¬Q .outgrown a w)(h:B9 N w0 X0 Y β s a w)(hk:LN N call c L s=some (t,s1))(hQ:∀a' w' β',B9 N w0 X0 Y β' s1 a' w'->match t with|0=>Q .normal a' w'|id+1=>Q (.exit id) a' w'):c.wpIn (WF ro) n prog Q a w:=by
 refine KY Jz C6 hm c ho DV h hk (fun s' a' w' β' h1 h2=>?_) (fun id s' a' w' β' h1 h2=>?_) (fun s' a' w' β' h1 h2=>by cases h1)
 ·obtain⟨β1,s2,h3,h4⟩:=Cb h2 h1;cases h3;exact hQ _ _ _ h4
 ·obtain⟨β1,s2,h3,h4⟩:=Cb h2 h1;cases h3;exact hQ _ _ _ h4
end
end
theorem A0h(call:Bi)(yv:Value)(h seed:Int):LN 63 call (sL FK) 23 ⟨lk [(0,.sc yv),(1,.iptr [Ao h] 0),(2,.iptr [Ac seed] 0)],Bq []⟩=(
 At (decide ((0:Int)<=h)) <|
 Aa (Iy IntKind.i64 (1:Int) h) fun x1=>
 At (decide ((0:Int)<=x1)&&decide (x1<=x1)&&decide (x1*(8:Int)<=(1099511627776:Int))&&decide (x1<=(1099511627776:Int))) <|
 some (0,⟨lk [(0,(.sc (yv))),(1,(.iptr ([PV.sc (Value.int IntKind.i64 h)]) ((0:Nat)))),(2,(.iptr ([PV.sc (Value.int IntKind.u64 seed)]) ((0:Nat)))),(4,(.view 4 1 0 (Int.toNat x1)))],Bq [(4,(.ar false (V5 (Int.toNat x1) [PV.sc (Value.int IntKind.u64 (0:Int))])))]⟩)):=by kernel_rfl
theorem Azm(call:Bi)(yv:Value)(h seed:Int)(n:Nat)(c:Ab):LN 63 call (sL (sL (sR FK))) 24599 ⟨lk [(0,.sc yv),(1,.iptr [Ao h] 0),(2,.iptr [Ac seed] 0),(4,.view 4 1 0 n)],Bq [(4,.ar false c)]⟩=(
 some (0,⟨lk [(0,(.sc (yv))),(1,(.iptr ([PV.sc (Value.int IntKind.i64 h)]) ((0:Nat)))),(2,(.iptr ([PV.sc (Value.int IntKind.u64 seed)]) ((0:Nat)))),(4,(.view 4 1 0 (n))),(13,(Ao ((↑n:Int)))),(14,(Ao ((0:Int))))],Bq [(4,(.ar false (c)))]⟩)):=by kernel_rfl
theorem Ar0(call:Bi)(yv:Value)(h seed m i:Int)(n:Nat)(c:Ab):LN 63 call (sB (sB (sR (sL (sR FK))))) 24599 ⟨lk [(0,.sc yv),(1,.iptr [Ao h] 0),(2,.iptr [Ac seed] 0),(4,.view 4 1 0 n),(13,Ao m),(14,Ao i)],Bq [(4,.ar false c)]⟩=(
  Bd (decide (i<m))
   (
   Bk (call (114:Nat) [PV.sc (Value.int IntKind.u64 seed),PV.sc (Value.int IntKind.i64 i)]) fun x1 x2=>
   Aq (x2) <|
   Av (x1) fun x3 x4=>
   A8 (IntKind.u64) (x3) fun x5=>
   Aq (x4) <|
   At (decide ((0:Int)<=i)&&decide (i<(↑n:Int))) <|
   At (decide ((0:Nat)+Int.toNat i*(1:Nat)+(1:Nat)<=List.length c)) <|
   Aa (Bp c [PV.sc (Value.int IntKind.u64 x5)] ((0:Nat)+Int.toNat i*(1:Nat))) fun x6=>
   Aa (wrap IntKind.i64 (i+(1:Int))) fun x7=>
   some (0,⟨lk [(0,(.sc (yv))),(1,(.iptr ([PV.sc (Value.int IntKind.i64 h)]) ((0:Nat)))),(2,(.iptr ([PV.sc (Value.int IntKind.u64 seed)]) ((0:Nat)))),(4,(.view 4 1 0 (n))),(13,(Ao (m))),(14,(Ao (x7)))],Bq [(4,(.ar false (x6)))]⟩))
   (
   some (1,⟨lk [(0,(.sc (yv))),(1,(.iptr ([PV.sc (Value.int IntKind.i64 h)]) ((0:Nat)))),(2,(.iptr ([PV.sc (Value.int IntKind.u64 seed)]) ((0:Nat)))),(4,(.view 4 1 0 (n))),(13,(Ao (m))),(14,(Ao (i)))],Bq [(4,(.ar false (c)))]⟩))):=by kernel_rfl
theorem Ax0(call:Bi)(yv:Value)(h seed m i:Int)(n:Nat)(c:Ab):LN 63 call (sL (sR (sR FK))) 87 ⟨lk [(0,.sc yv),(1,.iptr [Ao h] 0),(2,.iptr [Ac seed] 0),(4,.view 4 1 0 n),(13,Ao m),(14,Ao i)],Bq [(4,.ar false c)]⟩=(
 some (0,⟨lk [(0,(.sc (yv))),(1,(.iptr ([PV.sc (Value.int IntKind.i64 h)]) ((0:Nat)))),(2,(.iptr ([PV.sc (Value.int IntKind.u64 seed)]) ((0:Nat)))),(4,(.view 4 1 0 (n))),(6,(Ao ((0:Int))))],Bq [(4,(.ar false (c)))]⟩)):=by kernel_rfl
theorem Az3(call:Bi)(yv:Value)(h seed k:Int)(n:Nat)(c:Ab):LN 63 call (sL (sB (sL (sR (sB (sB (sR (sR (sR FK))))))))) 215 ⟨lk [(0,.sc yv),(1,.iptr [Ao h] 0),(2,.iptr [Ac seed] 0),(4,.view 4 1 0 n),(6,Ao k)],Bq [(4,.ar false c)]⟩=(
 Aa (wrap IntKind.i64 (Int.tdiv (↑n:Int) (2:Int))) fun x1=>
 At (decide ((0:Int)<=x1)&&decide (x1<=x1)&&decide (x1*(8:Int)<=(1099511627776:Int))&&decide (x1<=(1099511627776:Int))) <|
 some (0,⟨lk [(0,(.sc (yv))),(1,(.iptr ([PV.sc (Value.int IntKind.i64 h)]) ((0:Nat)))),(2,(.iptr ([PV.sc (Value.int IntKind.u64 seed)]) ((0:Nat)))),(4,(.view 4 1 0 (n))),(6,(Ao (k))),(7,(.view 7 1 0 (Int.toNat x1)))],Bq [(4,(.ar false (c))),(7,(.ar false (V5 (Int.toNat x1) [PV.sc (Value.int IntKind.u64 (0:Int))])))]⟩)):=by kernel_rfl
theorem Az2(call:Bi)(yv:Value)(h seed k:Int)(n m:Nat)(c e:Ab):LN 63 call (sL (sL (sR (sB (sL (sR (sB (sB (sR (sR (sR FK))))))))))) 3298534883543 ⟨lk [(0,.sc yv),(1,.iptr [Ao h] 0),(2,.iptr [Ac seed] 0),(4,.view 4 1 0 n),(6,Ao k),(7,.view 7 1 0 m)],Bq [(4,.ar false c),(7,.ar false e)]⟩=(
 some (0,⟨lk [(0,(.sc (yv))),(1,(.iptr ([PV.sc (Value.int IntKind.i64 h)]) ((0:Nat)))),(2,(.iptr ([PV.sc (Value.int IntKind.u64 seed)]) ((0:Nat)))),(4,(.view 4 1 0 (n))),(6,(Ao (k))),(7,(.view 7 1 0 (m))),(40,(Ao ((↑m:Int)))),(41,(Ao ((0:Int))))],Bq [(4,(.ar false (c))),(7,(.ar false (e)))]⟩)):=by kernel_rfl
theorem Ape(call:Bi)(yv:Value)(h seed k p i:Int)(n m:Nat)(c e:Ab):LN 63 call (sB (sB (sR (sL (sR (sB (sL (sR (sB (sB (sR (sR (sR FK))))))))))))) 3298534883543 ⟨lk [(0,.sc yv),(1,.iptr [Ao h] 0),(2,.iptr [Ac seed] 0),(4,.view 4 1 0 n),(6,Ao k),(7,.view 7 1 0 m),(40,Ao p),(41,Ao i)],Bq [(4,.ar false c),(7,.ar false e)]⟩=(
  Bd (decide (i<p))
   (
   Aa (wrap IntKind.i64 (k+(1:Int))) fun x1=>
   Aa (wrap IntKind.i64 ((2:Int)*i)) fun x2=>
   At (decide ((0:Int)<=x2)&&decide (x2<(↑n:Int))) <|
   A8 (IntKind.u64) (List.getD c ((0:Nat)+Int.toNat x2*(1:Nat)) PV.top) fun x3=>
   Aa (wrap IntKind.i64 ((2:Int)*i)) fun x4=>
   Aa (wrap IntKind.i64 (x4+(1:Int))) fun x5=>
   At (decide ((0:Int)<=x5)&&decide (x5<(↑n:Int))) <|
   A8 (IntKind.u64) (List.getD c ((0:Nat)+Int.toNat x5*(1:Nat)) PV.top) fun x6=>
   Bk (call (76:Nat) [PV.sc (Value.int IntKind.i64 x1),PV.sc (Value.int IntKind.u64 x3),PV.sc (Value.int IntKind.u64 x6)]) fun x7 x8=>
   Aq (x8) <|
   Av (x7) fun x9 x10=>
   A8 (IntKind.u64) (x9) fun x11=>
   Aq (x10) <|
   At (decide ((0:Int)<=i)&&decide (i<(↑m:Int))) <|
   At (decide ((0:Nat)+Int.toNat i*(1:Nat)+(1:Nat)<=List.length e)) <|
   Aa (Bp e [PV.sc (Value.int IntKind.u64 x11)] ((0:Nat)+Int.toNat i*(1:Nat))) fun x12=>
   Aa (wrap IntKind.i64 (i+(1:Int))) fun x13=>
   some (0,⟨lk [(0,(.sc (yv))),(1,(.iptr ([PV.sc (Value.int IntKind.i64 h)]) ((0:Nat)))),(2,(.iptr ([PV.sc (Value.int IntKind.u64 seed)]) ((0:Nat)))),(4,(.view 4 1 0 (n))),(6,(Ao (k))),(7,(.view 7 1 0 (m))),(40,(Ao (p))),(41,(Ao (x13)))],Bq [(4,(.ar false (c))),(7,(.ar false (x12)))]⟩))
   (
   some (5,⟨lk [(0,(.sc (yv))),(1,(.iptr ([PV.sc (Value.int IntKind.i64 h)]) ((0:Nat)))),(2,(.iptr ([PV.sc (Value.int IntKind.u64 seed)]) ((0:Nat)))),(4,(.view 4 1 0 (n))),(6,(Ao (k))),(7,(.view 7 1 0 (m))),(40,(Ao (p))),(41,(Ao (i)))],Bq [(4,(.ar false (c))),(7,(.ar false (e)))]⟩))):=by kernel_rfl
theorem A0m(call:Bi)(yv:Value)(h seed k p i:Int)(n m:Nat)(c e:Ab):LN 63 call (sR (sR (sB (sL (sR (sB (sB (sR (sR (sR FK)))))))))) 87 ⟨lk [(0,.sc yv),(1,.iptr [Ao h] 0),(2,.iptr [Ac seed] 0),(4,.view 4 1 0 n),(6,Ao k),(7,.view 7 1 0 m),(40,Ao p),(41,Ao i)],Bq [(4,.ar false c),(7,.ar false e)]⟩=(
 some (0,⟨lk [(0,(.sc (yv))),(1,(.iptr ([PV.sc (Value.int IntKind.i64 h)]) ((0:Nat)))),(2,(.iptr ([PV.sc (Value.int IntKind.u64 seed)]) ((0:Nat)))),(4,(.view 4 1 0 (m))),(6,(Ao (k)))],Bq [(4,(.ar false (e)))]⟩)):=by kernel_rfl
theorem Ax8(call:Bi)(yv:Value)(h seed k:Int)(n:Nat)(c:Ab):LN 63 call (sR (sR (sB (sB (sR (sR (sR FK))))))) 87 ⟨lk [(0,.sc yv),(1,.iptr [Ao h] 0),(2,.iptr [Ac seed] 0),(4,.view 4 1 0 n),(6,Ao k)],Bq [(4,.ar false c)]⟩=(
 Aa (wrap IntKind.i64 (k+(1:Int))) fun x1=>
 some (0,⟨lk [(0,(.sc (yv))),(1,(.iptr ([PV.sc (Value.int IntKind.i64 h)]) ((0:Nat)))),(2,(.iptr ([PV.sc (Value.int IntKind.u64 seed)]) ((0:Nat)))),(4,(.view 4 1 0 (n))),(6,(Ao (x1)))],Bq [(4,(.ar false (c)))]⟩)):=by kernel_rfl
theorem Az8(call:Bi)(yv:Value)(h seed k:Int)(n:Nat)(c:Ab):Lj CB prog 63 call (Hj (sL (sL (sB (sB (sR (sR (sR FK)))))))) (List.take 3 (Hj (sL (sL (sB (sB (sR (sR (sR FK)))))))).toList) ⟨lk [(0,.sc yv),(1,.iptr [Ao h] 0),(2,.iptr [Ac seed] 0),(4,.view 4 1 0 n),(6,Ao k)],Bq [(4,.ar false c)]⟩ (fun s=>Jg 63 117440599 s fun s'=>some (0,s'))=(
 some (0,⟨lk [(0,(.sc (yv))),(1,(.iptr ([PV.sc (Value.int IntKind.i64 h)]) ((0:Nat)))),(2,(.iptr ([PV.sc (Value.int IntKind.u64 seed)]) ((0:Nat)))),(4,(.view 4 1 0 (n))),(6,(Ao (k))),(24,(.sc (yv))),(25,(Ao (k))),(26,(.view 4 1 0 (n)))],Bq [(4,(.ar false (c)))]⟩)):=by kernel_rfl
theorem Avt(call:Bi)(yv:Value)(h seed k:Int)(n:Nat)(c:Ab):Lj CB prog 63 call (Hj (sL (sL (sB (sB (sR (sR (sR FK)))))))) (List.drop 4 (Hj (sL (sL (sB (sB (sR (sR (sR FK)))))))).toList) ⟨lk [(0,.sc yv),(1,.iptr [Ao h] 0),(2,.iptr [Ac seed] 0),(4,.view 4 1 0 n),(6,Ao k),(27,.sc (.bool true))],Bq [(4,.ar false c)]⟩ (fun s=>Jg 63 4294967383 s fun s'=>some (0,s'))=(
 some (0,⟨lk [(0,(.sc (yv))),(1,(.iptr ([PV.sc (Value.int IntKind.i64 h)]) ((0:Nat)))),(2,(.iptr ([PV.sc (Value.int IntKind.u64 seed)]) ((0:Nat)))),(4,(.view 4 1 0 (n))),(6,(Ao (k))),(32,(.sc (.bool (decide (k<h)))))],Bq [(4,(.ar false (c)))]⟩)):=by kernel_rfl
theorem Auk(call:Bi)(yv:Value)(h seed k:Int)(n:Nat)(c:Ab):Lj CB prog 63 call (Hj (sL (sL (sB (sB (sR (sR (sR FK)))))))) (List.drop 4 (Hj (sL (sL (sB (sB (sR (sR (sR FK)))))))).toList) ⟨lk [(0,.sc yv),(1,.iptr [Ao h] 0),(2,.iptr [Ac seed] 0),(4,.view 4 1 0 n),(6,Ao k),(27,.sc (.bool false))],Bq [(4,.ar false c)]⟩ (fun s=>Jg 63 4294967383 s fun s'=>some (0,s'))=(
 some (0,⟨lk [(0,(.sc (yv))),(1,(.iptr ([PV.sc (Value.int IntKind.i64 h)]) ((0:Nat)))),(2,(.iptr ([PV.sc (Value.int IntKind.u64 seed)]) ((0:Nat)))),(4,(.view 4 1 0 (n))),(6,(Ao (k))),(32,(.sc (.bool (false))))],Bq [(4,(.ar false (c)))]⟩)):=by kernel_rfl
theorem Aos(call:Bi)(yv:Value)(h seed k:Int)(n:Nat)(c:Ab)(q:Bool):LN 63 call (sR (sL (sB (sB (sR (sR (sR FK))))))) 87 ⟨lk [(0,.sc yv),(1,.iptr [Ao h] 0),(2,.iptr [Ac seed] 0),(4,.view 4 1 0 n),(6,Ao k),(32,.sc (.bool q))],Bq [(4,.ar false c)]⟩=(
  Bd (q)
   (
   some (0,⟨lk [(0,(.sc (yv))),(1,(.iptr ([PV.sc (Value.int IntKind.i64 h)]) ((0:Nat)))),(2,(.iptr ([PV.sc (Value.int IntKind.u64 seed)]) ((0:Nat)))),(4,(.view 4 1 0 (n))),(6,(Ao (k)))],Bq [(4,(.ar false (c)))]⟩))
   (
   some (3,⟨lk [(0,(.sc (yv))),(1,(.iptr ([PV.sc (Value.int IntKind.i64 h)]) ((0:Nat)))),(2,(.iptr ([PV.sc (Value.int IntKind.u64 seed)]) ((0:Nat)))),(4,(.view 4 1 0 (n))),(6,(Ao (k)))],Bq [(4,(.ar false (c)))]⟩))):=by kernel_rfl
theorem Ax6(call:Bi)(seed h leaf m:Int):LN 48 call (sL SF) 873 ⟨lk [(0,Ac seed),(1,Ao h),(2,Ao leaf),(3,Ac m)],Bq []⟩=(
 some (0,⟨lk [(0,(Ac (seed))),(3,(Ac (m))),(5,(.ptr 5 0)),(6,(.ptr 6 0)),(8,(.ptr 8 0)),(9,(Ao ((0:Int))))],Bq [(5,(.st [(Ao (h))])),(6,(.st [(Ao (leaf))])),(8,(.st [(Ao ((0:Int))),(.view 104 1 0 ((0:Nat))),(.view 152 1 0 ((0:Nat)))])),(104,(.ar false ([]))),(152,(.ar false ([])))]⟩)):=by kernel_rfl
theorem A0p(call:Bi)(seed h leaf m:Int):LN 48 call (sL (sR SF)) 873 ⟨lk [(0,Ac seed),(3,Ac m),(5,.ptr 5 0),(6,.ptr 6 0),(8,.ptr 8 0),(9,Ao 0)],Bq [(5,.st [Ao h]),(6,.st [Ao leaf]),(8,.st [Ao 0,.view 104 1 0 0,.view 152 1 0 0]),(104,.ar false []),(152,.ar false [])]⟩=(
  Bk (call (67:Nat) [PV.sc (Value.int IntKind.i64 h)]) fun x1 x2=>
  Aq (x2) <|
  Av (x1) fun x3 x4=>
  Co (x3) fun x5=>
  Aq (x4) <|
  Bd (x5)
   (
   none)
   (
   Bk (call (68:Nat) [PV.sc (Value.int IntKind.i64 leaf),PV.sc (Value.int IntKind.i64 h)]) fun x6 x7=>
   Aq (x7) <|
   Av (x6) fun x8 x9=>
   Co (x8) fun x10=>
   Aq (x9) <|
   Bd (x10)
    (
    none)
    (
    some (0,⟨lk [(0,(Ac (seed))),(3,(Ac (m))),(5,(.ptr 5 0)),(6,(.ptr 6 0)),(8,(.ptr 8 0)),(9,(Ao ((0:Int))))],Bq [(5,(.st [(Ao (h))])),(6,(.st [(Ao (leaf))])),(8,(.st [(Ao ((0:Int))),(.view 104 1 0 ((0:Nat))),(.view 152 1 0 ((0:Nat)))])),(104,(.ar false ([]))),(152,(.ar false ([])))]⟩)))):=by kernel_rfl
theorem Aym(call:Bi)(seed h leaf m:Int):LN 48 call (sL (sR (sR SF))) 1897 ⟨lk [(0,Ac seed),(3,Ac m),(5,.ptr 5 0),(6,.ptr 6 0),(8,.ptr 8 0),(9,Ao 0)],Bq [(5,.st [Ao h]),(6,.st [Ao leaf]),(8,.st [Ao 0,.view 104 1 0 0,.view 152 1 0 0]),(104,.ar false []),(152,.ar false [])]⟩=(
 Bk (call (69:Nat) [PV.sc (Value.int IntKind.u64 seed),PV.sc (Value.int IntKind.i64 leaf),PV.sc (Value.int IntKind.u64 m)]) fun x1 x2=>
 Aq (x2) <|
 Av (x1) fun x3 x4=>
 Kn ((1:Nat)) (x3) fun x5 x6=>
 Aq (x4) <|
 some (0,⟨lk [(0,(Ac (seed))),(3,(Ac (m))),(5,(.ptr 5 0)),(6,(.ptr 6 0)),(8,(.ptr 8 0)),(9,(Ao ((0:Int)))),(10,(.ptr 10 0))],Bq [(5,(.st [(Ao (h))])),(6,(.st [(Ao (leaf))])),(8,(.st [(Ao ((0:Int))),(.view 104 1 0 ((0:Nat))),(.view 152 1 0 ((0:Nat)))])),(104,(.ar false ([]))),(152,(.ar false ([]))),(10,(.st [(Ao (leaf)),(.view 106 1 0 (x5)),(.view 154 1 0 ((0:Nat)))])),(106,(.ar false (x6))),(154,(.ar false ([])))]⟩)):=by kernel_rfl
theorem Aqg(call:Bi)(h leaf k:Int)(ch:Value)(n m:Nat)(c d:Ab):LN 48 call (sF (sB (sR (sL (sR (sR (sR SF))))))) 1024 ⟨lk [(5,.iptr [Ao h] 0),(6,.iptr [Ao leaf] 0),(10,.ptr 96000 0),(11,Ao k),(12,.lst false 1 n c)],Bq [(96000,.st [Ao leaf,.sc ch,.view 20 1 0 m]),(20,.ar false d)]⟩=(
  Bd (k==h)
   (
   some (1,⟨lk [(10,(.ptr 96000 0))],Bq [(96000,(.st [(Ao (leaf)),(.sc (ch)),(.view 96144 1 0 (m))])),(96144,(.ar false (d)))]⟩))
   (
   At (decide ((0:Int)<=k)) <|
   Aa (Ff IntKind.i64 leaf k) fun x1=>
   Aa (E6 IntKind.i64 x1 (1:Int)) fun x2=>
   At (decide ((0:Int)<=x2)&&decide (x2<(↑n:Int))) <|
   A8 (IntKind.u64) (List.getD c (Int.toNat x2*(1:Nat)) PV.top) fun x3=>
   At (decide (m*(1:Nat)<=List.length d)&&true&&decide ((m+(1:Nat))*(8:Nat)<=(1099511627776:Nat))&&decide (m+(1:Nat)<=(1099511627776:Nat))) <|
   Aa (m+(1:Nat)) fun x4=>
   Aa (List.take (m*(1:Nat)) d++[PV.sc (Value.int IntKind.u64 x3)]) fun x5=>
   some (0,⟨lk [(10,(.ptr 96000 0))],Bq [(96000,(.st [(Ao (leaf)),(.sc (ch)),(.view 96144 1 0 (x4))])),(96144,(.ar false (x5)))]⟩))):=by kernel_rfl
theorem Azb(call:Bi)(seed h leaf m:Int)(n:Nat)(c:Ab):Lj CB prog 48 call (Hj (sL (sL (sR (sR (sR SF)))))) (List.take 2 (Hj (sL (sL (sR (sR (sR SF)))))).toList) ⟨lk [(0,Ac seed),(3,Ac m),(5,.ptr 5 0),(6,.ptr 6 0),(8,.ptr 8 0),(9,Ao 0),(10,.ptr 10 0)],Bq [(5,.st [Ao h]),(6,.st [Ao leaf]),(8,.st [Ao 0,.view 104 1 0 0,.view 152 1 0 0]),(104,.ar false []),(152,.ar false []),(10,.st [Ao leaf,.view 106 1 0 n,.view 154 1 0 0]),(106,.ar false c),(154,.ar false [])]⟩ (fun s=>Jg 48 402655081 s fun s'=>some (0,s'))=(
 some (0,⟨lk [(0,(Ac (seed))),(3,(Ac (m))),(5,(.ptr 5 0)),(6,(.ptr 6 0)),(8,(.ptr 8 0)),(9,(Ao ((0:Int)))),(10,(.ptr 10 0)),(27,(Ac (seed))),(28,(Ao (h)))],Bq [(5,(.st [(Ao (h))])),(6,(.st [(Ao (leaf))])),(8,(.st [(Ao ((0:Int))),(.view 104 1 0 ((0:Nat))),(.view 152 1 0 ((0:Nat)))])),(104,(.ar false ([]))),(152,(.ar false ([]))),(10,(.st [(Ao (leaf)),(.view 106 1 0 (n)),(.view 154 1 0 ((0:Nat)))])),(106,(.ar false (c))),(154,(.ar false ([])))]⟩)):=by kernel_rfl
theorem Az0(call:Bi)(leaf:Int)(n1 n2:Nat)(c1 c2:Ab):Lj CB prog 48 call (Hj (sL (sR (sR (sR (sR SF)))))) (Hj (sL (sR (sR (sR (sR SF)))))).toList ⟨lk [(8,.ptr 96000 0),(9,Ao 0),(10,.iptr [Ao leaf,.lst false 1 n1 c1,.lst false 1 n2 c2] 0)],Bq [(96000,.st [.top,.top,.top])]⟩ (fun s=>Jg 48 768 s fun s'=>some (0,s'))=(
 some (0,⟨lk [(8,(.ptr 96000 0)),(9,(Ao ((0:Int))))],Bq [(96000,(.st [(Ao (leaf)),(.lst false 1 (n1) (c1)),(.lst false 1 (n2) (c2))]))]⟩)):=by kernel_rfl
theorem Azy(a0 a1 a2 a3 leaf:Int)(n1 n2:Nat)(c1 c2:Ab):Ad1 CS prog 36 Tryz.f36 [Ac a0,Ao a1,Ao a2,Ac a3] ⟨lk [(8,.ptr 96000 0),(9,Ao 0)],Bq [(96000,.st [Ao leaf,.lst false 1 n1 c1,.lst false 1 n2 c2])]⟩=(
 some (Dl.mk [PV.agg [PV.sc (Value.int IntKind.i64 leaf),PV.lst false (1:Nat) n1 c1,PV.lst false (1:Nat) n2 c2],PV.sc (Value.int IntKind.i64 (0:Int))] [])):=by kernel_rfl
theorem Ax1(call:Bi)(seed h leaf m:Int):Auy CS prog 2000 call 36 Tryz.f36 SF [Ac seed,Ao h,Ao leaf,Ac m]=(
  Bk (call (67:Nat) [PV.sc (Value.int IntKind.i64 h)]) fun x1 x2=>
  Aq (x2) <|
  Av (x1) fun x3 x4=>
  Co (x3) fun x5=>
  Aq (x4) <|
  Bd (x5)
   (
   some (Dl.mk [PV.agg [PV.sc (Value.int IntKind.i64 (0:Int)),PV.lst false (1:Nat) (0:Nat) [],PV.lst false (1:Nat) (0:Nat) []],PV.sc (Value.int IntKind.i64 (9:Int))] []))
   (
   Bk (call (68:Nat) [PV.sc (Value.int IntKind.i64 leaf),PV.sc (Value.int IntKind.i64 h)]) fun x6 x7=>
   Aq (x7) <|
   Av (x6) fun x8 x9=>
   Co (x8) fun x10=>
   Aq (x9) <|
   Bd (x10)
    (
    some (Dl.mk [PV.agg [PV.sc (Value.int IntKind.i64 (0:Int)),PV.lst false (1:Nat) (0:Nat) [],PV.lst false (1:Nat) (0:Nat) []],PV.sc (Value.int IntKind.i64 (9:Int))] []))
    (
    Bk (call (69:Nat) [PV.sc (Value.int IntKind.u64 seed),PV.sc (Value.int IntKind.i64 leaf),PV.sc (Value.int IntKind.u64 m)]) fun x11 x12=>
    Aq (x12) <|
    Av (x11) fun x13 x14=>
    M0 ((1:Nat)) (x13) fun x15 x16 x17=>
    Aq (x14) <|
    Bk (call (70:Nat) [PV.sc (Value.int IntKind.u64 seed),PV.sc (Value.int IntKind.i64 h)]) fun x18 x19=>
    Aq (x19) <|
    Av (x18) fun x20 x21=>
    fnK (x20) fun x22=>
    Aq (x21) <|
    none))):=by kernel_rfl
section
open Go Go.RowKit
def G1:Vs:=⟨fun _=>False,fun _=>True,fun _ _ _ _=>trivial⟩
def noX:FuncId->Option (Ab->Option Dl):=fun _=>none
theorem Az9:Aht G1 prog (CX noX):=by intro f g args res h _;have h':(bif GV.any (Nat.beq f) then none else (none:Option (Ab->Option Dl)))=some g:=h;cases hb:GV.any (Nat.beq f)<;>rw[hb] at h'<;>cases h'
abbrev cl:Bi:=Ap (CX noX) prog 2000 8
theorem ngT:NoNG prog:=by
 have h:(prog.funcs.toList.all fun fn=> !(fn.name == "runtime.NumGoroutine"))=true:=by kernel_rfl
 intro f fn hf;have:=List.all_eq_true.1 h fn (Array.mem_toList_iff.2 (Array.mem_of_getElem? hf))
 simpa using this
theorem DR:prog.follows .mixedOrders=true:=by kernel_rfl
theorem B8:∀f args res,cl f args=some res->C7 G1 prog f args res:=fun f args res h=>AF ngT DR Az9 8 f args res h
theorem Jf(w0:World)(X0:F6):MD prog G1 w0 X0:=⟨ngT,fun _ _=>trivial,fun _ h=>h.elim⟩
def gl(f:Nat->Int)(n i:Nat):Cg:=(List.range i).map f++List.replicate (n-i) 0
theorem An6(f:Nat->Int){n i:Nat}(h:i<=n):(gl f n i).length=n:=by simp[gl];omega
theorem Aqj(f:Nat->Int){n i:Nat}(h:i<n):(gl f n i).set i (f i)=gl f n (i+1):=by unfold gl;rw[List.set_append_right _ _ (by simp),List.length_map,List.length_range,Nat.sub_self,show n-i=(n-(i+1))+1 by omega,List.replicate_succ,List.set_cons_zero,List.range_succ,List.map_append,IU];rfl
theorem Ahq(f:Nat->Int)(n:Nat):gl f n n=(List.range n).map f:=by simp[gl]
theorem Aih(f:Nat->Int)(n:Nat):gl f n 0=List.replicate n 0:=by simp[gl]
abbrev Ala(yv:Value)(h seed:Int)(n:Nat)(m i:Int)(c:Ab):St:=
 ⟨lk [(0,.sc yv),(1,.iptr [Ao h] 0),(2,.iptr [Ac seed] 0),(4,.view 4 1 0 n),(13,Ao m),(14,Ao i)],Bq [(4,.ar false c)]⟩
abbrev Akv(yv:Value)(h seed k:Int)(n m:Nat)(p i:Int)(c e:Ab):St:=
 ⟨lk [(0,.sc yv),(1,.iptr [Ao h] 0),(2,.iptr [Ac seed] 0),(4,.view 4 1 0 n),(6,Ao k),(7,.view 7 1 0 m),(40,Ao p),(41,Ao i)],Bq [(4,.ar false c),(7,.ar false e)]⟩
theorem A2b(yv:Value)(h seed:Int){n i:Nat}(hn:n<=1000)(hi:i<n):
  LN 63 cl (sB (sB (sR (sL (sR FK))))) 24599 (Ala yv h seed n n i (Ad .u64 (gl (fun (j:Nat)=>Kd seed (j:Int)) n i)))=some (0,Ala yv h seed n n ((i+1:Nat):Int) (Ad .u64 (gl (fun (j:Nat)=>Kd seed (j:Int)) n (i+1)))):=by
 have pb:cl 114 [Ac seed,Ao i]=_:=Al4 (xs:=noX) (fu:=2000) (d:=1) (by omega) seed i;have w:wrap .i64 ((i:Int)+1)=((i+1:Nat):Int):=by rw[Ah (by omega) (by omega)];omega
 have L:(Ad .u64 (gl (fun (j:Nat)=>Kd seed (j:Int)) n i)).length=n:=by rw[Am,An6 _ (by omega)]
 have BT:Bp (Ad .u64 (gl (fun (j:Nat)=>Kd seed (j:Int)) n i)) [Ac (Kd seed i)] i=Ad .u64 (gl (fun (j:Nat)=>Kd seed (j:Int)) n (i+1)):=by
  rw[Hh (by omega),Nw];exact congrArg _ (Aqj (fun (j:Nat)=>Kd seed (j:Int)) hi)
 refine (Ar0 cl yv h seed n i n (Ad .u64 (gl (fun (j:Nat)=>Kd seed (j:Int)) n i))).trans ?_;simp(disch:=omega)only[B4,B3,Ij,Ec,Cu,pb,L,BT,w]
theorem A2o(yv:Value)(h seed:Int)(n:Nat)(c:Ab):
  LN 63 cl (sB (sB (sR (sL (sR FK))))) 24599 (Ala yv h seed n n n c)=some (1,Ala yv h seed n n n c):=
 (Ar0 cl yv h seed n n n c).trans (D0 _ _ _ (by omega))
theorem Adn{yv:Value}{h seed:Int}{n:Nat}(hn:n<=1000):∀(r i nn:Nat),i+r=n->r<nn->∀{w0:World}{X0:F6}{Y:Nat->Prop}{β:Bt}{a:Act}{w:World}{Q:Exit->Act->World->Prop},
  B9 63 w0 X0 Y β (Ala yv h seed n n i (Ad .u64 (gl (fun (j:Nat)=>Kd seed (j:Int)) n i))) a w ->
  (∀a' w' β',B9 63 w0 X0 Y β' (Ala yv h seed n n n (Ad .u64 (gl (fun (j:Nat)=>Kd seed (j:Int)) n n))) a' w'->Q (.exit 0) a' w')->Code.rounds prog (sB (sB (sR (sL (sR FK))))) Q nn a w
 |_,_,0,_,h=>by omega
 |0,i,nn+1,hi,_=>by
  intro hs hQ;obtain rfl:i=n:=by omega
  rw[rounds_succ];exact Dh (Jf _ _) DR B8 hs (A2o yv h seed i _) fun a' w' β' h'=>hQ a' w' β' h'
 |r+1,i,nn+1,hi,hr=>by
  intro hs hQ;rw[rounds_succ];exact Dh (Jf _ _) DR B8 hs (A2b yv h seed hn (by omega)) fun a' w' β' h'=>Adn hn r (i+1) nn (by omega) (by omega) h' hQ
def F5(seed:Int)(n k:Nat):Cg:=(List.range n).map fun (j:Nat)=>Ci seed k (j:Int)
theorem RK(seed:Int)(n k:Nat):(F5 seed n k).length=n:=by simp[F5]
theorem Vw(seed:Int){n k j:Nat}(h:j<n):(F5 seed n k)[j]?=some (Ci seed k j):=by simp[F5,h]
theorem A2r(yv:Value)(h seed:Int){k m i:Nat}(hm:m<=1000)(hk:k<=1000)(hi:i<m):
  LN 63 cl (sB (sB (sR (sL (sR (sB (sL (sR (sB (sB (sR (sR (sR FK))))))))))))) 3298534883543 (Akv yv h seed k (2*m) m m i (Ad .u64 (F5 seed (2*m) k)) (Ad .u64 (gl (fun (j:Nat)=>Ci seed (k+1) (j:Int)) m i))) =
   some (0,Akv yv h seed k (2*m) m m ((i+1:Nat):Int) (Ad .u64 (F5 seed (2*m) k)) (Ad .u64 (gl (fun (j:Nat)=>Ci seed (k+1) (j:Int)) m (i+1)))):=by
 have e1:wrap .i64 ((2:Int)*i)=((2*i:Nat):Int):=by rw[Ah (by omega) (by omega)];omega
 have e2:wrap .i64 (((2*i:Nat):Int)+1)=((2*i+1:Nat):Int):=by rw[Ah (by omega) (by omega)];omega
 have e3:wrap .i64 ((k:Int)+1)=((k+1:Nat):Int):=by rw[Ah (by omega) (by omega)];omega
 have w:wrap .i64 ((i:Int)+1)=((i+1:Nat):Int):=by rw[Ah (by omega) (by omega)];omega
 have a1:(Ad .u64 (F5 seed (2*m) k)).getD (2*i) .top=Ac (Ci seed k ((2*i:Nat):Int)):=Z5 (Vw seed (by omega));have a2:(Ad .u64 (F5 seed (2*m) k)).getD (2*i+1) .top=Ac (Ci seed k ((2*i+1:Nat):Int)):=Z5 (Vw seed (by omega))
 have pn:cl 76 [Ao ((k+1:Nat):Int),Ac (Ci seed k ((2*i:Nat):Int)),Ac (Ci seed k ((2*i+1:Nat):Int))]=some ⟨[Ac (Ci seed (k+1) (i:Int))],[]⟩:=by
  have:=KQ (xs:=noX) (fu:=2000) (d:=2) (by omega) ((k+1:Nat):Int) (Ci seed k ((2*i:Nat):Int)) (Ci seed k ((2*i+1:Nat):Int))
  rw[show Ci seed (k+1) (i:Int)=Pn ((k+1:Nat):Int) (Ci seed k ((2*i:Nat):Int)) (Ci seed k ((2*i+1:Nat):Int)) by
   rw[Ci];congr 2<;>omega]
  exact this
 have L:(Ad .u64 (gl (fun (j:Nat)=>Ci seed (k+1) (j:Int)) m i)).length=m:=by rw[Am,An6 _ (by omega)]
 have BT:Bp (Ad .u64 (gl (fun (j:Nat)=>Ci seed (k+1) (j:Int)) m i)) [Ac (Ci seed (k+1) (i:Int))] i=Ad .u64 (gl (fun (j:Nat)=>Ci seed (k+1) (j:Int)) m (i+1)):=by
  rw[Hh (by omega),Nw];exact congrArg _ (Aqj (fun (j:Nat)=>Ci seed (k+1) (j:Int)) hi)
 refine (Ape cl yv h seed k m i (2*m) m _ _).trans ?_;simp(disch:=omega)only[B4,B3,Ij,Ec,Cu,e1,e2,e3,a1,a2,pn,L,BT,w]
theorem A3l(yv:Value)(h seed k:Int)(n m:Nat)(c e:Ab):
  LN 63 cl (sB (sB (sR (sL (sR (sB (sL (sR (sB (sB (sR (sR (sR FK))))))))))))) 3298534883543 (Akv yv h seed k n m m m c e)=some (5,Akv yv h seed k n m m m c e):=
 (Ape cl yv h seed k m m n m c e).trans (D0 _ _ _ (by omega))
theorem Ace{yv:Value}{h seed:Int}{k m:Nat}(hm:m<=1000)(hk:k<=1000):∀(r i nn:Nat),i+r=m->r<nn->∀{w0:World}{X0:F6}{Y:Nat->Prop}{β:Bt}{a:Act}{w:World}{Q:Exit->Act->World->Prop},
  B9 63 w0 X0 Y β (Akv yv h seed k (2*m) m m i (Ad .u64 (F5 seed (2*m) k)) (Ad .u64 (gl (fun (j:Nat)=>Ci seed (k+1) (j:Int)) m i))) a w ->
  (∀a' w' β',B9 63 w0 X0 Y β' (Akv yv h seed k (2*m) m m m (Ad .u64 (F5 seed (2*m) k)) (Ad .u64 (gl (fun (j:Nat)=>Ci seed (k+1) (j:Int)) m m))) a' w'->Q (.exit 4) a' w') ->
  Code.rounds prog (sB (sB (sR (sL (sR (sB (sL (sR (sB (sB (sR (sR (sR FK))))))))))))) Q nn a w
 |_,_,0,_,h=>by omega
 |0,i,nn+1,hi,_=>by
  intro hs hQ;obtain rfl:i=m:=by omega
  rw[rounds_succ];exact Dh (Jf _ _) DR B8 hs (A3l yv h seed k (2*i) i _ _) fun a' w' β' h'=>hQ a' w' β' h'
 |r+1,i,nn+1,hi,hr=>by
  intro hs hQ;rw[rounds_succ];exact Dh (Jf _ _) DR B8 hs (A2r yv h seed hm hk (by omega)) fun a' w' β' h'=>Ace hm hk r (i+1) nn (by omega) (by omega) h' hQ
end
section
open Go Go.RowKit
abbrev UF:Code:=sB (sB (sR (sR (sR FK))))
abbrev lvX:Code:=sB (sL (sR UF))
theorem A0r:UF=.seq (.seq (.region 7 (Hj (sL (sL UF))) false) (sR (sL UF))) (.seq (.block 3 lvX) (sR (sR UF))):=by kernel_rfl
theorem Azf:lvX=.seq (sL lvX) (.seq (.seq (sL (sL (sR lvX))) (.block 4 (.loop (sB (sB (sR (sL (sR lvX)))))))) (sR (sR lvX))):=by kernel_rfl
theorem A0b:FK=.seq (sL FK) (.seq (.seq (sL (sL (sR FK))) (.block 0 (.loop (sB (sB (sR (sL (sR FK)))))))) (.seq (sL (sR (sR FK))) (.block 2 (.loop UF)))):=by kernel_rfl
theorem Pm{F:Fence}{n:Nat}{P:Program}{c c':Code}{Q:Exit->Act->World->Prop}{a:Act}{w:World}(e:c=c')(h:c'.wpIn F n P Q a w):c.wpIn F n P Q a w:=e ▸ h
abbrev lvS(yv:Value)(h seed:Int)(n:Nat)(k:Int)(c:Ab):St:=
 ⟨lk [(0,.sc yv),(1,.iptr [Ao h] 0),(2,.iptr [Ac seed] 0),(4,.view 4 1 0 n),(6,Ao k)],Bq [(4,.ar false c)]⟩
abbrev Aap(yv:Value)(h seed:Int)(n:Nat)(k:Int)(c:Ab):St:=
 ⟨lk [(0,.sc yv),(1,.iptr [Ao h] 0),(2,.iptr [Ac seed] 0),(4,.view 4 1 0 n),(6,Ao k),(24,.sc yv),(25,Ao k),(26,.view 4 1 0 n)],Bq [(4,.ar false c)]⟩
abbrev A2w(yv:Value)(h seed:Int)(n:Nat)(k:Int)(c:Ab)(b:Bool):St:=
 ⟨lk [(0,.sc yv),(1,.iptr [Ao h] 0),(2,.iptr [Ac seed] 0),(4,.view 4 1 0 n),(6,Ao k),(27,.sc (.bool b))],Bq [(4,.ar false c)]⟩
def lvM(seed:Int)(h:Nat)(pre:B5)(k:Nat)(args:Array Value)(Z:Nat->Prop)(A:World):Prop:=
 k<=h/\pre=List.range k/\∃b o cap,args = #[.int .i64 k,.slice (some ⟨b,o,none⟩) (2 ^ (h-k):Nat) cap]/\2 ^ (h-k)<=cap/\b<A.heap.size/\¬Z b/\∀j,j<2 ^ (h-k)->A.cell? ⟨b,o+j,none⟩=some (.int .u64 (Ci seed k j))
theorem An1{seed:Int}{h:Nat}{pre:B5}{k:Nat}{args:Array Value}{Z:Nat->Prop}{A B:World}(hm:lvM seed h pre k args Z A)(hs:A.heap.size<=B.heap.size)(hk:∀b,b<A.heap.size->¬Z b->B.heap[b]?=A.heap[b]?):lvM seed h pre k args Z B:=by obtain⟨h0,hpr,b,o,cap,h1,h2,h3,h4,h5⟩:=hm;exact⟨h0,hpr,b,o,cap,h1,h2,by omega,h4,fun j hj=>(World.cell?_of_block (a:=⟨b,o+j,none⟩) (hk b h3 h4)).trans (h5 j hj)⟩
theorem Aon{seed:Int}{h:Nat}{pre:B5}{k:Nat}{args:Array Value}{Z:Nat->Prop}{A:World}(hm:lvM seed h pre k args Z A):args.size=2:=by obtain⟨h0,_,b,o,cap,h1,_⟩:=hm;rw[h1];rfl
theorem A3c:∃ty pos aft x,(Hj (sL (sL UF)))[3]?=some { dst:=some 27,op:=.call { callee:=.value (.tmp 24),args:= #[.tmp 25,.tmp 26],argTypes:=x },type:=ty,pos:=pos,after:=aft,guard:=none }:=
 ⟨_,_,_,_,rfl⟩
theorem O9{k:IntKind}{l:Cg}{i:Nat}{n:Int}(h:l[i]?=some n):(Ad k l)[i]?=some (.sc (.int k n)):=by
 have h1:=Z5 (k:=k) h;have Ch:i<(Ad k l).length:=by rw[Am];exact (List.getElem?_eq_some_iff.1 h).1
 rw[List.getD_eq_getElem?_getD,List.getElem?_eq_getElem Ch] at h1;rw[List.getElem?_eq_getElem Ch];exact congrArg some h1
section
variable {seed:Int}{h l:Nat}{w0:World}{X0:F6}{Z:Nat->Prop}{β:Bt}{a:Act}{w:World}
theorem Atf{yv:Value}{k n:Nat}{c:Ab}{hi:Int}(hs:B9 63 w0 X0 Z β (Aap yv hi seed n k c) a w)(hn:0<n):
  a.tmps.getD 24 undef=yv/\a.tmps.getD 25 undef=.int .i64 k/\∃b o cap,β 4=some (b,o)/\a.tmps.getD 26 undef=.slice (some ⟨b,o,none⟩) n cap/\n<=cap/\b<w.heap.size/\UQ w (Dd (Bq [(4,.ar false c)]) β Z) ⟨b,o,none⟩ c:=by
 have h24:=hs.tms 24 (by decide);have h25:=hs.tms 25 (by decide);have h26:=hs.tms 26 (by decide);have hb:=hs.box 4 _ (rfl:_=some (Bz.ar false c));refine⟨(Mj h24),(Mj h25),?_⟩;rcases (show Ck w (Dd (Bq [(4,.ar false c)]) β Z) β (.view 4 1 0 n) (a.tmps.getD 26 undef) from h26) with⟨_,_,h3,_⟩|⟨b,o,x,cap,h1,h2,h3,h4,h5,h6⟩
 ·omega
 ·rcases hb with⟨h7,_⟩|⟨b',o',h7,h8,_⟩
  ·rw[h1] at h7;cases h7
  ·rw[h1] at h7;cases h7;have hx:x=o:=by omega
   subst hx;exact⟨b,x,cap,h1,h2,h4,h6,h8⟩
abbrev A21(yv:Value)(h seed:Int)(n:Nat)(k:Int)(c:Ab)(q:Bool):St:=
 ⟨lk [(0,.sc yv),(1,.iptr [Ao h] 0),(2,.iptr [Ac seed] 0),(4,.view 4 1 0 n),(6,Ao k),(32,.sc (.bool q))],Bq [(4,.ar false c)]⟩
theorem Aii{yv:Value}{hi seed:Int}{n:Nat}{k:Int}{c:Ab}:∀id cc,(Aap yv hi seed n k c).hp id≠some (.st cc):=by
 intro id cc e;rcases Sk [(4,Bz.ar false c)] id with h1|⟨q,hq,h1,h2⟩
 ·rw[show (Aap yv hi seed n k c).hp id=Bq [(4,Bz.ar false c)] id from rfl,h1] at e;cases e
 ·simp at hq;subst hq;rw[show (Aap yv hi seed n k c).hp id=Bq [(4,Bz.ar false c)] id from rfl,h2] at e;cases e
theorem Avm{hi:Int}{yv:Value}{n:Nat}{k:Int}{c:Ab}{Z':Nat->Prop}{B:World}(b:Bool)(hs:B9 63 w0 X0 Z β (Aap yv hi seed n k c) a w)(ht:Sd Z Z' w B):
  B9 63 B (Alm (Aap yv hi seed n k c) β) Z' β (A2w yv hi seed n k c b) (a.put (some 27) (.bool b)) B:=by
 have h1:=(hs.rebase ht Aii).put (d:=some 27) (v:=.sc (.bool b)) (val:=.bool b) rfl (Az.sc _) (by simp[Cc,Cn,Aw]);refine h1.pick _ _ ?_ ?_ ?_ ?_ (fun _ h=>h.elim)
 ·intro q hq;simp only[Bx,Ig,or_false] at hq;rcases hq with rfl|rfl|rfl|rfl|rfl|rfl<;>rfl
 ·intro q hq;simp only[Bx,Ig,or_false] at hq;rcases hq with rfl<;>rfl
 ·intro q hq id Br;simp only[Bx,Ig,or_false] at hq;rcases hq with rfl|rfl|rfl|rfl|rfl|rfl<;>simp[Cc,Cn,Aw] at Br
  subst Br;simp[Bq]
 ·intro q hq cells e;simp only[Bx,Ig,or_false] at hq;rcases hq with rfl;cases e
theorem Asv(hh:h<=4){J Jx:(Nat->Prop)->B5->World->Prop}(hJ:∀Z pre A B,J Z pre A->Nu Z A B->J Z pre B)(hJx:∀Z pre A B,Jx Z pre A->Nu Z A B->Jx Z pre B)(hY:∀Z pre x args A,J Z pre A->lvM seed h pre x args Z A->YieldAt Fence.wide 0 prog l args A fun e B=>∃Z',Sd Z Z' A B/\((e=.returned (.bool true)/\J Z' (pre++[x]) B)\/(e=.returned (.bool false)/\Jx Z' (pre++[x]) B))){k r:Nat}(hk:k+r=h)(hs:B9 63 w0 X0 Z β (lvS (.func (.yield l) #[] #[]) h seed (2 ^ r) k (Ad .u64 (F5 seed (2 ^ r) k))) a w)(hd:∀b,Z b->¬X0.X b)(hj:J Z (List.range k) w0){Q:Exit->Act->World->Prop}(hgo:k<h->∀w2 X2 Z' β' a' w',B9 63 w2 X2 Z' β' (lvS (.func (.yield l) #[] #[]) h seed (2 ^ r) k (Ad .u64 (F5 seed (2 ^ r) k))) a' w'->(∀b,Z' b->¬X2.X b)->J Z' (List.range (k+1)) w2->Q .normal a' w')(Aa3:∀a' w',a'.defers=[]->(∃Z xs,(xs=List.range (h+1)/\J Z xs w')\/((∃k,xs=List.range (k+1))/\Jx Z xs w'))->Q (.exit 2) a' w'):
  (Code.seq (.region 7 (Hj (sL (sL UF))) false) (sR (sL UF))).wpIn Fence.wide 0 prog Q a w:=by
 have hp:0<2 ^ r:=Nat.pos_of_ne_zero (by simp);refine wpIn_seq (wpIn_region ?_);have hl:List.range (Hj (sL (sL UF))).size=[0,1,2]++[3,4,5,6,7,8]:=by kernel_rfl
 rw[hl];refine G4 (ro:=none) (C:=CB) (call:=cl) (r:=((0:Nat),Aap (.func (.yield l) #[] #[]) h seed (2 ^ r) k (Ad .u64 (F5 seed (2 ^ r) k)))) (Jf _ _) B8 ?_ [0,1,2] (List.take 3 (Hj (sL (sL UF))).toList) (by kernel_rfl) ?_ (by kernel_rfl) hs (Az8 cl _ h seed k (2 ^ r) _)
 rotate_left
 ·intro j i hj
  match j,hj with
  |0,hj=>cases hj;rfl
  |1,hj=>cases hj;rfl
  |2,hj=>cases hj;rfl
 intro s' a1 w1 β1 Eg MY;obtain⟨β2,s2,Gy,RC⟩:=Cb MY Eg;cases Gy;obtain⟨v24,v25,b,o,cap,hb,v26,OC,FM,hrd⟩:=Atf RC hp;have hjw:J Z (List.range k) w1:=hJ Z _ _ _ hj (RC.stay hd);have hkr:h-k=r:=by omega
 have hm:lvM seed h (List.range k) k #[.int .i64 k,.slice (some ⟨b,o,none⟩) (2 ^ r:Nat) cap] Z w1:=by
  refine⟨by omega,rfl,b,o,cap,by rw[hkr],by rw[hkr];exact OC,FM,fun hz=>RC.Yx b hz ⟨4,o,by trivial,hb⟩,fun j hj=>?_⟩
  rw[hkr] at hj;obtain⟨v,hv,_,hv2⟩:=hrd j (Ac (Ci seed k j)) (O9 (Vw seed hj));rw[Fe] at hv;rw[hv,Az.val hv2]
 obtain⟨fn,tmps,assign,body,hy,hR⟩:=hY Z _ k _ w1 hjw hm;obtain⟨ty,pos,aft,x,ho⟩:=A3c;rw[wpOpsIn_cons];unfold wpOpIn;rw[ho];simp only[Region.wanted,if_true]
 have run:(execOp a1.eval { dst:=some 27,op:=.call { callee:=.value (.tmp 24),args:= #[.tmp 25,.tmp 26],argTypes:=x },type:=ty,pos:=pos,after:=aft,guard:=none }).run prog w1=.ok (.round l fn tmps assign body) w1:=by
  have e24:a1.eval (.tmp 24)=.func (.yield l) #[] #[]:=v24;have e25:a1.eval (.tmp 25)=.int .i64 k:=v25;have e26:a1.eval (.tmp 26)=.slice (some ⟨b,o,none⟩) (2 ^ r:Nat) cap:=v26;refine VT rfl rfl e24 ?_;rw[<-hy];simp only[List.map_toArray,Rz,List.map_nil,e25,e26]
 refine⟨fun _ _=>trivial,?_⟩;rw[show Oper.semAt (WF none).round a1.eval { dst:=some 27,op:=.call { callee:=.value (.tmp 24),args:= #[.tmp 25,.tmp 26],argTypes:=x },type:=ty,pos:=pos,after:=aft,guard:=none }=execOp a1.eval { dst:=some 27,op:=.call { callee:=.value (.tmp 24),args:= #[.tmp 25,.tmp 26],argTypes:=x },type:=ty,pos:=pos,after:=aft,guard:=none } from rfl,run];refine⟨(fun h=>by cases h),(MM hR).mono ?_⟩
 have rest:∀(e:Bool) (B:World) (Z':Nat->Prop) (q:Bool),Sd Z Z' w1 B->(Lj CB prog 63 cl (Hj (sL (sL UF))) (List.drop 4 (Hj (sL (sL UF))).toList) (A2w (.func (.yield l) #[] #[]) h seed (2 ^ r) k (Ad .u64 (F5 seed (2 ^ r) k)) e) (fun s=>Jg 63 4294967383 s fun s'=>some (0,s'))=some ((0:Nat),A21 (.func (.yield l) #[] #[]) h seed (2 ^ r) k (Ad .u64 (F5 seed (2 ^ r) k)) q)) ->
   (∀a' w' β',B9 63 B (Alm (Aap (.func (.yield l) #[] #[]) h seed (2 ^ r) k (Ad .u64 (F5 seed (2 ^ r) k))) β2) Z' β' (lvS (.func (.yield l) #[] #[]) h seed (2 ^ r) k (Ad .u64 (F5 seed (2 ^ r) k))) a' w'->if q=true then Q .normal a' w' else Q (.exit 2) a' w') ->
   wpOpsIn (WF none) 0 prog (Hj (sL (sL UF))) (Exit.then ((sR (sL UF)).wpIn Fence.wide 0 prog Q) Q) [4,5,6,7,8] (a1.put (some 27) (.bool e)) B:=by
  intro e B Z' q ht heq hq;have h4:=Avm e RC ht;show wpOpsIn _ _ _ _ _ ([4,5,6,7,8]++[]) _ _;refine G4 (ro:=none) (C:=CB) (call:=cl) (Jf _ _) B8 ?_ [4,5,6,7,8] (List.drop 4 (Hj (sL (sL UF))).toList) (by kernel_rfl) ?_ (by kernel_rfl) h4 heq
  rotate_left
  ·intro j i hj
   match j,hj with
   |0,hj=>cases hj;rfl
   |1,hj=>cases hj;rfl
   |2,hj=>cases hj;rfl
   |3,hj=>cases hj;rfl
   |4,hj=>cases hj;rfl
  intro s' a5 w5 β5 XW X4;obtain⟨β6,s6,hk6,hs6⟩:=Cb X4 XW;cases hk6;show (sR (sL UF)).wpIn Fence.wide 0 prog Q a5 w5;cases q
  ·exact wpIn_wide.2 (Dh (Jf _ _) DR B8 hs6 ((Aos cl _ h seed k (2 ^ r) _ false).trans rfl) fun a' w' β' h'=>hq a' w' β' h')
  ·exact wpIn_wide.2 (Dh (Jf _ _) DR B8 hs6 ((Aos cl _ h seed k (2 ^ r) _ true).trans rfl) fun a' w' β' h'=>hq a' w' β' h')
 have Hb:∀{B:World} {Z':Nat->Prop} {β':Bt} {s':St} {a':Act} {w':World},Sd Z Z' w1 B->∀b,Z' b->¬(Alm (Aap (.func (.yield l) #[] #[]) h seed (2 ^ r) k (Ad .u64 (F5 seed (2 ^ r) k))) β2).X b:=by
  intro B Z' _ _ _ _ ht b hz;exact (RC.rebase ht Aii).Yx b hz
 have er:List.range k++[k]=List.range (k+1):=(List.range_succ).symm
 rintro e B ⟨Z',ht,(⟨rfl,hj2⟩|⟨rfl,hj2⟩)⟩
 ·rw[er] at hj2;refine rest true B Z' (decide ((k:Int)<(h:Int))) ht (Avt cl _ h seed k (2 ^ r) _) fun a' w' β' h'=>?_;have hdd:=Hb (β':=β) (s':=s') (a':=a) (w':=w) ht;by_cases Ch:k<h
  ·rw[B7 (by simp;omega)]
   exact hgo Ch B _ Z' β' a' w' h' hdd hj2
  ·rw[Ba (by simp;omega)]
   exact Aa3 a' w' h'.dfr ⟨Z',List.range (k+1),.inl ⟨by rw[show k=h by omega],hJ Z' _ _ _ hj2 (h'.stay hdd)⟩⟩
 ·refine rest false B Z' false ht (Auk cl _ h seed k (2 ^ r) _) fun a' w' β' h'=>?_;have hdd:=Hb (β':=β) (s':=s') (a':=a) (w':=w) ht;rw[Ba (by simp)];exact Aa3 a' w' h'.dfr ⟨Z',_,.inr ⟨⟨k,er⟩,hJx Z' _ _ _ hj2 (h'.stay hdd)⟩⟩
theorem WJ(hh:h<=4){J Jx:(Nat->Prop)->B5->World->Prop}(hJ:∀Z pre A B,J Z pre A->Nu Z A B->J Z pre B)(hJx:∀Z pre A B,Jx Z pre A->Nu Z A B->Jx Z pre B)(hY:∀Z pre x args A,J Z pre A->lvM seed h pre x args Z A->YieldAt Fence.wide 0 prog l args A fun e B=>∃Z',Sd Z Z' A B/\((e=.returned (.bool true)/\J Z' (pre++[x]) B)\/(e=.returned (.bool false)/\Jx Z' (pre++[x]) B))){Q:Exit->Act->World->Prop}(Aa3:∀a' w',a'.defers=[]->(∃Z xs,(xs=List.range (h+1)/\J Z xs w')\/((∃k,xs=List.range (k+1))/\Jx Z xs w'))->Q (.exit 2) a' w'):
  ∀(r k nn:Nat),k+r=h->r<nn->∀{w0:World} {X0:F6} {Z:Nat->Prop} {β:Bt} {a:Act} {w:World},
   B9 63 w0 X0 Z β (lvS (.func (.yield l) #[] #[]) h seed (2 ^ r:Nat) k (Ad .u64 (F5 seed (2 ^ r) k))) a w->(∀b,Z b->¬X0.X b)->J Z (List.range k) w0->Code.roundsIn Fence.wide 0 prog UF Q nn a w
 |_,_,0,_,h=>by omega
 |r,k,nn+1,hk,hr=>by
  intro hs hd hj;rw[roundsIn_succ];refine Pm A0r (wpIn_seq (Asv hh hJ hJx hY hk hs hd hj ?_ fun a' w' h1 h2=>Aa3 a' w' h1 h2));intro Ch w2 X2 Z' β' a' w' RC hd2 hj2
  match r,hk,hr,RC with
  |0,hk,hr,RC=>omega
  |r+1,hk,hr,RC=>
   have hp:2 ^ (r+1)=2*2 ^ r:=by rw[Nat.pow_succ];omega
   have CL:2 ^ r<=8:=by
    have:2 ^ r<=2 ^ 3:=Nat.pow_le_pow_right (by omega) (by omega);omega
   rw[hp] at RC;show (Code.seq (.block 3 lvX) (sR (sR UF))).wpIn Fence.wide 0 prog _ a' w';refine wpIn_seq (wpIn_block (Pm Azf (wpIn_seq (wpIn_wide.2 (Dh (Jf _ _) DR B8 RC (L:=215) (t:=0) (s1:=⟨lk [(0,.sc (.func (.yield l) #[] #[])),(1,.iptr [Ao h] 0),(2,.iptr [Ac seed] 0),(4,.view 4 1 0 (2*2 ^ r)),(6,Ao k),(7,.view 7 1 0 (2 ^ r))],Bq [(4,.ar false (Ad .u64 (F5 seed (2*2 ^ r) k))),(7,.ar false (Ad .u64 (List.replicate (2 ^ r) 0)))]⟩) ?_ ?_)))))
   ·have w2:wrap .i64 (Int.tdiv ((2*2 ^ r:Nat):Int) 2)=((2 ^ r:Nat):Int):=by
     rw[Int.tdiv_eq_ediv_of_nonneg (by omega),Ah (by omega) (by omega)];omega
    refine (Az3 cl _ h seed k (2*2 ^ r) _).trans ?_;simp(disch:=omega)only[B4,B3,Ij,w2,SB]
   intro a3 w3 β3 hs3;refine wpIn_seq (wpIn_seq (wpIn_wide.2 (Dh (Jf _ _) DR B8 hs3 (Az2 cl _ h seed k _ _ _ _) ?_)));intro a4 w4 β4 hs4;refine wpIn_block (wpIn_wide.2 (wp_loop_rounds 1000 (Ace (k:=k) (m:=2 ^ r) (by omega) (by omega) (2 ^ r) 0 1000 (by omega) (by omega) (by rw[Aih];exact hs4) ?_)))
   intro a5 w5 β5 X4;show (sR (sR lvX)).wpIn Fence.wide 0 prog _ a5 w5;refine wpIn_wide.2 (Dh (Jf _ _) DR B8 X4 (A0m cl _ h seed k _ _ _ _ _ _) ?_);intro a6 w6 β6 hs6;show (sR (sR UF)).wpIn Fence.wide 0 prog _ a6 w6;refine wpIn_wide.2 (Dh (Jf _ _) DR B8 hs6 (L:=87) (t:=0) (s1:=lvS (.func (.yield l) #[] #[]) h seed (2 ^ r:Nat) ((k+1:Nat):Int) (Ad .u64 (F5 seed (2 ^ r) (k+1)))) ?_ ?_)
   ·have w1:wrap .i64 ((k:Int)+1)=((k+1:Nat):Int):=by rw[Ah (by omega) (by omega)];omega
    refine (Ax8 cl _ h seed k _ _).trans ?_;simp only[B4,B3,w1];rw[Ahq];rfl
   intro a7 w7 β7 hs7;exact WJ hh hJ hJx hY Aa3 r (k+1) nn (by omega) (by omega) hs7 hd2 hj2
end
end
section
open Go Go.RowKit
def noL:F6:={ X:=fun _=>False,L:=fun _ _=>False,pn:=fun _=>False,pt:=fun _=>none,p8:=fun _ h=>h.elim }
theorem B9.init{N:Nat}{W:World}{Z0:Nat->Prop}(l:List (Nat × PV))(a:Act)(hd:a.defers=[])(L8:a.tmps.size=N)(Ch:∀q∈l,q.1<N)(hv:∀q∈l,Eo W Z0 (fun _=>none) q.2 (a.tmps.getD q.1 undef))(hr:∀q∈l,Cc q.2=[])(hZ:∀b,Z0 b->b<W.heap.size):
  B9 N W noL Z0 (fun _=>none) ⟨lk l,Bq []⟩ a W:=by
 have hA:∀b,b<W.heap.size->Dd (Bq []) (fun _=>none) Z0 b->Z0 b:=fun b _ hb=>hb.elim (fun ⟨_,_,h,_⟩=>(h:Ct none).elim) id;have Gn:Cq Z0 W W:=⟨Dn _,fun _ _ _=>rfl,fun _ _=>Dn _⟩
 refine⟨hd,L8,fun i hi=>?_,fun i hi=>?_,fun id bx e=>(by cases e),fun id id' b o o' h=>(h:Ct none).elim,fun id b o h=>(h rfl).elim,fun i hi id Br=>?_,fun id c e=>(by cases e),fun b ⟨_,_,h,_⟩=>(h:Ct none).elim,fun id bx b o e=>(by cases e),
  fun i hi=>hi.elim,fun id c b o e=>(by cases e),fun b hz ⟨_,_,h,_⟩=>(h:Ct none).elim,hZ,⟨rfl,rfl,rfl,⟨Dn _,fun _ _ _=>rfl,fun _ _=>Dn _⟩,fun _ _ _ _=>⟨rfl,rfl⟩⟩⟩
 ·rcases Rq l i with e|⟨q,hq,h1,h2⟩
  ·exact e
  ·have:=Ch q hq;omega
 ·show Eo W (Dd (Bq []) (fun _=>none) Z0) (fun _=>none) (lk l i) _;rcases Rq l i with e|⟨q,hq,h1,h2⟩
  ·rw[e];exact Az.top _
  ·rw[h2,<-h1];exact (hv q hq).step Gn hA fun _ _=>rfl
 ·rcases Rq l i with e|⟨q,hq,h1,h2⟩
  ·rw[show (St.mk (lk l) (Bq [])).tm i=lk l i from rfl,e] at Br;simp[Cc,Cn,Aw] at Br
  ·rw[show (St.mk (lk l) (Bq [])).tm i=lk l i from rfl,h2,hr q hq] at Br;cases Br
def Avy(seed:Int)(h Bh Bs:Nat)(Z0:Nat->Prop)(W:World):Prop:=
 W.cell? ⟨Bh,0,none⟩=some (.int .i64 h)/\W.cell? ⟨Bs,0,none⟩=some (.int .u64 seed)/\Bh<W.heap.size/\Bs<W.heap.size/\¬Z0 Bh/\¬Z0 Bs
theorem Axc{h:Nat}(hh:h<=4):Iy .i64 1 (h:Int)=((2 ^ h:Nat):Int):=by
 have:h=0\/h=1\/h=2\/h=3\/h=4:=by omega
 rcases this with rfl|rfl|rfl|rfl|rfl<;>decide
theorem Atm{seed:Int}{h Bh Bs:Nat}{Z0:Nat->Prop}{W:World}{yv:Value}(hP:Avy seed h Bh Bs Z0 W)(hZ:∀b,Z0 b->b<W.heap.size):
  B9 63 W noL Z0 (fun _=>none) ⟨lk [(0,.sc yv),(1,.iptr [Ao h] 0),(2,.iptr [Ac seed] 0)],Bq []⟩ { tmps:=(yv::Value.pointer (some ⟨Bh,0,none⟩)::Value.pointer (some ⟨Bs,0,none⟩)::List.replicate 60 undef).toArray,defers:=[] } W:=by
 obtain⟨p1,p2,p3,p4,p5,p6⟩:=hP;refine B9.init _ _ rfl (by simp) ?_ ?_ ?_ hZ
 ·intro q hq;simp only[Bx,Ig,or_false] at hq;rcases hq with rfl|rfl|rfl<;>simp
 ·intro q hq;simp only[Bx,Ig,or_false] at hq;rcases hq with rfl|rfl|rfl
  ·exact Az.sc _
  ·refine⟨⟨Bh,0,none⟩,rfl,rfl,p3,p5,fun j c hj=>?_⟩
   match j,hj with
   |0,hj=>cases hj;exact⟨_,p1,rfl,Az.sc _⟩
  ·refine⟨⟨Bs,0,none⟩,rfl,rfl,p4,p6,fun j c hj=>?_⟩
   match j,hj with
   |0,hj=>cases hj;exact⟨_,p2,rfl,Az.sc _⟩
 ·intro q hq;simp only[Bx,Ig,or_false] at hq;rcases hq with rfl|rfl|rfl<;>rfl
theorem Asz{seed:Int}{h Bh Bs:Nat}(hh:h<=4):Aw7 prog 113 #[.pointer (some ⟨Bh,0,none⟩),.pointer (some ⟨Bs,0,none⟩)] (lvM seed h) (fun xs=>xs=List.range (h+1)) (fun xs=>∃k,xs=List.range (k+1)) (Avy seed h Bh Bs):=by
 intro l J Jx W Z0 hZ hP hJ hJx hY h0;obtain⟨p1,p2,p3,p4,p5,p6⟩:=hP;refine callsIn_wide.1 (callsIn_of_wp (F:=Fence.wide) (n:=0) Tryz.func113 rfl trivial ?_ rfl);show FK.wpIn _ _ _ _ _ _;have t1:(({ tmps:=(#[Value.func (.yield l) #[] #[]] ++ #[Value.pointer (some ⟨Bh,0,none⟩),Value.pointer (some ⟨Bs,0,none⟩)])++Array.replicate (Tryz.f113.ntmps-(#[Value.func (.yield l) #[] #[]] ++ #[Value.pointer (some ⟨Bh,0,none⟩),Value.pointer (some ⟨Bs,0,none⟩)]).size) undef,defers:=[] }:Act))={ tmps:=(Value.func (.yield l) #[] #[]::Value.pointer (some ⟨Bh,0,none⟩)::Value.pointer (some ⟨Bs,0,none⟩)::List.replicate 60 undef).toArray,defers:=[] }:=by kernel_rfl
 rw[t1];have i0:=Atm (seed:=seed) (h:=h) (Z0:=Z0) (yv:=.func (.yield l) #[] #[]) ⟨p1,p2,p3,p4,p5,p6⟩ hZ;generalize ({ tmps:=(Value.func (.yield l) #[] #[]::Value.pointer (some ⟨Bh,0,none⟩)::Value.pointer (some ⟨Bs,0,none⟩)::List.replicate 60 undef).toArray,defers:=[] }:Act)=a0 at i0 ⊢
 have CL:2 ^ h<=16:=by
  have:2 ^ h<=2 ^ 4:=Nat.pow_le_pow_right (by omega) hh;omega
 refine Pm A0b (wpIn_seq (wpIn_wide.2 (Dh (Jf _ _) DR B8 i0 (L:=23) (t:=0)
  (s1:=⟨lk [(0,.sc (.func (.yield l) #[] #[])),(1,.iptr [Ao h] 0),(2,.iptr [Ac seed] 0),(4,.view 4 1 0 (2 ^ h))],Bq [(4,.ar false (Ad .u64 (List.replicate (2 ^ h) 0)))]⟩) ?_ ?_)))
 ·refine (A0h cl _ h seed).trans ?_;have e1:=Axc hh;have e2:(0:Int)<=h:=by omega
  generalize 2 ^ h=n at CL e1 ⊢;simp(disch:=omega)only[B4,B3,e1,Ij,SB]
 intro a1 w1 β1 h1;refine wpIn_seq (wpIn_seq (wpIn_wide.2 (Dh (Jf _ _) DR B8 h1 (Azm cl _ h seed _ _) ?_)));intro a2 w2 β2 h2;refine wpIn_block (wpIn_wide.2 (wp_loop_rounds 1000 (Adn (n:=2 ^ h) (by omega) (2 ^ h) 0 1000 (by omega) (by omega) (by rw[Aih];exact h2) ?_)))
 intro a3 w3 β3 h3;show (Code.seq (sL (sR (sR FK))) (.block 2 (.loop UF))).wpIn Fence.wide 0 prog _ a3 w3;refine wpIn_seq (wpIn_wide.2 (Dh (Jf _ _) DR B8 h3 (L:=87) (t:=0) (s1:=lvS (.func (.yield l) #[] #[]) h seed (2 ^ h:Nat) ((0:Nat):Int) (Ad .u64 (F5 seed (2 ^ h) 0))) ?_ ?_))
 ·refine (Ax0 cl _ h seed _ _ _ _).trans ?_;rw[Ahq];rfl
 intro a4 w4 β4 h4;refine wpIn_block (wpIn_loop_rounds 1000 (WJ hh hJ hJx hY ?_ h 0 1000 (by omega) (by omega) h4 (fun b _ hb=>hb) h0));intro a5 w5 h5 h6;exact⟨h5,_,results_none rfl _ _ _,⟨_,rfl⟩,h6⟩
end
section
open Go Go.RowKit
theorem B9.make{N:Nat}{W:World}{Y:Nat->Prop}{β:Bt}(l:List (Nat × PV))(bl:List (Nat × Bz))(a:Act)(pn:Nat->Prop)(p8:∀i,pn i->i<8)(hd:a.defers=[])(L8:a.tmps.size=N)(Ch:∀q∈l,q.1<N)(hv:∀q∈l,Eo W (Dd (Bq bl) β Y) β q.2 (a.tmps.getD q.1 undef))(hb:∀id bx,Bq bl id=some bx->Wh W (Dd (Bq bl) β Y) β id bx)(inj:∀id id' b o o',Ct (Bq bl id)->Ct (Bq bl id')->β id=some (b,o)->β id'=some (b,o')->id=id')(blt:∀id b o,Bq bl id≠none->β id=some (b,o)->b<W.heap.size)(wfT:∀q∈l,∀id∈Cc q.2,Bq bl id≠none)(wfB:∀id cells,Bq bl id=some (.st cells)->∀c∈cells,∀i∈Aw c,Bq bl i≠none)(Zu:∀i,pn i->Bq bl (Dm N i)≠none)(stp:∀id c,Bq bl id=some (.st c)->∃i,id=Dm N i/\pn i)(Yx:∀b,Y b->¬DS (Bq bl) β b)(Ylt:∀b,Y b->b<W.heap.size):
  B9 N W { X:=DS (Bq bl) β,L:=fun b _=>DS (Bq bl) β b,pn:=pn,pt:=fun i=>β (Dm N i),p8:=p8 } Y β ⟨lk l,Bq bl⟩ a W:=by
 refine⟨hd,L8,fun i hi=>?_,fun i hi=>?_,hb,inj,blt,fun i hi id Br=>?_,wfB,fun b hb=>.inl hb,fun id bx b o h1 h2 h3 _ j _=>⟨id,o,by rw[show Bq bl id=some bx from h1];exact h2,h3⟩,fun i hi=>⟨Zu i hi,rfl⟩,
  fun id c b o h1 _ _=>stp id c h1,Yx,Ylt,⟨rfl,rfl,rfl,⟨Dn _,fun _ _ _=>rfl,fun _ _=>Dn _⟩,fun _ _ _ _=>⟨rfl,rfl⟩⟩⟩
 ·rcases Rq l i with e|⟨q,hq,h1,h2⟩
  ·exact e
  ·have:=Ch q hq;omega
 ·show Eo W _ β (lk l i) _;rcases Rq l i with e|⟨q,hq,h1,h2⟩
  ·rw[e];exact Az.top _
  ·rw[h2,<-h1];exact hv q hq
 ·rcases Rq l i with e|⟨q,hq,h1,h2⟩
  ·rw[show (St.mk (lk l) (Bq bl)).tm i=lk l i from rfl,e] at Br;simp[Cc,Cn,Aw] at Br
  ·rw[show (St.mk (lk l) (Bq bl)).tm i=lk l i from rfl,h2] at Br;exact wfT q hq id Br
def A4e(lo e0:Nat)(A:World)(pv:Value)(l:Cg):Prop:=
 (l=[]/\∃ad,pv=.slice ad 0 0)\/∃pb po cap,0<cap/\pv=.slice (some ⟨pb,po,none⟩) l.length cap/\l.length<=cap/\po+cap<=bsz A pb/\pb<A.heap.size/\(lo<=pb\/pb=e0)/\(∀(j:Nat) x,l[j]?=some x->A.cell? ⟨pb,po+j,none⟩=some (.int .u64 x))/\∀j,po<=j->j<bsz A pb->A.frozen? ⟨pb,j,none⟩=false
theorem frozen?_of_block{A B:World}{b j:Nat}(h:B.heap[b]?=A.heap[b]?):B.frozen? ⟨b,j,none⟩=A.frozen? ⟨b,j,none⟩:=by unfold World.frozen?;simp only[h]
structure JL(wS:World)(D:Nat)(seed leaf:Int)(h b10 o10 e0:Nat)(chv:Value)(Z:Nat->Prop)(pre:B5)(A:World):Prop where
 os:A.os=wS.os
 tape:A.tape=wS.tape
 output:A.output=wS.output
 size:D+2<=A.heap.size
 zlo:∀b,b<wS.heap.size->Z b
 zlt:∀b,Z b->b<A.heap.size
 keep:∀b,b<wS.heap.size->b≠b10->b≠e0->A.heap[b]?=wS.heap[b]?
 bs:bsz wS b10<=bsz A b10
 c0:A.cell? ⟨b10,o10,none⟩=some (.int .i64 leaf)
 c1:A.cell? ⟨b10,o10+1,none⟩=some chv
 fz:∀k,k<3->A.frozen? ⟨b10,o10+k,none⟩=false
 lt:∀x∈pre,x<h
 path:∃pv,A.cell? ⟨b10,o10+2,none⟩=some pv/\A4e (D+2) e0 A pv (pre.map fun k=>Ci seed k (Ha leaf k))/\∀pb po n cap,0<cap->pv=.slice (some ⟨pb,po,none⟩) n cap->Z pb
abbrev Ahj:Code:=sF (sB (sR (sL (sR (sR (sR SF))))))
abbrev A30(h leaf:Int)(x:Nat)(n:Nat)(c:Ab):List (Nat × PV):=[(5,.iptr [Ao h] 0),(6,.iptr [Ao leaf] 0),(10,.ptr 96000 0),(11,Ao x),(12,.lst false 1 n c)]
abbrev UR(leaf:Int)(ch:Value)(m:Nat)(d:Ab):List (Nat × Bz):=[(96000,.st [Ao leaf,.sc ch,.view 20 1 0 m]),(20,.ar false d)]
structure A3k(wS:World)(b5 o5 b6 o6 b10 o10:Nat)(args:Array Value)(a:Act):Prop where
 dfr:a.defers=[]
 size:a.tmps.size=48
 t5:a.tmps.getD 5 undef=.pointer (some ⟨b5,o5,none⟩)
 t6:a.tmps.getD 6 undef=.pointer (some ⟨b6,o6,none⟩)
 t10:a.tmps.getD 10 undef=.pointer (some ⟨b10,o10,none⟩)
 t11:a.tmps.getD 11 undef=args.getD 0 undef
 t12:a.tmps.getD 12 undef=args.getD 1 undef
theorem Arh{wS:World}{D:Nat}{seed leaf:Int}{h b5 o5 b6 o6 b10 o10 e0:Nat}{chv:Value}{Z:Nat->Prop}{pre:B5}{A:World}(hI:JL wS D seed leaf h b10 o10 e0 chv Z pre A){x:Nat}{args:Array Value}(hM:lvM seed h pre x args Z A){a:Act}(ha:A3k wS b5 o5 b6 o6 b10 o10 args a)(h5:wS.cell? ⟨b5,o5,none⟩=some (.int .i64 h))(h6:wS.cell? ⟨b6,o6,none⟩=some (.int .i64 leaf))(l5:b5<wS.heap.size)(l6:b6<wS.heap.size)(l10:b10<wS.heap.size)(n5:b5≠b10)(n6:b6≠b10)(m5:b5≠e0)(m6:b6≠e0)(m10:b10≠e0)(hD:wS.heap.size<=D):
  ∃β X0,X0.pt 0=some (b10,o10)/\X0.pn 0/\(∀b,X0.X b->Z b/\(b=b10\/D+2<=b\/b=e0)) /\
   B9 48 A X0 (fun _=>False) β ⟨lk (A30 h leaf x (2 ^ (h-x)) (Ad .u64 (F5 seed (2 ^ (h-x)) x))),Bq (UR leaf chv pre.length (Ad .u64 (pre.map fun k=>Ci seed k (Ha leaf k))))⟩ a A:=by
 obtain⟨hx,_,b,o,cap,Fh,OC,FM,hbz,hcell⟩:=hM;obtain⟨pv,EF,Hb,hpz⟩:=hI.path
 obtain⟨q,hq⟩:∃q:Option (Nat × Nat),(q=none/\pre=[]/\∃ad,pv=.slice ad 0 0)\/∃pb po cap,q=some (pb,po)/\pv=.slice (some ⟨pb,po,none⟩) pre.length cap/\pre.length<=cap/\po+cap<=bsz A pb/\pb<A.heap.size/\(D+2<=pb\/pb=e0)/\Z pb/\(∀(j:Nat) y,(pre.map fun k=>Ci seed k (Ha leaf k))[j]?=some y->A.cell? ⟨pb,po+j,none⟩=some (.int .u64 y))/\∀j,po<=j->j<bsz A pb->A.frozen? ⟨pb,j,none⟩=false:=by
  rcases Hb with⟨h1,h2⟩|⟨pb,po,cap,h0,h1,h2,h3,h4,h5,h6,h7⟩
  ·exact⟨none,.inl ⟨rfl,by simpa using h1,h2⟩⟩
  ·rw[List.length_map] at h1 h2;exact⟨some (pb,po),.inr ⟨pb,po,cap,rfl,h1,h2,h3,h4,h5,hpz _ _ _ _ h0 h1,h6,h7⟩⟩
 obtain⟨β,hβ⟩:∃β:Bt,β=fun id=>if id=96000 then some (b10,o10) else if id=20 then q else none:=⟨_,rfl⟩
 have e1:β 96000=some (b10,o10):=by rw[hβ];rfl
 have e2:β 20=q:=by rw[hβ];rfl
 obtain⟨d,hd⟩:∃d,Ad .u64 (pre.map fun k=>Ci seed k (Ha leaf k))=d:=⟨_,rfl⟩
 have hdl:d.length=pre.length:=by rw[<-hd,Am,List.length_map]
 rw[hd]
 have W7:∀id bx,Bq (UR leaf chv pre.length d) id=some bx->(id=96000/\bx=.st [Ao leaf,.sc chv,.view 20 1 0 pre.length])\/(id=20/\bx=.ar false d):=by
  intro id bx e;rcases Sk (UR leaf chv pre.length d) id with h1|⟨p,hp,h1,h2⟩
  ·rw[h1] at e;cases e
  ·rw[h2] at e;cases e;simp only[Bx,Ig,or_false] at hp;rcases hp with rfl|rfl
   ·exact .inl ⟨h1.symm,rfl⟩
   ·exact .inr ⟨h1.symm,rfl⟩
 have hX:∀b,DS (Bq (UR leaf chv pre.length d)) β b->b=b10\/∃po,q=some (b,po):=by
  rintro b' ⟨id,o',hl,hb⟩
  cases hh:Bq (UR leaf chv pre.length d) id with
  |none=>rw[hh] at hl;exact hl.elim
  |some bx=>
   rcases W7 id bx hh with⟨rfl,_⟩|⟨rfl,_⟩
   ·rw[e1] at hb;cases hb;exact .inl rfl
   ·rw[e2] at hb;exact .inr ⟨o',hb⟩
 have hqz:∀b' po,q=some (b',po)->Z b'/\(D+2<=b'\/b'=e0)/\b'<A.heap.size:=by
  intro b' po e;rcases hq with⟨h1,_⟩|⟨pb,po',cap',h1,h2,h3,h4,h5,h6,h7,h8,h9⟩
  ·rw[h1] at e;cases e
  ·rw[h1] at e;cases e;exact⟨h7,h6,h5⟩
 have A1p:∀b',b'<wS.heap.size->b'≠b10->b'≠e0->¬Dd (Bq (UR leaf chv pre.length d)) β (fun _=>False) b':=by
  rintro b' hb Ge A65 (hx|hf)
  ·rcases hX b' hx with h1|⟨po,h1⟩
   ·exact Ge h1
   ·rcases (hqz _ _ h1).2.1 with h2|h2
    ·omega
    ·exact A65 h2
  ·exact hf
 have L8:wS.heap.size<A.heap.size:=by have:=hI.size;omega
 refine⟨β,_,e1,rfl,?_,B9.make (A30 h leaf x (2 ^ (h-x)) (Ad .u64 (F5 seed (2 ^ (h-x)) x))) (UR leaf chv pre.length d) a (fun i=>i=0) (fun i hi=>by omega) ha.dfr ha.size ?_ ?_ ?_ ?_ ?_ ?_ ?_ ?_ ?_ (fun _ h=>h.elim) (fun _ h=>h.elim)⟩
 ·intro b' hb;rcases hX b' hb with rfl|⟨po,h1⟩
  ·exact⟨hI.zlo _ l10,.inl rfl⟩
  ·exact⟨(hqz _ _ h1).1,.inr (hqz _ _ h1).2.1⟩
 ·intro p hp;simp only[Bx,Ig,or_false] at hp;rcases hp with rfl|rfl|rfl|rfl|rfl<;>simp
 ·intro p hp;simp only[Bx,Ig,or_false] at hp;rcases hp with rfl|rfl|rfl|rfl|rfl
  ·refine⟨⟨b5,o5,none⟩,ha.t5,rfl,by show b5<_;omega,A1p b5 l5 n5 m5,fun j c hj=>?_⟩
   match j,hj with
   |0,hj=>cases hj;exact⟨_,(World.cell?_of_block (a:=⟨b5,o5,none⟩) (hI.keep b5 l5 n5 m5)).trans h5,rfl,Az.sc _⟩
  ·refine⟨⟨b6,o6,none⟩,ha.t6,rfl,by show b6<_;omega,A1p b6 l6 n6 m6,fun j c hj=>?_⟩
   match j,hj with
   |0,hj=>cases hj;exact⟨_,(World.cell?_of_block (a:=⟨b6,o6,none⟩) (hI.keep b6 l6 n6 m6)).trans h6,rfl,Az.sc _⟩
  ·exact⟨b10,o10,e1,ha.t10⟩
  ·show Eo _ _ _ (Ao x) (a.tmps.getD 11 undef);rw[ha.t11,Fh];exact Az.sc _
  ·show Eo _ _ _ (.lst false 1 _ _) (a.tmps.getD 12 undef);rw[ha.t12,Fh];refine Az.lst 1 _ _ ⟨b,o,none⟩ cap (fun j=>.int .u64 (Ci seed x j)) rfl FM ?_ OC ?_ (fun _ _ _=>rfl) ?_
   ·rintro (BX|hf)
    ·rcases hX b BX with h1|⟨po,h1⟩
     ·exact hbz (h1 ▸ hI.zlo _ l10)
     ·exact hbz (hqz _ _ h1).1
    ·exact hf
   ·intro j c hj;rw[Fe];have Ch:j<(Ad .u64 (F5 seed (2 ^ (h-x)) x)).length:=(List.getElem?_eq_some_iff.1 hj).1;rw[Am,RK] at Ch;exact hcell j Ch
   ·intro j c hj;have Ch:j<(Ad .u64 (F5 seed (2 ^ (h-x)) x)).length:=(List.getElem?_eq_some_iff.1 hj).1;rw[Am,RK] at Ch;rw[O9 (Vw seed Ch)] at hj;cases hj;exact Az.sc _
 ·intro id bx e;rcases W7 id bx e with⟨rfl,rfl⟩|⟨rfl,rfl⟩
  ·refine⟨b10,o10,e1,fun j c hj=>?_,fun j hj=>hI.fz j hj⟩
   match j,hj with
   |0,hj=>cases hj;exact⟨_,hI.c0,Az.sc _⟩
   |1,hj=>cases hj;exact⟨_,hI.c1,Az.sc _⟩
   |2,hj=>
    cases hj;refine⟨_,EF,?_⟩;rcases hq with⟨h1,h2,h3⟩|⟨pb,po,cap',h1,h2,h3,h4,h5,h6,h7,h8,h9⟩
    ·exact .inl ⟨e2.trans h1,rfl,by rw[h2];rfl,h3⟩
    ·exact .inr ⟨pb,po,po,cap',e2.trans h1,h2,.inl rfl,h3,by omega,h5⟩
  ·rcases hq with⟨h1,h2,h3⟩|⟨pb,po,cap',h1,h2,h3,h4,h5,h6,h7,h8,h9⟩
   ·exact .inl ⟨e2.trans h1,by rw[<-hd,h2];rfl⟩
   ·refine .inr ⟨pb,po,e2.trans h1,fun j c hj=>?_,fun _=>h9,fun h=>by cases h⟩;have Ch:j<d.length:=(List.getElem?_eq_some_iff.1 hj).1;have Adf:j<(pre.map fun k=>Ci seed k (Ha leaf k)).length:=by rw[List.length_map];omega
    rw[<-hd,O9 (List.getElem?_eq_getElem Adf)] at hj;cases hj;rw[Fe];exact⟨_,h8 j _ (List.getElem?_eq_getElem Adf),rfl,Az.sc _⟩
 ·intro id id' b1 o1 o2 g1 g2 g3 g4
  have Br:∀i,Ct (Bq (UR leaf chv pre.length d) i)->i=96000\/i=20:=by
   intro i hi;cases hh:Bq (UR leaf chv pre.length d) i with
   |none=>rw[hh] at hi;exact hi.elim
   |some bx=>exact (W7 i bx hh).imp (·.1) (·.1)
  have Ge:∀po po',β 96000=some (b1,po)->β 20=some (b1,po')->False:=by
   intro po po' f1 f2;rw[e1] at f1;rw[e2] at f2;cases f1;rcases (hqz _ _ f2).2.1 with h2|h2
   ·omega
   ·exact m10 h2
  rcases Br id g1 with rfl|rfl<;>rcases Br id' g2 with rfl|rfl
  ·rfl
  ·exact (Ge _ _ g3 g4).elim
  ·exact (Ge _ _ g4 g3).elim
  ·rfl
 ·intro id b1 o1 g1 g2;cases hh:Bq (UR leaf chv pre.length d) id with
  |none=>exact absurd hh g1
  |some bx=>
   rcases W7 id bx hh with⟨rfl,_⟩|⟨rfl,_⟩
   ·rw[e1] at g2;cases g2;omega
   ·rw[e2] at g2;exact (hqz _ _ g2).2.2
 ·intro p hp id Br;simp only[Bx,Ig,or_false] at hp;rcases hp with rfl|rfl|rfl|rfl|rfl<;>simp[Cc,Cn,Aw] at Br
  subst Br;simp[Bq]
 ·intro id cells e c hc i hi;rcases W7 id _ e with⟨rfl,e'⟩|⟨rfl,e'⟩
  ·cases e';simp only[Bx,Ig,or_false] at hc;rcases hc with rfl|rfl|rfl<;>simp[Aw] at hi
   subst hi;exact fun h0:some (Bz.ar false d)=none=>by cases h0
  ·cases e'
 ·intro i hi;subst hi;simp[Bq,Dm]
 ·intro id c e;rcases W7 id _ e with⟨rfl,e'⟩|⟨rfl,e'⟩
  ·exact⟨0,rfl,rfl⟩
  ·cases e'
end
section
open Go Go.RowKit
theorem Akf:∀h:Nat,h<5->∀k:Nat,k<h->∀n:Nat,n<16->n<2 ^ h->0<=Ha (n:Int) k/\Ha (n:Int) k<((2 ^ (h-k):Nat):Int):=by decide +kernel
theorem Aiq{wS:World}{D:Nat}{seed leaf:Int}{h b10 o10 e0:Nat}{chv:Value}{Z:Nat->Prop}{pre pre':B5}{A w':World}(hI:JL wS D seed leaf h b10 o10 e0 chv Z pre A){β':Bt}{X0:F6}{a':Act}{m:Nat}{d:Ab}(hx1:X0.pt 0=some (b10,o10))(hx2:X0.pn 0)(hX:∀b,X0.X b->Z b/\(b=b10\/D+2<=b\/b=e0))(nD:D≠e0)(nD1:D+1≠e0)(l10:b10<wS.heap.size)(hD:wS.heap.size<=D)(hs:B9 48 A X0 (fun _=>False) β' ⟨lk [(10,.ptr 96000 0)],Bq [(96000,.st [Ao leaf,.sc chv,.view 96144 1 0 m]),(96144,.ar false d)]⟩ a' w')(hm:m=pre'.length)(hd:d=Ad .u64 (pre'.map fun k=>Ci seed k (Ha leaf k)))(Ch:∀x∈pre',x<h)(hZD:Z D)(Atz:Z (D+1)):
  Sd Z (fun b=>Z b\/(A.heap.size<=b/\b<w'.heap.size)) A w'/\w'.heap[D]?=A.heap[D]?/\w'.heap[D+1]?=A.heap[D+1]?/\JL wS D seed leaf h b10 o10 e0 chv (fun b=>Z b\/(A.heap.size<=b/\b<w'.heap.size)) pre' w':=by
 have L8:=hI.size;have Gn:=hs.fr.step
 have same:∀b,b<A.heap.size->b≠b10->b≠e0->b<D+2->w'.heap[b]?=A.heap[b]?:=fun b hb hn OH hl=>Gn.keep b hb fun hx=>by
  rcases (hX b hx).2 with h1|h1|h1
  ·exact hn h1
  ·omega
  ·exact OH h1
 have hp:β' 96000=some (b10,o10):=(hs.pin 0 hx2).2.trans hx1;obtain⟨b,o,g1,g2,g3⟩:=(show ∃b o,β' 96000=some (b,o)/\_/\_ from hs.box 96000 _ (rfl:_=some (Bz.st [Ao leaf,.sc chv,.view 96144 1 0 m])))
 rw[hp] at g1;cases g1;obtain⟨v0,q0,r0⟩:=g2 0 _ rfl;obtain⟨v1,q1,r1⟩:=g2 1 _ rfl;obtain⟨v2,q2,r2⟩:=g2 2 _ rfl;have r0:=Az.val r0;have r1:=Az.val r1;subst r0 r1;have Pi:=hs.box 96144 _ (rfl:_=some (Bz.ar false d))
 have Ge:∀pb po,β' 96144=some (pb,po)->pb≠b10/\(Z pb\/(A.heap.size<=pb/\pb<w'.heap.size))/\(D+2<=pb\/pb=e0)/\pb<w'.heap.size:=by
  intro pb po e;have Ch:pb<w'.heap.size:=hs.blt 96144 pb po (fun h0:some (Bz.ar false d)=none=>by cases h0) e
  have hn:pb≠b10:=by
   intro e';subst e';have:=hs.inj 96000 96144 pb o10 po trivial trivial hp e;cases this
  rcases hs.ownd pb ⟨96144,po,trivial,e⟩ with h1|h1
  ·have h2:=hX pb h1;rcases h2.2 with h3|h3
   ·exact absurd h3 hn
   ·exact⟨hn,.inl h2.1,h3,Ch⟩
  ·exact⟨hn,.inr ⟨h1,Ch⟩,.inl (by omega),Ch⟩
 refine⟨⟨hs.fr.os,hs.fr.tape,hs.fr.output,Gn.size,fun b hb hn=>Gn.keep b hb fun hx=>hn (hX b hx).1,fun b hb=>.inl hb,fun b hb=>hb.imp (fun x=>x) (·.1),fun b hb=>hb.elim (fun h1=>Io (hI.zlt b h1) Gn.size) (·.2),Gn.bs⟩,
  same D (hI.zlt D hZD) (by omega) nD (by omega),same (D+1) (hI.zlt _ Atz) (by omega) nD1 (by omega),?_⟩
 refine⟨hs.fr.os.trans hI.os,hs.fr.tape.trans hI.tape,hs.fr.output.trans hI.output,by have:=Gn.size;omega,fun b hb=>.inl (hI.zlo b hb),fun b hb=>hb.elim (fun h1=>Io (hI.zlt b h1) Gn.size) (·.2),fun b hb hn OH=>(same b (by omega) hn OH (by omega)).trans (hI.keep b hb hn OH),Nat.le_trans hI.bs (Gn.bs b10 (by omega)),q0,q1,fun k hk=>g3 k hk,Ch,v2,q2,?_,?_⟩
 ·rcases r2 with⟨f1,_,f3,f4⟩|⟨pb,po,xx,cap,f1,f2,f3,f4,f5,f6⟩
  ·have:pre'=[]:=List.length_eq_zero_iff.1 (by omega);exact .inl ⟨by rw[this];rfl,f4⟩
  ·rcases Pi with⟨e1,_⟩|⟨pb',po',e1,e2,e3,_⟩
   ·rw[f1] at e1;cases e1
   ·rw[f1] at e1;cases e1;have hxx:xx=po:=by omega
    subst hxx;rcases Nat.eq_zero_or_pos cap with q0|q0
    ·subst q0;have:pre'=[]:=List.length_eq_zero_iff.1 (by omega);have h0:m=0:=by omega
     exact .inl ⟨by rw[this];rfl,_,by rw[f2,h0]⟩
    refine .inr ⟨pb,xx,cap,q0,by rw[f2,List.length_map,hm],by rw[List.length_map];omega,by omega,f6,(Ge pb xx f1).2.2.1,fun j y hj=>?_,fun j hj hjb=>e3 rfl j hj hjb⟩
    obtain⟨v,h1,_,h3⟩:=e2 j (Ac y) (by rw[hd];exact O9 hj)
    rw[Fe] at h1;rw[h1,Az.val h3]
 ·intro pb po n cap hc0 e;rcases r2 with⟨f1,_,f3,ad,f4⟩|⟨pb',po',xx,cap',f1,f2,f3,f4,f5,f6⟩
  ·rw[f4] at e;cases e;omega
  ·rw[f2] at e;cases e;exact (Ge pb po' f1).2.1
def Ayu(wS:World)(D:Nat)(seed leaf:Int)(h b10 o10 e0:Nat)(chv:Value)(c:Code)(Z:Nat->Prop)(xs:B5)(B:World):Prop:=c=.exit 0/\∃pre,xs=pre++[h]/\JL wS D seed leaf h b10 o10 e0 chv Z pre B
theorem Aob{wS:World}{D:Nat}{seed leaf:Int}{h b5 o5 b6 o6 b10 o10 e0:Nat}{chv:Value}{Z:Nat->Prop}{pre:B5}{A:World}(hh:h<=4)(W7:0<=leaf)(IQ:leaf<((2 ^ h:Nat):Int))(hI:JL wS D seed leaf h b10 o10 e0 chv Z pre A){x:Nat}{args:Array Value}(hM:lvM seed h pre x args Z A){a:Act}(ha:A3k wS b5 o5 b6 o6 b10 o10 args a)(h5:wS.cell? ⟨b5,o5,none⟩=some (.int .i64 h))(h6:wS.cell? ⟨b6,o6,none⟩=some (.int .i64 leaf))(l5:b5<wS.heap.size)(l6:b6<wS.heap.size)(l10:b10<wS.heap.size)(n5:b5≠b10)(n6:b6≠b10)(m5:b5≠e0)(m6:b6≠e0)(m10:b10≠e0)(nD:D≠e0)(nD1:D+1≠e0)(hD:wS.heap.size<=D)(hZD:Z D)(Atz:Z (D+1)):
  Ahj.wpIn (WF (some (D+1))) 0 prog (KE D (JL wS D seed leaf h b10 o10 e0 chv) (Ayu wS D seed leaf h b10 o10 e0 chv) Z (pre++[x]) A) a A:=by
 obtain⟨β,X0,hx1,hx2,hX,hs⟩:=Arh hI hM ha h5 h6 l5 l6 l10 n5 n6 m5 m6 m10 hD;have hx:=hM.1;have NM:pre.length<=1000:=by rw[hM.2.1,List.length_range];omega
 have DV:∀a w,¬KE D (JL wS D seed leaf h b10 o10 e0 chv) (Ayu wS D seed leaf h b10 o10 e0 chv) Z (pre++[x]) A .outgrown a w:=fun a w ⟨_,_,_,_,hf⟩=>hf;by_cases hxh:x=h
 ·subst hxh;refine DN (Jf _ _) DR B8 (by kernel_rfl) DV hs (t:=1) (L:=1024) (s1:=⟨lk [(10,.ptr 96000 0)],Bq [(96000,.st [Ao leaf,.sc chv,.view 96144 1 0 pre.length]),(96144,.ar false (Ad .u64 (pre.map fun k=>Ci seed k (Ha leaf k))))]⟩) ?_ ?_
  ·refine (Aqg cl x leaf x chv _ _ _ _).trans ?_;rw[show ((x:Int)==(x:Int))=true from beq_self_eq_true _];rfl
  ·intro a' w' β' hs';obtain⟨k1,k2,k3,k4⟩:=Aiq hI hx1 hx2 hX nD nD1 l10 hD hs' rfl rfl hI.lt hZD Atz;exact⟨_,k1,k2,k3,rfl,pre,rfl,k4⟩
 ·have Ch:x<h:=by omega
  obtain⟨n,rfl⟩:∃n:Nat,leaf=n:=⟨leaf.toNat,by omega⟩
  have h16:2 ^ h<=16:=by
   have:2 ^ h<=2 ^ 4:=Nat.pow_le_pow_right (by omega) hh;omega
  have sb:=Akf h (by omega) x Ch n (by omega) (by omega);have es:E6 .i64 (Ff .i64 (n:Int) (x:Int)) 1=Ha n x:=rfl;obtain⟨y,hy⟩:∃y:Nat,Ha n x=y:=⟨(Ha n x).toNat,by omega⟩
  have at1:(Ad .u64 (F5 seed (2 ^ (h-x)) x)).getD y .top=Ac (Ci seed x (Ha n x)):=by
   rw[hy] at sb ⊢;exact Z5 (Vw seed (by omega))
  have L:(Ad .u64 (pre.map fun k=>Ci seed k (Ha n k))).length=pre.length:=by rw[Am,List.length_map]
  have T:List.take pre.length (Ad .u64 (pre.map fun k=>Ci seed k (Ha n k)))=Ad .u64 (pre.map fun k=>Ci seed k (Ha n k)):=I9 (by omega)
  have bq:((x:Int)==(h:Int))=false:=by
   rw[beq_eq_false_iff_ne];omega
  refine DN (Jf _ _) DR B8 (by kernel_rfl) DV hs (t:=0) (L:=1024) (s1:=⟨lk [(10,.ptr 96000 0)],Bq [(96000,.st [Ao n,.sc chv,.view 96144 1 0 (pre.length+1)]),(96144,.ar false (Ad .u64 (pre.map fun k=>Ci seed k (Ha n k))++[Ac (Ci seed x (Ha n x))]))]⟩) ?_ ?_
  ·refine (Aqg cl h n x chv _ _ _ _).trans ?_;rw[bq];have t0:(0:Int)<=x:=by omega
   have t1:(0:Int)<=y:=by omega
   have t2:(y:Int)<((2 ^ (h-x):Nat):Int):=by omega
   have OH:((pre.length+1)*8<=1099511627776):=by omega
   generalize 2 ^ (h-x)=nn at *
   simp(disch:=omega)only[B4,B3,es,hy,at1,L,T,Ij,Ec]
  ·intro a' w' β' hs'
   obtain⟨k1,k2,k3,k4⟩:=Aiq (pre':=pre++[x]) hI hx1 hx2 hX nD nD1 l10 hD hs' (by simp) (by simp) (by
    intro z hz;rcases Bu.1 hz with h1|h1
    ·exact hI.lt z h1
    ·rw[Lo.1 h1];exact Ch) hZD Atz
   exact⟨_,k1,k2,k3,k4⟩
end
section
open Go Go.RowKit Go.Shelf
set_option maxHeartbeats 2000000 in
theorem Auv(seed h:Int)(n:Nat)(w:World):CallsIn Fence.wide n prog 70 #[.int .u64 seed,.int .i64 h] w fun e w'=>
  e=.returned (.func (.func 113) #[] #[.pointer (some ⟨w.heap.size+1,0,none⟩),.pointer (some ⟨w.heap.size,0,none⟩)])/\w'=(w.alloc (.cells #[.int .u64 seed] 37)).alloc (.cells #[.int .i64 h] 3):=by
 refine callsIn_of_wp Tryz.func70 rfl trivial ?_ rfl;simp only[Tryz.ntmps70,List.size_toArray,G9,Vl,Nat.reduceAdd,Nat.reduceSub,Array.replicate_succ,Array.replicate_zero,List.push_toArray,List.append_toArray,PT,Zzp]
 gi_wp2
 go_ret
 exact⟨rfl,rfl⟩
end
section
open Go Go.RowKit
theorem Ayj{G:Vs}{P:Program}{f:FuncId}{v0 v1 v2 v3:Value}{vals:Ab}(hf:∃fn,P.funcs[f]?=some fn/\fn.body.isSome=true)(h:∀(w:World)(Y:Nat->Prop),(∀b,Y b->b<w.heap.size)->Calls P f #[v0,v1,v2,v3] w fun e w'=>∃vs own,e=.returned (Mf vs)/\Out w w' Y Zp [.sc v0,.sc v1,.sc v2,.sc v3] own ⟨vals,[]⟩ vs):C7 G P f [.sc v0,.sc v1,.sc v2,.sc v3] ⟨vals,[]⟩:=by
 refine⟨hf,fun w Y bt us BH _ _=>?_⟩
 have hus:us=[v0,v1,v2,v3]:=by
  have ha:=BH.args
  match us,ha with
  |[u0,u1,u2,u3],⟨h0,h1,h2,h3,_⟩=>
   rw[Az.val h0.2,Az.val h1.2,Az.val h2.2,Az.val h3.2]
 subst hus
 have hl:∀i q,bt i 0≠some q:=by
  intro i q e;obtain⟨p,h1,h2⟩:=BH.l0 i q e
  match i,h1 with
  |0,h1=>cases h1;cases h2
  |1,h1=>cases h1;cases h2
  |2,h1=>cases h1;cases h2
  |3,h1=>cases h1;cases h2
 refine (h w Y BH.Ylt).mono ?_
 rintro e w' ⟨vs,own,rfl,ho⟩
 have hA:QE bt own Y=QE Zp own Y:=by
  funext b
  apply propext;constructor
  ·rintro (h1|⟨i,o,h1⟩|h1)
   ·exact .inl h1
   ·exact absurd h1 (hl i _)
   ·exact .inr (.inr h1)
  ·rintro (h1|⟨i,o,h1⟩|h1)
   ·exact .inl h1
   ·cases h1
   ·exact .inr (.inr h1)
 refine⟨vs,own,rfl,ho.os,ho.tape,ho.output,ho.ext.weaken (fun b _ hb=>absurd hb (Q8 b)),fun b j hb _=>ho.rng b j hb ?_,by rw[hA];exact ho.vals,rfl,fun j b o hj=>⟨(ho.fresh j b o hj).1,fun Ch=>?_⟩,ho.inj⟩
 ·rintro⟨i,p,_,⟨k,o,h1,_⟩|⟨o,ps,h1,_⟩⟩
  ·cases h1
  ·cases h1
 ·obtain⟨⟨i,k,o',h1⟩,_⟩:=(ho.fresh j b o hj).2 Ch;cases h1
theorem B9.unbase{N:Nat}{we B w':World}{X XB:F6}{Y YB:Nat->Prop}{β:Bt}{s:St}{a:Act}(h:B9 N B XB YB β s a w')(hY:∀b,Y b->YB b)(Azz:∀b,Y b->b<we.heap.size)(Hb:∀b,XB.X b->we.heap.size<=b)(hpn:∀i,¬X.pn i)(hos:B.os=we.os)(ht:B.tape=we.tape)(hou:B.output=we.output)(L8:we.heap.size<=B.heap.size)(hk:∀b,b<we.heap.size->B.heap[b]?=we.heap[b]?):B9 N we X Y β s a w':=by
 have hX:∀b,DS s.hp β b->we.heap.size<=b:=fun b hb=>(h.ownd b hb).elim (Hb b) (fun h1=>Nat.le_trans L8 h1);have hA:∀b,Dd s.hp β Y b->Dd s.hp β YB b:=fun b hb=>hb.imp (fun x=>x) (hY b);have Gn:Cq (Dd s.hp β YB) w' w':=⟨Dn _,fun _ _ _=>rfl,fun _ _=>Dn _⟩
 have hkw:∀b,b<we.heap.size->w'.heap[b]?=we.heap[b]?:=fun b hb=>(h.fr.step.keep b (by omega) fun hx=>by have:=Hb b hx;omega).trans (hk b hb)
 refine⟨h.dfr,h.tsz,h.tmo,fun i hi=>(h.tms i hi).step Gn (fun b _=>hA b) fun _ _=>rfl,fun id bx e=>(h.box id bx e).step' hA,h.inj,h.blt,h.wfT,h.wfB,fun b hb=>.inr (hX b hb),fun id bx b o h1 h2 h3 h4=>?_,fun i hi=>absurd hi (hpn i),fun id c b o h1 h2 h3=>?_,fun b hy=>h.Yx b (hY b hy),Azz,
  ⟨h.fr.os.trans hos,h.fr.tape.trans ht,h.fr.output.trans hou,⟨Nat.le_trans L8 h.fr.step.size,fun b hb _=>hkw b hb,fun b hb=>by unfold bsz;rw[hkw b hb];exact Dn _⟩,fun b j hb _=>⟨World.cell?_of_block (hkw b hb),frozen?_of_block (hkw b hb)⟩⟩⟩
 ·have:=hX b ⟨id,o,by rw[h1];exact h2,h3⟩
  omega
 ·have:=hX b ⟨id,o,by rw[h1];trivial,h2⟩
  omega
theorem JL.stay{wS:World}{D:Nat}{seed leaf:Int}{h b10 o10 e0:Nat}{chv:Value}{Z:Nat->Prop}{pre:B5}{A B:World}(hI:JL wS D seed leaf h b10 o10 e0 chv Z pre A)(l10:b10<wS.heap.size)(nD:D≠e0)(nD1:D+1≠e0)(hD:wS.heap.size<=D)(hs:Nu (fun b=>Z b/\b≠D/\b≠D+1) A B):JL wS D seed leaf h b10 o10 e0 chv Z pre B:=by
 have e:∀b,b<wS.heap.size->B.heap[b]?=A.heap[b]?:=fun b hb=>hs.same b ⟨hI.zlo b hb,by omega,by omega⟩;have hb:bsz B b10=bsz A b10:=by unfold bsz;rw[e b10 l10]
 have hc:∀j,B.cell? ⟨b10,j,none⟩=A.cell? ⟨b10,j,none⟩:=fun j=>World.cell?_of_block (e b10 l10);obtain⟨pv,p1,p2,p3⟩:=hI.path;refine⟨hs.os.trans hI.os,hs.tape.trans hI.tape,hs.output.trans hI.output,Nat.le_trans hI.size hs.size,hI.zlo,fun b hz=>Io (hI.zlt b hz) hs.size,fun b hb hn OH=>(e b hb).trans (hI.keep b hb hn OH),by rw[hb];exact hI.bs,(hc _).trans hI.c0,(hc _).trans hI.c1,fun k hk=>by rw[frozen?_of_block (e b10 l10)];exact hI.fz k hk,hI.lt,pv,(hc _).trans p1,?_,p3⟩
 rcases p2 with p2|⟨pb,po,cap,h0,h1,h2,h3,h4,h5,h6,h7⟩
 ·exact .inl p2
 ·have hh:B.heap[pb]?=A.heap[pb]?:=hs.same pb ⟨p3 _ _ _ _ h0 h1,by omega,by omega⟩;have hbb:bsz B pb=bsz A pb:=by unfold bsz;rw[hh]
  exact .inr ⟨pb,po,cap,h0,h1,h2,by rw[hbb];exact h3,Io h4 hs.size,h5,fun j x hj=>(World.cell?_of_block (a:=⟨pb,po+j,none⟩) hh).trans (h6 j x hj),fun j hj hjb=>by rw[frozen?_of_block hh];exact h7 j hj (by rw[<-hbb];exact hjb)⟩
end
section
open Go Go.RowKit
abbrev sgE(leaf:Int)(n1 n2:Nat)(c1 c2:Ab):List (Nat × PV):=[(8,.ptr 96000 0),(9,Ao 0),(10,.iptr [Ao leaf,.lst false 1 n1 c1,.lst false 1 n2 c2] 0)]
theorem Azx{wS:World}{D:Nat}{seed leaf:Int}{h b8 o8 b10 o10 e0:Nat}{chv:Value}{Z:Nat->Prop}{pre:B5}{B:World}{Y:Nat->Prop}{a:Act}{n1:Nat}{c1:Ab}(hB:JL wS D seed leaf h b10 o10 e0 chv Z pre B)(hd:a.defers=[])(L8:a.tmps.size=48)(t8:a.tmps.getD 8 undef=.pointer (some ⟨b8,o8,none⟩))(t9:a.tmps.getD 9 undef=.int .i64 0)(t10:a.tmps.getD 10 undef=.pointer (some ⟨b10,o10,none⟩))(c8:∀j,j<3->∃v,B.cell? ⟨b8,o8+j,none⟩=some v)(f8:∀j,j<3->B.frozen? ⟨b8,o8+j,none⟩=false)(l8:b8<B.heap.size)(l10:b10<B.heap.size)(n8:b8≠b10)(y8:¬Y b8)(y10:¬Y b10)(hch:Az B (fun b=>b=b8\/Y b) (.lst false 1 n1 c1) chv)(A7w:chv.oneCell'=true)(hp:∀pb,(D+2<=pb\/pb=e0)->pb≠b8/\¬Y pb)(hY:∀b,Y b->b<B.heap.size):
  ∃X0 β,(∀b,X0.X b->b=b8)/\B9 48 B X0 Y β ⟨lk (sgE leaf n1 pre.length c1 (Ad .u64 (pre.map fun k=>Ci seed k (Ha leaf k)))),Bq [(96000,.st [.top,.top,.top])]⟩ a B:=by
 obtain⟨pv,EF,Hb,hpz⟩:=hB.path;obtain⟨β,hβ⟩:∃β:Bt,β=fun id=>if id=96000 then some (b8,o8) else none:=⟨_,rfl⟩
 have e1:β 96000=some (b8,o8):=by rw[hβ];rfl
 have W7:∀id bx,Bq [(96000,Bz.st [.top,.top,.top])] id=some bx->id=96000/\bx=.st [.top,.top,.top]:=by
  intro id bx e;rcases Sk [(96000,Bz.st [.top,.top,.top])] id with h1|⟨p,hp,h1,h2⟩
  ·rw[h1] at e;cases e
  ·rw[h2] at e;cases e;simp only[Bx,Ig,or_false] at hp;subst hp;exact⟨h1.symm,rfl⟩
 have hX:∀b,DS (Bq [(96000,Bz.st [.top,.top,.top])]) β b->b=b8:=by
  rintro b' ⟨id,o',hl,hb⟩
  cases hh:Bq [(96000,Bz.st [.top,.top,.top])] id with
  |none=>rw[hh] at hl;exact hl.elim
  |some bx=>
   obtain⟨rfl,_⟩:=W7 id bx hh;rw[e1] at hb;cases hb;rfl
 have hA:∀b,Dd (Bq [(96000,Bz.st [.top,.top,.top])]) β Y b->b=b8\/Y b:=fun b hb=>hb.imp (hX b) (fun x=>x);have Gn:Cq (fun b=>b=b8\/Y b) B B:=⟨Dn _,fun _ _ _=>rfl,fun _ _=>Dn _⟩
 have one:pv.oneCell'=true:=by
  rcases Hb with⟨_,ad,h2⟩|⟨pb,po,cap,_,h1,_⟩
  ·rw[h2];rfl
  ·rw[h1];rfl
 refine⟨_,β,?_,B9.make (sgE leaf n1 pre.length c1 (Ad .u64 (pre.map fun k=>Ci seed k (Ha leaf k)))) [(96000,.st [.top,.top,.top])] a (fun i=>i=0) (fun i hi=>by omega) hd L8 ?_ ?_ ?_ ?_ ?_ ?_ ?_ ?_ ?_ ?_ hY⟩
 ·exact hX
 ·intro p C5;simp only[Bx,Ig,or_false] at C5;rcases C5 with rfl|rfl|rfl<;>simp
 ·intro p C5;simp only[Bx,Ig,or_false] at C5;rcases C5 with rfl|rfl|rfl
  ·exact⟨b8,o8,e1,t8⟩
  ·show Eo _ _ _ (Ao 0) (a.tmps.getD 9 undef);rw[t9];exact Az.sc _
  ·refine⟨⟨b10,o10,none⟩,t10,rfl,l10,fun hb=>?_,fun j c hj=>?_⟩
   ·rcases hA _ hb with h1|h1
    ·exact n8 h1.symm
    ·exact y10 h1
   ·match j,hj with
    |0,hj=>cases hj;exact⟨_,hB.c0,rfl,Az.sc _⟩
    |1,hj=>cases hj;exact⟨_,hB.c1,A7w,hch.step Gn fun b _=>hA b⟩
    |2,hj=>
     cases hj;refine⟨_,EF,one,?_⟩;rcases Hb with⟨h1,ad,h2⟩|⟨pb,po,cap,_,h1,h2,h3,h4,h5,h6,h7⟩
     ·rw[h2];have:pre=[]:=by simpa using h1
      subst this;cases ad with
      |none=>exact Az.lnil _ _
      |some p=>exact Az.lemp _ p 0
     ·rw[h1,List.length_map];rw[List.length_map] at h2;refine Az.lst 1 _ _ ⟨pb,po,none⟩ cap (fun j=>.int .u64 ((pre.map fun k=>Ci seed k (Ha leaf k)).getD j 0)) rfl h4 (fun hb=>?_) h2 ?_ (fun _ _ _=>rfl) ?_
      ·have hh:=hp pb h5;rcases hA _ hb with h8|h8
       ·exact hh.1 h8
       ·exact hh.2 h8
      ·intro j c hj;have Ch:j<(Ad .u64 (pre.map fun k=>Ci seed k (Ha leaf k))).length:=(List.getElem?_eq_some_iff.1 hj).1;rw[Am] at Ch;rw[Fe,h6 j _ (List.getElem?_eq_getElem Ch),List.getD_eq_getElem?_getD,List.getElem?_eq_getElem Ch];rfl
      ·intro j c hj;have Ch:j<(Ad .u64 (pre.map fun k=>Ci seed k (Ha leaf k))).length:=(List.getElem?_eq_some_iff.1 hj).1;rw[Am] at Ch;rw[O9 (List.getElem?_eq_getElem Ch)] at hj;cases hj;rw[List.getD_eq_getElem?_getD,List.getElem?_eq_getElem Ch];exact Az.sc _
 ·intro id bx e;obtain⟨rfl,rfl⟩:=W7 id bx e;refine⟨b8,o8,e1,fun j c hj=>?_,fun j hj=>f8 j hj⟩;have Ch:j<3:=(List.getElem?_eq_some_iff.1 hj).1;obtain⟨v,hv⟩:=c8 j Ch
  match j,hj with
  |0,hj=>cases hj;exact⟨v,hv,Az.top _⟩
  |1,hj=>cases hj;exact⟨v,hv,Az.top _⟩
  |2,hj=>cases hj;exact⟨v,hv,Az.top _⟩
 ·intro id id' b1 o1 o2 g1 g2 g3 g4
  have Br:∀i,Ct (Bq [(96000,Bz.st [.top,.top,.top])] i)->i=96000:=by
   intro i hi;cases hh:Bq [(96000,Bz.st [.top,.top,.top])] i with
   |none=>rw[hh] at hi;exact hi.elim
   |some bx=>exact (W7 i bx hh).1
  rw[Br id g1,Br id' g2]
 ·intro id b1 o1 g1 g2;cases hh:Bq [(96000,Bz.st [.top,.top,.top])] id with
  |none=>exact absurd hh g1
  |some bx=>
   obtain⟨rfl,_⟩:=W7 id bx hh;rw[e1] at g2;cases g2;exact l8
 ·intro p C5 id Br;simp only[Bx,Ig,or_false] at C5;rcases C5 with rfl|rfl|rfl<;>simp[Cc,Cn,Aw] at Br
  subst Br;simp[Bq]
 ·intro id cells e c hc i hi;obtain⟨rfl,e'⟩:=W7 id _ e;cases e';simp only[Bx,Ig,or_false] at hc;rcases hc with rfl|rfl|rfl<;>simp[Aw] at hi
 ·intro i hi;subst hi;simp[Bq,Dm]
 ·intro id c e;obtain⟨rfl,_⟩:=W7 id _ e;exact⟨0,rfl,rfl⟩
 ·intro b hy hx;rw[hX b hx] at hy;exact y8 hy
end
section
open Go Go.RowKit
abbrev Aj2(seed h leaf m:Int)(n:Nat)(c:Ab):St:=
  ⟨lk [(0,Ac seed),(3,Ac m),(5,.ptr 5 0),(6,.ptr 6 0),(8,.ptr 8 0),(9,Ao 0),(10,.ptr 10 0),(27,Ac seed),(28,Ao h)],
   Bq [(5,.st [Ao h]),(6,.st [Ao leaf]),(8,.st [Ao 0,.view 104 1 0 0,.view 152 1 0 0]),(104,.ar false []),(152,.ar false []),(10,.st [Ao leaf,.view 106 1 0 n,.view 154 1 0 0]),(106,.ar false c),(154,.ar false [])]⟩
theorem B9.var{N:Nat}{w0:World}{X0:F6}{Y:Nat->Prop}{β:Bt}{s:St}{a:Act}{w:World}(h:B9 N w0 X0 Y β s a w){i id:Nat}{cells:Ab}(hi:i<N)(ht:s.tm i=.ptr id 0)(hb:s.hp id=some (.st cells)):
  ∃b o,β id=some (b,o)/\a.tmps.getD i undef=.pointer (some ⟨b,o,none⟩)/\b<w.heap.size/\(∀j c,cells[j]?=some c->∃v,w.cell? ⟨b,o+j,none⟩=some v/\Ck w (Dd s.hp β Y) β c v)/\∀j,j<cells.length->w.frozen? ⟨b,o+j,none⟩=false:=by
 have h1:=h.tms i hi;rw[ht] at h1;obtain⟨b,o,e1,e2⟩:=(show ∃b o,β id=some (b,o)/\a.tmps.getD i undef=.pointer (some ⟨b,o+0,none⟩) from h1)
 obtain⟨b',o',e3,e4,e5⟩:=(show ∃b o,β id=some (b,o)/\_/\_ from h.box id _ hb)
 rw[e1] at e3;cases e3;exact⟨b,o,e1,e2,h.blt id b o (by rw[hb];simp) e1,e4,e5⟩
structure A2q(w w4:World)(Y:Nat->Prop)(seed h leaf:Int)(c:Ab)(n:Nat)(a4:Act)(b5 o5 b6 o6 b8 o8 b10 o10 e0:Nat)(chv:Value):Prop where
 t5:a4.tmps.getD 5 undef=.pointer (some ⟨b5,o5,none⟩)
 t6:a4.tmps.getD 6 undef=.pointer (some ⟨b6,o6,none⟩)
 t8:a4.tmps.getD 8 undef=.pointer (some ⟨b8,o8,none⟩)
 t9:a4.tmps.getD 9 undef=.int .i64 0
 t10:a4.tmps.getD 10 undef=.pointer (some ⟨b10,o10,none⟩)
 t27:a4.tmps.getD 27 undef=.int .u64 seed
 t28:a4.tmps.getD 28 undef=.int .i64 h
 c5:w4.cell? ⟨b5,o5,none⟩=some (.int .i64 h)
 c6:w4.cell? ⟨b6,o6,none⟩=some (.int .i64 leaf)
 c8:∀j,j<3->∃v,w4.cell? ⟨b8,o8+j,none⟩=some v
 f8:∀j,j<3->w4.frozen? ⟨b8,o8+j,none⟩=false
 c10:w4.cell? ⟨b10,o10,none⟩=some (.int .i64 leaf)
 c11:w4.cell? ⟨b10,o10+1,none⟩=some chv
 f10:∀j,j<3->w4.frozen? ⟨b10,o10+j,none⟩=false
 l5:b5<w4.heap.size
 l6:b6<w4.heap.size
 l8:b8<w4.heap.size
 l10:b10<w4.heap.size
 le:e0<=w4.heap.size
 n5:b5≠b10
 n6:b6≠b10
 m5:b5≠e0
 m6:b6≠e0
 m10:b10≠e0
 n8:b8≠b10
 m8:b8≠e0
 y8:¬Y b8
 y10:¬Y b10
 ye:¬Y e0
 g10:w.heap.size<=b10
 ge:w.heap.size<=e0
 g8:w.heap.size<=b8
 one:chv.oneCell'=true
 ch:∀B:World,w4.heap.size<=B.heap.size->(∀b,b<w4.heap.size->b≠b10->b≠e0->B.heap[b]?=w4.heap[b]?)->Az B (fun b=>b=b8\/Y b) (.lst false 1 n c) chv
 p0:∃v2,w4.cell? ⟨b10,o10+2,none⟩=some v2/\((∃ad,v2=.slice ad 0 0)\/∃x cap,v2=.slice (some ⟨e0,x,none⟩) 0 cap/\x+cap<=bsz w4 e0/\e0<w4.heap.size/\∀j,x<=j->j<bsz w4 e0->w4.frozen? ⟨e0,j,none⟩=false)
theorem Aqe{w w4:World}{Y:Nat->Prop}{seed h leaf m:Int}{l:Cg}{n:Nat}{a4:Act}{X0:F6}{β4:Bt}(hn:0<n)(hl:l.length=n)(hX:∀b,¬X0.X b)(hs:B9 48 w X0 Y β4 (Aj2 seed h leaf m n (Ad .u64 l)) a4 w4):
  ∃b5 o5 b6 o6 b8 o8 b10 o10 e0 chv,A2q w w4 Y seed h leaf (Ad .u64 l) n a4 b5 o5 b6 o6 b8 o8 b10 o10 e0 chv:=by
 obtain⟨b5,o5,e5,t5,l5,k5,f5⟩:=hs.var (i:=5) (id:=5) (by decide) rfl rfl;obtain⟨b6,o6,e6,t6,l6,k6,f6⟩:=hs.var (i:=6) (id:=6) (by decide) rfl rfl;obtain⟨b8,o8,e8,t8,l8,k8,f8⟩:=hs.var (i:=8) (id:=8) (by decide) rfl rfl;obtain⟨b10,o10,e10,t10,l10,k10,f10⟩:=hs.var (i:=10) (id:=10) (by decide) rfl rfl;obtain⟨v5,q5,r5⟩:=k5 0 _ rfl;obtain⟨v6,q6,r6⟩:=k6 0 _ rfl;obtain⟨v80,q80,_⟩:=k8 0 _ rfl;obtain⟨v81,q81,_⟩:=k8 1 _ rfl;obtain⟨v82,q82,_⟩:=k8 2 _ rfl;obtain⟨v0,q0,r0⟩:=k10 0 _ rfl;obtain⟨v1,q1,r1⟩:=k10 1 _ rfl;obtain⟨v2,q2,r2⟩:=k10 2 _ rfl;have r5:=Az.val r5;have r6:=Az.val r6;have r0:=Az.val r0;subst r5 r6 r0;have Iv:=hs.box 106 _ (rfl:_=some (Bz.ar false (Ad .u64 l)));have Pi:=hs.box 154 _ (rfl:_=some (Bz.ar false []))
 have own:∀id b o,Ct ((Aj2 seed h leaf m n (Ad .u64 l)).hp id)->β4 id=some (b,o)->w.heap.size<=b/\¬Y b:=fun id b o h1 h2=>⟨(hs.ownd b ⟨id,o,h1,h2⟩).elim (fun x=>absurd x (hX b)) (fun x=>x),fun hy=>hs.Yx b hy ⟨id,o,h1,h2⟩⟩
 have dif:∀id id' b b' o o',id≠id'->Ct ((Aj2 seed h leaf m n (Ad .u64 l)).hp id)->Ct ((Aj2 seed h leaf m n (Ad .u64 l)).hp id')->β4 id=some (b,o)->β4 id'=some (b',o')->b≠b':=fun id id' b b' o o' Ge h1 h2 h3 h4 e=>by
  subst e;exact Ge (hs.inj id id' b o o' h1 h2 h3 h4)
 obtain⟨e0,he1,he2⟩:∃e0,(∀b o,β4 154=some (b,o)->e0=b)/\((∃o,β4 154=some (e0,o))\/e0=w4.heap.size):=by
  cases hq:β4 154 with
  |none=>exact⟨w4.heap.size,fun b o h=>by (cases h),.inr rfl⟩
  |some q=>exact⟨q.1,fun b o h=>by (cases h;rfl),.inl ⟨q.2,rfl⟩⟩
 have A91:w.heap.size<=w4.heap.size:=hs.fr.step.size
 have de:∀id b o,id≠154->Ct ((Aj2 seed h leaf m n (Ad .u64 l)).hp id)->β4 id=some (b,o)->b<w4.heap.size->b≠e0:=fun id b o Ge h1 h2 Ch e=>by
  rcases he2 with⟨o',h3⟩|h3
  ·exact dif id 154 b e0 o o' Ge h1 trivial h2 h3 e
  ·omega
 have ge:w.heap.size<=e0/\¬Y e0/\e0<=w4.heap.size:=by
  rcases he2 with⟨o',h3⟩|h3
  ·have:=own 154 e0 o' trivial h3;exact⟨this.1,this.2,Nat.le_of_lt (hs.blt 154 e0 o' (fun h0:some (Bz.ar false [])=none=>by cases h0) h3)⟩
  ·exact⟨by omega,fun hy=>by have:=hs.Ylt e0 hy;omega,by omega⟩
 rcases r1 with⟨_,_,h3,_⟩|⟨cb,co,x,cap,g1,g2,g3,g4,g5,g6⟩
 ·omega
 rcases Iv with⟨h7,_⟩|⟨cb',co',h7,h8,h9,_⟩
 ·rw[g1] at h7;cases h7
 rw[g1] at h7;cases h7;have hx:x=co:=by omega
 subst hx
 refine⟨b5,o5,b6,o6,b8,o8,b10,o10,e0,v1,⟨t5,t6,t8,Mj (hs.tms 9 (by decide)),t10,Mj (hs.tms 27 (by decide)),Mj (hs.tms 28 (by decide)),q5,q6,fun j hj=>?_,fun j hj=>f8 j hj,q0,q1,fun j hj=>f10 j hj,l5,l6,l8,l10,ge.2.2,
  dif 5 10 _ _ _ _ (by decide) trivial trivial e5 e10,dif 6 10 _ _ _ _ (by decide) trivial trivial e6 e10,de 5 _ _ (by decide) trivial e5 l5,de 6 _ _ (by decide) trivial e6 l6,de 10 _ _ (by decide) trivial e10 l10,dif 8 10 _ _ _ _ (by decide) trivial trivial e8 e10,de 8 _ _ (by decide) trivial e8 l8,
  (own 8 _ _ trivial e8).2,(own 10 _ _ trivial e10).2,ge.2.1,(own 10 _ _ trivial e10).1,ge.1,(own 8 _ _ trivial e8).1,by rw[g2];rfl,fun B hB hk=>?_,v2,q2,?_⟩⟩
 ·match j,hj with
  |0,_=>exact⟨v80,q80⟩
  |1,_=>exact⟨v81,q81⟩
  |2,_=>exact⟨v82,q82⟩
 ·have Yl:=hk cb g6 (dif 106 10 _ _ _ _ (by decide) trivial trivial g1 e10) (de 106 _ _ (by decide) trivial g1 g6);rw[g2];refine Az.lst 1 _ _ ⟨cb,x,none⟩ cap (fun j=>.int .u64 (l.getD j 0)) rfl (by show cb<_;omega) (fun hb=>?_) g4 (fun j c hj=>?_) (fun _ _ _=>rfl) (fun j c hj=>?_)
  ·rcases hb with hb|hb
   ·exact dif 106 8 _ _ _ _ (by decide) trivial trivial g1 e8 hb
   ·exact (own 106 _ _ trivial g1).2 hb
  ·have Ch:j<(Ad .u64 l).length:=(List.getElem?_eq_some_iff.1 hj).1;rw[Am] at Ch;obtain⟨v,k1,_,k3⟩:=h8 j _ (O9 (List.getElem?_eq_getElem Ch));rw[Fe] at k1 ⊢;rw[World.cell?_of_block (a:=⟨cb,x+j,none⟩) Yl,k1,Az.val k3,List.getD_eq_getElem?_getD,List.getElem?_eq_getElem Ch];rfl
  ·have Ch:j<(Ad .u64 l).length:=(List.getElem?_eq_some_iff.1 hj).1;rw[Am] at Ch;rw[O9 (List.getElem?_eq_getElem Ch)] at hj;cases hj;rw[List.getD_eq_getElem?_getD,List.getElem?_eq_getElem Ch];exact Az.sc _
 ·rcases r2 with⟨_,_,_,h4⟩|⟨pb,po,x',cap',k1,k2,k3,k4,k5',k6'⟩
  ·exact .inl h4
  ·have he:=he1 pb po k1;subst he;rcases Pi with⟨h7,_⟩|⟨pb',po',h7,_,h9',_⟩
   ·rw[k1] at h7;cases h7
   ·rw[k1] at h7;cases h7;have hxx:x'=po:=by omega
    subst hxx;exact .inr ⟨x',cap',k2,by omega,k6',fun j hj hjb=>h9' rfl j hj hjb⟩
end
section
open Go Go.RowKit
abbrev Ank:Code:=sA (sB (sR (sL (sR (sR (sR SF))))))
theorem Anl:∃o1 o2:Oper,Ank=.seq (.region 5 #[o1] false) (.region 6 #[o2] false)/\(o1.op=.assign (.tmp 30)/\o1.dst=some 11/\o1.guard=none)/\(o2.op=.assign (.tmp 31)/\o2.dst=some 12/\o2.guard=none):=
 ⟨_,_,rfl,⟨rfl,rfl,rfl⟩,⟨rfl,rfl,rfl⟩⟩
theorem Ak1{F:Fence}{n:Nat}{P:Program}{o:Oper}{x:Operand}{a:Act}{w:World}{next:Act->World->Prop}{Q:Exit->Act->World->Prop}(hF:∀f,F.fn f)(ho:o.op=.assign x)(h:next (a.put o.dst (a.eval x)) w):o.wpIn F n P a w next Q:=by
 refine⟨fun f _=>hF f,?_⟩;have e:o.semAt F.round a.eval=execOp a.eval o:=Oper.semAt_eq _ _ _ (by intro c hc;rw[ho] at hc;cases hc)
 rw[e]
 have r:(execOp a.eval o).run P w=.ok (.value (a.eval x)) w:=by
  unfold execOp;rw[ho];simp
 rw[r];exact h
theorem Ajo{F:Fence}{n:Nat}{P:Program}{o:Oper}{x:Operand}{id:Nat}{a:Act}{w:World}{Q:Exit->Act->World->Prop}(hF:∀f,F.fn f)(ho:o.op=.assign x)(hg:o.guard=none)(h:Q .normal (a.put o.dst (a.eval x)) w):(Code.region id #[o] false).wpIn F n P Q a w:=by refine wpIn_region ?_;show wpOpsIn F n P #[o] Q [0] a w;unfold wpOpsIn;simp only[List.getElem?_toArray,List.getElem?_cons_zero,Region.wanted,hg,if_true];exact Ak1 hF ho h
theorem Fs{a:Act}{i j:Nat}{v:Value}(h:i≠j):(a.put (some i) v).tmps.getD j undef=a.tmps.getD j undef:=by show (a.tmps.setIfInBounds i v).getD j undef=_;simp[Array.getD_eq_getD_getElem?,Array.getElem?_setIfInBounds_ne h]
theorem EY{a:Act}{i:Nat}{v:Value}(h:i<a.tmps.size):(a.put (some i) v).tmps.getD i undef=v:=by show (a.tmps.setIfInBounds i v).getD i undef=_;simp[Array.getD_eq_getD_getElem?,h]
def sgA(a:Act)(args:Array Value):Act:=
 let r:Act:={ tmps:=((#[30,31]:Array Tmp).zip args).foldl (fun t (p,v)=>t.setIfInBounds p v) a.tmps,defers:=[] }
 let r1:=r.put (some 11) (r.eval (.tmp 30))
 r1.put (some 12) (r1.eval (.tmp 31))
theorem Anw{a:Act}{x y:Value}(hs:a.tmps.size=48):(sgA a #[x,y]).defers=[]/\(sgA a #[x,y]).tmps.size=48/\(sgA a #[x,y]).tmps.getD 5 undef=a.tmps.getD 5 undef/\(sgA a #[x,y]).tmps.getD 6 undef=a.tmps.getD 6 undef/\(sgA a #[x,y]).tmps.getD 10 undef=a.tmps.getD 10 undef /\
  (sgA a #[x,y]).tmps.getD 11 undef=x/\(sgA a #[x,y]).tmps.getD 12 undef=y:=by
 obtain⟨b,hb⟩:∃b:Act,({ tmps:=a.tmps,defers:=[] }:Act)=b:=⟨_,rfl⟩
 have OX:b.tmps.size=48:=by rw[<-hb];exact hs
 have e:sgA a #[x,y]=(((b.put (some 30) x).put (some 31) y).put (some 11) (((b.put (some 30) x).put (some 31) y).eval (.tmp 30))).put (some 12) ((((b.put (some 30) x).put (some 31) y).put (some 11) (((b.put (some 30) x).put (some 31) y).eval (.tmp 30))).eval (.tmp 31)):=by
  rw[<-hb];have z:((#[30,31]:Array Tmp).zip #[x,y]) = #[(30,x),(31,y)]:=by simp
  unfold sgA;rw[z];simp[Act.put]
 have ev:∀(c:Act) (t:Nat),c.eval (.tmp t)=c.tmps.getD t undef:=fun c t=>rfl;have e30:((b.put (some 30) x).put (some 31) y).eval (.tmp 30)=x:=by rw[ev,Fs (by decide),EY (by omega)]
 rw[e,e30];have e31:(((b.put (some 30) x).put (some 31) y).put (some 11) x).eval (.tmp 31)=y:=by rw[ev,Fs (by decide),EY (by rw[Hy];omega)]
 rw[e31];have hd:b.defers=[]:=by rw[<-hb]
 have ht:b.tmps=a.tmps:=by rw[<-hb]
 refine⟨by simp only[Kj,hd],by simp only[Hy,OX],?_,?_,?_,?_,?_⟩
 ·rw[Fs (by decide),Fs (by decide),Fs (by decide),Fs (by decide),ht]
 ·rw[Fs (by decide),Fs (by decide),Fs (by decide),Fs (by decide),ht]
 ·rw[Fs (by decide),Fs (by decide),Fs (by decide),Fs (by decide),ht]
 ·rw[Fs (by decide),EY (by simp only[Hy];omega)]
 ·rw[EY (by simp only[Hy];omega)]
theorem Aut{w w4 w5:World}{Y:Nat->Prop}{seed leaf:Int}{h:Nat}{c:Ab}{n:Nat}{a4 a5:Act}{b5 o5 b6 o6 b8 o8 b10 o10 e0:Nat}{chv:Value}(hh:h<=4)(W7:0<=leaf)(IQ:leaf<((2 ^ h:Nat):Int))(hp:A2q w w4 Y seed h leaf c n a4 b5 o5 b6 o6 b8 o8 b10 o10 e0 chv)(L8:a4.tmps.size=48)(hw5:w5=(w4.alloc (.cells #[.int .u64 seed] 37)).alloc (.cells #[.int .i64 h] 3))(QU:a5=a4.put (some 29) (.func (.func 113) #[] #[.pointer (some ⟨w4.heap.size+1,0,none⟩),.pointer (some ⟨w4.heap.size,0,none⟩)])){K:Act->World->Prop}{Q:Exit->Act->World->Prop}(hK:∀Z B,JL w4 (w4.heap.size+2) seed leaf h b10 o10 e0 chv Z (List.range h) B->B.heap[w4.heap.size+2]?=some (.deferred (some []))->K { a5 with defers:={ target:=.collected (w4.heap.size+2),args:= #[] }::a5.defers } B):
  (Code.block 0 (.rangeFunc (.tmp 29) #[30,31] Ank Ahj)).wpIn Fence.wide 0 prog (Exit.then K Q) a5 w5:=by
 have X4:w5.heap.size=w4.heap.size+2:=by rw[hw5,World.size_alloc,World.size_alloc]
 have hold:∀b,b<w4.heap.size->w5.heap[b]?=w4.heap[b]?:=fun b hb=>by
  rw[hw5];exact (Below.heap_alloc _ _ _ (by simp;omega)).trans (Below.heap_alloc _ _ _ hb)
 have hB1:w5.heap[w4.heap.size+1]?=some (.cells #[.int .i64 h] 3):=by
  rw[hw5];have:=World.alloc_heap_new (w4.alloc (.cells #[.int .u64 seed] 37)) (.cells #[.int .i64 h] 3);rwa [World.size_alloc] at this
 have hB0:w5.heap[w4.heap.size]?=some (.cells #[.int .u64 seed] 37):=by
  rw[hw5];exact (Below.heap_alloc _ _ _ (by simp)).trans (World.alloc_heap_new w4 _)
 have Ay3:a5.tmps.size=48:=by rw[QU,Hy];exact L8
 have g5:a5.tmps.getD 5 undef=.pointer (some ⟨b5,o5,none⟩):=by rw[QU,Fs (by decide)];exact hp.t5
 have g6:a5.tmps.getD 6 undef=.pointer (some ⟨b6,o6,none⟩):=by rw[QU,Fs (by decide)];exact hp.t6
 have g10:a5.tmps.getD 10 undef=.pointer (some ⟨b10,o10,none⟩):=by rw[QU,Fs (by decide)];exact hp.t10
 have g29:a5.eval (.tmp 29)=.func (.func 113) #[] #[.pointer (some ⟨w4.heap.size+1,0,none⟩),.pointer (some ⟨w4.heap.size,0,none⟩)]:=by
  show a5.tmps.getD 29 undef=_;rw[QU,EY (by omega)]
 have nD:w4.heap.size+2≠e0:=by have:=hp.le;omega
 have nD1:w4.heap.size+2+1≠e0:=by have:=hp.le;omega
 have UI:=Asz (seed:=seed) (h:=h) (Bh:=w4.heap.size+1) (Bs:=w4.heap.size) hh
 refine wpIn_block (Amj (Z0:=fun b=>b<w4.heap.size) g29 (enters_of Tryz.func113 (by kernel_rfl) rfl) UI (fun b hb=>by omega) (fun W hW hk=>?_) (fun pre x args Z A B hm h1 h2=>An1 hm h1 h2) (fun pre x args Z A hm=>Aon hm)
  (JL w4 (w4.heap.size+2) seed leaf h b10 o10 e0 chv) (Ayu w4 (w4.heap.size+2) seed leaf h b10 o10 e0 chv) ?_ ?_ ?_ (sgA a5) ?_ ?_ ?_ ?_)
 ·have k1:=hk (w4.heap.size+1) (by omega);have k0:=hk w4.heap.size (by omega);refine⟨(World.cell?_of_block (a:=⟨w4.heap.size+1,0,none⟩) k1).trans ?_,(World.cell?_of_block (a:=⟨w4.heap.size,0,none⟩) k0).trans ?_,by omega,by omega,?_,?_⟩
  ·unfold World.cell?;rw[hB1];rfl
  ·unfold World.cell?;rw[hB0];rfl
  ·rintro (h1|h1|h1)<;>omega
  ·rintro (h1|h1|h1)<;>omega
 ·intro Z pre A B hI hs;rw[X4] at hs;exact hI.stay hp.l10 nD nD1 (by omega) hs
 ·rintro c' Z pre A B ⟨h1,pre',h2,hI⟩ hs
  rw[X4] at hs;exact⟨h1,pre',h2,hI.stay hp.l10 nD nD1 (by omega) hs⟩
 ·intro W hW Gn;have e:∀b,b<w4.heap.size->W.heap[b]?=w4.heap[b]?:=fun b hb=>(Gn.same b (by omega)).trans (hold b hb);have o5:w5.os=w4.os/\w5.tape=w4.tape/\w5.output=w4.output:=by rw[hw5];exact⟨rfl,rfl,rfl⟩
  obtain⟨v2,p1,p2⟩:=hp.p0;refine⟨Gn.os.trans o5.1,Gn.tape.trans o5.2.1,Gn.output.trans o5.2.2,by omega,fun b hb=>.inl hb,fun b hb=>by rcases hb with hb|hb|hb<;>omega,fun b hb _ _=>e b hb,by unfold bsz;rw[e b10 hp.l10];exact Dn _,(World.cell?_of_block (e b10 hp.l10)).trans hp.c10,(World.cell?_of_block (e b10 hp.l10)).trans hp.c11,fun k hk=>by rw[frozen?_of_block (e b10 hp.l10)];exact hp.f10 k hk,(fun x hx=>by cases hx),v2,(World.cell?_of_block (e b10 hp.l10)).trans p1,?_,?_⟩
  ·rcases p2 with p2|⟨x,cap,q1,q2,q3,q4⟩
   ·exact .inl ⟨rfl,p2⟩
   ·have hb:bsz W e0=bsz w4 e0:=by unfold bsz;rw[e e0 q3]
    rcases Nat.eq_zero_or_pos cap with q0|q0
    ·subst q0;exact .inl ⟨rfl,_,q1⟩
    exact .inr ⟨e0,x,cap,q0,q1,Nat.zero_le _,by rw[hb];exact q2,by omega,.inr rfl,fun j y hj=>(by cases hj),fun j hj hjb=>by rw[frozen?_of_block (e e0 q3)];exact q4 j hj (by rw[<-hb];exact hjb)⟩
  ·intro pb po k cap' hc0 hv;rcases p2 with⟨ad,p2⟩|⟨x,cap,q1,q2,q3,q4⟩
   ·rw[p2] at hv;cases hv;omega
   ·rw[q1] at hv;cases hv;exact .inl q3
 ·intro pre x args Z A K' hm hk;obtain⟨o1,o2,e,⟨a1,a2,a3⟩,⟨c1,c2,c3⟩⟩:=Anl;refine Pm e (wpIn_seq (Ajo (fun _=>trivial) a1 a3 ?_));show (Code.region 6 #[o2] false).wpIn _ _ _ _ _ _;refine Ajo (fun _=>trivial) c1 c3 ?_;rw[a2,c2];exact hk
 ·intro Z pre x args A hZ1 hZ2 hI hm;rw[X4] at hZ1 hZ2 ⊢;obtain⟨hx,_,bb,oo,cc,Fh,_⟩:=id hm;have sp:=Anw (a:=a5) (x:=.int .i64 x) (y:=.slice (some ⟨bb,oo,none⟩) (2 ^ (h-x):Nat) cc) Ay3;rw[<-Fh] at sp;refine Aob hh W7 IQ hI hm ⟨sp.1,sp.2.1,sp.2.2.1.trans g5,sp.2.2.2.1.trans g6,sp.2.2.2.2.1.trans g10,?_,?_⟩ hp.c5 hp.c6 hp.l5 hp.l6 hp.l10 hp.n5 hp.n6 hp.m5 hp.m6 hp.m10 nD nD1 (by omega) hZ1 hZ2
  ·rw[sp.2.2.2.2.2.1,Fh];rfl
  ·rw[sp.2.2.2.2.2.2,Fh];rfl
 ·intro Z xs B hS hI _;subst hS;have:=hI.lt h (by simp);omega
 ·rintro c' Z xs B ⟨k,hk⟩ ⟨rfl,pre,Adl,hI⟩ hdf
  have hrg:pre=List.range h:=by
   rw[Adl,List.range_succ] at hk;have:=List.append_inj' hk rfl;have h2:h=k:=by simpa using this.2
   rw[this.1,h2]
  subst hrg;rw[X4] at hdf ⊢;refine wpIn_exit ?_;simp only[Exit.inBlock,if_true];exact hK Z B hI hdf
end
section
open Go Go.RowKit
theorem Ax3:SF=.seq (sL SF) (.seq (sL (sR SF)) (.seq (sL (sR (sR SF))) (.seq (.seq (.region 4 (Hj (sL (sL (sR (sR (sR SF)))))) false) (.block 0 (.rangeFunc (.tmp 29) #[30,31] Ank Ahj))) (.seq (.region 9 (Hj (sL (sR (sR (sR (sR SF)))))) false) .ret)))):=by kernel_rfl
theorem A2m:∃ty pos aft x,(Hj (sL (sL (sR (sR (sR SF))))))[2]?=some { dst:=some 29,op:=.call { callee:=.value (.func 70),args:= #[.tmp 27,.tmp 28],argTypes:=x },type:=ty,pos:=pos,after:=aft,guard:=none }:=
 ⟨_,_,_,_,rfl⟩
theorem LD{P:Program}{ops:Array Oper}{Q Q':Exit->Act->World->Prop}{n id:Nat}{ds:List Deferred}{a:Act}{w:World}(h:wpOpsIn (WF none) n P ops Q' (List.range ops.size) a w)(hq:∀e a w,TD ds Q' e a w->Q e a w):(Code.region id ops false).wpIn Fence.wide n P Q (Tn ds a) w:=
 wpIn_mono (wpIn_region (F:=Fence.wide) (X8 _ h)) hq
abbrev A6p(seed h leaf m:Int):St:=
  ⟨lk [(0,Ac seed),(3,Ac m),(5,.ptr 5 0),(6,.ptr 6 0),(8,.ptr 8 0),(9,Ao 0)],
   Bq [(5,.st [Ao h]),(6,.st [Ao leaf]),(8,.st [Ao 0,.view 104 1 0 0,.view 152 1 0 0]),(104,.ar false []),(152,.ar false [])]⟩
abbrev A5z(seed h leaf m:Int)(n:Nat)(c:Ab):St:=
  ⟨lk [(0,Ac seed),(3,Ac m),(5,.ptr 5 0),(6,.ptr 6 0),(8,.ptr 8 0),(9,Ao 0),(10,.ptr 10 0)],
   Bq [(5,.st [Ao h]),(6,.st [Ao leaf]),(8,.st [Ao 0,.view 104 1 0 0,.view 152 1 0 0]),(104,.ar false []),(152,.ar false []),(10,.st [Ao leaf,.view 106 1 0 n,.view 154 1 0 0]),(106,.ar false c),(154,.ar false [])]⟩
abbrev A0t(leaf:Int)(n1 n2:Nat)(c1 c2:Ab):St:=⟨lk [(8,.ptr 96000 0),(9,Ao 0)],Bq [(96000,.st [Ao leaf,.lst false 1 n1 c1,.lst false 1 n2 c2])]⟩
theorem Agn{h leaf:Int}(hb:RP h leaf=false):D6 h=false/\J8 leaf h=false/\∃H:Nat,h=H/\H<=4/\0<=leaf/\leaf<((2 ^ H:Nat):Int):=by
 unfold RP at hb;rw[Bool.or_eq_false_iff] at hb;refine⟨hb.1,hb.2,h.toNat,?_⟩;have h1:=hb.1;have h2:=hb.2;unfold D6 at h1;unfold J8 at h2;rw[Bool.or_eq_false_iff,PA,PA] at h1 h2;have h3:h=(h.toNat:Int):=by omega
 have h4:=Axc (h:=h.toNat) (by omega);rw[<-h3] at h4;rw[h4] at h2;exact⟨h3,by omega,by omega,by omega⟩
theorem Avg{G:Vs}{seed h leaf m:Int}(hb:RP h leaf=false):C7 G prog 36 [Ac seed,Ao h,Ao leaf,Ac m]
  ⟨[.agg [Ao leaf,.lst false 1 18 (Ad .u64 (Ls seed leaf m)),.lst false 1 h.toNat (Ad .u64 ((List.range h.toNat).map fun k=>Ci seed k (Ha leaf k)))],Ao 0],[]⟩:=by
 obtain⟨hhi,hou,H,rfl,hh,W7,IQ⟩:=Agn hb;refine Ayj ⟨_,Tryz.func36,rfl⟩ fun w Y hY=>?_;have hk0:Afx prog 48 0 Tryz.f36.params.toList [Ac seed,Ao H,Ao leaf,Ac m] (fun tms bs=>some (tms,bs))=some ([(0,Ac seed),(1,Ao H),(2,Ao leaf),(3,Ac m)],[]):=by kernel_rfl
 have BH:Ins w Y Zp [Ac seed,Ao H,Ao leaf,Ac m] [.int .u64 seed,.int .i64 H,.int .i64 leaf,.int .u64 m]:=
  ⟨hY,fun b _=>Q8 b,fun b x=>(Q8 b x).elim,fun _ _ _ _ _ _ _ x=>(by cases x),fun _ _ x=>(by cases x),⟨.inl trivial,Az.sc _⟩,⟨.inl trivial,Az.sc _⟩,⟨.inl trivial,Az.sc _⟩,⟨.inl trivial,Az.sc _⟩,trivial⟩
 obtain⟨tms,bs,Eg,Gn⟩:=KF BH hk0;cases Eg;obtain⟨h8,β0,QM⟩:=Gn rfl (by simp);refine callsIn_wide.1 (callsIn_of_wp_marks (F:=Fence.wide) (n:=0) Tryz.func36 rfl trivial ?_ rfl);have t1:({ tmps:= #[Value.int .u64 seed,.int .i64 H,.int .i64 leaf,.int .u64 m]++Array.replicate (Tryz.f36.ntmps-(#[Value.int .u64 seed,.int .i64 H,.int .i64 leaf,.int .u64 m]).size) undef,defers:=[] }:Act)={ tmps:=[Value.int .u64 seed,.int .i64 H,.int .i64 leaf,.int .u64 m].toArray++Array.replicate (48-[Value.int .u64 seed,.int .i64 H,.int .i64 leaf,.int .u64 m].toArray.size) undef,defers:=[] }:=by kernel_rfl
 rw[t1];show SF.wpIn _ _ _ _ _ _;generalize ({ tmps:=[Value.int .u64 seed,.int .i64 H,.int .i64 leaf,.int .u64 m].toArray++Array.replicate (48-[Value.int .u64 seed,.int .i64 H,.int .i64 leaf,.int .u64 m].toArray.size) undef,defers:=[] }:Act)=a0 at QM ⊢;have hXn:∀b,¬(FD Zp [Ac seed,Ao H,Ao leaf,Ac m] h8).X b:=Q8;refine Pm Ax3 (wpIn_seq (wpIn_wide.2 (Dh (Jf _ _) DR B8 QM (Ax6 cl seed H leaf m) ?_)));intro a1 w1 β1 MY;have eh:cl 67 [Ao H]=_:=Xc (xs:=noX) (fu:=2000) (d:=7) (H:Int);have eo:cl 68 [Ao leaf,Ao H]=_:=Si (xs:=noX) (fu:=2000) (d:=7) leaf H (by omega);have es:cl 69 [Ac seed,Ao leaf,Ac m]=_:=Atv (xs:=noX) (fu:=2000) (d:=1) (by omega) seed leaf m
 refine wpIn_seq (wpIn_wide.2 (Dh (Jf _ _) DR B8 MY (L:=873) (t:=0) (s1:=A6p seed H leaf m) ?_ ?_))
 ·refine (A0p cl seed H leaf m).trans ?_;simp only[B4,B3,eh,eo,hhi,hou]
 intro a2 w2 β2 RC;refine wpIn_seq (wpIn_wide.2 (Dh (Jf _ _) DR B8 RC (L:=1897) (t:=0) (s1:=A5z seed H leaf m 18 (Ad .u64 (Ls seed leaf m))) ?_ ?_))
 ·refine (Aym cl seed H leaf m).trans ?_;simp only[B4,B3,es]
 intro a3 w3 β3 hs3;refine wpIn_seq (wpIn_seq (wpIn_region ?_));have hl:List.range (Hj (sL (sL (sR (sR (sR SF)))))).size=[0,1]++[2]:=by kernel_rfl
 rw[hl];refine G4 (ro:=none) (C:=CB) (call:=cl) (r:=((0:Nat),Aj2 seed H leaf m 18 (Ad .u64 (Ls seed leaf m)))) (Jf _ _) B8 ?_ [0,1] (List.take 2 (Hj (sL (sL (sR (sR (sR SF)))))).toList) (by kernel_rfl) ?_ (by kernel_rfl) hs3 (Azb cl seed H leaf m 18 _)
 rotate_left
 ·intro j i hj
  match j,hj with
  |0,hj=>cases hj;rfl
  |1,hj=>cases hj;rfl
 intro s' a4 w4 β4 U8 hs4;obtain⟨β5,s5,XW,X4⟩:=Cb hs4 U8;cases XW;obtain⟨b5,o5,b6,o6,b8,o8,b10,o10,e0,chv,hp⟩:=Aqe (l:=Ls seed leaf m) (n:=18) (by omega) (by simp[Ls]) hXn X4;obtain⟨ty,pos,aft,x,ho⟩:=A2m;rw[wpOpsIn_cons];unfold wpOpIn;rw[ho];simp only[Region.wanted,if_true];refine⟨fun _ _=>trivial,?_⟩
 rw[show Oper.semAt (WF none).round a4.eval { dst:=some 29,op:=.call { callee:=.value (.func 70),args:= #[.tmp 27,.tmp 28],argTypes:=x },type:=ty,pos:=pos,after:=aft,guard:=none }=execOp a4.eval { dst:=some 29,op:=.call { callee:=.value (.func 70),args:= #[.tmp 27,.tmp 28],argTypes:=x },type:=ty,pos:=pos,after:=aft,guard:=none } from rfl,
  GN (o:={ dst:=some 29,op:=.call { callee:=.value (.func 70),args:= #[.tmp 27,.tmp 28],argTypes:=x },type:=ty,pos:=pos,after:=aft,guard:=none }) rfl rfl ngT Tryz.func70 rfl]
 have e27:a4.eval (.tmp 27)=.int .u64 seed:=hp.t27;have e28:a4.eval (.tmp 28)=.int .i64 H:=hp.t28;simp only[List.map_toArray,Rz,List.map_nil,e27,e28];refine⟨(fun h=>by cases h),(Auv seed H _ w4).mono ?_⟩
 rintro e w5 ⟨rfl,hw5⟩
 refine Aut (w:=w) (Y:=Y) hh W7 IQ hp X4.tsz hw5 rfl ?_;intro Z B hRI hdf;obtain⟨a5,QU⟩:∃a5,a4.put (some 29) (.func (.func 113) #[] #[.pointer (some ⟨w4.heap.size+1,0,none⟩),.pointer (some ⟨w4.heap.size,0,none⟩)])=a5:=⟨_,rfl⟩
 rw[QU];have hd5:a5.defers=[]:=by rw[<-QU,Kj];exact X4.dfr
 have hz5:a5.tmps.size=48:=by rw[<-QU,Hy];exact X4.tsz
 have ea:({ a5 with defers:={ target:=.collected (w4.heap.size+2),args:= #[] }::a5.defers }:Act)=Tn [{ target:=.collected (w4.heap.size+2),args:= #[] }] a5:=by unfold Tn;rw[hd5];rfl
 rw[ea];have hsB:w4.heap.size<=B.heap.size:=by have:=hRI.size;omega
 have hkB:∀b,b<w4.heap.size->b≠b10->b≠e0->B.heap[b]?=w4.heap[b]?:=hRI.keep;have h8B:=hkB b8 hp.l8 hp.n8 hp.m8
 obtain⟨XB,βB,hXB,hB⟩:=Azx (Y:=Y) (a:=a5) (b8:=b8) (o8:=o8) (n1:=18) (c1:=Ad .u64 (Ls seed leaf m)) hRI hd5 hz5 (by rw[<-QU,Fs (by decide)];exact hp.t8) (by rw[<-QU,Fs (by decide)];exact hp.t9) (by rw[<-QU,Fs (by decide)];exact hp.t10)
  (fun j hj=>by rw[World.cell?_of_block (a:=⟨b8,o8+j,none⟩) h8B];exact hp.c8 j hj) (fun j hj=>by rw[frozen?_of_block h8B];exact hp.f8 j hj) (Io hp.l8 hsB) (Io hp.l10 hsB) hp.n8 hp.y8 hp.y10 (hp.ch B hsB hkB) hp.one
  (fun pb hpb=>by
   rcases hpb with hpb|hpb
   ·have:=hp.l8;exact⟨by omega,fun hy=>by have:=hY pb hy;have:=X4.fr.step.size;omega⟩
   ·rw[hpb];exact⟨fun e=>hp.m8 e.symm,hp.ye⟩)
  (fun b hb=>by have:=hY b hb;have:=X4.fr.step.size;omega)
 rw[List.length_range] at hB;refine wpIn_seq (LD (Q':=fun e a' w'=>e=.normal/\∃β',B9 48 B XB Y β' (A0t leaf 18 H (Ad .u64 (Ls seed leaf m)) (Ad .u64 ((List.range H).map fun k=>Ci seed k (Ha leaf k)))) a' w') ?_ ?_)
 ·have hl9:List.range (Hj (sL (sR (sR (sR (sR SF)))))).size=[0,1,2]++[]:=by kernel_rfl
  rw[hl9];refine G4 (ro:=none) (C:=CB) (call:=cl) (r:=((0:Nat),A0t leaf 18 H (Ad .u64 (Ls seed leaf m)) (Ad .u64 ((List.range H).map fun k=>Ci seed k (Ha leaf k))))) (Jf _ _) B8 ?_ [0,1,2] (Hj (sL (sR (sR (sR (sR SF)))))).toList (by kernel_rfl) ?_ (by kernel_rfl) hB (Az0 cl leaf 18 H _ _)
  rotate_left
  ·intro j i hj
   match j,hj with
   |0,hj=>cases hj;rfl
   |1,hj=>cases hj;rfl
   |2,hj=>cases hj;rfl
  intro s6 a6 w6 β6 hk6 hs6;obtain⟨β7,s7,hk7,hs7⟩:=Cb hs6 hk6;cases hk7;exact⟨rfl,β7,hs7⟩
 ·rintro e a7 w7 ⟨a6,rfl,rfl,β6,hz⟩
  refine wpIn_ret ?_
  have hD':w7.heap[w4.heap.size+2]?=some (.deferred (some [])):=by
   have Ch:=hRI.size;have hl8:=hp.l8;rw[hz.fr.step.keep (w4.heap.size+2) (by omega) fun hx=>by have:=hXB _ hx;omega]
   exact hdf
  show LeavesInM _ _ _ _ _ _ (a6.defers++[{ target:=.collected (w4.heap.size+2),args:= #[] }]) .returning w7;rw[hz.dfr];refine⟨by simp,.inl ⟨_,_,rfl,run_takeDeferred hD',?_⟩⟩;have UT:=X4.fr
  have hu:B9 48 w (FD Zp [Ac seed,Ao H,Ao leaf,Ac m] h8) Y β6 (A0t leaf 18 H (Ad .u64 (Ls seed leaf m)) (Ad .u64 ((List.range H).map fun k=>Ci seed k (Ha leaf k)))) a6 w7:=
   hz.unbase (fun _ h=>h) hY (fun b hx=>by rw[hXB b hx];exact hp.g8) (fun i ⟨p,h1,h2⟩=>by
    match i,h1 with
    |0,h1=>cases h1;cases h2
    |1,h1=>cases h1;cases h2
    |2,h1=>cases h1;cases h2
    |3,h1=>cases h1;cases h2) (hRI.os.trans UT.os) (hRI.tape.trans UT.tape) (hRI.output.trans UT.output) (Nat.le_trans UT.step.size hsB) (fun b hb=>by
    have h1:=hp.g10;have h2:=hp.ge;have h3:=UT.step.size;exact (hkB b (by omega) (by omega) (by omega)).trans (UT.step.keep b hb (hXn b)))
  have hv:=hu.same (LY (y:=none) hD') fun b hb=>World.putObj_heap_other (by have:=UT.step.size;omega)
  obtain⟨_,v,r1,vs,own,r2,r3⟩:=AZ (C:=CS) (f:=36) (fn:=Tryz.f36) BH (res:=⟨[.agg [Ao leaf,.lst false 1 18 (Ad .u64 (Ls seed leaf m)),.lst false 1 H (Ad .u64 ((List.range H).map fun k=>Ci seed k (Ha leaf k)))],Ao 0],[]⟩) (Azy seed H leaf m leaf 18 H _ _) hv;exact⟨v,r1,vs,own,r2,r3⟩
end
section
open Go Go.RowKit
theorem C7.any{G:Vs}{P:Program}{f:FuncId}{args:Ab}{r:Dl}(h:C7 G1 P f args r):C7 G P f args r:=
 ⟨h.1,fun w Y bt us BH _ _=>h.2 w Y bt us BH trivial fun _ hb=>hb.elim⟩
theorem A0j{G:Vs}{seed h leaf m:Int}(hb:RP h leaf=true):C7 G prog 36 [Ac seed,Ao h,Ao leaf,Ac m]
  ⟨[.agg [Ao 0,.lst false 1 0 [],.lst false 1 0 []],Ao 9],[]⟩:=by
 refine C7.any (QH ngT DR B8 Tryz.func36 rfl ((Ax1 cl seed h leaf m).trans ?_));have eh:cl 67 [Ao h]=_:=Xc (xs:=noX) (fu:=2000) (d:=7) h;unfold RP at hb;cases hhi:D6 h
 ·rw[hhi,Bool.false_or] at hb
  have h0:0<=h:=by
   unfold D6 at hhi;rw[Bool.or_eq_false_iff,PA] at hhi;omega
  have eo:cl 68 [Ao leaf,Ao h]=_:=Si (xs:=noX) (fu:=2000) (d:=7) leaf h h0;simp only[B4,B3,eh,eo,hhi,hb]
 ·simp only[B4,B3,eh,hhi]
theorem Aj7{G:Vs}{args:Ab}{r:Dl}(h:Ayz args=some r):C7 G prog 36 args r:=by
 unfold Ayz at h;split at h
 ·rename_i seed hh leaf m;cases h;cases hb:RP hh leaf
  ·have l18:(Ls seed leaf m).length=18:=by simp[Ls]
   have:=Avg (G:=G) (seed:=seed) (m:=m) hb;unfold tkL tkC tkP tkE;rw[hb];simp only[Bool.false_eq_true,if_false,l18,List.length_map,List.length_range];exact this
  ·have:=A0j (G:=G) (seed:=seed) (m:=m) hb;unfold tkL tkC tkP tkE;rw[hb];exact this
 ·cases h
end
section
open Go Go.RowKit
abbrev stC:Code:=RI Tryz.f29
abbrev bwC:Code:=RI Tryz.f93
abbrev bwL:Code:=sB (sB (sR bwC))
abbrev bwX:Code:=sB (sL (sR bwL))
abbrev A1y:Code:=sB (sR (sL (sR (sR stC))))
abbrev Ajm:Code:=sA A1y
abbrev ZJ:Code:=sF A1y
abbrev Ato(N:Nat)(call:Bi)(c:Code)(L:Nat)(s:St):Option (Nat × St):=
 Nf CB prog 2000 N call c L (fun _=>L) L (fun s=>Jg N L s fun s'=>some (0,s')) (fun id s=>Jg N L s fun s'=>some (id+2,s')) (fun s=>Jg N L s fun s'=>some (1,s')) s
section
variable {N:Nat}{w0:World}{X0:F6}{Y:Nat->Prop}{β:Bt}{s s1:St}{a:Act}{w:World}
theorem RL{G:Vs}(Jz:MD prog G w0 X0)(hm:prog.follows .mixedOrders=true){call:Bi}(C6:∀f args res,call f args=some res->C7 G prog f args res){c:Code}{L t:Nat}{Q:Exit->Act->World->Prop}(h:B9 N w0 X0 Y β s a w)(hk:Ato N call c L s=some (t,s1))(hQ:∀a' w' β' e,B9 N w0 X0 Y β' s1 a' w'->(t=0/\e=.normal)\/(t=1/\e=.ret)\/(∃id,t=id+2/\e=.exit id)->Q e a' w'):c.wp prog Q a w:=by
 refine EM Jz C6 hm c h hk (fun s' a' w' β' h1 h2=>?_) (fun id s' a' w' β' h1 h2=>?_) (fun s' a' w' β' h1 h2=>?_)
 ·obtain⟨β1,s2,h3,h4⟩:=Cb h2 h1;cases h3;exact hQ _ _ _ _ h4 (.inl ⟨rfl,rfl⟩)
 ·obtain⟨β1,s2,h3,h4⟩:=Cb h2 h1;cases h3;exact hQ _ _ _ _ h4 (.inr (.inr ⟨id,rfl,rfl⟩))
 ·obtain⟨β1,s2,h3,h4⟩:=Cb h2 h1;cases h3;exact hQ _ _ _ _ h4 (.inr (.inl ⟨rfl,rfl⟩))
theorem LH{G:Vs}(Jz:MD prog G w0 X0)(hm:prog.follows .mixedOrders=true){call:Bi}(C6:∀f args res,call f args=some res->C7 G prog f args res){ro:Option Nat}{n:Nat}{c:Code}(ho:okR c=true){L t:Nat}{Q:Exit->Act->World->Prop}(DV:∀a w,¬Q .outgrown a w)(h:B9 N w0 X0 Y β s a w)(hk:Ato N call c L s=some (t,s1))(hQ:∀a' w' β' e,B9 N w0 X0 Y β' s1 a' w'->(t=0/\e=.normal)\/(t=1/\e=.ret)\/(∃id,t=id+2/\e=.exit id)->Q e a' w'):c.wpIn (WF ro) n prog Q a w:=by
 refine KY Jz C6 hm c ho DV h hk (fun s' a' w' β' h1 h2=>?_) (fun id s' a' w' β' h1 h2=>?_) (fun s' a' w' β' h1 h2=>?_)
 ·obtain⟨β1,s2,h3,h4⟩:=Cb h2 h1;cases h3;exact hQ _ _ _ _ h4 (.inl ⟨rfl,rfl⟩)
 ·obtain⟨β1,s2,h3,h4⟩:=Cb h2 h1;cases h3;exact hQ _ _ _ _ h4 (.inr (.inr ⟨id,rfl,rfl⟩))
 ·obtain⟨β1,s2,h3,h4⟩:=Cb h2 h1;cases h3;exact hQ _ _ _ _ h4 (.inr (.inl ⟨rfl,rfl⟩))
end
end
theorem A0g(call:Bi)(v i x lf model now:Int)(n n1 n2:Nat)(c c1 c2:Ab):LN 28 call (sL stC) 106 ⟨lk [(0,.agg [Ao v,Ao i,Ao x,.lst false 3 n c,Ao lf,.lst false 1 n1 c1,.lst false 1 n2 c2]),(1,Ac model),(2,Ao now)],Bq []⟩=(
 some (0,⟨lk [(1,(Ac (model))),(3,(.ptr 3 0)),(5,(.ptr 5 0)),(6,(.ptr 6 0))],Bq [(3,(.st [(Ao (v)),(Ao (i)),(Ao (x)),(.lst false 3 (n) (c)),(Ao (lf)),(.lst false 1 (n1) (c1)),(.lst false 1 (n2) (c2))])),(5,(.st [(Ao (now))])),(6,(.st [(Ao ((0:Int)))]))]⟩)):=by kernel_rfl
theorem A0v(call:Bi)(v i x lf model now:Int)(n n1 n2:Nat)(c c1 c2:Ab):LN 28 call (sL (sR stC)) 224 ⟨lk [(1,Ac model),(3,.ptr 3 0),(5,.ptr 5 0),(6,.ptr 6 0)],Bq [(3,.st [Ao v,Ao i,Ao x,.lst false 3 n c,Ao lf,.lst false 1 n1 c1,.lst false 1 n2 c2]),(5,.st [Ao now]),(6,.st [Ao 0])]⟩=(
 Bk (call (52:Nat) [PV.agg [PV.sc (Value.int IntKind.i64 v),PV.sc (Value.int IntKind.i64 i),PV.sc (Value.int IntKind.i64 x),PV.lst false (3:Nat) n c,PV.sc (Value.int IntKind.i64 lf),PV.lst false (1:Nat) n1 c1,PV.lst false (1:Nat) n2 c2],PV.sc (Value.int IntKind.u64 model)]) fun x1 x2=>
 Aq (x2) <|
 Av (x1) fun x3 x4=>
 D3 (x3) fun x5=>
 Av (x5) fun x6 x7=>
 A8 (IntKind.u64) (x6) fun x8=>
 Av (x7) fun x9 x10=>
 M0 ((3:Nat)) (x9) fun x11 x12 x13=>
 Av (x10) fun x14 x15=>
 M0 ((2:Nat)) (x14) fun x16 x17 x18=>
 Aq (x15) <|
 Av (x4) fun x19 x20=>
 Co (x19) fun x21=>
 Aq (x20) <|
 some (0,⟨lk [(5,(.ptr 5 0)),(6,(.ptr 6 0)),(7,(.ptr 7 0))],Bq [(5,(.st [(Ao (now))])),(6,(.st [(Ao ((0:Int)))])),(7,(.st [(Ac (x8)),(.lst false 3 (x12) (x13)),(.lst false 2 (x17) (x18))]))]⟩)):=by kernel_rfl
theorem Ayv(call:Bi)(mo now:Int)(n1 n2:Nat)(c1 c2:Ab):Lj CB prog 28 call (Hj (sL (sL (sR (sR stC))))) (List.take 2 (Hj (sL (sL (sR (sR stC))))).toList) ⟨lk [(5,.ptr 5 0),(6,.ptr 6 0),(7,.ptr 7 0)],Bq [(5,.st [Ao now]),(6,.st [Ao 0]),(7,.st [Ac mo,.lst false 3 n1 c1,.lst false 2 n2 c2])]⟩ (fun s=>Jg 28 262240 s fun s'=>some (0,s'))=(
 some (0,⟨lk [(5,(.ptr 5 0)),(6,(.ptr 6 0)),(18,(.lst false 2 (n2) (c2)))],Bq [(5,(.st [(Ao (now))])),(6,(.st [(Ao ((0:Int)))]))]⟩)):=by kernel_rfl
theorem Ay5(call:Bi)(v5 v6:Value)(kd t:Int):LN 28 call Ajm 1120 ⟨lk [(5,.sc v5),(6,.sc v6),(21,.agg [Ao kd,Ao t])],Bq []⟩=(
 some (0,⟨lk [(5,(.sc (v5))),(6,(.sc (v6))),(10,(.ptr 10 0))],Bq [(10,(.st [(Ao (kd)),(Ao (t))]))]⟩)):=by kernel_rfl
theorem Arl(call:Bi)(now kd t:Int):Ato 28 call ZJ 64 ⟨lk [(5,.iptr [Ao now] 0),(6,.ptr 56000 0),(10,.iptr [Ao kd,Ao t] 0)],Bq [(56000,.st [Ao 0])]⟩=(
  Bd (decide (t<=now))
   (
   some (1,⟨lk [(6,(.ptr 56000 0))],Bq [(56000,(.st [(Ao (kd))]))]⟩))
   (
   some (0,⟨lk [(6,(.ptr 56000 0))],Bq [(56000,(.st [(Ao ((0:Int)))]))]⟩))):=by kernel_rfl
theorem Ay0(call:Bi)(k:Int):Lj CB prog 28 call (Hj (sL (sR (sR (sR stC))))) (Hj (sL (sR (sR (sR stC))))).toList ⟨lk [(6,.ptr 56000 0)],Bq [(56000,.st [Ao k])]⟩ (fun s=>Jg 28 64 s fun s'=>some (0,s'))=(
 some (0,⟨lk [(6,(.ptr 56000 0))],Bq [(56000,(.st [(Ao ((0:Int)))]))]⟩)):=by kernel_rfl
theorem Azo(v i x lf model now k:Int)(n n1 n2:Nat)(c c1 c2:Ab):Ad1 CS prog 29 Tryz.f29 [.agg [Ao v,Ao i,Ao x,.lst false 3 n c,Ao lf,.lst false 1 n1 c1,.lst false 1 n2 c2],Ac model,Ao now] ⟨lk [(6,.ptr 56000 0)],Bq [(56000,.st [Ao k])]⟩=(
 some (Dl.mk [PV.sc (Value.int IntKind.i64 k)] [])):=by kernel_rfl
theorem A0k(call:Bi)(yv:Value)(n:Nat)(c:Ab):LN 19 call (sL bwC) 11 ⟨lk [(0,.sc yv),(1,.iptr [.lst false 2 n c] 0)],Bq []⟩=(
 Aa (wrap IntKind.i64 ((↑n:Int)-(1:Int))) fun x1=>
 some (0,⟨lk [(0,(.sc (yv))),(1,(.iptr ([PV.lst false (2:Nat) n c]) ((0:Nat)))),(3,(Ao (x1)))],Bq []⟩)):=by kernel_rfl
theorem App(call:Bi)(yv:Value)(n:Nat)(c:Ab)(i:Int):LN 19 call (sL bwL) 11 ⟨lk [(0,.sc yv),(1,.iptr [.lst false 2 n c] 0),(3,Ao i)],Bq []⟩=(
  Bd (decide (i>=(0:Int)))
   (
   some (0,⟨lk [(0,(.sc (yv))),(1,(.iptr ([PV.lst false (2:Nat) n c]) ((0:Nat)))),(3,(Ao (i)))],Bq []⟩))
   (
   some (1,⟨lk [(0,(.sc (yv))),(1,(.iptr ([PV.lst false (2:Nat) n c]) ((0:Nat)))),(3,(Ao (i)))],Bq []⟩))):=by kernel_rfl
theorem A0s(call:Bi)(yv:Value)(n:Nat)(c:Ab)(i:Int):Lj CB prog 19 call (Hj (sL bwX)) (List.take 6 (Hj (sL bwX)).toList) ⟨lk [(0,.sc yv),(1,.iptr [.lst false 2 n c] 0),(3,Ao i)],Bq []⟩ (fun s=>Jg 19 71691 s fun s'=>some (0,s'))=(
 At (decide ((0:Int)<=i)&&decide (i<(↑n:Int))) <|
 A8 (IntKind.i64) (List.getD c (Int.toNat i*(2:Nat)) PV.top) fun x1=>
 A8 (IntKind.i64) (List.getD c (Int.toNat i*(2:Nat)+(1:Nat)) PV.top) fun x2=>
 some (0,⟨lk [(0,(.sc (yv))),(1,(.iptr ([PV.lst false (2:Nat) n c]) ((0:Nat)))),(3,(Ao (i))),(11,(.sc (yv))),(12,(Ao (i))),(16,(.agg [(Ao (x1)),(Ao (x2))]))],Bq []⟩)):=by kernel_rfl
theorem Ap1(call:Bi)(yv:Value)(n:Nat)(c:Ab)(i:Int)(e:Bool):Lj CB prog 19 call (Hj (sL bwX)) (List.drop 7 (Hj (sL bwX)).toList) ⟨lk [(0,.sc yv),(1,.iptr [.lst false 2 n c] 0),(3,Ao i),(17,.sc (.bool e))],Bq []⟩ (fun s=>Jg 19 262155 s fun s'=>some (0,s'))=(
 some (0,⟨lk [(0,(.sc (yv))),(1,(.iptr ([PV.lst false (2:Nat) n c]) ((0:Nat)))),(3,(Ao (i))),(18,(.sc (.bool (!e))))],Bq []⟩)):=by kernel_rfl
theorem Ar1(call:Bi)(yv:Value)(n:Nat)(c:Ab)(i:Int)(q:Bool):Ato 19 call (sR bwX) 11 ⟨lk [(0,.sc yv),(1,.iptr [.lst false 2 n c] 0),(3,Ao i),(18,.sc (.bool q))],Bq []⟩=(
  Bd (q)
   (
   some (1,⟨lk [(0,(.sc (yv))),(1,(.iptr ([PV.lst false (2:Nat) n c]) ((0:Nat)))),(3,(Ao (i)))],Bq []⟩))
   (
   some (0,⟨lk [(0,(.sc (yv))),(1,(.iptr ([PV.lst false (2:Nat) n c]) ((0:Nat)))),(3,(Ao (i)))],Bq []⟩))):=by kernel_rfl
theorem Azi(call:Bi)(yv:Value)(n:Nat)(c:Ab)(i:Int):LN 19 call (sR (sR bwL)) 11 ⟨lk [(0,.sc yv),(1,.iptr [.lst false 2 n c] 0),(3,Ao i)],Bq []⟩=(
 Aa (wrap IntKind.i64 (i-(1:Int))) fun x1=>
 some (0,⟨lk [(0,(.sc (yv))),(1,(.iptr ([PV.lst false (2:Nat) n c]) ((0:Nat)))),(3,(Ao (x1)))],Bq []⟩)):=by kernel_rfl
section
open Go Go.RowKit
theorem Sd.trans{Z Z1 Z2:Nat->Prop}{A B C:World}(h:Sd Z Z1 A B)(g:Sd Z1 Z2 B C):Sd Z Z2 A C:=
 ⟨g.os.trans h.os,g.tape.trans h.tape,g.output.trans h.output,Nat.le_trans h.size g.size,fun b hb hn=>(g.keep b (Io hb h.size) fun h1=>(h.new b h1).elim hn fun h2=>by omega).trans (h.keep b hb hn),
  fun b hb=>g.sub b (h.sub b hb),fun b hb=>(g.new b hb).elim (h.new b) fun h1=>.inr (Nat.le_trans h.size h1),g.lt,fun b hb=>Nat.le_trans (h.bs b hb) (g.bs b (Io hb h.size))⟩
def Awt{α:Type}(P:Program)(gf:Nat)(lb:Array Value)(M:List α->α->Array Value->(Nat->Prop)->World->Prop)(S Sp:List α->Prop)(Pre:(Nat->Prop)->World->Prop):Prop:=
 ∀(l:Nat) (J Jx:(Nat->Prop)->List α->World->Prop) (W:World) (Z0:Nat->Prop),(∀b,Z0 b->b<W.heap.size)->Pre Z0 W ->
  (∀Z pre A B,J Z pre A->Nu (fun b=>b<A.heap.size) A B->J Z pre B)->(∀Z pre A B,Jx Z pre A->Nu (fun b=>b<A.heap.size) A B->Jx Z pre B) ->
  (∀Z pre x args A,J Z pre A->M pre x args Z A->YieldAt Fence.wide 0 P l args A fun e B=>∃Z',Sd Z Z' A B /\
   ((e=.returned (.bool true)/\J Z' (pre++[x]) B)\/(e=.returned (.bool false)/\Jx Z' (pre++[x]) B))) ->
  J Z0 [] W ->
  Calls P gf (#[.func (.yield l) #[] #[]]++lb) W fun e B=>(∃v,e=.returned v)/\∃Z xs,(S xs/\J Z xs B)\/(Sp xs/\Jx Z xs B)
theorem Agt{α:Type}{P:Program}{n:Nat}{g:Operand}{ps:Array Tmp}{assign body:Code}{Q:Exit->Act->World->Prop}{a:Act}{w:World}{gf:Nat}{lb:Array Value}(hg:a.eval g=.func (.func gf) #[] lb)(eg:∀args w,(callFunc gf args).run P w=.ok (.enter gf args) w){M:List α->α->Array Value->(Nat->Prop)->World->Prop}{S Sp:List α->Prop}{Pre:(Nat->Prop)->World->Prop}(hit:Awt P gf lb M S Sp Pre){Z0:Nat->Prop}(hZ0:∀b,Z0 b->b<w.heap.size)(Apc:∀W:World,W.heap.size=w.heap.size+2->(∀b,b<w.heap.size->W.heap[b]?=w.heap[b]?)->Pre (fun b=>Z0 b\/b=w.heap.size\/b=w.heap.size+1) W)(KV:∀pre x args Z A,M pre x args Z A->args.size=ps.size)(I:(Nat->Prop)->List α->World->Prop)(Ix:Code->(Nat->Prop)->List α->World->Prop)(hI:∀Z pre A B,I Z pre A->Nu (fun b=>b<A.heap.size/\b≠w.heap.size/\b≠w.heap.size+1) A B->I Z pre B)(hIx:∀c Z pre A B,Ix c Z pre A->Nu (fun b=>b<A.heap.size/\b≠w.heap.size/\b≠w.heap.size+1) A B->Ix c Z pre B)(h0:∀W,W.heap.size=w.heap.size+2->Nu (fun b=>b<w.heap.size) w W->I (fun b=>Z0 b\/b=w.heap.size\/b=w.heap.size+1) [] W)(Nn:(Nat->Prop)->List α->α->Act->World->Prop)(hN:∀Z pre x a' A B,Nn Z pre x a' A->Nu (fun b=>b<A.heap.size/\b≠w.heap.size/\b≠w.heap.size+1) A B->Nn Z pre x a' B)(FW:∀Z pre x args A (K:Act->World->Prop),Z w.heap.size->Z (w.heap.size+1)->I Z pre A->M pre x args Z A->(∀Z1 a' A1,Sd Z Z1 A A1->A1.heap[w.heap.size]?=A.heap[w.heap.size]?->A1.heap[w.heap.size+1]?=A.heap[w.heap.size+1]?->Nn Z1 pre x a' A1->K a' A1) ->
   assign.wpIn (Fence.wide.inRound (w.heap.size+1)) 0 P (Exit.then K (fun _ _ _=>False)) { tmps:=(ps.zip args).foldl (fun t (p,v)=>t.setIfInBounds p v) a.tmps,defers:=[] } A)(Adv:∀Z pre x a' A,Z w.heap.size->Z (w.heap.size+1)->Nn Z pre x a' A->body.wpIn (Fence.wide.inRound (w.heap.size+1)) 0 P (KE w.heap.size I Ix Z (pre++[x]) A) a' A)(Acx:∀Z xs B,S xs->I Z xs B->B.heap[w.heap.size]?=some (.deferred (some []))->Q .normal { a with defers:={ target:=.collected w.heap.size,args:= #[] }::a.defers } B)(Ab2:∀c Z xs B,Sp xs->Ix c Z xs B->B.heap[w.heap.size]?=some (.deferred (some []))->c.wpIn Fence.wide n P Q { a with defers:={ target:=.collected w.heap.size,args:= #[] }::a.defers } B):
  (Code.rangeFunc g ps assign body).wpIn Fence.wide n P Q a w:=by
 refine wpIn_rangeFunc ?_;intro fn hfn;obtain⟨rec,Xs⟩:∃rec:LoopState->Option Code->Loop,rec=fun st pe=>{ state:=st,pending:=pe,fn,tmps:=a.tmps,params:=ps,assign,body,defers:=w.heap.size }:=⟨_,rfl⟩
 obtain⟨D,hD⟩:∃D,w.heap.size=D:=⟨_,rfl⟩
 rw[hD] at hI hIx h0 hN FW Adv Acx Ab2 hZ0 Apc;obtain⟨W1,hW1⟩:∃W1,(w.alloc (.deferred (some []))).alloc (.loop (rec .ready none))=W1:=⟨_,rfl⟩
 have MY:W1.heap.size=D+2:=by rw[<-hW1,World.size_alloc,World.size_alloc,hD]
 have hL1:W1.heap[D+1]?=some (.loop (rec .ready none)):=by
  rw[<-hW1,<-hD];have:=World.alloc_heap_new (w.alloc (.deferred (some []))) (.loop (rec .ready none));rwa [World.size_alloc] at this
 have hK1:W1.heap[D]?=some (.deferred (some [])):=by
  rw[<-hW1,<-hD];exact (Below.heap_alloc _ _ _ (by simp)).trans (World.alloc_heap_new w _)
 have Gn:Nu (fun b=>b<D) w W1:=by
  rw[<-hW1,<-hD];exact⟨rfl,rfl,rfl,by simp;omega,fun b hb=>(Below.heap_alloc _ _ _ (by simp;omega)).trans (Below.heap_alloc _ _ _ hb)⟩
 refine⟨D+1,[{ target:=.collected D,args:= #[] }],W1,{ target:=.fn (.func gf) lb,args:= #[.func (.yield (D+1)) #[] #[]] },W1,gf,
  #[.func (.yield (D+1)) #[] #[]]++lb,W1,?_,?_,fun _ _=>trivial,?_,(fun h=>by cases h),?_⟩
 ·rw[<-hW1,Xs,<-hD];exact run_enterLoop_outer _ _ _ _ _
 ·simp only[resolve,hg];simp[go_sem]
 ·simp[invoke,go_sem,eg]
 ·have put:∀{A:World} (o:Obj),Nu (fun b=>b<A.heap.size/\b≠D/\b≠D+1) A (A.putObj (D+1) o):=fun o=>
   ⟨rfl,rfl,rfl,by simp,fun b hb=>World.putObj_heap_other hb.2.2⟩
  refine callsIn_wide.2 (Calls.mono (hit (D+1)
   (fun Z pre A=>(Z D/\Z (D+1))/\I Z pre A/\A.heap[D+1]?=some (.loop (rec .ready none))/\A.heap[D]?=some (.deferred (some [])))
   (fun Z pre A=>(Z D/\Z (D+1))/\∃c,Ix c Z pre A/\A.heap[D+1]?=some (.loop (rec .done (some c)))/\A.heap[D]?=some (.deferred (some [])))
   W1 (fun b=>Z0 b\/b=D\/b=D+1) (fun b hb=>by rw[MY];exact hb.elim (fun h=>by have:=hZ0 b h;omega) fun h=>by omega) (Apc W1 MY (fun b hb=>Gn.same b hb)) ?_ ?_ ?_ ?_) ?_)
  ·rintro Z pre A B ⟨hz,hi,hl,hk⟩ hs
   exact⟨hz,hI Z pre A B hi (hs.sub fun _ h=>h.1),(hs.same _ (Array.getElem?_eq_some_iff.1 hl).1).trans hl,(hs.same _ (Array.getElem?_eq_some_iff.1 hk).1).trans hk⟩
  ·rintro Z pre A B ⟨hz,c,hi,hl,hk⟩ hs
   exact⟨hz,c,hIx c Z pre A B hi (hs.sub fun _ h=>h.1),(hs.same _ (Array.getElem?_eq_some_iff.1 hl).1).trans hl,(hs.same _ (Array.getElem?_eq_some_iff.1 hk).1).trans hk⟩
  ·rintro Z0' pre x args A0 ⟨hz0,hi,W7,hk0⟩ hm
   have hy:=run_yield (P:=P) (args:=args) W7 (by rw[Xs];exact KV pre x args Z0' A0 hm)
   rw[Xs] at hy;refine⟨fn,_,assign,body,hy,roundIn_of_wpIn hfn (FW Z0' pre x args A0 _ hz0.1 hz0.2 hi hm ?_)⟩;intro Z a' A ht0 k0 k1 hn;have hz:Z D/\Z (D+1):=⟨ht0.sub _ hz0.1,ht0.sub _ hz0.2⟩
   have hl:=k1.trans W7;have hk:=k0.trans hk0;have Ch:D+1<A.heap.size:=(Array.getElem?_eq_some_iff.1 hl).1;refine⟨_,run_beginRound hl (by rw[Xs]),?_⟩;obtain⟨A2,hA2⟩:∃A2,A.putObj (D+1) (.loop { rec .ready none with state:=.busy })=A2:=⟨_,rfl⟩
   rw[hA2];have NC:A2.heap[D+1]?=some (.loop { rec .ready none with state:=.busy }):=by rw[<-hA2];exact World.putObj_heap_same Ch
   have Gy:A2.heap[D]?=some (.deferred (some [])):=by rw[<-hA2];exact (World.putObj_heap_other (by omega)).trans hk
   have hz2:A2.heap.size=A.heap.size:=by rw[<-hA2];simp
   have hn2:Nn Z pre x a' A2:=by rw[<-hA2];exact hN Z pre x a' A _ hn (put _)
   refine wpIn_mono (Adv Z pre x a' A2 hz.1 hz.2 hn2) ?_
   have fin:∀(jump:Option Code) (W3:World) (Z':Nat->Prop),Sd Z Z' A2 W3->W3.heap[D]?=A2.heap[D]?->W3.heap[D+1]?=A2.heap[D+1]? ->
     (Instr.endRound (D+1) jump).run P W3=.ok (.bool jump.isNone) (W3.putObj (D+1) (.loop (rec (if jump.isNone then .ready else .done) jump))) /\
     (W3.putObj (D+1) (.loop (rec (if jump.isNone then .ready else .done) jump))).heap[D+1]?=some (.loop (rec (if jump.isNone then .ready else .done) jump)) /\
     (W3.putObj (D+1) (.loop (rec (if jump.isNone then .ready else .done) jump))).heap[D]?=some (.deferred (some [])) /\
     Sd Z Z' A (W3.putObj (D+1) (.loop (rec (if jump.isNone then .ready else .done) jump))):=fun jump W3 Z' ht e1 e2=>by
    have hl3:=e2.trans NC;have:=run_endRound (P:=P) jump hl3;rw[Xs] at this ⊢;refine⟨this,World.putObj_heap_same (Array.getElem?_eq_some_iff.1 hl3).1,(World.putObj_heap_other (by omega)).trans (e1.trans Gy),?_⟩;have hA:A2.os=A.os/\A2.tape=A.tape/\A2.output=A.output:=by rw[<-hA2];exact⟨rfl,rfl,rfl⟩
    refine⟨ht.os.trans hA.1,ht.tape.trans hA.2.1,ht.output.trans hA.2.2,by have:=ht.size;simp;omega,fun b hb hn=>?_,ht.sub,fun b hb=>by have:=ht.new b hb;rw[hz2] at this;exact this,fun b hb=>by simpa using ht.lt b hb,fun b hb=>?_⟩
    ·have Ge:b≠D+1:=fun e=>hn (e ▸ hz.2);rw[World.putObj_heap_other Ge,ht.keep b (by omega) hn,<-hA2,World.putObj_heap_other Ge]
    ·by_cases Ge:b=D+1
     ·subst Ge;unfold bsz;rw[hl];exact Nat.zero_le _
     ·have h5:=ht.bs b (by omega);have h6:bsz A2 b=bsz A b:=by unfold bsz;rw[<-hA2,World.putObj_heap_other Ge]
      have h7:∀o,bsz (W3.putObj (D+1) o) b=bsz W3 b:=fun o=>by unfold bsz;rw[World.putObj_heap_other Ge]
      rw[h7,<-h6];exact h5
   rintro e a3 W3 ⟨Z',ht,e1,e2,hp⟩
   cases e with
   |normal=>
    obtain⟨hr,hl4,U8,ht4⟩:=fin none W3 Z' ht e1 e2;exact⟨_,_,hr,Z',ht0.trans ht4,.inl ⟨rfl,⟨ht.sub _ hz.1,ht.sub _ hz.2⟩,hI Z' _ _ _ hp (put _),hl4,U8⟩⟩
   |ret=>
    obtain⟨hr,hl4,U8,ht4⟩:=fin (some .ret) W3 Z' ht e1 e2;exact⟨_,_,hr,Z',ht0.trans ht4,.inr ⟨rfl,⟨ht.sub _ hz.1,ht.sub _ hz.2⟩,.ret,hIx _ Z' _ _ _ hp (put _),hl4,U8⟩⟩
   |exit id=>
    obtain⟨hr,hl4,U8,ht4⟩:=fin (some (.exit id)) W3 Z' ht e1 e2;exact⟨_,_,hr,Z',ht0.trans ht4,.inr ⟨rfl,⟨ht.sub _ hz.1,ht.sub _ hz.2⟩,.exit id,hIx _ Z' _ _ _ hp (put _),hl4,U8⟩⟩
   |goto t=>
    obtain⟨hr,hl4,U8,ht4⟩:=fin (some (.goto t)) W3 Z' ht e1 e2;exact⟨_,_,hr,Z',ht0.trans ht4,.inr ⟨rfl,⟨ht.sub _ hz.1,ht.sub _ hz.2⟩,.goto t,hIx _ Z' _ _ _ hp (put _),hl4,U8⟩⟩
   |panic ch=>exact hp.elim
   |outgrown=>exact hp.elim
  ·exact⟨⟨.inr (.inl rfl),.inr (.inr rfl)⟩,h0 W1 MY Gn,hL1,hK1⟩
  ·rintro e W2 ⟨⟨v,rfl⟩,Z,xs,(⟨hS,hz,hi,hl,hk⟩|⟨hSp,hz,c,hi,hl,hk⟩)⟩
   ·exact⟨none,_,by have:=run_endLoop (P:=P) hl (by rw[Xs];simp);rw[Xs] at this;exact this,Acx Z xs _ hS (hI Z _ _ _ hi (put _)) ((World.putObj_heap_other (by omega)).trans hk)⟩
   ·exact⟨some c,_,by have:=run_endLoop (P:=P) hl (by rw[Xs];simp);rw[Xs] at this;exact this,Ab2 c Z xs _ hSp (hIx c Z _ _ _ hi (put _)) ((World.putObj_heap_other (by omega)).trans hk)⟩
end
section
open Go Go.RowKit
def prC(p:Int × Int):Ab:=[Ao p.1,Ao p.2]
def Kk(l:List (Int × Int)):Ab:=l.flatMap prC
theorem YQ(p:Int × Int):(prC p).length=2:=rfl
theorem Amo(l:List (Int × Int)):(Kk l).length=l.length*2:=U6 YQ l
theorem Ao8{l:List (Int × Int)}{i:Nat}{p:Int × Int}(h:l[i]?=some p):(Kk l).getD (i*2) .top=Ao p.1/\(Kk l).getD (i*2+1) .top=Ao p.2:=
 ⟨H4 YQ h (j:=0) (by omega),H4 YQ h (j:=1) (by omega)⟩
theorem Azr:bwC=.seq (sL bwC) (.block 0 (.loop bwL)):=by kernel_rfl
theorem Arn:bwL=.seq (sL bwL) (.seq (.block 1 bwX) (sR (sR bwL))):=by kernel_rfl
theorem Ax9:bwX=.seq (.region 3 (Hj (sL bwX)) false) (sR bwX):=by kernel_rfl
theorem A3r:∃ty pos aft x,(Hj (sL bwX))[6]?=some { dst:=some 17,op:=.call { callee:=.value (.tmp 11),args:= #[.tmp 12,.tmp 16],argTypes:=x },type:=ty,pos:=pos,after:=aft,guard:=none }:=
 ⟨_,_,_,_,rfl⟩
abbrev bwS(yv:Value)(l:List (Int × Int))(i:Int):St:=⟨lk [(0,.sc yv),(1,.iptr [.lst false 2 l.length (Kk l)] 0),(3,Ao i)],Bq []⟩
abbrev Aqy(yv:Value)(l:List (Int × Int))(i kd t:Int):St:=⟨lk [(0,.sc yv),(1,.iptr [.lst false 2 l.length (Kk l)] 0),(3,Ao i),(11,.sc yv),(12,Ao i),(16,.agg [Ao kd,Ao t])],Bq []⟩
abbrev A5w(yv:Value)(l:List (Int × Int))(i:Int)(e:Bool):St:=⟨lk [(0,.sc yv),(1,.iptr [.lst false 2 l.length (Kk l)] 0),(3,Ao i),(17,.sc (.bool e))],Bq []⟩
abbrev A3p(yv:Value)(l:List (Int × Int))(i:Int)(e:Bool):St:=⟨lk [(0,.sc yv),(1,.iptr [.lst false 2 l.length (Kk l)] 0),(3,Ao i),(18,.sc (.bool e))],Bq []⟩
def bwM(l:List (Int × Int))(pre:B5)(i:Nat)(args:Array Value)(Z:Nat->Prop)(A:World):Prop:=
 (∀j,i<j->j<l.length->j∈pre)/\∃p,l[i]?=some p/\args = #[.int .i64 i,.agg #[.int .i64 p.1,.int .i64 p.2]]
theorem Aoy{l:List (Int × Int)}{pre:B5}{i:Nat}{args:Array Value}{Z:Nat->Prop}{A:World}(hm:bwM l pre i args Z A):args.size=2:=by obtain⟨_,p,_,h⟩:=hm;rw[h];rfl
theorem B9.stayA{N:Nat}{w0 w:World}{X0:F6}{Y:Nat->Prop}{β:Bt}{s:St}{a:Act}(h:B9 N w0 X0 Y β s a w)(hx:∀b,¬X0.X b):Nu (fun b=>b<w0.heap.size) w0 w:=
 ⟨h.fr.os,h.fr.tape,h.fr.output,h.fr.step.size,fun b hb=>h.fr.step.keep b hb (hx b)⟩
theorem Axl(b:Nat):¬noL.X b:=fun h=>h
theorem hp0{id:Nat}{bx:Bz}:Bq [] id=some bx->False:=fun h=>by cases h
theorem A7h{β:Bt}{b:Nat}:¬DS (Bq []) β b:=fun ⟨_,_,h,_⟩=>(h:Ct none).elim
section
variable {l:List (Int × Int)}{y:Nat}{w0:World}{X0:F6}{Z:Nat->Prop}{β:Bt}{a:Act}{w:World}
theorem Atx{yv:Value}{i kd t:Int}(hs:B9 19 w0 X0 Z β (Aqy yv l i kd t) a w):
  a.tmps.getD 11 undef=yv/\a.tmps.getD 12 undef=.int .i64 i/\a.tmps.getD 16 undef=.agg #[.int .i64 kd,.int .i64 t]:=by
 refine⟨Mj (hs.tms 11 (by decide)),Mj (hs.tms 12 (by decide)),?_⟩;obtain⟨vs,h1,h2⟩:=(show ∃vs,a.tmps.getD 16 undef=.agg ⟨vs⟩/\Bw (Ck w (Dd (Bq []) β Z) β) [Ao kd,Ao t] vs from hs.tms 16 (by decide))
 match vs,h2 with
 |[u,v],⟨k1,k2,_⟩=>
  have e1:=Az.val (w:=w) k1;have e2:=Az.val (w:=w) k2;rw[h1,<-e1,<-e2]
theorem Aiu{yv:Value}{i kd t:Int}{Z':Nat->Prop}{B:World}(b:Bool)(hs:B9 19 w0 X0 Z β (Aqy yv l i kd t) a w)(ht:Sd Z Z' w B):
  B9 19 B (Alm (Aqy yv l i kd t) β) Z' β (A5w yv l i b) (a.put (some 17) (.bool b)) B:=by
 have h1:=(hs.rebase ht (fun id c (e:(Bq [] id:Option Bz)=some (.st c))=>hp0 e)).put (d:=some 17) (v:=.sc (.bool b)) (val:=.bool b) rfl (Az.sc _) (by simp[Cc,Cn,Aw]);refine h1.pick _ _ ?_ ?_ ?_ ?_ (fun _ h=>h.elim)
 ·intro q hq;simp only[Bx,Ig,or_false] at hq;rcases hq with rfl|rfl|rfl|rfl<;>rfl
 ·intro q hq;cases hq
 ·intro q hq id Br;simp only[Bx,Ig,or_false] at hq;rcases hq with rfl|rfl|rfl|rfl<;>simp[Cc,Cn,Aw] at Br
 ·intro q hq;cases hq
theorem XO{J Jx:(Nat->Prop)->B5->World->Prop}(hJ:∀Z pre A B,J Z pre A->Nu (fun b=>b<A.heap.size) A B->J Z pre B)(hJx:∀Z pre A B,Jx Z pre A->Nu (fun b=>b<A.heap.size) A B->Jx Z pre B)(hY:∀Z pre x args A,J Z pre A->bwM l pre x args Z A->YieldAt Fence.wide 0 prog y args A fun e B=>∃Z',Sd Z Z' A B/\((e=.returned (.bool true)/\J Z' (pre++[x]) B)\/(e=.returned (.bool false)/\Jx Z' (pre++[x]) B)))(hl:l.length<=100000){Q:Exit->Act->World->Prop}(Aa3:∀e a' w',e=.exit 0\/e=.ret->a'.defers=[]->(∃Z xs,((∀j,j<l.length->j∈xs)/\J Z xs w')\/Jx Z xs w')->Q e a' w'):
  ∀(k nn:Nat),k<=l.length->k<nn->∀{w0:World} {X0:F6} {Z:Nat->Prop} {β:Bt} {a:Act} {w:World} {pre:B5},
   B9 19 w0 X0 Z β (bwS (.func (.yield y) #[] #[]) l ((k:Int)-1)) a w->(∀b,¬X0.X b)->(∀j,k<=j->j<l.length->j∈pre)->J Z pre w0->Code.roundsIn Fence.wide 0 prog bwL Q nn a w
 |_,0,_,h=>by omega
 |0,nn+1,hk,hn=>by
  intro hs hd Adl hj;rename_i w0 X0 Z β a w pre;rw[roundsIn_succ];refine Pm Arn (wpIn_seq (wpIn_wide.2 (Dh (Jf _ _) DR B8 hs (t:=1) (L:=11) (s1:=bwS (.func (.yield y) #[] #[]) l (((0:Nat):Int)-1)) ?_ ?_)))
  ·exact (App cl _ l.length (Kk l) _).trans (D0 _ _ _ (by omega))
  ·intro a' w' β' h';exact Aa3 _ a' w' (.inl rfl) h'.dfr ⟨Z,pre,.inl ⟨fun j hj2=>Adl j (by omega) hj2,hJ Z pre _ _ hj (h'.stayA hd)⟩⟩
 |k+1,nn+1,hk,hn=>by
  intro hs hd Adl hj;rename_i w0 X0 Z β a w pre;rw[roundsIn_succ];have ek:(((k+1:Nat):Int)-1)=(k:Int):=by omega
  rw[ek] at hs;refine Pm Arn (wpIn_seq (wpIn_wide.2 (Dh (Jf _ _) DR B8 hs (t:=0) (L:=11) (s1:=bwS (.func (.yield y) #[] #[]) l (k:Int)) ?_ ?_)))
  ·exact (App cl _ l.length (Kk l) _).trans (EZ _ _ _ (by omega))
  intro a1 w1 β1 MY;show (Code.seq (.block 1 bwX) (sR (sR bwL))).wpIn Fence.wide 0 prog _ a1 w1;refine wpIn_seq (wpIn_block (Pm Ax9 (wpIn_seq (wpIn_region ?_))));have hli:List.range (Hj (sL bwX)).size=[0,1,2,3,4,5]++[6,7]:=by kernel_rfl
  rw[hli];have Ch:k<l.length:=by omega
  have hp:=List.getElem?_eq_getElem Ch;generalize l[k]=p at hp;obtain⟨g0,g1⟩:=Ao8 hp;refine G4 (ro:=none) (C:=CB) (call:=cl) (r:=((0:Nat),Aqy (.func (.yield y) #[] #[]) l k p.1 p.2)) (Jf _ _) B8 ?_ [0,1,2,3,4,5] (List.take 6 (Hj (sL bwX)).toList) (by kernel_rfl) ?_ (by kernel_rfl) MY ((A0s cl _ l.length (Kk l) k).trans ?_)
  rotate_left
  ·intro j i hj
   match j,hj with
   |0,hj=>cases hj;rfl
   |1,hj=>cases hj;rfl
   |2,hj=>cases hj;rfl
   |3,hj=>cases hj;rfl
   |4,hj=>cases hj;rfl
   |5,hj=>cases hj;rfl
  ·simp(disch:=omega)only[B4,B3,Ij,g0,g1]
  intro s' a2 w2 β2 Gy RC;obtain⟨β3,s3,Vk,hs3⟩:=Cb RC Gy;cases Vk;obtain⟨v11,v12,v16⟩:=Atx hs3;have hjw:J Z pre w2:=hJ Z _ _ _ hj (hs3.stayA hd);have hm:bwM l pre k #[.int .i64 k,.agg #[.int .i64 p.1,.int .i64 p.2]] Z w2:=⟨fun j h1 h2=>Adl j (by omega) h2,p,hp,rfl⟩
  obtain⟨fn,tmps,assign,body,hy,hR⟩:=hY Z _ k _ w2 hjw hm;obtain⟨ty,pos,aft,x,ho⟩:=A3r;rw[wpOpsIn_cons];unfold wpOpIn;rw[ho];simp only[Region.wanted,if_true]
  have run:(execOp a2.eval { dst:=some 17,op:=.call { callee:=.value (.tmp 11),args:= #[.tmp 12,.tmp 16],argTypes:=x },type:=ty,pos:=pos,after:=aft,guard:=none }).run prog w2=.ok (.round y fn tmps assign body) w2:=by
   have e11:a2.eval (.tmp 11)=.func (.yield y) #[] #[]:=v11;have e12:a2.eval (.tmp 12)=.int .i64 k:=v12;have e16:a2.eval (.tmp 16)=.agg #[.int .i64 p.1,.int .i64 p.2]:=v16;refine VT rfl rfl e11 ?_;rw[<-hy];simp only[List.map_toArray,Rz,List.map_nil,e12,e16]
  refine⟨fun _ _=>trivial,?_⟩;rw[show Oper.semAt (WF none).round a2.eval { dst:=some 17,op:=.call { callee:=.value (.tmp 11),args:= #[.tmp 12,.tmp 16],argTypes:=x },type:=ty,pos:=pos,after:=aft,guard:=none }=execOp a2.eval { dst:=some 17,op:=.call { callee:=.value (.tmp 11),args:= #[.tmp 12,.tmp 16],argTypes:=x },type:=ty,pos:=pos,after:=aft,guard:=none } from rfl,run];refine⟨(fun h=>by cases h),(MM hR).mono ?_⟩
  rintro e B ⟨Z',ht,he⟩
  have Hb:∀b,¬(Alm (Aqy (.func (.yield y) #[] #[]) l k p.1 p.2) β3).X b:=fun b hb=>A7h hb;rcases he with⟨rfl,hj2⟩|⟨rfl,hj2⟩
  ·have h4:=Aiu true hs3 ht;show wpOpsIn _ _ _ _ _ ([7]++[]) _ _;refine G4 (ro:=none) (C:=CB) (call:=cl) (r:=((0:Nat),A3p (.func (.yield y) #[] #[]) l k (!true))) (Jf _ _) B8 ?_ [7] (List.drop 7 (Hj (sL bwX)).toList) (by kernel_rfl) ?_ (by kernel_rfl) h4 (Ap1 cl _ l.length (Kk l) k true)
   rotate_left
   ·intro j i hj
    match j,hj with
    |0,hj=>cases hj;rfl
   intro s' a5 w5 β5 XW X4;obtain⟨β6,s6,hk6,hs6⟩:=Cb X4 XW;cases hk6;show (sR bwX).wpIn Fence.wide 0 prog _ a5 w5;refine wpIn_wide.2 (RL (Jf _ _) DR B8 hs6 (t:=0) (L:=11) (s1:=bwS (.func (.yield y) #[] #[]) l k) (Ar1 cl _ l.length (Kk l) k false) ?_)
   rintro a' w' β' e' h' (⟨_,rfl⟩|⟨h1,_⟩|⟨id,h1,_⟩)
   ·show (sR (sR bwL)).wpIn Fence.wide 0 prog _ a' w';refine wpIn_wide.2 (Dh (Jf _ _) DR B8 h' (t:=0) (L:=11) (s1:=bwS (.func (.yield y) #[] #[]) l ((k:Int)-1)) ?_ ?_)
    ·have wk:wrap .i64 ((k:Int)-1)=(k:Int)-1:=Ah (by omega) (by omega);refine (Azi cl _ l.length (Kk l) k).trans ?_;simp only[B4,B3,wk]
    ·intro a7 w7 β7 h7
     exact XO hJ hJx hY hl Aa3 k nn (by omega) (by omega) h7 Hb (fun j h1 h2=>Bu.2 (by
      rcases K6 k j with h3|h3
      ·exact .inl (Adl j (by omega) h2)
      ·exact .inr (Lo.2 (by omega)))) hj2
   ·cases h1
   ·omega
  ·have h4:=Aiu false hs3 ht;show wpOpsIn _ _ _ _ _ ([7]++[]) _ _;refine G4 (ro:=none) (C:=CB) (call:=cl) (r:=((0:Nat),A3p (.func (.yield y) #[] #[]) l k (!false))) (Jf _ _) B8 ?_ [7] (List.drop 7 (Hj (sL bwX)).toList) (by kernel_rfl) ?_ (by kernel_rfl) h4 (Ap1 cl _ l.length (Kk l) k false)
   rotate_left
   ·intro j i hj
    match j,hj with
    |0,hj=>cases hj;rfl
   intro s' a5 w5 β5 XW X4;obtain⟨β6,s6,hk6,hs6⟩:=Cb X4 XW;cases hk6;show (sR bwX).wpIn Fence.wide 0 prog _ a5 w5;refine wpIn_wide.2 (RL (Jf _ _) DR B8 hs6 (t:=1) (L:=11) (s1:=bwS (.func (.yield y) #[] #[]) l k) (Ar1 cl _ l.length (Kk l) k true) ?_)
   rintro a' w' β' e' h' (⟨h1,_⟩|⟨_,rfl⟩|⟨id,h1,rfl⟩)
   ·cases h1
   ·exact Aa3 _ a' w' (.inr rfl) h'.dfr ⟨Z',_,.inr (hJx Z' _ _ _ hj2 (h'.stayA Hb))⟩
   ·omega
end
end
section
open Go Go.RowKit Go.Shelf
def A1v(S0:Nat)(l:List (Int × Int))(Z0:Nat->Prop)(W:World):Prop:=UQ W Z0 ⟨S0,0,none⟩ [.lst false 2 l.length (Kk l)]/\S0<W.heap.size/\¬Z0 S0
theorem Atq{S0:Nat}{l:List (Int × Int)}(hl:l.length<=100000):Awt prog 93 #[.pointer (some ⟨S0,0,none⟩)] (bwM l) (fun xs=>∀j,j<l.length->j∈xs) (fun _=>True) (A1v S0 l):=by
 intro y J Jx W Z0 hZ hP hJ hJx hY h0;obtain⟨p1,p2,p3⟩:=hP;refine callsIn_wide.1 (callsIn_of_wp (F:=Fence.wide) (n:=0) Tryz.func93 rfl trivial ?_ rfl);show bwC.wpIn _ _ _ _ _ _;have t1:(({ tmps:=(#[Value.func (.yield y) #[] #[]] ++ #[Value.pointer (some ⟨S0,0,none⟩)])++Array.replicate (Tryz.f93.ntmps-(#[Value.func (.yield y) #[] #[]] ++ #[Value.pointer (some ⟨S0,0,none⟩)]).size) undef,defers:=[] }:Act))={ tmps:=(Value.func (.yield y) #[] #[]::Value.pointer (some ⟨S0,0,none⟩)::List.replicate 17 undef).toArray,defers:=[] }:=by kernel_rfl
 rw[t1]
 have i0:B9 19 W noL Z0 (fun _=>none) ⟨lk [(0,.sc (.func (.yield y) #[] #[])),(1,.iptr [.lst false 2 l.length (Kk l)] 0)],Bq []⟩ { tmps:=(Value.func (.yield y) #[] #[]::Value.pointer (some ⟨S0,0,none⟩)::List.replicate 17 undef).toArray,defers:=[] } W:=by
  refine B9.init _ _ rfl (by simp) ?_ ?_ ?_ hZ
  ·intro q hq;simp only[Bx,Ig,or_false] at hq;rcases hq with rfl|rfl<;>simp
  ·intro q hq;simp only[Bx,Ig,or_false] at hq;rcases hq with rfl|rfl
   ·exact Az.sc _
   ·exact⟨⟨S0,0,none⟩,rfl,rfl,p2,p3,p1⟩
  ·intro q hq;simp only[Bx,Ig,or_false] at hq;rcases hq with rfl|rfl<;>rfl
 generalize ({ tmps:=(Value.func (.yield y) #[] #[]::Value.pointer (some ⟨S0,0,none⟩)::List.replicate 17 undef).toArray,defers:=[] }:Act)=a0 at i0 ⊢;refine Pm Azr (wpIn_seq (wpIn_wide.2 (Dh (Jf _ _) DR B8 i0 (L:=11) (t:=0) (s1:=bwS (.func (.yield y) #[] #[]) l ((l.length:Int)-1)) ?_ ?_)))
 ·have wk:wrap .i64 ((l.length:Int)-1)=(l.length:Int)-1:=Ah (by omega) (by omega);refine (A0k cl _ l.length (Kk l)).trans ?_;simp only[B4,B3,wk]
 intro a1 w1 β1 h1;refine wpIn_block (wpIn_loop_rounds (l.length+1) (XO hJ hJx hY hl ?_ l.length (l.length+1) (Dn _) (by omega) h1 Axl (fun j h1 h2=>by omega) h0))
 rintro e a5 w5 he h5 ⟨Z,xs,h6⟩
 have h7:∃Z xs,((∀j,j<l.length->j∈xs)/\J Z xs w5)\/(True/\Jx Z xs w5):=⟨Z,xs,h6.imp (fun x=>x) fun x=>⟨trivial,x⟩⟩
 rcases he with rfl|rfl
 ·exact⟨h5,_,results_none rfl _ _ _,⟨_,rfl⟩,h7⟩
 ·exact⟨h5,_,results_none rfl _ _ _,⟨_,rfl⟩,h7⟩
set_option maxHeartbeats 2000000 in
theorem Aun(ad:Option Addr)(n c:Int)(m:Nat)(w:World)(k q:Nat):CallsIn Fence.wide m prog 53 #[.slice ad k q] w fun e w'=>
  e=.returned (.func (.func 93) #[] #[.pointer (some ⟨w.heap.size,0,none⟩)])/\w'=w.alloc (.cells #[.slice ad k q] 59):=by
 refine callsIn_of_wp Tryz.func53 rfl trivial ?_ rfl;simp only[Tryz.ntmps53,List.size_toArray,G9,Vl,Nat.reduceAdd,Nat.reduceSub,Array.replicate_succ,Array.replicate_zero,List.push_toArray,List.append_toArray,PT,Zzp]
 gi_wp2
 go_ret
 exact⟨rfl,rfl⟩
end
section
open Go Go.RowKit
structure NR(wS:World)(D b6 o6:Nat)(v:Int)(Z:Nat->Prop)(A:World):Prop where
 os:A.os=wS.os
 tape:A.tape=wS.tape
 output:A.output=wS.output
 size:D+2<=A.heap.size
 zlt:∀b,Z b->b<A.heap.size
 z6:Z b6
 zn:∀b,Z b->b=b6\/D<=b
 keep:∀b,b<D->b≠b6->A.heap[b]?=wS.heap[b]?
 bs:bsz wS b6<=bsz A b6
 c6:A.cell? ⟨b6,o6,none⟩=some (.int .i64 v)
 f6:A.frozen? ⟨b6,o6,none⟩=false
theorem NR.stay{wS:World}{D b6 o6:Nat}{v:Int}{Z:Nat->Prop}{A B:World}(hI:NR wS D b6 o6 v Z A)(l6:b6<D)(hs:Nu (fun b=>b<A.heap.size/\b≠D/\b≠D+1) A B):NR wS D b6 o6 v Z B:=by
 have hz:=hI.size;have e:∀b,b<D->B.heap[b]?=A.heap[b]?:=fun b hb=>hs.same b ⟨by omega,by omega,by omega⟩;have hb6:bsz B b6=bsz A b6:=by unfold bsz;rw[e b6 l6]
 exact⟨hs.os.trans hI.os,hs.tape.trans hI.tape,hs.output.trans hI.output,Nat.le_trans hI.size hs.size,fun b hb=>Io (hI.zlt b hb) hs.size,hI.z6,hI.zn,fun b hb hn=>(e b hb).trans (hI.keep b hb hn),by rw[hb6];exact hI.bs,
  (World.cell?_of_block (e b6 l6)).trans hI.c6,by rw[frozen?_of_block (e b6 l6)];exact hI.f6⟩
def Ayo(l:List (Int × Int))(now:Int)(pre:B5):Prop:=∀j∈pre,∀p,l[j]?=some p->now<p.2
structure Au1(v5 v6:Value)(D:Nat)(kd t:Int)(a:Act)(A:World):Prop where
 dfr:a.defers=[]
 size:a.tmps.size=28
 t5:a.tmps.getD 5 undef=v5
 t6:a.tmps.getD 6 undef=v6
 t10:∃b o,a.tmps.getD 10 undef=.pointer (some ⟨b,o,none⟩)/\D+2<=b/\b<A.heap.size/\A.cell? ⟨b,o,none⟩=some (.int .i64 kd)/\A.cell? ⟨b,o+1,none⟩=some (.int .i64 t)
theorem Au1.stay{v5 v6:Value}{D:Nat}{kd t:Int}{a:Act}{A B:World}(h:Au1 v5 v6 D kd t a A)(hs:Nu (fun b=>b<A.heap.size/\b≠D/\b≠D+1) A B):Au1 v5 v6 D kd t a B:=by obtain⟨b,o,h1,h2,h3,h4,h5⟩:=h.t10;have e:B.heap[b]?=A.heap[b]?:=hs.same b ⟨h3,by omega,by omega⟩;exact⟨h.dfr,h.size,h.t5,h.t6,b,o,h1,h2,Io h3 hs.size,(World.cell?_of_block e).trans h4,(World.cell?_of_block (a:=⟨b,o+1,none⟩) e).trans h5⟩
def A0d(wS:World)(D b6 o6:Nat)(v5 v6:Value)(l:List (Int × Int))(now:Int)(Z:Nat->Prop)(pre:B5)(x:Nat)(a:Act)(A:World):Prop:=
 NR wS D b6 o6 0 Z A/\Ayo l now pre/\(∀j,x<j->j<l.length->j∈pre)/\∃p,l[x]?=some p/\Au1 v5 v6 D p.1 p.2 a A
def stI(wS:World)(D b6 o6:Nat)(l:List (Int × Int))(now:Int)(Z:Nat->Prop)(pre:B5)(A:World):Prop:=NR wS D b6 o6 0 Z A/\Ayo l now pre
def Ayn(wS:World)(D b6 o6:Nat)(l:List (Int × Int))(now:Int)(c:Code)(Z:Nat->Prop)(xs:B5)(B:World):Prop:=
 c=.ret/\∃pre x p,Ayo l now pre/\(∀j,x<j->j<l.length->j∈pre)/\l[x]?=some p/\p.2<=now/\NR wS D b6 o6 p.1 Z B
theorem Ak5{wS:World}{D b6 o6:Nat}{v5 v6:Value}{l:List (Int × Int)}{now:Int}{Z:Nat->Prop}{pre:B5}{x:Nat}{args:Array Value}{A:World}{a:Act}{K:Act->World->Prop}(l6:b6<D)(hI:stI wS D b6 o6 l now Z pre A)(hm:bwM l pre x args Z A)(hd:a.tmps.size=28)(h5:a.tmps.getD 5 undef=v5)(h6:a.tmps.getD 6 undef=v6)(hK:∀Z1 a' A1,Sd Z Z1 A A1->A1.heap[D]?=A.heap[D]?->A1.heap[D+1]?=A.heap[D+1]?->A0d wS D b6 o6 v5 v6 l now Z1 pre x a' A1->K a' A1):
  Ajm.wpIn (Fence.wide.inRound (D+1)) 0 prog (Exit.then K (fun _ _ _=>False)) { tmps:=((#[20,21]:Array Tmp).zip args).foldl (fun t (p,v)=>t.setIfInBounds p v) a.tmps,defers:=[] } A:=by
 obtain⟨hI1,hI2⟩:=hI;obtain⟨RW,p,hp,rfl⟩:=hm;obtain⟨b0,TG⟩:∃b0:Act,({ tmps:=a.tmps,defers:=[] }:Act)=b0:=⟨_,rfl⟩
 have OX:b0.tmps.size=28:=by rw[<-TG];exact hd
 have ez:((#[20,21]:Array Tmp).zip #[Value.int .i64 (x:Int),.agg #[.int .i64 p.1,.int .i64 p.2]]) = #[(20,Value.int .i64 (x:Int)),(21,.agg #[.int .i64 p.1,.int .i64 p.2])]:=by simp
 have ea:({ tmps:=((#[20,21]:Array Tmp).zip #[Value.int .i64 (x:Int),.agg #[.int .i64 p.1,.int .i64 p.2]]).foldl (fun t (p,v)=>t.setIfInBounds p v) a.tmps,defers:=[] }:Act)=(b0.put (some 20) (.int .i64 (x:Int))).put (some 21) (.agg #[.int .i64 p.1,.int .i64 p.2]):=by
  rw[ez,<-TG];simp[Act.put]
 rw[ea];have hd0:b0.defers=[]:=by rw[<-TG]
 have ht0:b0.tmps=a.tmps:=by rw[<-TG]
 obtain⟨a1,ha1⟩:∃a1,(b0.put (some 20) (.int .i64 (x:Int))).put (some 21) (.agg #[.int .i64 p.1,.int .i64 p.2])=a1:=⟨_,rfl⟩
 rw[ha1];have z1:a1.defers=[]:=by rw[<-ha1];simp only[Kj,hd0]
 have z2:a1.tmps.size=28:=by rw[<-ha1];simp only[Hy,OX]
 have z5:a1.tmps.getD 5 undef=v5:=by rw[<-ha1,Fs (by decide),Fs (by decide),ht0];exact h5
 have z6:a1.tmps.getD 6 undef=v6:=by rw[<-ha1,Fs (by decide),Fs (by decide),ht0];exact h6
 have z21:a1.tmps.getD 21 undef=.agg #[.int .i64 p.1,.int .i64 p.2]:=by rw[<-ha1,EY (by simp only[Hy,OX];decide)]
 have i0:B9 28 A noL (fun _=>False) (fun _=>none) ⟨lk [(5,.sc v5),(6,.sc v6),(21,.agg [Ao p.1,Ao p.2])],Bq []⟩ a1 A:=by
  refine B9.init _ _ z1 z2 ?_ ?_ ?_ (fun _ h=>h.elim)
  ·intro q hq;simp only[Bx,Ig,or_false] at hq;rcases hq with rfl|rfl|rfl<;>simp
  ·intro q hq;simp only[Bx,Ig,or_false] at hq;rcases hq with rfl|rfl|rfl
   ·rw[z5];exact Az.sc _
   ·rw[z6];exact Az.sc _
   ·exact⟨[.int .i64 p.1,.int .i64 p.2],z21,Az.sc _,Az.sc _,trivial⟩
  ·intro q hq;simp only[Bx,Ig,or_false] at hq;rcases hq with rfl|rfl|rfl<;>rfl
 refine DN (ro:=some (D+1)) (Jf _ _) DR B8 (by kernel_rfl) (fun _ _ h=>h) i0 (t:=0) (L:=1120) (s1:=⟨lk [(5,.sc v5),(6,.sc v6),(10,.ptr 10 0)],Bq [(10,.st [Ao p.1,Ao p.2])]⟩) (Ay5 cl v5 v6 p.1 p.2) ?_;intro a2 w2 β2 h2;have L8:=hI1.size;have Gn:=h2.stayA Axl;have keep:∀b,b<A.heap.size->w2.heap[b]?=A.heap[b]?:=Gn.same;obtain⟨b10,o10,e10,t10,l10,k10,_⟩:=h2.var (i:=10) (id:=10) (by decide) rfl rfl;obtain⟨v0,q0,r0⟩:=k10 0 _ rfl;obtain⟨v1,q1,r1⟩:=k10 1 _ rfl;have r0:=Az.val r0;have r1:=Az.val r1;subst r0 r1;have g10:A.heap.size<=b10:=(h2.ownd b10 ⟨10,o10,by trivial,e10⟩).elim (fun h=>h.elim) (fun h=>h)
 refine hK (fun b=>Z b\/(A.heap.size<=b/\b<w2.heap.size)) a2 w2 ⟨h2.fr.os,h2.fr.tape,h2.fr.output,h2.fr.step.size,fun b hb _=>keep b hb,fun b hb=>.inl hb,fun b hb=>hb.imp (fun h=>h) (·.1),fun b hb=>hb.elim (fun h=>Io (hI1.zlt b h) h2.fr.step.size) (·.2),h2.fr.step.bs⟩ (keep D (by omega)) (keep (D+1) (by omega)) ⟨?_,hI2,RW,p,hp,⟨h2.dfr,h2.tsz,Mj (h2.tms 5 (by decide)),Mj (h2.tms 6 (by decide)),b10,o10,t10,by omega,l10,q0,q1⟩⟩;have k6:=keep b6 (by omega)
 exact⟨h2.fr.os.trans hI1.os,h2.fr.tape.trans hI1.tape,h2.fr.output.trans hI1.output,Nat.le_trans L8 h2.fr.step.size,fun b hb=>hb.elim (fun h=>Io (hI1.zlt b h) h2.fr.step.size) (·.2),.inl hI1.z6,fun b hb=>hb.elim (hI1.zn b) (fun h=>.inr (by omega)),fun b hb hn=>(keep b (by omega)).trans (hI1.keep b hb hn),
  Nat.le_trans hI1.bs (h2.fr.step.bs b6 (by omega)),(World.cell?_of_block k6).trans hI1.c6,by rw[frozen?_of_block k6];exact hI1.f6⟩
theorem Ahs{B:World}{Y:Nat->Prop}{a:Act}{l:List (Nat × PV)}{b6 o6:Nat}{v:Int}(hd:a.defers=[])(L8:a.tmps.size=28)(Ch:∀q∈l,q.1<28)(c6:B.cell? ⟨b6,o6,none⟩=some (.int .i64 v))(f6:B.frozen? ⟨b6,o6,none⟩=false)(l6:b6<B.heap.size)(y6:¬Y b6)(hY:∀b,Y b->b<B.heap.size)(hv:∀(β:Bt),β 56000=some (b6,o6)->(∀b,Dd (Bq [(56000,.st [Ao v])]) β Y b->b=b6\/Y b)->∀q∈l,Eo B (Dd (Bq [(56000,.st [Ao v])]) β Y) β q.2 (a.tmps.getD q.1 undef))(hr:∀q∈l,∀id∈Cc q.2,id=56000):
  ∃X0 β,(∀b,X0.X b->b=b6)/\X0.pt 0=some (b6,o6)/\X0.pn 0/\(∀i,X0.pn i->i=0)/\B9 28 B X0 Y β ⟨lk l,Bq [(56000,.st [Ao v])]⟩ a B:=by
 obtain⟨β,hβ⟩:∃β:Bt,β=fun id=>if id=56000 then some (b6,o6) else none:=⟨_,rfl⟩
 have e1:β 56000=some (b6,o6):=by rw[hβ];rfl
 have W7:∀id bx,Bq [(56000,Bz.st [Ao v])] id=some bx->id=56000/\bx=.st [Ao v]:=by
  intro id bx e;rcases Sk [(56000,Bz.st [Ao v])] id with h1|⟨p,hp,h1,h2⟩
  ·rw[h1] at e;cases e
  ·rw[h2] at e;cases e;simp only[Bx,Ig,or_false] at hp;subst hp;exact⟨h1.symm,rfl⟩
 have hX:∀b,DS (Bq [(56000,Bz.st [Ao v])]) β b->b=b6:=by
  rintro b' ⟨id,o',hl,hb⟩
  cases hh:Bq [(56000,Bz.st [Ao v])] id with
  |none=>rw[hh] at hl;exact hl.elim
  |some bx=>
   obtain⟨rfl,_⟩:=W7 id bx hh;rw[e1] at hb;cases hb;rfl
 have hA:∀b,Dd (Bq [(56000,Bz.st [Ao v])]) β Y b->b=b6\/Y b:=fun b hb=>hb.imp (hX b) (fun x=>x);refine⟨_,β,hX,e1,rfl,fun i hi=>hi,B9.make l [(56000,.st [Ao v])] a (fun i=>i=0) (fun i hi=>by omega) hd L8 Ch (hv β e1 hA) ?_ ?_ ?_ ?_ ?_ ?_ ?_ ?_ hY⟩
 ·intro id bx e;obtain⟨rfl,rfl⟩:=W7 id bx e;refine⟨b6,o6,e1,fun j c hj=>?_,fun j hj=>?_⟩
  ·match j,hj with
   |0,hj=>cases hj;exact⟨_,c6,Az.sc _⟩
  ·match j,hj with
   |0,_=>exact f6
 ·intro id id' b1 o1 o2 g1 g2 g3 g4
  have Br:∀i,Ct (Bq [(56000,Bz.st [Ao v])] i)->i=56000:=by
   intro i hi;cases hh:Bq [(56000,Bz.st [Ao v])] i with
   |none=>rw[hh] at hi;exact hi.elim
   |some bx=>exact (W7 i bx hh).1
  rw[Br id g1,Br id' g2]
 ·intro id b1 o1 g1 g2;cases hh:Bq [(56000,Bz.st [Ao v])] id with
  |none=>exact absurd hh g1
  |some bx=>
   obtain⟨rfl,_⟩:=W7 id bx hh;rw[e1] at g2;cases g2;exact l6
 ·intro p hp id Br;rw[hr p hp id Br];simp[Bq]
 ·intro id cells e c hc i hi;obtain⟨rfl,e'⟩:=W7 id _ e;cases e';simp only[Bx,Ig,or_false] at hc;subst hc;simp[Aw] at hi
 ·intro i hi;subst hi;simp[Bq,Dm]
 ·intro id c e;obtain⟨rfl,_⟩:=W7 id _ e;exact⟨0,rfl,rfl⟩
 ·intro b hy hx;rw[hX b hx] at hy;exact y6 hy
theorem Ajl{wS:World}{D b6 o6:Nat}{v v':Int}{Z:Nat->Prop}{A w':World}{X0:F6}{β':Bt}{a':Act}(l6:b6<D)(hI:NR wS D b6 o6 v Z A)(hx1:X0.pt 0=some (b6,o6))(hx2:X0.pn 0)(hX:∀b,X0.X b->b=b6)(hs:B9 28 A X0 (fun _=>False) β' ⟨lk [(6,.ptr 56000 0)],Bq [(56000,.st [Ao v'])]⟩ a' w'):
  Sd Z (fun b=>Z b\/(A.heap.size<=b/\b<w'.heap.size)) A w'/\w'.heap[D]?=A.heap[D]?/\w'.heap[D+1]?=A.heap[D+1]?/\NR wS D b6 o6 v' (fun b=>Z b\/(A.heap.size<=b/\b<w'.heap.size)) w':=by
 have L8:=hI.size;have Gn:=hs.fr.step;have same:∀b,b<A.heap.size->b≠b6->w'.heap[b]?=A.heap[b]?:=fun b hb hn=>Gn.keep b hb fun hx=>hn (hX b hx);have hp:β' 56000=some (b6,o6):=(hs.pin 0 hx2).2.trans hx1;obtain⟨b,o,g1,g2,g3⟩:=(show ∃b o,β' 56000=some (b,o)/\_/\_ from hs.box 56000 _ (rfl:_=some (Bz.st [Ao v'])))
 rw[hp] at g1;cases g1;obtain⟨v0,q0,r0⟩:=g2 0 _ rfl;have r0:=Az.val r0;subst r0
 refine⟨⟨hs.fr.os,hs.fr.tape,hs.fr.output,Gn.size,fun b hb hn=>same b hb fun e=>hn (e ▸ hI.z6),fun b hb=>.inl hb,fun b hb=>hb.imp (fun x=>x) (·.1),fun b hb=>hb.elim (fun h1=>Io (hI.zlt b h1) Gn.size) (·.2),Gn.bs⟩,
  same D (by omega) (by omega),same (D+1) (by omega) (by omega),?_⟩
 exact⟨hs.fr.os.trans hI.os,hs.fr.tape.trans hI.tape,hs.fr.output.trans hI.output,by have:=Gn.size;omega,fun b hb=>hb.elim (fun h1=>Io (hI.zlt b h1) Gn.size) (·.2),.inl hI.z6,fun b hb=>hb.elim (hI.zn b) (fun h=>.inr (by omega)),fun b hb hn=>(same b (by omega) hn).trans (hI.keep b hb hn),Nat.le_trans hI.bs (Gn.bs b6 (by omega)),q0,g3 0 (Nat.zero_lt_succ _)⟩
theorem Ary{wS:World}{D b5 o5 b6 o6:Nat}{l:List (Int × Int)}{now:Int}{Z:Nat->Prop}{pre:B5}{x:Nat}{a:Act}{A:World}(l5:b5<D)(l6:b6<D)(n5:b5≠b6)(h5:wS.cell? ⟨b5,o5,none⟩=some (.int .i64 now))(hn:A0d wS D b6 o6 (.pointer (some ⟨b5,o5,none⟩)) (.pointer (some ⟨b6,o6,none⟩)) l now Z pre x a A):
  ZJ.wpIn (WF (some (D+1))) 0 prog (KE D (stI wS D b6 o6 l now) (Ayn wS D b6 o6 l now) Z (pre++[x]) A) a A:=by
 obtain⟨hI,A4d,Adl,p,hp,hN⟩:=hn;obtain⟨b10,o10,t10,g10,l10,c0,c1⟩:=hN.t10;have L8:=hI.size
 obtain⟨X0,β,hX,hx1,hx2,_,hs⟩:=Ahs (B:=A) (Y:=fun _=>False) (a:=a) (l:=[(5,.iptr [Ao now] 0),(6,.ptr 56000 0),(10,.iptr [Ao p.1,Ao p.2] 0)]) (b6:=b6) (o6:=o6) (v:=0) hN.dfr hN.size (by
   intro q hq;simp only[Bx,Ig,or_false] at hq;rcases hq with rfl|rfl|rfl<;>simp) hI.c6 hI.f6 (by omega) (fun h=>h) (fun _ h=>h.elim) (by
   intro β e1 hA q hq;simp only[Bx,Ig,or_false] at hq;rcases hq with rfl|rfl|rfl
   ·refine⟨⟨b5,o5,none⟩,hN.t5,rfl,by show b5<_;omega,fun hb=>?_,fun j c hj=>?_⟩
    ·rcases hA _ hb with h1|h1
     ·exact n5 h1
     ·exact h1
    ·match j,hj with
     |0,hj=>cases hj;exact⟨_,(World.cell?_of_block (a:=⟨b5,o5,none⟩) (hI.keep b5 l5 n5)).trans h5,rfl,Az.sc _⟩
   ·exact⟨b6,o6,e1,hN.t6⟩
   ·refine⟨⟨b10,o10,none⟩,t10,rfl,l10,fun hb=>?_,fun j c hj=>?_⟩
    ·rcases hA _ hb with h1|h1
     ·have h1:b10=b6:=h1;omega
     ·exact h1
    ·match j,hj with
     |0,hj=>cases hj;exact⟨_,c0,rfl,Az.sc _⟩
     |1,hj=>cases hj;exact⟨_,c1,rfl,Az.sc _⟩) (by
   intro q hq id Br;simp only[Bx,Ig,or_false] at hq;rcases hq with rfl|rfl|rfl<;>simp[Cc,Cn,Aw] at Br
   exact Br)
 have DV:∀a w,¬KE D (stI wS D b6 o6 l now) (Ayn wS D b6 o6 l now) Z (pre++[x]) A .outgrown a w:=fun a w ⟨_,_,_,_,hf⟩=>hf;by_cases CL:p.2<=now
 ·refine LH (Jf _ _) DR B8 (by kernel_rfl) DV hs (t:=1) (L:=64) (s1:=⟨lk [(6,.ptr 56000 0)],Bq [(56000,.st [Ao p.1])]⟩) ((Arl cl now p.1 p.2).trans (EZ _ _ _ CL)) ?_
  rintro a' w' β' e' h' (⟨h1,_⟩|⟨_,rfl⟩|⟨id,h1,_⟩)
  ·cases h1
  ·obtain⟨k1,k2,k3,k4⟩:=Ajl l6 hI hx1 hx2 hX h';exact⟨_,k1,k2,k3,rfl,pre,x,p,A4d,Adl,hp,CL,k4⟩
  ·omega
 ·refine LH (Jf _ _) DR B8 (by kernel_rfl) DV hs (t:=0) (L:=64) (s1:=⟨lk [(6,.ptr 56000 0)],Bq [(56000,.st [Ao 0])]⟩) ((Arl cl now p.1 p.2).trans (D0 _ _ _ CL)) ?_
  rintro a' w' β' e' h' (⟨_,rfl⟩|⟨h1,_⟩|⟨id,h1,_⟩)
  ·obtain⟨k1,k2,k3,k4⟩:=Ajl l6 hI hx1 hx2 hX h';refine⟨_,k1,k2,k3,k4,fun j hj q hq=>?_⟩;rcases Bu.1 hj with h1|h1
   ·exact A4d j h1 q hq
   ·rw[Lo.1 h1,hp] at hq;cases hq;omega
  ·cases h1
  ·omega
end
def En.cells(e:En):Ab:=[Ac e.k,.lst false 3 e.na e.an,.lst false 2 e.ns e.st]
theorem En.cells_len(e:En):e.cells.length=3:=rfl
def Ny(l:List En):Ab:=l.flatMap En.cells
def En.fit(e:En):Prop:=e.an.length=e.na*3/\e.st.length=e.ns*2/\e.na<=1000/\e.ns<=1000
theorem Aol{l:List En}{i:Nat}{e:En}(h:l[i]?=some e):(Ny l).getD (i*3) .top=Ac e.k/\(Ny l).getD (i*3+1) .top=.lst false 3 e.na e.an/\(Ny l).getD (i*3+2) .top=.lst false 2 e.ns e.st:=
 ⟨H4 En.cells_len h (j:=0) (by omega),H4 En.cells_len h (j:=1) (by omega),H4 En.cells_len h (j:=2) (by omega)⟩
theorem Acn{c:Ab}{es:List En}(h:Ya c=some es):c=Ny es/\∀e∈es,e.fit:=by
 fun_induction Ya c generalizing es with
 |case1=>cases h;exact⟨rfl,fun e he=>by cases he⟩
 |case2 k na an ns st r hb ih=>
  simp only[Gl] at hb;obtain⟨⟨⟨b1,b2⟩,b3⟩,b4⟩:=hb;cases hr:Ya r with
  |none=>rw[hr] at h;cases h
  |some es'=>
   rw[hr] at h;cases h;obtain⟨h1,h2⟩:=ih hr;refine⟨by rw[h1];rfl,fun e he=>?_⟩
   rcases Bx.1 he with rfl|he
   ·exact⟨D4 b1,D4 b2,Wu b3,Wu b4⟩
   ·exact h2 e he
 |case3=>cases h
 |case4=>cases h
theorem ZP{st:Ab}{l:List (Int × Int)}(h:Ri st=some l):st=Kk l:=by
 fun_induction Ri st generalizing l with
 |case1=>cases h;rfl
 |case2 k t r ih=>
  cases hr:Ri r with
  |none=>rw[hr] at h;cases h
  |some l'=>
   rw[hr] at h;cases h;rw[ih hr];rfl
 |case3=>cases h
section
variable {xs:FuncId->Option (Ab->Option Dl)}{fu d:Nat}
theorem A0i{n:Nat}{c:Ab}(h:c.length=n*3)(hn:n<=1000):Ap (CX xs) prog fu (d+1) 71 [.lst false 3 n c]=some ⟨[.lst false 3 n c],[]⟩:=by
 refine (Oq fu d n c).trans ?_;have t:List.take (n*3) c=c:=I9 (by omega);by_cases h0:0<n
 ·simp(disch:=omega)only[B4,B3,PT,Cu,Fi,h,t]
 ·obtain rfl:n=0:=by omega
  have:c=[]:=List.length_eq_zero_iff.1 (by omega);subst this;simp(disch:=omega)only[B4,B3,PT,Cu,Fi,Vl,Nat.zero_mul,List.take_nil]
theorem Azk{n:Nat}{c:Ab}(h:c.length=n*2)(hn:n<=1000):Ap (CX xs) prog fu (d+1) 72 [.lst false 2 n c]=some ⟨[.lst false 2 n c],[]⟩:=by
 refine (On fu d n c).trans ?_;have t:List.take (n*2) c=c:=I9 (by omega);by_cases h0:0<n
 ·simp(disch:=omega)only[B4,B3,PT,Cu,Fi,h,t]
 ·obtain rfl:n=0:=by omega
  have:c=[]:=List.length_eq_zero_iff.1 (by omega);subst this;simp(disch:=omega)only[B4,B3,PT,Cu,Fi,Vl,Nat.zero_mul,List.take_nil]
theorem A0n{e:En}(h:e.fit):Ap (CX xs) prog fu (d+2) 37 [.agg e.cells]=some ⟨[.agg e.cells],[]⟩:=by refine (Qb fu (d+1) e.k e.na e.an e.ns e.st).trans ?_;have a:=A0i (xs:=xs) (fu:=fu) (d:=d) h.1 h.2.2.1;have s:=Azk (xs:=xs) (fu:=fu) (d:=d) h.2.1 h.2.2.2;simp only[B4,B3,a,s];rfl
def en0:En:=⟨0,0,[],0,[]⟩
def Vp(model:Int)(es:List En):En:=(es.find? fun e=>e.k==model).getD en0
theorem An8(model:Int)(es:List En):(Vp model es).st=Ae6 model es:=by unfold Vp Ae6;cases es.find? fun e=>e.k==model<;>rfl
theorem Ale{model:Int}{es:List En}(h:∀e∈es,e.fit):(Vp model es).fit:=by
 unfold Vp;cases hf:es.find? fun e=>e.k==model with
 |none=>exact⟨rfl,rfl,by decide,by decide⟩
 |some e=>exact h e (List.mem_of_find?_eq_some hf)
theorem Apw{Dc Cj Ef Kz a1:Int}{Gt Gv Gu:Nat}{Ku Kx K4:Ab}{es:List En}(hn:es.length<=1000)(hf:∀e∈es,e.fit){model:Int}:∀(r:List En)(i nn:Nat),es.drop i=r->r.length<nn ->
  ∃b,I6 fu (Ap (CX xs) prog fu (d+2)) Dc Cj Ef Gt Ku Kz Gv Kx Gu K4 a1 nn model es.length (Ny es) (es.length:Int) (i:Int) 0 0 0 [] []=some ⟨[.agg (Vp model r).cells,.sc (.bool b)],[]⟩
 |_,_,0,_,h=>by omega
 |[],i,nn+1,hr,Ld=>by
  have hi:=drop_nil hr;refine⟨false,?_⟩;rw[Qf];simp(disch:=omega)only[B4,B3];rfl
 |e::r,i,nn+1,hr,Ld=>by
  obtain⟨Ch,h1,h2⟩:=C1 hr;obtain⟨g0,g1,g2⟩:=Aol h1;have g2':(Ny es).getD (i*3+1+1) .top=.lst false 2 e.ns e.st:=g2;rw[Qf];by_cases hk:e.k=model
  ·refine⟨true,?_⟩;have q:(e.k==model)=true:=by simp[hk]
   have cp:=A0n (xs:=xs) (fu:=fu) (d:=d) (hf e (List.mem_of_getElem? h1));have fe:Vp model (e::r)=e:=by unfold Vp;rw[List.find?_cons_of_pos (by simpa using hk)];rfl
   rw[fe];simp only[En.cells] at cp;simp(disch:=omega)only[B4,B3,Ij,g0,g1,g2',q,cp];rfl
  ·have q:(e.k==model)=false:=by simp[hk]
   have w:wrap .i64 ((i:Int)+1)=((i+1:Nat):Int):=by rw[Ah (by omega) (by omega)];omega
   obtain⟨b,ih⟩:=Apw (Dc:=Dc) (Cj:=Cj) (Ef:=Ef) (Kz:=Kz) (a1:=a1) (Gt:=Gt) (Gv:=Gv) (Gu:=Gu) (Ku:=Ku) (Kx:=Kx) (K4:=K4) hn hf (model:=model) r (i+1) nn h2 (by simp only[G9] at Ld;omega)
   have fe:Vp model (e::r)=Vp model r:=by unfold Vp;rw[List.find?_cons_of_neg (by simpa using hk)]
   refine⟨b,?_⟩;rw[fe,<-ih];simp(disch:=omega)only[B4,B3,Ij,g0,g1,g2',q,w]
theorem Ay9{es:List En}(hn:es.length<=1000)(Bo:1000<fu)(hf:∀e∈es,e.fit)(v i x lf model:Int)(n1 n2:Nat)(c1 c2:Ab):
  ∃b,Ap (CX xs) prog fu (d+3) 52 [.agg [Ao v,Ao i,Ao x,.lst false 3 es.length (Ny es),Ao lf,.lst false 1 n1 c1,.lst false 1 n2 c2],Ac model]=some ⟨[.agg (Vp model es).cells,.sc (.bool b)],[]⟩:=by
 obtain⟨b,h⟩:=Apw (xs:=xs) (fu:=fu) (d:=d) (Dc:=v) (Cj:=i) (Ef:=x) (Kz:=lf) (a1:=model) (Gt:=es.length) (Gv:=n1) (Gu:=n2) (Ku:=Ny es) (Kx:=c1) (K4:=c2) hn hf (model:=model) es 0 fu rfl (by omega);exact⟨b,(HS fu (d+2) v i x es.length (Ny es) lf n1 c1 n2 c2 model).trans h⟩
end
section
open Go Go.RowKit
theorem Acz{now:Int}{l:List (Int × Int)}(h:∀p∈l,now<p.2):Hs now l=0:=by
 unfold Hs
 have:l.reverse.find? (fun p=>decide (p.2<=now))=none:=by
  rw[List.find?_eq_none];intro p hp;have:=h p (List.mem_reverse.1 hp);simp only[IR];omega
 rw[this]
theorem Alz{now:Int}{l:List (Int × Int)}{x:Nat}{p:Int × Int}(h:l[x]?=some p)(CL:p.2<=now)(hn:∀j,x<j->∀q,l[j]?=some q->now<q.2):Hs now l=p.1:=by
 unfold Hs;have Ch:=(List.getElem?_eq_some_iff.1 h).1
 have e:l=l.take x++p::l.drop (x+1):=by
  have:l[x]=p:=(List.getElem?_eq_some_iff.1 h).2;rw[<-this,List.getElem_cons_drop,List.take_append_drop]
 have h1:(l.drop (x+1)).reverse.find? (fun p=>decide (p.2<=now))=none:=by
  rw[List.find?_eq_none];intro q hq;obtain⟨j,hj⟩:=List.mem_iff_getElem?.1 (List.mem_reverse.1 hq);rw[List.getElem?_drop] at hj;have:=hn (x+1+j) (by omega) q hj;simp only[IR];omega
 have h2:l.reverse.find? (fun p=>decide (p.2<=now))=some p:=by
  rw[e,List.reverse_append,List.reverse_cons,List.find?_append,List.find?_append,h1];simp[CL]
 rw[h2]
theorem Asr{w4 w5:World}{Y:Nat->Prop}{now:Int}{l:List (Int × Int)}{a4 a5:Act}{b5 o5 b6 o6:Nat}{sv:Value}(hl:l.length<=100000)(t5:a4.tmps.getD 5 undef=.pointer (some ⟨b5,o5,none⟩))(t6:a4.tmps.getD 6 undef=.pointer (some ⟨b6,o6,none⟩))(l5:b5<w4.heap.size)(l6:b6<w4.heap.size)(n5:b5≠b6)(c5:w4.cell? ⟨b5,o5,none⟩=some (.int .i64 now))(c6:w4.cell? ⟨b6,o6,none⟩=some (.int .i64 0))(f6:w4.frozen? ⟨b6,o6,none⟩=false)(hsv:Az w4 (fun b=>b=b6) (.lst false 2 l.length (Kk l)) sv)(MY:sv.oneCell'=true)(L8:a4.tmps.size=28)(hw5:w5=w4.alloc (.cells #[sv] 59))(QU:a5=a4.put (some 19) (.func (.func 93) #[] #[.pointer (some ⟨w4.heap.size,0,none⟩)])){K:Act->World->Prop}{Q:Exit->Act->World->Prop}(hK0:∀Z B,NR w5 (w4.heap.size+1) b6 o6 (Hs now l) Z B->Hs now l=0->B.heap[w4.heap.size+1]?=some (.deferred (some []))->K { a5 with defers:={ target:=.collected (w4.heap.size+1),args:= #[] }::a5.defers } B)(hK1:∀Z B,NR w5 (w4.heap.size+1) b6 o6 (Hs now l) Z B->B.heap[w4.heap.size+1]?=some (.deferred (some []))->Q .ret { a5 with defers:={ target:=.collected (w4.heap.size+1),args:= #[] }::a5.defers } B):
  (Code.block 0 (.rangeFunc (.tmp 19) #[20,21] Ajm ZJ)).wpIn Fence.wide 0 prog (Exit.then K Q) a5 w5:=by
 have X4:w5.heap.size=w4.heap.size+1:=by rw[hw5,World.size_alloc]
 have hold:∀b,b<w4.heap.size->w5.heap[b]?=w4.heap[b]?:=fun b hb=>by rw[hw5];exact Below.heap_alloc _ _ _ hb
 have hB0:w5.heap[w4.heap.size]?=some (.cells #[sv] 59):=by rw[hw5];exact World.alloc_heap_new w4 _
 have Ay3:a5.tmps.size=28:=by rw[QU,Hy];exact L8
 have g5:a5.tmps.getD 5 undef=.pointer (some ⟨b5,o5,none⟩):=by rw[QU,Fs (by decide)];exact t5
 have g6:a5.tmps.getD 6 undef=.pointer (some ⟨b6,o6,none⟩):=by rw[QU,Fs (by decide)];exact t6
 have g19:a5.eval (.tmp 19)=.func (.func 93) #[] #[.pointer (some ⟨w4.heap.size,0,none⟩)]:=by
  show a5.tmps.getD 19 undef=_;rw[QU,EY (by omega)]
 have UI:=Atq (S0:=w4.heap.size) (l:=l) hl
 refine wpIn_block (Agt (Z0:=fun b=>b=b6) g19 (enters_of Tryz.func93 (by kernel_rfl) rfl) UI (fun b hb=>by omega) (fun W hW hk=>?_) (fun pre x args Z A hm=>Aoy hm)
  (stI w5 (w4.heap.size+1) b6 o6 l now) (Ayn w5 (w4.heap.size+1) b6 o6 l now) ?_ ?_ ?_ (A0d w5 (w4.heap.size+1) b6 o6 (.pointer (some ⟨b5,o5,none⟩)) (.pointer (some ⟨b6,o6,none⟩)) l now) ?_ ?_ ?_ ?_ ?_)
 ·have hkk:∀b,b<w4.heap.size->W.heap[b]?=w4.heap[b]?:=fun b hb=>(hk b (by omega)).trans (hold b hb);have k0:=hk w4.heap.size (by omega);refine⟨fun j c hj=>?_,by omega,by rintro (h|h|h)<;>omega⟩
  match j,hj with
  |0,hj=>
   cases hj;refine⟨sv,(World.cell?_of_block (a:=⟨w4.heap.size,0,none⟩) k0).trans ?_,MY,?_⟩
   ·unfold World.cell?;rw[hB0];rfl
   ·refine hsv.step (w':=W) ⟨by omega,fun b hb _=>hkk b hb,fun b hb=>?_⟩ fun b hb h=>?_
    ·unfold bsz;rw[hkk b hb];exact Dn _
    ·rcases h with h|h|h
     ·exact h
     ·omega
     ·omega
 ·intro Z pre A B hI hs;rw[X4] at hs;exact⟨hI.1.stay (by omega) hs,hI.2⟩
 ·rintro c' Z pre A B ⟨h1,pre',x,p,q1,q2,q3,q4,hI⟩ hs
  rw[X4] at hs;exact⟨h1,pre',x,p,q1,q2,q3,q4,hI.stay (by omega) hs⟩
 ·intro W hW Gn;have e:∀b,b<w4.heap.size+1->W.heap[b]?=w5.heap[b]?:=fun b hb=>Gn.same b (by omega);have e6:=(e b6 (by omega)).trans (hold b6 l6);refine⟨⟨Gn.os,Gn.tape,Gn.output,by omega,fun b hb=>by rcases hb with hb|hb|hb<;>omega,.inl rfl,fun b hb=>by rcases hb with hb|hb|hb<;>omega,fun b hb _=>e b hb,by unfold bsz;rw[e b6 (by omega)];exact Dn _,(World.cell?_of_block e6).trans c6,by rw[frozen?_of_block e6];exact f6⟩,fun j hj=>by cases hj⟩
 ·intro Z pre x a' A B hn hs;rw[X4] at hs;obtain⟨h1,h2,h3,p,h4,h5⟩:=hn;exact⟨h1.stay (by omega) hs,h2,h3,p,h4,h5.stay hs⟩
 ·intro Z pre x args A K' hZ1 hZ2 hI hm hk;rw[X4] at hk ⊢;exact Ak5 (by omega) hI hm Ay3 g5 g6 hk
 ·intro Z pre x a' A hZ1 hZ2 hn;rw[X4];exact Ary (by omega) (by omega) n5 ((World.cell?_of_block (hold b5 l5)).trans c5) hn
 ·intro Z xs B hS hI hdf
  have h0:Hs now l=0:=Acz fun p hp=>by
   obtain⟨j,hj⟩:=List.mem_iff_getElem?.1 hp;exact hI.2 j (hS j (List.getElem?_eq_some_iff.1 hj).1) p hj
  rw[X4] at hdf ⊢;exact hK0 Z B (by rw[h0];exact hI.1) h0 hdf
 ·rintro c' Z xs B _ ⟨rfl,pre,x,p,q1,q2,q3,q4,hI⟩ hdf
  have hp:Hs now l=p.1:=Alz q3 q4 fun j hj q hq=>q1 j (q2 j hj (List.getElem?_eq_some_iff.1 hq).1) q hq;rw[X4] at hdf ⊢;refine wpIn_ret ?_;exact hK1 Z B (by rw[hp];exact hI) hdf
theorem Azq:stC=.seq (sL stC) (.seq (sL (sR stC)) (.seq (.seq (.region 2 (Hj (sL (sL (sR (sR stC))))) false) (.block 0 (.rangeFunc (.tmp 19) #[20,21] Ajm ZJ))) (.seq (.region 6 (Hj (sL (sR (sR (sR stC))))) false) .ret))):=by kernel_rfl
theorem A3t:∃ty pos aft x,(Hj (sL (sL (sR (sR stC)))))[2]?=some { dst:=some 19,op:=.call { callee:=.value (.func 53),args:= #[.tmp 18],argTypes:=x },type:=ty,pos:=pos,after:=aft,guard:=none }:=
 ⟨_,_,_,_,rfl⟩
abbrev SU(v i x lf model now:Int)(n n1 n2:Nat)(c c1 c2:Ab):Ab:=[.agg [Ao v,Ao i,Ao x,.lst false 3 n c,Ao lf,.lst false 1 n1 c1,.lst false 1 n2 c2],Ac model,Ao now]
abbrev A51(now:Int)(e:En):St:=⟨lk [(5,.ptr 5 0),(6,.ptr 6 0),(7,.ptr 7 0)],Bq [(5,.st [Ao now]),(6,.st [Ao 0]),(7,.st [Ac e.k,.lst false 3 e.na e.an,.lst false 2 e.ns e.st])]⟩
abbrev A2n(now:Int)(n:Nat)(c:Ab):St:=⟨lk [(5,.ptr 5 0),(6,.ptr 6 0),(18,.lst false 2 n c)],Bq [(5,.st [Ao now]),(6,.st [Ao 0])]⟩
abbrev Aph(k:Int):St:=⟨lk [(6,.ptr 56000 0)],Bq [(56000,.st [Ao k])]⟩
theorem Acy{G:Vs}{P:Program}{f:FuncId}{args:Ab}{vals:Ab}(hf:∃fn,P.funcs[f]?=some fn/\fn.body.isSome=true)(Fh:∀(i:Nat)(p:PV),args[i]?=some p->IK p=false)(htr:∀(w:World)(A:Nat->Prop)(bt:MR)(us:List Value),Qm w A bt 0 args us->Bw (Wo w A) args us)(ho0:∀(w:World)(A:Nat->Prop)(bt:MR)(own:Bt),CP w A own bt (S4 vals) 0 args [])(h:∀(w:World)(Y:Nat->Prop)(us:List Value),Ins w Y Zp args us->Calls P f us.toArray w fun e w'=>∃vs own,e=.returned (Mf vs)/\Out w w' Y Zp args own ⟨vals,[]⟩ vs):C7 G P f args ⟨vals,[]⟩:=by
 refine⟨hf,fun w Y bt us BH _ _=>?_⟩
 have hl:∀i q,bt i 0≠some q:=by
  intro i q e;obtain⟨p,h1,h2⟩:=BH.l0 i q e;rw[Fh i p h1] at h2;cases h2
 have ht:=htr w _ bt us BH.args;have A5v:Ins w Y Zp args us:=⟨BH.Ylt,fun b _=>Q8 b,fun b x=>(Q8 b x).elim,fun _ _ _ _ _ _ _ x=>(by cases x),fun _ _ x=>(by cases x),FJ (ht.mono fun p v hp=>VW (fun b _ hb=>hb.elim (fun x=>(Q8 b x).elim) .inr) hp)⟩
 refine (h w Y us A5v).mono ?_
 rintro e w' ⟨vs,own,rfl,ho⟩
 have hA:QE bt own Y=QE Zp own Y:=by
  funext b
  apply propext;constructor
  ·rintro (h1|⟨i,o,h1⟩|h1)
   ·exact .inl h1
   ·exact absurd h1 (hl i _)
   ·exact .inr (.inr h1)
  ·rintro (h1|⟨i,o,h1⟩|h1)
   ·exact .inl h1
   ·cases h1
   ·exact .inr (.inr h1)
 refine⟨vs,own,rfl,ho.os,ho.tape,ho.output,ho.ext.weaken (fun b _ hb=>absurd hb (Q8 b)),fun b j hb _=>ho.rng b j hb ?_,by rw[hA];exact ho.vals,ho0 _ _ _ _,fun j b o hj=>⟨(ho.fresh j b o hj).1,fun Ch=>?_⟩,ho.inj⟩
 ·rintro⟨i,p,_,⟨k,o,h1,_⟩|⟨o,ps,h1,_⟩⟩
  ·cases h1
  ·cases h1
 ·obtain⟨⟨i,k,o',h1⟩,_⟩:=(ho.fresh j b o hj).2 Ch;cases h1
theorem Az.slice_form{w:World}{A:Nat->Prop}{z:Bool}{es n:Nat}{c:Ab}{v:Value}(h:Az w A (.lst z es n c) v):∃ad k q,v=.slice ad k q:=by generalize hp:PV.lst z es n c=p at h;cases h<;>first|exact⟨_,_,_,rfl⟩|cases hp
theorem Auu{G:Vs}{v i x lf model now:Int}{n1 n2:Nat}{c1 c2:Ab}{es:List En}{l:List (Int × Int)}(hn:es.length<=1000)(hf:∀e∈es,e.fit)(Gn:Ae6 model es=Kk l):C7 G prog 29 (SU v i x lf model now es.length n1 n2 (Ny es) c1 c2) ⟨[Ao (Hs now l)],[]⟩:=by
 refine Acy ⟨_,Tryz.func29,rfl⟩ ?_ ?_ (fun _ _ _ _=>rfl) ?_
 ·intro i p h
  match i,h with
  |0,h=>cases h;rfl
  |1,h=>cases h;rfl
  |2,h=>cases h;rfl
 ·intro w A bt us hp
  match us,hp with
  |[u0,u1,u2],⟨⟨vs,e,_,h0⟩,h1,h2,_⟩=>
   refine⟨⟨vs,e,?_⟩,⟨trivial,h1.2⟩,⟨trivial,h2.2⟩,trivial⟩
   match vs,h0 with
   |[v0,v1,v2,v3,v4,v5,v6],⟨k0,k1,k2,k3,k4,k5,k6,_⟩=>exact⟨⟨trivial,k0⟩,⟨trivial,k1⟩,⟨trivial,k2⟩,⟨trivial,k3⟩,⟨trivial,k4⟩,⟨trivial,k5⟩,⟨trivial,k6⟩,trivial⟩
 intro w Y us BH;have hY:=BH.Ylt;have hk0:Afx prog 28 0 Tryz.f29.params.toList (SU v i x lf model now es.length n1 n2 (Ny es) c1 c2) (fun tms bs=>some (tms,bs))=some ([(0,.agg [Ao v,Ao i,Ao x,.lst false 3 es.length (Ny es),Ao lf,.lst false 1 n1 c1,.lst false 1 n2 c2]),(1,Ac model),(2,Ao now)],[]):=by kernel_rfl
 have hus:us.length=3:=by
  match us,BH.args with
  |[u0,u1,u2],_=>rfl
 obtain⟨tms,bs,Eg,Aya⟩:=KF BH hk0;cases Eg;obtain⟨h8,β0,QM⟩:=Aya rfl (by omega);refine callsIn_wide.1 (callsIn_of_wp_marks (F:=Fence.wide) (n:=0) Tryz.func29 rfl trivial ?_ rfl);show stC.wpIn _ _ _ _ { tmps:=us.toArray++Array.replicate (28-us.toArray.size) undef,defers:=[] } _;generalize ({ tmps:=us.toArray++Array.replicate (28-us.toArray.size) undef,defers:=[] }:Act)=a0 at QM ⊢;have hXn:∀b,¬(FD Zp (SU v i x lf model now es.length n1 n2 (Ny es) c1 c2) h8).X b:=Q8;obtain⟨bq,el⟩:=Ay9 (xs:=noX) (fu:=2000) (d:=5) (es:=es) hn (by omega) hf v i x lf model n1 n2 c1 c2;have el:cl 52 _=_:=el;simp only[En.cells] at el;have Aj0:=Ale (model:=model) hf;have hfs:(Vp model es).st=Kk l:=(An8 model es).trans Gn;generalize Vp model es=E at el Aj0 hfs
 have hns:E.ns=l.length:=by
  have h1:=Aj0.2.1;rw[hfs,Amo] at h1;omega
 refine Pm Azq (wpIn_seq (wpIn_wide.2 (Dh (Jf _ _) DR B8 QM (A0g cl v i x lf model now es.length n1 n2 (Ny es) c1 c2) ?_)));intro a1 w1 β1 MY;refine wpIn_seq (wpIn_wide.2 (Dh (Jf _ _) DR B8 MY (L:=224) (t:=0) (s1:=A51 now E) ?_ ?_))
 ·refine (A0v cl v i x lf model now es.length n1 n2 (Ny es) c1 c2).trans ?_;simp only[B4,B3,el]
 intro a2 w2 β2 RC;refine wpIn_seq (wpIn_seq (wpIn_region ?_));have hli:List.range (Hj (sL (sL (sR (sR stC))))).size=[0,1]++[2]:=by kernel_rfl
 rw[hli];refine G4 (ro:=none) (C:=CB) (call:=cl) (r:=((0:Nat),A2n now E.ns E.st)) (Jf _ _) B8 ?_ [0,1] (List.take 2 (Hj (sL (sL (sR (sR stC))))).toList) (by kernel_rfl) ?_ (by kernel_rfl) RC (Ayv cl E.k now E.na E.ns E.an E.st)
 rotate_left
 ·intro j i hj
  match j,hj with
  |0,hj=>cases hj;rfl
  |1,hj=>cases hj;rfl
 intro s' a4 w4 β4 U8 hs4;obtain⟨β5,s5,XW,X4⟩:=Cb hs4 U8;cases XW;obtain⟨b5,o5,e5,t5,l5,k5,f5⟩:=X4.var (i:=5) (id:=5) (by decide) rfl rfl;obtain⟨b6,o6,e6,t6,l6,k6,f6⟩:=X4.var (i:=6) (id:=6) (by decide) rfl rfl;obtain⟨v5,q5,r5⟩:=k5 0 _ rfl;obtain⟨v6,q6,r6⟩:=k6 0 _ rfl;have r5:=Az.val r5;have r6:=Az.val r6;subst r5 r6;have own6:w.heap.size<=b6/\¬Y b6:=⟨(X4.ownd b6 ⟨6,o6,by trivial,e6⟩).elim (fun h=>absurd h (hXn b6)) (fun h=>h),fun hy=>X4.Yx b6 hy ⟨6,o6,by trivial,e6⟩⟩
 have n56:b5≠b6:=fun e=>by
  subst e;have:=X4.inj 5 6 b5 o5 o6 (by trivial) (by trivial) e5 e6;cases this
 have h18:Az w4 (Dd (A2n now E.ns E.st).hp β5 Y) (.lst false 2 E.ns E.st) (a4.tmps.getD 18 undef):=X4.tms 18 (by decide);rw[hfs,hns] at h18
 have A3y:Az w4 (fun b=>b=b6) (.lst false 2 l.length (Kk l)) (a4.tmps.getD 18 undef):=h18.step ⟨Dn _,fun _ _ _=>rfl,fun _ _=>Dn _⟩ fun b _ hb=>by
  have hb:b=b6:=hb;subst hb;exact .inl ⟨6,o6,by trivial,e6⟩
 obtain⟨ad,kk,qq,OM⟩:=Az.slice_form h18;have Hk:l.length<=100000:=by have:=Aj0.2.2.2;omega
 obtain⟨ty,pos,aft,xx,ho⟩:=A3t;rw[wpOpsIn_cons];unfold wpOpIn;rw[ho];simp only[Region.wanted,if_true];refine⟨fun _ _=>trivial,?_⟩
 rw[show Oper.semAt (WF none).round a4.eval { dst:=some 19,op:=.call { callee:=.value (.func 53),args:= #[.tmp 18],argTypes:=xx },type:=ty,pos:=pos,after:=aft,guard:=none }=execOp a4.eval { dst:=some 19,op:=.call { callee:=.value (.func 53),args:= #[.tmp 18],argTypes:=xx },type:=ty,pos:=pos,after:=aft,guard:=none } from rfl,
  GN (o:={ dst:=some 19,op:=.call { callee:=.value (.func 53),args:= #[.tmp 18],argTypes:=xx },type:=ty,pos:=pos,after:=aft,guard:=none }) rfl rfl ngT Tryz.func53 rfl]
 have e18:a4.eval (.tmp 18)=.slice ad kk qq:=OM;simp only[List.map_toArray,Rz,List.map_nil,e18];refine⟨(fun h=>by cases h),(Aun ad 0 0 _ w4 kk qq).mono ?_⟩
 rintro e w5 ⟨rfl,hw5⟩
 have Bab:w5.heap.size=w4.heap.size+1:=by rw[hw5,World.size_alloc]
 have o5w:w5.os=w4.os/\w5.tape=w4.tape/\w5.output=w4.output:=by rw[hw5];exact⟨rfl,rfl,rfl⟩
 have hold:∀b,b<w4.heap.size->w5.heap[b]?=w4.heap[b]?:=fun b hb=>by rw[hw5];exact Below.heap_alloc _ _ _ hb
 obtain⟨a5,QU⟩:∃a5,a4.put (some 19) (.func (.func 93) #[] #[.pointer (some ⟨w4.heap.size,0,none⟩)])=a5:=⟨_,rfl⟩
 have hd5:a5.defers=[]:=by rw[<-QU,Kj];exact X4.dfr
 have hz5:a5.tmps.size=28:=by rw[<-QU,Hy];exact X4.tsz
 have t6':a5.tmps.getD 6 undef=.pointer (some ⟨b6,o6,none⟩):=by rw[<-QU,Fs (by decide)];exact t6
 have ea:({ a5 with defers:={ target:=.collected (w4.heap.size+1),args:= #[] }::a5.defers }:Act)=Tn [{ target:=.collected (w4.heap.size+1),args:= #[] }] a5:=by unfold Tn;rw[hd5];rfl
 have UT:=X4.fr;have hw4:=UT.step.size
 have mk:∀{Z B},NR w5 (w4.heap.size+1) b6 o6 (Hs now l) Z B->∃X0 β,(∀b,X0.X b->b=b6)/\B9 28 B X0 Y β (Aph (Hs now l)) a5 B:=by
  intro Z B hI
  obtain⟨X0,β,h1,_,_,_,h2⟩:=Ahs (B:=B) (Y:=Y) (a:=a5) (l:=[(6,.ptr 56000 0)]) (b6:=b6) (o6:=o6) (v:=Hs now l) hd5 hz5 (by
   intro q hq;simp only[Bx,Ig,or_false] at hq;subst hq;simp) hI.c6 hI.f6 (by have:=hI.size;omega) own6.2 (fun b hb=>by have:=hY b hb;have:=hI.size;omega) (by
   intro β e1 hA q hq;simp only[Bx,Ig,or_false] at hq;subst hq;exact⟨b6,o6,e1,t6'⟩) (by
   intro q hq id Br;simp only[Bx,Ig,or_false] at hq;subst hq;simp[Cc,Cn,Aw] at Br;exact Br)
  exact⟨X0,β,h1,h2⟩
 have leave:∀{Z B XB β6 a6 w7},NR w5 (w4.heap.size+1) b6 o6 (Hs now l) Z B->B.heap[w4.heap.size+1]?=some (.deferred (some []))->(∀b,XB.X b->b=b6)->B9 28 B XB Y β6 (Aph (Hs now l)) a6 w7 ->
   bodyPostM Fence.wide 0 prog Tryz.f29 (fun e w'=>∃vs own,e=.returned (Mf vs)/\Out w w' Y Zp (SU v i x lf model now es.length n1 n2 (Ny es) c1 c2) own ⟨[Ao (Hs now l)],[]⟩ vs) .ret (Tn [{ target:=.collected (w4.heap.size+1),args:= #[] }] a6) w7:=by
  intro Z B XB β6 a6 w7 hI hdf hXB hz;have L8:=hI.size
  have hD':w7.heap[w4.heap.size+1]?=some (.deferred (some [])):=by
   rw[hz.fr.step.keep (w4.heap.size+1) (by omega) fun hx=>by have:=hXB _ hx;omega]
   exact hdf
  show LeavesInM _ _ _ _ _ _ (a6.defers++[{ target:=.collected (w4.heap.size+1),args:= #[] }]) .returning w7;rw[hz.dfr];refine⟨by simp,.inl ⟨_,_,rfl,run_takeDeferred hD',?_⟩⟩
  have hu:B9 28 w (FD Zp (SU v i x lf model now es.length n1 n2 (Ny es) c1 c2) h8) Y β6 (Aph (Hs now l)) a6 w7:=
   hz.unbase (fun _ h=>h) hY (fun b hx=>by rw[hXB b hx];exact own6.1) (fun k ⟨p,h1,h2⟩=>by
    match k,h1 with
    |0,h1=>cases h1;cases h2
    |1,h1=>cases h1;cases h2
    |2,h1=>cases h1;cases h2) (hI.os.trans (o5w.1.trans UT.os)) (hI.tape.trans (o5w.2.1.trans UT.tape)) (hI.output.trans (o5w.2.2.trans UT.output)) (by omega) (fun b hb=>(hI.keep b (by omega) (by omega)).trans ((hold b (by omega)).trans (UT.step.keep b hb (hXn b))))
  have hv:=hu.same (LY (y:=none) hD') fun b hb=>World.putObj_heap_other (by omega);obtain⟨_,vv,r1,vs,own,r2,r3⟩:=AZ (C:=CS) (f:=29) (fn:=Tryz.f29) BH (res:=⟨[Ao (Hs now l)],[]⟩) (Azo v i x lf model now (Hs now l) es.length n1 n2 (Ny es) c1 c2) hv;exact⟨vv,r1,vs,own,r2,r3⟩
 rw[OM] at A3y;refine Asr (Y:=Y) (sv:=.slice ad kk qq) Hk t5 t6 l5 l6 n56 q5 q6 (f6 0 (Nat.zero_lt_succ _)) A3y rfl X4.tsz hw5 rfl ?_ ?_
 ·intro Z B hI h0 hdf;rw[QU,ea];obtain⟨XB,βB,hXB,hB⟩:=mk hI;refine wpIn_seq (LD (Q':=fun e a' w'=>e=.normal/\∃β',B9 28 B XB Y β' (Aph (Hs now l)) a' w') ?_ ?_)
  ·have hl9:List.range (Hj (sL (sR (sR (sR stC))))).size=[0]++[]:=by kernel_rfl
   rw[hl9];rw[h0] at hB ⊢;refine G4 (ro:=none) (C:=CB) (call:=cl) (r:=((0:Nat),Aph 0)) (Jf _ _) B8 ?_ [0] (Hj (sL (sR (sR (sR stC))))).toList (by kernel_rfl) ?_ (by kernel_rfl) hB (Ay0 cl 0)
   rotate_left
   ·intro j i hj
    match j,hj with
    |0,hj=>cases hj;rfl
   intro s6 a6 w6 β6 hk6 hs6;obtain⟨β7,s7,hk7,hs7⟩:=Cb hs6 hk6;cases hk7;exact⟨rfl,β7,hs7⟩
  ·rintro e a7 w7 ⟨a6,rfl,rfl,β6,hz⟩
   exact wpIn_ret (leave hI hdf hXB hz)
 ·intro Z B hI hdf;rw[QU,ea];obtain⟨XB,βB,hXB,hB⟩:=mk hI;exact leave hI hdf hXB hB
theorem Ahl{G:Vs}{args:Ab}{r:Dl}(h:Ajr args=some r):C7 G prog 29 args r:=by
 unfold Ajr at h;split at h
 ·rename_i v i x n c lf n1 c1 n2 c2 model now;cases hb:(Nat.beq c.length (n*3)&&Nat.ble n 1000)
  ·rw[hb,cond_false] at h;cases h
  rw[hb,cond_true] at h;simp only[Gl] at hb;cases he:Ya c with
  |none=>rw[he] at h;cases h
  |some es=>
   rw[he] at h;simp only at h;cases hp:Ri (Ae6 model es) with
   |none=>rw[hp] at h;cases h
   |some l=>
    rw[hp] at h;cases h;obtain⟨rfl,hf⟩:=Acn he;have hl:(Ny es).length=es.length*3:=U6 En.cells_len es;have hn:n=es.length:=by have:=D4 hb.1;omega
    subst hn;exact Auu (Wu hb.2) hf (ZP hp)
 ·cases h
end
section
open Go.RowKit
theorem XL{w w':World}{Y:Nat->Prop}{bt:MR}{args:Ab}{v:Value}(hb:Below w.heap.size w w')(ho:CP w' (QE bt (fun _=>none) Y) (fun _=>none) bt (S4 [.sc v]) 0 args []):
  Out w w' Y bt args (fun _=>none) ⟨[.sc v],[]⟩ [v] where
 os:=hb.os
 tape:=hb.tape
 output:=hb.output
 ext:=⟨hb.size,fun b h _=>hb.block b h,fun b h=>by unfold bsz;rw[hb.block b h];exact Dn _⟩
 rng:=fun b j h _=>⟨by unfold World.cell?;simp only[hb.block b h],by unfold World.frozen?;simp only[hb.block b h]⟩
 vals:=⟨Az.sc v,trivial⟩
 outs:=ho
 fresh:=fun j b o h=>by cases h
 inj:=fun j j' b o o' h=>by cases h
theorem MX{P:Program}{w:World}{A:Nat->Prop}{bt:Bt}{z:Bool}{n:Nat}{c:Ab}{u:Value}{l:List UInt8}(h:Adz w A bt (.lst z 1 n c) u)(hl:bytesOf c=some l)(hn:c.length=n):
  (Extern.Bytes.bytesOf u).run P w=.ok ⟨l.toArray⟩ w:=by
 obtain⟨ns,rfl,rfl⟩:=Y9 hl;have ht:Az w A (.lst z 1 n (ns.map fun n=>.sc (.int .u8 n))) u:=h.2;generalize hc:(ns.map fun n=>PV.sc (.int .u8 n))=c at ht;cases ht with
 |lnil=>
  have:ns=[]:=by simpa using hc
  subst this;rfl
 |lemp=>
  have:ns=[]:=by simpa using hc
  subst this;rfl
 |lst _ _ _ a cap f hs hb hA hn' hcell h1 hr=>
  subst hc;rw[List.length_map] at hn;subst hn;show (Extern.Bytes.loadBytes a ns.length .empty).run P w=_;rw[Lib.run_loadBytesX w ns a .empty fun j x hj=>?_]
  ·simp[Lib.bytesOf,Nat.toUInt8]
  ·have e:(ns.map fun n=>PV.sc (.int .u8 n))[j]?=some (.sc (.int .u8 x)):=by rw[List.getElem?_map,hj];rfl
   rw[hcell j _ e,(hr j _ e).val]
theorem ZI(u1 u2:Value)(a b:List UInt8)(w:World)(h1:(Extern.Bytes.bytesOf u1).run prog w=.ok ⟨a.toArray⟩ w)(h2:(Extern.Bytes.bytesOf u2).run prog w=.ok ⟨b.toArray⟩ w):
  Calls prog 148 #[u1,u2] w fun e w'=>e=.returned (.int .i64 (Lib.compareBytes a b))/\w'=w:=by
 have hr:(Extern.BytealgCompare.compare #[u1,u2]).run prog w=.ok (.int .i64 (Lib.compareBytes a b)) w:=by
  change Sem.run prog (do pure (goInt (Extern.BytealgCompare.cmp (<-Extern.Bytes.bytesOf u1) (<-Extern.Bytes.bytesOf u2)))) w=_;simp only[Sem.run_bind,Sem.run_pure,Result.andThen,h1,h2];rw[Lib.cmp_eq];rfl
 go_enter Tryz.func148,Tryz.ntmps148
 go_wp2
 rw[run_callFunc_extern Tryz.func149 (by kernel_rfl) (by kernel_rfl) (by kernel_rfl) (e:=Extern.BytealgCompare.compare) (by kernel_rfl),hr];simp only[Result.andThen];rw[Oper.upon_value]
 go_wp2
 go_ret
 exact⟨rfl,rfl⟩
theorem UK(G:Vs)(args:Ab)(res:Dl)(h:Za args=some res):C7 G prog 148 args res:=by
 refine⟨⟨_,Tryz.func148,by kernel_rfl⟩,fun w Y bt us hi _ _=>?_⟩;unfold Za at h;split at h
 rotate_left
 ·cases h
 rename_i z n c z' m c';cases hq:(Nat.beq c.length n&&Nat.beq c'.length m)
 ·rw[hq] at h;cases h
 rw[hq] at h;simp only[Gl] at hq;have hn:=D4 hq.1;have hm:=D4 hq.2;simp only[cond_true] at h;split at h
 rotate_left
 ·cases h
 rename_i a b ha hb;cases h;have ps:=hi.args
 match us,ps with
 |[u1,u2],ps=>
  refine (ZI u1 u2 a b w (MX ps.1 ha hn) (MX ps.2.1 hb hm)).mono ?_
  rintro e w' ⟨rfl,rfl⟩
  exact⟨[.int .i64 (Lib.compareBytes a b)],fun _=>none,rfl,XL (Below.refl _ _) rfl⟩
 |[],ps=>exact ps.elim
 |[_],ps=>exact ps.2.elim
 |_::_::_::_,ps=>exact ps.2.2.elim
end
section
open Go.Shelf Go.RowKit Go.Lib
def A13:Go.Shelf.Ren:=⟨fun|196=>126|259=>145|n=>n,fun|0=>0|3=>3|4=>4|5=>5|9=>9|12=>12|46=>75|53=>37|119=>194|138=>196|139=>197|n=>n,fun|3=>0|4=>1|n=>n⟩
theorem laysVS:Lays.n196 prog A13:={
 mixed:=by kernel_rfl
 f196:=Tryz.func126.trans (congrArg some (by kernel_rfl))
 f259:=Tryz.func145.trans (congrArg some (by kernel_rfl))
 t0:=Tryz.underlying0
 a0:=Tryz.isAgg0
 z0:=Tryz.sizeOf0
 v0:=Tryz.zeroValue0
 t3:=Tryz.underlying3
 a3:=Tryz.isAgg3
 z3:=Tryz.sizeOf3
 v3:=Tryz.zeroValue3
 t4:=Tryz.underlying4
 a4:=Tryz.isAgg4
 z4:=Tryz.sizeOf4
 v4:=Tryz.zeroValue4
 t5:=Tryz.underlying5
 a5:=Tryz.isAgg5
 z5:=Tryz.sizeOf5
 v5:=Tryz.zeroValue5
 t9:=Tryz.underlying9
 a9:=Tryz.isAgg9
 z9:=Tryz.sizeOf9
 v9:=Tryz.zeroValue9
 t12:=Tryz.underlying12
 a12:=Tryz.isAgg12
 z12:=Tryz.sizeOf12
 v12:=Tryz.zeroValue12
 t46:=Tryz.underlying75
 a46:=Tryz.isAgg75
 z46:=Tryz.sizeOf75
 v46:=Tryz.zeroValue75
 t53:=Tryz.underlying37
 a53:=Tryz.isAgg37
 z53:=Tryz.sizeOf37
 v53:=Tryz.zeroValue37
 t119:=Tryz.underlying194
 a119:=Tryz.isAgg194
 z119:=Tryz.sizeOf194
 t138:=Tryz.underlying196
 a138:=Tryz.isAgg196
 z138:=Tryz.sizeOf196
 v138:=Tryz.zeroValue196
 t139:=Tryz.underlying197
 a139:=Tryz.isAgg197
 z139:=Tryz.sizeOf197
 v139:=Tryz.zeroValue197
 g3:=by kernel_rfl
 g4:=by kernel_rfl }
def gU:Vs:=⟨fun b=>b=0\/b=1,fun w=>0<w.heap.size/\1<w.heap.size/\Lib.Utf8Tabs 0 1 w,fun w w' h ⟨s1,s2,h1,h2⟩=>by
 have e1:=h _ (.inl rfl) s1;have e2:=h _ (.inr rfl) s2
 have hs:∀b,b<w.heap.size->w'.heap[b]?=w.heap[b]?->b<w'.heap.size:=by
  intro b hb he;rw[Array.getElem?_eq_getElem hb] at he;rcases K6 b w'.heap.size with q|q
  ·exact q
  ·rw[Array.getElem?_eq_none q] at he;cases he
 refine⟨hs _ s1 e1,hs _ s2 e2,fun c hc=>?_,fun i hi=>?_⟩
 ·have:=h1 c hc;unfold World.cell? at this ⊢;simp only[e1] at this ⊢;exact this
 ·obtain⟨a,b⟩:=h2 i hi;unfold World.cell? at a b ⊢;simp only[e2] at a b ⊢;exact⟨a,b⟩⟩
theorem Acl(args:Ab)(res:Dl)(h:PI args=some res):C7 gU prog 126 args res:=by
 refine⟨⟨_,Tryz.func126,by kernel_rfl⟩,fun w Y bt us hi hok _=>?_⟩;unfold PI at h;split at h
 rotate_left
 ·cases h
 rename_i s;cases hq:decide (s.size<=9223372036854775807)
 ·rw[hq] at h;cases h
 rw[hq] at h;cases h;have hs:=of_decide_eq_true hq;have ps:=hi.args
 match us,ps with
 |[u],ps=>
  have hu:u=.string s:=by
   have:Az w _ (.sc (.string s)) u:=ps.1.2;exact this.val
  subst hu;refine (Any.utf8_ValidString laysVS s w hs hok.2.2).mono ?_
  rintro e w' ⟨rfl,hb⟩
  exact⟨[.bool (Lib.validD s.data.toList)],fun _=>none,rfl,XL hb rfl⟩
 |[],ps=>exact ps.elim
 |_::_::_,ps=>exact ps.2.elim
theorem extU:Aht gU prog C0:=by
 intro f g args res hx hg;have hx0:(bif GV.any (Nat.beq f) then none else Nz f)=some g:=hx;cases hb:GV.any (Nat.beq f)
 rotate_left
 ·rw[hb,cond_true] at hx0;cases hx0
 rw[hb,cond_false] at hx0;have BX:Nz f=some g:=hx0;unfold Nz at BX;cases h1:Nat.beq f 126
 rotate_left
 ·rw[h1,cond_true] at BX;cases BX;rw[D4 h1];exact Acl args res hg
 rw[h1,cond_false] at BX;cases h2:Nat.beq f 148
 rotate_left
 ·rw[h2,cond_true] at BX;cases BX;rw[D4 h2];exact UK gU args res hg
 rw[h2,cond_false] at BX;cases h4:Nat.beq f 36
 rotate_left
 ·rw[h4,cond_true] at BX;cases BX;rw[D4 h4];exact Aj7 hg
 rw[h4,cond_false] at BX;cases h5:Nat.beq f 29
 rotate_left
 ·rw[h5,cond_true] at BX;cases BX;rw[D4 h5];exact Ahl hg
 rw[h5,cond_false] at BX;cases h3:Nat.beq f 1000000
 ·rw[h3,cond_false] at BX;cases BX
 ·rw[h3,cond_true] at BX;cases BX;cases hg
end
end
end Go.Proofs.YtpogefhpiaaliaaGreatDoor.Pv
