/-
  The proof of RegistrationBinds, part 9.
-/
import Derived.Test.YtamoegpkglhedaaGreatDoorBH
import Derived.KernelRfl
import Derived.Test.YtamoegpkglhedaaGreatDoorRows
set_option linter.unusedSimpArgs false
set_option linter.unusedVariables false
namespace Go.Proofs.YtamoegpkglhedaaGreatDoor.Pv
open Go.IntKind (wrap)
open Go.Proofs.Tryz (prog)
set_option maxRecDepth 1000000
noncomputable section
def mtS:Mt:=⟨1,0,1000,[⟨3,1,anV,[(1,0)]⟩],0,18,Ad .u64 stA,4,Ad .u64 stB⟩
theorem Ata:mtS.ok:=⟨by show (1:Nat)<=1000;decide,fun e he=>by
 rcases R8.1 he with rfl;exact⟨rfl,by show (1:Nat)<=1000;decide,by show (1:Nat)<=1000;decide⟩⟩
theorem A3k:stS mtS 3 5=1:=by kernel_rfl
theorem Aul:(lkE mtS 3).na=1/\(lkE mtS 3).an=anV:=⟨by kernel_rfl,by kernel_rfl⟩
abbrev K33:Ky:=⟨4,3662116336099405962⟩
theorem Bge:CG 33 4 0=3662116336099405962:=by kernel_rfl
theorem k33:K33=Sk 33 4:=by have h:=(QN (seed:=33) (by decide) 4 0 (by decide) (by decide)).1;rw[Bge] at h;unfold Sk;rw[Br (by decide:¬Dt 4=true)];exact congrArg (Ky.mk 4) h.symm
section
variable {fu d:Nat}
theorem stC:Ac C1 prog fu (d+1) 9 [Aw 1,.lst false 1 1 [Aw 0]]=some ⟨[.agg mtS.cells],[]⟩:=by kernel_rfl
theorem chC:Ac C1 prog fu (d+1) 28 []=some ⟨[.own 1 1 [Xo]],[]⟩:=by kernel_rfl
theorem dcC:Ac C1 prog fu (d+1) 104 [Xo]=some ⟨[.agg dcV,Aw 0],[]⟩:=by kernel_rfl
theorem ptC:Ac C1 prog fu (d+1) 105 [.lst false 13 1 dcV,.lst false 3 1 anV,.lst false 3 0 [],Aw 5]=some ⟨[Aw 0,Aw 0],[]⟩:=by kernel_rfl
set_option maxHeartbeats 2000000 in
theorem Ats(Bi:1000400<=fu){r:Rq}(hr:r.ok)(cn:r.cn=1)(cc:r.cc=[Xo]){w:Int}{g:Sg}(hg:sgD r.sg=some g)(hv:MX K33 w g=0){a:L8}(md:a.md=3):Ac C1 prog fu (d+9) 69 [.agg r.cells,.agg a.cells,Ah w,.lst false 3 1 anV,.lst false 3 0 [],Aw 5]=some ⟨[.agg (Att.cells ⟨2,0,-1,0⟩),Aw 0],[]⟩:=by
 have ds:=WR (xs:=HZ) (fu:=fu) (d:=d+6) (by omega) hr.sgB;rw[hg] at ds;simp only[Aby,Sg.owned] at ds;have vf:=ID (xs:=HZ) (fu:=fu) (d:=d+0) (by omega) K33 w g;rw[hv] at vf;simp only[Ky.cells,Sg.cells] at vf;have Lc:=Ak .u64 g.chains;have Lp:=Ak .u64 g.path;have k1:decide (0+g.chains.length*1<=List.length (Ad .u64 g.chains))=true:=dT (by omega);have k2:decide (0+g.path.length*1<=List.length (Ad .u64 g.path))=true:=dT (by omega);have t1:List.take (g.chains.length*1) (List.drop 0 (Ad .u64 g.chains))=Ad .u64 g.chains:=H5 (by rw[Ma];omega)
 have t2:List.take (g.path.length*1) (List.drop 0 (Ad .u64 g.path))=Ad .u64 g.path:=H5 (by rw[Ma];omega)
 have dc:=dcC (fu:=fu) (d:=d+7);have pt:=ptC (fu:=fu) (d:=d+7);refine (Sh fu (d+8) r.kind r.cd r.ad.length (Ad .u8 r.ad) r.sg.length (Ad .u8 r.sg) r.cn r.cc r.fm r.id.length (Ad .u8 r.id) r.us a.rp a.fl a.ct a.rg a.md a.idn a.id a.kh a.kr w 1 anV 0 [] 5).trans ?_;rw[cn,cc,md];have z0:((0:Int) != 0)=false:=rfl;have n1:decide (((1:Nat):Int)<1)=false:=rfl;have n2:decide (((1:Nat):Int)>3)=false:=rfl;have n3:decide ((0:Int)<((1:Nat):Int))=true:=rfl;have n4:decide ((1:Int)<((1:Nat):Int))=false:=rfl;have q1:(decide ((0:Int)<=0)&&decide ((0:Int)<((1:Nat):Int)))=true:=rfl;have q2:List.getD [Xo] (Int.toNat 0*1) PV.top=Xo:=rfl;have q3:(decide (0*13<=List.length ([]:Ae))&&true&&decide ((0+1)*152<=1099511627776)&&decide (0+1<=1099511627776))=true:=by decide
 have q4:wrap .i64 (0+1)=1:=by decide
 have q5:decide ((0:Int)<((0+1:Nat):Int))=true:=rfl;have q6:decide (0+(0+1)*13<=List.length dcV)=true:=by decide
 have q7:((3:Int)==0)=false:=rfl;have q8:((3:Int) != 3)=false:=rfl;have q9:List.take ((0+1)*13) (List.drop 0 dcV)=dcV:=rfl;obtain⟨k,hk⟩:∃k,fu=k+1+1:=⟨fu-2,by omega⟩
 subst hk;have p1:decide ((0:Int)<=0)=true:=rfl;have p2:decide (0*13<=List.length ([]:Ae))=true:=rfl;have p3:decide ((0+1)*152<=1099511627776)=true:=by decide
 have p4:decide (0+1<=1099511627776)=true:=by decide
 simp only[A5,A6,n1,n2,Pw,n3,n4,p1,p2,p3,p4,q2,dc,z0,q4,q5,List.take_nil,NL,List.getD_cons_zero,List.getD_cons_succ,q6,q7,q8,q9,ds,k1,k2,t1,t2,vf,pt];rfl
end
section
variable {xs:FuncId->Option (Ae->Option A4)}(fu d:Nat)(call:Aq)
def Gi(Z Y:Int)(X:Nat)(W:Ae)(V:Nat)(U:Ae)(T:ByteArray)(S:Int)(Q:Bool)(P:Nat)(O N:Int)(M:Nat)(L:Ae)(K:Nat)(J:Ae)(I:ByteArray)(H:Int)(G:Bool):Option A4:=K0 fu call 3 Tryz.f3 [Z,.sc (.int .u8 Y),As 1 X W,As 1 V U,T,S,Q] [.r] P ⟨lk [(0,O),(1,.sc (.int .u8 N)),(2,As 1 M L),(3,As 1 K J),(4,I),(5,H),(6,G)],Fx []⟩
def Gg(Z Y:Int)(X:Nat)(W:Ae)(V:Nat)(U:Ae)(T:ByteArray)(S:Int)(Q:Bool)(P:Nat)(O N:Int)(M:Nat)(L:Ae)(K:Nat)(J:Ae)(I:ByteArray)(H:Int)(G:Bool)(E D:ByteArray)(B:Nat)(A:Ae)(z:Int)(w:Bool)(v u:Int)(t:Bool)(y18:Int)(ST:Bool)(TD:Nat)(SZ:Ae)(SV TC:Int)(NK NZ:Int):Option A4:=K0 fu call 3 Tryz.f3 [Z,.sc (.int .u8 Y),As 1 X W,As 1 V U,T,S,Q] [.r,.r] P ⟨lk [(0,O),(1,.sc (.int .u8 N)),(2,As 1 M L),(3,As 1 K J),(4,I),(5,H),(6,G),(15,.ptr 15 0)],Fx [(15,.st [E,D,As 1 B A,z,w,v,u,t,y18,ST,As 1 TD SZ,SV,Ah TC,NK,Ah NZ])]⟩
def Ex(Z Y:Int)(X:Nat)(W:Ae)(V:Nat)(U:Ae)(T:ByteArray)(S:Int)(Q:Bool)(P:Nat)(O:Int)(N:Nat)(M:Ae)(L:Nat)(K:Ae)(J I:ByteArray)(H G:ByteArray)(E:Nat)(D:Ae)(B:Int)(A:Bool)(z w:Int)(v:Bool)(u:Int)(t:Bool)(y18:Nat)(ST:Ae)(TD SZ:Int)(SV TC:Int)(NK NZ:Int)(y26:Nat)(VK:Bool)(y28:Ae)(y29 y30 y31:Int)(y32:Nat)(y33:Ae)(y34:Int)(y35:Nat)(y36:Ae)(y37:Nat)(y38:Ae)(y39:Int)(y40:ByteArray)(y41:Nat)(y42:Ae)(y43:Nat)(y44:Ae)(y45:Nat)(y46:Ae)(y47:Int)(y48:Nat)(y49:Ae)(y50:ByteArray):Option A4:=K0 fu call 3 Tryz.f3 [Z,.sc (.int .u8 Y),As 1 X W,As 1 V U,T,S,Q] [.r,.r,.r,.r,.r,.r] P ⟨lk [(1,.sc (.int .u8 O)),(2,As 1 N M),(3,As 1 L K),(4,J),(15,.ptr 15 0),(16,.ptr 16 0),(17,.ptr 17 0),(18,I),(19,.ptr 19 0)],Fx [(15,.st [H,G,As 1 E D,B,A,z,w,v,u,t,As 1 y18 ST,TD,Ah SZ,SV,Ah TC]),(16,.st [Ah NK,NZ,.view 529 1 0 y26,VK]),(529,.ar true y28),(17,.st [y29,y30,y31,As 3 y32 y33,y34,As 1 y35 y36,As 1 y37 y38]),(19,.st [y39,y40,As 1 y41 y42,As 1 y43 y44,As 1 y45 y46,y47,As 1 y48 y49,y50])]⟩
def Ey(Z Y:Int)(X:Nat)(W:Ae)(V:Nat)(U:Ae)(T:ByteArray)(S:Int)(Q:Bool)(P:Nat)(O:Int)(N:Nat)(M:Ae)(L:Nat)(K:Ae)(J:ByteArray)(I:Int)(H G:ByteArray)(E:Nat)(D:Ae)(B:Int)(A:Bool)(z w:Int)(v:Bool)(u:Int)(t:Bool)(y18:Nat)(ST:Ae)(TD SZ:Int)(SV TC:Int)(NK NZ:Int)(y26:Nat)(VK:Bool)(y28:Ae)(y29 y30 y31:Int)(y32:Nat)(y33:Ae)(y34:Int)(y35:Nat)(y36:Ae)(y37:Nat)(y38:Ae)(y39:Int)(y40:ByteArray)(y41:Nat)(y42:Ae)(y43:Nat)(y44:Ae)(y45:Nat)(y46:Ae)(y47:Int)(y48:Nat)(y49:Ae)(y50:ByteArray):Option A4:=K0 fu call 3 Tryz.f3 [Z,.sc (.int .u8 Y),As 1 X W,As 1 V U,T,S,Q] [.r,.r,.r,.r,.r,.r,.r,.r,.r] P ⟨lk [(1,.sc (.int .u8 O)),(2,As 1 N M),(3,As 1 L K),(4,J),(15,.ptr 15 0),(16,.ptr 16 0),(17,.ptr 17 0),(19,.ptr 19 0),(21,I)],Fx [(15,.st [H,G,As 1 E D,B,A,z,w,v,u,t,As 1 y18 ST,TD,Ah SZ,SV,Ah TC]),(16,.st [Ah NK,NZ,.view 529 1 0 y26,VK]),(529,.ar true y28),(17,.st [y29,y30,y31,As 3 y32 y33,y34,As 1 y35 y36,As 1 y37 y38]),(19,.st [y39,y40,As 1 y41 y42,As 1 y43 y44,As 1 y45 y46,y47,As 1 y48 y49,y50])]⟩
def Eu(Z Y:Int)(X:Nat)(W:Ae)(V:Nat)(U:Ae)(T:ByteArray)(S:Int)(Q:Bool)(P:Nat)(O:Int)(N:Nat)(M:Ae)(L:ByteArray)(K J:Int)(I H G:Int)(E:Nat)(D:Ae)(B:Int)(A:Nat)(z:Ae)(w:Nat)(v:Ae)(u:Int)(t:ByteArray)(y18:Nat)(ST:Ae)(TD:Nat)(SZ:Ae)(SV:Nat)(TC:Ae)(NK:Int)(NZ:Nat)(y26:Ae)(VK:ByteArray):Option A4:=K0 fu call 3 Tryz.f3 [Z,.sc (.int .u8 Y),As 1 X W,As 1 V U,T,S,Q] [.r,.r,.r,.r,.r,.r,.r,.r,.r,.r,.r,.r,.r,.r] P ⟨lk [(1,.sc (.int .u8 O)),(2,As 1 N M),(4,L),(17,.ptr 17 0),(21,K),(26,J),(27,.ptr 27 0)],Fx [(17,.st [I,H,G,As 3 E D,B,As 1 A z,As 1 w v]),(27,.st [u,t,As 1 y18 ST,As 1 TD SZ,As 1 SV TC,NK,As 1 NZ y26,VK])]⟩
def Er(Z Y:Int)(X:Nat)(W:Ae)(V:Nat)(U:Ae)(T:ByteArray)(S:Int)(Q:Bool)(P:Nat)(O:ByteArray)(N M L:Int):Option A4:=K0 fu call 3 Tryz.f3 [Z,.sc (.int .u8 Y),As 1 X W,As 1 V U,T,S,Q] [.r,.r,.r,.r,.r,.r,.r,.r,.r,.r,.r,.r,.r,.r,.r] P ⟨lk [(4,O),(21,N),(26,M),(29,L)],Fx []⟩
theorem Kl(X W:Int)(V:Nat)(U:Ae)(T:Nat)(S:Ae)(Q:ByteArray)(P:Int)(O:Bool)(Z:Nat)(Gz:0<Z)(N Y:Int)(M:Nat)(L:Ae)(K:Nat)(J:Ae)(I:ByteArray)(H:Int)(G:Bool):Gi fu call X W V U T S Q P O Z N Y M L K J I H G=(Aa (Int.tmod Y 3) fun a=>Aa (wrap .i64 a) fun a=>Dv (call 6 [a]) fun a b=>Ef a fun a=>Ai a fun a c=>Bu a fun a=>Ai c fun c e=>Bu c fun c=>Wv 1 e fun e f g=>Do .i64 g fun g h=>Ai h fun h i=>Bm h fun h=>Do .i64 i fun i j=>Do .i64 j fun j k=>Ai k fun k m=>Bm k fun k=>Do .i64 m fun m n=>Ai n fun n o=>Bm n fun n=>Wv 1 o fun o p q=>Do .i64 q fun q s=>Do .u64 s fun s t=>Do .i64 t fun t u=>Dl .u64 u fun u=>Ao b<|Gg fu call X W V U T S Q P O fu N Y M L K J I H G a c e f g h i j k m n o p q s t u):=by cases Z with|zero=>exact absurd Gz (Nat.lt_irrefl 0)|succ Z=>kernel_rfl
theorem Ko(U T:Int)(S:Nat)(Q:Ae)(P:Nat)(O:Ae)(N:ByteArray)(M:Int)(L:Bool)(Z:Nat)(Gz:0<Z)(Y X:Int)(W:Nat)(V:Ae)(K:Nat)(J:Ae)(I:ByteArray)(H:Int)(G:Bool)(E D:ByteArray)(B:Nat)(A:Ae)(z:Int)(w:Bool)(v u:Int)(t:Bool)(y18:Int)(ST:Bool)(TD:Nat)(SZ:Ae)(SV TC:Int)(NK NZ:Int):Gg fu call U T S Q P O N M L Z Y X W V K J I H G E D B A z w v u t y18 ST TD SZ SV TC NK NZ=(Ge .i64 (call 8 [Y,(20:Int)]) fun a=>Aa (Du .i64 Y 1) fun b=>Dv (call 7 [a,(2:Int),Cz (b==1)]) fun a b=>Ef a fun a=>Do .u64 a fun a c=>Do .i64 c fun c e=>JG 1 e fun e f g=>Q6 g fun g=>Ao b<|Dv (call 9 [(1:Int),As 1 1 [(0:Int)]]) fun b h=>Ef b fun b=>Do .i64 b fun b i=>Do .i64 i fun i j=>Do .i64 j fun j k=>Wv 3 k fun k m n=>Do .i64 n fun n o=>Wv 1 o fun o p q=>Wv 1 q fun q s Bdd=>Ao Bdd<|Ao h<|Dv (call 10 [H]) fun h Bf6=>Bu h fun h=>Ao Bf6<|Aa (Int.tmod X 3) fun Bfi=>Aa (wrap .i64 Bfi) fun Bcc=>Ar (decide (0+e*1<=f.length))<|Dv (call 11 [.agg [Ah a,c,As 1 e (List.take (e*1) (f.drop 0)),g],Bk ⟨#[101,120,97,109,112,108,101,46,99,111,109]⟩,h,As 1 W V,Bcc,G,(0:Int)]) fun Bdp Bfa=>Ef Bdp fun Beg=>Do .i64 Beg fun Bb4 Be0=>Ai Be0 fun Bfq Bcu=>Bu Bfq fun Bdw=>Wv 1 Bcu fun Bcd Bdf Bde=>Wv 1 Bde fun Bf9 Bdr Bf8=>Wv 1 Bf8 fun Bb2 Bcp Bf4=>Do .i64 Bf4 fun Be5 Bfp=>Wv 1 Bfp fun Bgk Bgq Bcz=>Ai Bcz fun Bd3 Bdx=>Bu Bd3 fun Bgm=>Ao Bdx<|Ao Bfa<|Ex fu call U T S Q P O N M L fu X W V K J I h E D B A z w v u t y18 ST TD SZ SV TC NK NZ a c e g f b i j k m n o p q s Bb4 Bdw Bcd Bdf Bf9 Bdr Bb2 Bcp Be5 Bgk Bgq Bgm):=by cases Z with|zero=>exact absurd Gz (Nat.lt_irrefl 0)|succ Z=>kernel_rfl
theorem Ke(a0 a1:Int)(a2n:Nat)(a2:Ae)(a3n:Nat)(a3:Ae)(a4:ByteArray)(a5:Int)(a6:Bool)(nn:Nat)(Gz:0<nn)(y0:Int)(X:Nat)(W:Ae)(y3:Nat)(y4:Ae)(y5 y6:ByteArray)(V U:ByteArray)(T:Nat)(S:Ae)(Q:Int)(P:Bool)(O N:Int)(M:Bool)(L:Int)(K:Bool)(J:Nat)(I:Ae)(H G:Int)(E D:Int)(NK NZ:Int)(Z:Nat)(VK:Bool)(Y:Ae)(B A z:Int)(w:Nat)(v:Ae)(u:Int)(t:Nat)(y36:Ae)(y37:Nat)(y38:Ae)(y39:Int)(y40:ByteArray)(y41:Nat)(y42:Ae)(y43:Nat)(y44:Ae)(y45:Nat)(y46:Ae)(y47:Int)(y48:Nat)(y49:Ae)(y50:ByteArray):Ex fu call a0 a1 a2n a2 a3n a3 a4 a5 a6 nn y0 X W y3 y4 y5 y6 V U T S Q P O N M L K J I H G E D NK NZ Z VK Y B A z w v u t y36 y37 y38 y39 y40 y41 y42 y43 y44 y45 y46 y47 y48 y49 y50=(Dv (call 12 [.agg [V,U,As 1 T S,Q,P,O,N,M,L,K,As 1 J I,H,Ah G,E,Ah D],.agg [B,A,z,As 3 w v,u,As 1 t y36,As 1 y37 y38],As 3 0 [],As 1 X W,(5:Int),.agg [y39,y40,As 1 y41 y42,As 1 y43 y44,As 1 y45 y46,y47,As 1 y48 y49,y50]]) fun a b=>Ef a fun a=>JG 1 a fun a c e=>Do .i64 e fun e f=>Do .u64 f fun e f=>Do .u64 f fun e f=>Do .i64 f fun e f=>Ai f fun e f=>Bm e fun e=>Do .u64 f fun e f=>JG 2 f fun e f g=>Ai g fun e f=>Bm e fun e=>Do .i64 f fun e f=>Dl .i64 f fun e=>Dl .i64 b fun b=>(fun h:Option A4=>(fun i:Option A4=>Ay (Array.toList (ByteArray.data y6)==Array.toList (ByteArray.data (ByteArray.mk #[104,116,116,112,115,58,47,47,101,120,97,109,112,108,101,46,99,111,109]))) (Ay (!(b==0)==true) (Bg [false]) (Ar (decide (0+a*1<=c.length))<|Ar (decide (List.length (List.take (a*1) (c.drop 0))=a))<|Dj (bytesOf (List.take (a*1) (c.drop 0))) fun a=>Ar (decide (0+Z*1<=Y.length))<|Ar (decide (List.length (List.take (Z*1) (Y.drop 0))=Z))<|Dj (bytesOf (List.take (Z*1) (Y.drop 0))) fun c=>Ay (!Array.toList (ByteArray.data (ByteArray.mk (List.toArray a)))==Array.toList (ByteArray.data (ByteArray.mk (List.toArray c)))) (Bg [false]) h)) (Ay (!(b==0)==(Array.toList (ByteArray.data y6)==Array.toList (ByteArray.data (ByteArray.mk #[104,116,116,112,115,58,47,47,108,111,103,105,110,46,101,120,97,109,112,108,101,46,99,111,109])))) (Bg [false]) (Ay (Array.toList (ByteArray.data y6)==Array.toList (ByteArray.data (ByteArray.mk #[104,116,116,112,115,58,47,47,108,111,103,105,110,46,101,120,97,109,112,108,101,46,99,111,109]))) (Ar (decide (0+a*1<=c.length))<|Ar (decide (List.length (List.take (a*1) (c.drop 0))=a))<|Dj (bytesOf (List.take (a*1) (c.drop 0))) fun a=>Ar (decide (0+Z*1<=Y.length))<|Ar (decide (List.length (List.take (Z*1) (Y.drop 0))=Z))<|Dj (bytesOf (List.take (Z*1) (Y.drop 0))) fun c=>Ay (!Array.toList (ByteArray.data (ByteArray.mk (List.toArray a)))==Array.toList (ByteArray.data (ByteArray.mk (List.toArray c)))) (Bg [false]) i) i))) (Ay (!Array.toList (ByteArray.data y6)==Array.toList (ByteArray.data (ByteArray.mk #[104,116,116,112,115,58,47,47,108,111,103,105,110,46,101,120,97,109,112,108,101,46,99,111,109]))) (Ay (b != 34) (Bg [false]) h) h)) (Ey fu call a0 a1 a2n a2 a3n a3 a4 a5 a6 fu y0 X W y3 y4 y5 b V U T S Q P O N M L K J I H G E D NK NZ Z VK Y B A z w v u t y36 y37 y38 y39 y40 y41 y42 y43 y44 y45 y46 y47 y48 y49 y50)):=by cases nn with|zero=>exact absurd Gz (Nat.lt_irrefl 0)|succ nn=>kernel_rfl
theorem Kk(a0 a1:Int)(a2n:Nat)(a2:Ae)(a3n:Nat)(a3:Ae)(a4:ByteArray)(a5:Int)(a6:Bool)(J:Nat)(Gz:0<J)(y0:Int)(Y:Nat)(Z:Ae)(y3:Nat)(I:Ae)(L:ByteArray)(y6:Int)(y7 H:ByteArray)(G:Nat)(E:Ae)(D:Int)(B:Bool)(A z:Int)(w:Bool)(v:Int)(u:Bool)(t:Nat)(ST:Ae)(TD SZ:Int)(SV TC:Int)(NK NZ:Int)(X:Nat)(VK:Bool)(K:Ae)(W V U:Int)(T:Nat)(S:Ae)(Q:Int)(P:Nat)(O:Ae)(N:Nat)(M:Ae)(y39:Int)(y40:ByteArray)(y41:Nat)(y42:Ae)(y43:Nat)(y44:Ae)(y45:Nat)(y46:Ae)(y47:Int)(y48:Nat)(y49:Ae)(y50:ByteArray):Ey fu call a0 a1 a2n a2 a3n a3 a4 a5 a6 J y0 Y Z y3 I L y6 y7 H G E D B A z w v u t ST TD SZ SV TC NK NZ X VK K W V U T S Q P O N M y39 y40 y41 y42 y43 y44 y45 y46 y47 y48 y49 y50=((fun R:PV=>Dv (call 12 [.agg [y7,H,As 1 G E,D,B,A,z,w,v,u,As 1 t ST,TD,Ah SZ,SV,Ah TC],.agg [W,V,U,As 3 T S,Q,As 1 P O,As 1 N M],As 3 0 [],As 1 y3 I,(5:Int),R]) fun a b=>Ef a fun a=>JG 1 a fun a c e=>Do .i64 e fun a c=>Do .u64 c fun a c=>Do .u64 c fun a c=>Do .i64 c fun a c=>Ai c fun a c=>Bm a fun a=>Do .u64 c fun a c=>JG 2 c fun a c e=>Ai e fun a c=>Bm a fun a=>Do .i64 c fun a c=>Dl .i64 c fun a=>Dl .i64 b fun a=>Ar (decide (I.length=y3))<|Dj (bytesOf I) fun b=>Ar (decide (Z.length=Y))<|Dj (bytesOf Z) fun c=>(fun s:Option A4=>Ay (!Array.toList (ByteArray.data (ByteArray.mk (List.toArray b)))==Array.toList (ByteArray.data (ByteArray.mk (List.toArray c)))) (Ay (a != 35) (Bg [false]) s) s) (Dv (call 12 [.agg [L,H,As 1 G E,D,B,A,z,w,v,u,As 1 t ST,TD,Ah SZ,SV,Ah TC],.agg [W,V,U,As 3 T S,Q,As 1 P O,As 1 N M],As 3 0 [],As 1 Y Z,(5:Int),R]) fun a b=>Ef a fun a=>JG 1 a fun a c e=>Do .i64 e fun a c=>Do .u64 c fun a c=>Do .u64 c fun a c=>Do .i64 c fun a c=>Ai c fun a c=>Bm a fun a=>Do .u64 c fun a c=>JG 2 c fun a c e=>Ai e fun a c=>Bm a fun a=>Do .i64 c fun a c=>Dl .i64 c fun a=>Dl .i64 b fun a=>Ar (decide (0+X*1<=K.length))<|Dv (call 13 [.agg [Ah NK,NZ,As 1 X (List.take (X*1) (K.drop 0)),VK],Bk ⟨#[101,120,97,109,112,108,101,46,99,111,109]⟩,Bk ⟨#[104,116,116,112,115,58,47,47,101,120,97,109,112,108,101,46,99,111,109]⟩,As 1 Y Z,true,(0:Int),(0:Int),Bk ⟨#[]⟩]) fun b c=>Ef b fun b=>Do .i64 b fun b e=>Ai e fun e f=>Bu e fun e=>Wv 1 f fun f g h=>Wv 1 h fun h i j=>Wv 1 j fun j k m=>Do .i64 m fun m n=>Wv 1 n fun n o p=>Ai p fun p q=>Bu p fun p=>Ao q<|Ao c<|Eu fu call a0 a1 a2n a2 a3n a3 a4 a5 a6 fu y0 Y Z L y6 a W V U T S Q P O N M b e f g h i j k m n o p)) (.agg [y39,y40,As 1 y41 y42,As 1 y43 y44,As 1 y45 y46,y47,As 1 y48 y49,y50])):=by cases J with|zero=>exact absurd Gz (Nat.lt_irrefl 0)|succ J=>kernel_rfl
theorem Kt(Y X:Int)(W:Nat)(V:Ae)(U:Nat)(T:Ae)(S:ByteArray)(Q:Int)(P:Bool)(Z:Nat)(Gz:0<Z)(O:Int)(N:Nat)(M:Ae)(L:ByteArray)(K J:Int)(I H G:Int)(E:Nat)(D:Ae)(B:Int)(A:Nat)(z:Ae)(w:Nat)(v:Ae)(u:Int)(t:ByteArray)(y18:Nat)(ST:Ae)(TD:Nat)(SZ:Ae)(SV:Nat)(TC:Ae)(NK:Int)(NZ:Nat)(y26:Ae)(VK:ByteArray):Eu fu call Y X W V U T S Q P Z O N M L K J I H G E D B A z w v u t y18 ST TD SZ SV TC NK NZ y26 VK=(Aa (Int.tmod O 3) fun a=>Aa (wrap .i64 a) fun a=>Dv (call 6 [a]) fun a b=>Ef a fun a=>Ai a fun a c=>Bu a fun a=>Ai c fun c e=>Bu c fun c=>Wv 1 e fun e f g=>Do .i64 g fun g h=>Ai h fun h i=>Bm h fun h=>Do .i64 i fun i j=>Do .i64 j fun j k=>Ai k fun k m=>Bm k fun k=>Do .i64 m fun m n=>Ai n fun n o=>Bm n fun n=>Wv 1 o fun o p q=>Do .i64 q fun q s=>Do .u64 s fun s Bc6=>Do .i64 Bc6 fun Be2 Bej=>Dl .u64 Bej fun Bdi=>Ao b<|Dv (call 12 [.agg [a,c,As 1 e f,g,h,i,j,k,m,n,As 1 o p,q,Ah s,Be2,Ah Bdi],.agg [I,H,G,As 3 E D,B,As 1 A z,As 1 w v],As 3 0 [],As 1 N M,(5:Int),.agg [u,t,As 1 y18 ST,As 1 TD SZ,As 1 SV TC,NK,As 1 NZ y26,VK]]) fun a b=>Ef a fun a=>JG 1 a fun a c e=>Do .i64 e fun a c=>Do .u64 c fun a c=>Do .u64 c fun a c=>Do .i64 c fun a c=>Ai c fun a c=>Bm a fun a=>Do .u64 c fun a c=>JG 2 c fun a c e=>Ai e fun a c=>Bm a fun a=>Do .i64 c fun a c=>Dl .i64 c fun a=>Dl .i64 b fun a=>Er fu call Y X W V U T S Q P fu L K J a):=by cases Z with|zero=>exact absurd Gz (Nat.lt_irrefl 0)|succ Z=>kernel_rfl
theorem Kx(U T:Int)(S:Nat)(Q:Ae)(P:Nat)(O:Ae)(N:ByteArray)(M:Int)(L:Bool)(Z:Nat)(Gz:0<Z)(W:ByteArray)(V Y X:Int):Er fu call U T S Q P O N M L Z W V Y X=(Dv (call 14 [W,Bk ⟨#[101,120,97,109,112,108,101,46,99,111,109]⟩]) fun a b=>Bm a fun a=>(fun c:Option A4=>Ao b<|Ay a (Ay (Y==V) c (Bg [false])) (Ay (Y==34) c (Bg [false]))) (Ay (X==3) (Dv (call 5 []) fun a b=>Bm a fun a=>Ao b<|Bg [a]) (Bg [false]))):=by cases Z with|zero=>exact absurd Gz (Nat.lt_irrefl 0)|succ Z=>kernel_rfl
theorem Mi{p:FuncId->Option (Ae->Option A4)}(fu d:Nat)(W V:Int)(Z:Nat)(U:Ae)(Y:Nat)(T:Ae)(X:ByteArray)(S:Int)(Q:Bool):Ac (CP p) prog fu (d+1) 3 [W,.sc (.int .u8 V),As 1 Z U,As 1 Y T,X,S,Q]=(fun (call:Aq)=>(fun c:Option A4=>Ay (decide ((↑Z:Int)<1)) c (Ay (decide ((↑Z:Int)>64)) c (Ay (decide ((↑Y:Int)>100)) c (Ay (decide ((↑(ByteArray.size X):Int)>64)) c (Gi fu call W V Z U Y T X S Q fu W V Z U Y T X S Q))))) (Dv (call 5 []) fun a b=>Bm a fun a=>Ao b<|Bg [a])) (Ac (CP p) prog fu d):=by kernel_rfl
end
theorem Apl(a b:Aj):eqB a b=eqB b a:=by
 have h:∀x y:List UInt8,(x==y)=(y==x):=fun x y=>by
  rw[Bool.eq_iff_iff,beq_iff_eq,beq_iff_eq];exact eq_comm
 exact h _ _
def NB(r:Rq)(w:Int)(a:L8):Att:=bif r.fm==2 then ⟨2,0,-1,0⟩ else XX r a w
theorem Aqs{r:Rq}{w:Int}{a:L8}(h:(r.fm==2)=false):NB r w a=XX r a w:=by unfold NB;rw[h];rfl
theorem A32{r:Rq}{w:Int}{a:L8}(h:(r.fm==2)=true):NB r w a=⟨2,0,-1,0⟩:=by unfold NB;rw[h];rfl
theorem Agw(seed:Int)(id:Aj)(fl fm:Int)(o b:Aj)(cc:PV):(Yb seed id fl fm o b cc).fm=fm:=rfl
theorem Awi{seed:Int}{id:Aj}{fl fm:Int}{o b:Aj}(hfm:fm=0\/fm=1\/fm=2):∃an lf,NB (Yb seed id fl fm o b Xo) (rgW (SW seed id fl fm) (VB b o)) (MZ seed id fl fm)=⟨fm,an,lf,0⟩:=by
 rcases hfm with rfl|rfl|rfl
 ·refine⟨-1,-1,?_⟩;rw[Aqs (by rw[Agw];rfl)]
  exact A1u (seed:=seed) (id:=id) (fl:=fl) (o:=o) (ch:=b) (cc:=Xo) _ _
 ·refine⟨-1,0,?_⟩;rw[Aqs (by rw[Agw];rfl)]
  exact A29
 ·refine⟨0,-1,?_⟩;rw[A32 (by rw[Agw];rfl)]
theorem A8e{seed:Int}{id:Aj}{fl fm:Int}{o b:Aj}(BS:id.length=176)(hf:CZ fl)(hfm:fm=0\/fm=1\/fm=2)(hb:Cm b)(h1:1<=b.length)(h2:b.length<=64)(hol:o.length<=100)(hO:Gk o=0){c:Cf}(hos:c.os=[oxS,olS])(hp:c.p=Aya fm){T:L8->Att}(hT:T=NB (Yb seed id fl fm o b Xo) (rgW (SW seed id fl fm) (VB b o))):
  (YC [oxS,olS] (Ab o)=false->(Y3 c mtS b 5 (Yb seed id fl fm o b Xo) T).2=34) /\
  (YC [oxS,olS] (Ab o)=true->(B6 9 (B0 c.rp)==B6 9 (B0 Ye))=false->(Y3 c mtS b 5 (Yb seed id fl fm o b Xo) T).2=34) /\
  (YC [oxS,olS] (Ab o)=true->(B6 9 (B0 c.rp)==B6 9 (B0 Ye))=true->(Y3 c mtS b 5 (Yb seed id fl fm o b Xo) T).2=0/\(Y3 c mtS b 5 (Yb seed id fl fm o b Xo) T).1.id=id) /\
  ∀oth,eqB b oth=false->(Y3 c mtS oth 5 (Yb seed id fl fm o b Xo) T).2=35:=by
 obtain⟨an,lf,ha⟩:=Awi (seed:=seed) (id:=id) (fl:=fl) (o:=o) (b:=b) hfm;rw[<-hT] at ha;clear hT;have e0:MA c.p (MZ seed id fl fm) fm (stS mtS 3 5)=0:=by rw[hp];exact A4i hf seed id fun _=>A3k
 have R:=fun ch'=>Av8 (c:=c) (m:=mtS) (seed:=seed) (id:=id) (fl:=fl) (fm:=fm) (o:=o) (ch:=b) (ch':=ch') (cc:=Xo) (now:=5) (T:=T) (by decide) (by decide) BS hf hb h1 h2 hol hO;rw[ha] at R;simp only[e0] at R;generalize B6 9 (B0 Ye)=H at *
 generalize B6 9 (B0 c.rp)=H' at *
 generalize Yb seed id fl fm o b Xo=r at *
 generalize MZ seed id fl fm=a at *
 have z:((0:Int) != 0)=false:=rfl;have z34:((34:Int) != 0)=true:=rfl;have z35:((35:Int) != 0)=true:=rfl
 have cl:clA c b b o=bif !YC [oxS,olS] (Ab o) then 34 else 0:=by
  unfold clA;rw[SI,hos];rfl
 refine⟨fun h=>?_,fun h hh=>?_,fun h hh=>?_,fun oth h=>?_⟩
 ·rw[R,cl,h];rfl
 ·have h':(H != H')=true:=bne_iff_ne.2 (Ne.symm (beq_eq_false_iff_ne.1 hh));rw[R,cl,h,h'];rfl
 ·have h':(H != H')=false:=by rw[eq_of_beq hh];simp
  rw[R,cl,h,h'];exact⟨rfl,rfl⟩
 ·have cl:clA c b oth o=35:=by
   unfold clA;rw[h];rfl
  rw[R,cl];rfl
section
variable {fu d:Nat}
theorem A4f(Bi:1000400<=fu){r:Rq}(hr:r.ok)(f2:r.fm=2)(cn:r.cn=1)(cc:r.cc=[Xo]){w:Int}{g:Sg}(hg:sgD r.sg=some g)(hv:MX K33 w g=0){a:L8}(md:a.md=3)(h64:(Du .i64 a.fl 64==0)=false):Ac C1 prog fu (d+10) 36 [.agg r.cells,.agg a.cells,Ah w,.lst false 3 1 anV,.lst false 3 0 [],Aw 5]=some ⟨[.agg (Att.cells ⟨2,0,-1,0⟩),Aw 0],[]⟩:=by
 have bt:=Ats (fu:=fu) (d:=d) Bi hr cn cc hg hv md;refine (Ov fu (d+9) r.kind r.cd r.ad.length (Ad .u8 r.ad) r.sg.length (Ad .u8 r.sg) r.cn r.cc r.fm r.id.length (Ad .u8 r.id) r.us a.rp a.fl a.ct a.rg a.md a.idn a.id a.kh a.kr w 1 anV 0 [] 5).trans ?_;simp only[Rq.cells,L8.cells,Att.cells] at bt ⊢;have y0:(r.fm==0)=false:=by rw[f2];rfl
 have y1:(r.fm==1)=false:=by rw[f2];rfl
 have y2:(r.fm==2)=true:=by rw[f2];rfl
 simp only[A5,A6,h64,y0,y1,y2,bt]
theorem A71(Bi:1000400<=fu){seed:Int}{id o b:Aj}(hib:Cm id)(BS:id.length=176){fl fm:Int}(hf:CZ fl)(hfm:fm=0\/fm=1\/fm=2)(ho:o.length<=50000){T:L8->Att}(hT:T=NB (Yb seed id fl fm o b Xo) (rgW (SW seed id fl fm) (VB b o))){c:Cf}(hc:c.ok)(ch:Aj):
  Ac C1 prog fu (d+11) 12 [.agg c.cells,.agg mtS.cells,.lst false 3 0 [],.lst false 1 ch.length (Ad .u8 ch),Aw 5,.agg (Yb seed id fl fm o b Xo).cells]=some ⟨[.agg (Y3 c mtS ch 5 (Yb seed id fl fm o b Xo) T).1.ownd,Aw (Y3 c mtS ch 5 (Yb seed id fl fm o b Xo) T).2],[]⟩:=by
 have rok:=A3o (seed:=seed) hib BS hf fm ho b Xo;obtain⟨dA,_⟩:=Aj9 (seed:=seed) BS hf fm;have rad:(Yb seed id fl fm o b Xo).ad=SW seed id fl fm:=rfl;have rwd:YN (Yb seed id fl fm o b Xo).ad (B6 11 (B0 (Yb seed id fl fm o b Xo).cd))=rgW (SW seed id fl fm) (VB b o):=rfl;have rfm:(Yb seed id fl fm o b Xo).fm=fm:=rfl;have rsg:(Yb seed id fl fm o b Xo).sg=rgG seed fm (rgW (SW seed id fl fm) (VB b o)):=rfl;have rcn:(Yb seed id fl fm o b Xo).cn=bif fm==2 then 1 else 0:=rfl;have rcc:(Yb seed id fl fm o b Xo).cc=bif fm==2 then [Xo] else []:=rfl;have hmd:(MZ seed id fl fm).md=3:=rfl;rw[<-rad] at dA;clear rad;generalize MZ seed id fl fm=A at *
 generalize rgW (SW seed id fl fm) (VB b o)=w at *
 generalize Yb seed id fl fm o b Xo=r at *
 refine Ajb (fu:=fu) (d:=d) Bi hc Ata 0 [] ch 5 rok T ?_;intro _ a ha h64;rw[dA] at ha;cases ha;rw[hmd,Aul.1,Aul.2,rwd,hT];have h6:(Du .i64 A.fl 64==0)=false:=by simpa using h64
 by_cases f2:fm=2
 ·subst f2;have t:NB r w A=⟨2,0,-1,0⟩:=by unfold NB;rw[rfm];rfl
  rw[t];obtain⟨s,s1,s2,s3,s4,s5,s6⟩:=YG (seed:=33) (h:=4) (leaf:=0) (m:=w) (by decide) (by decide);rw[<-k33] at s6
  have sg:r.sg=sgB s:=by
   rw[rsg];show asG 33 4 0 w=sgB s;unfold asG;rw[s1]
  exact A4f (fu:=fu) (d:=d) Bi rok rfm rcn rcc (by rw[sg];exact Akk s2 (by rw[s5];decide) (by rw[s5,s3];decide) s4) s6 hmd h6
 ·have q2:(r.fm==2)=false:=by rw[rfm];simpa using f2
  have t:NB r w A=XX r A w:=by unfold NB;rw[q2];rfl
  rw[t];exact Avy (fu:=fu) (d:=d) Bi rok q2 h6 w 1 0 anV [] 5
theorem Amu(Bi:1000400<=fu){rp:ByteArray}(h:rp.size<=1000):Ac C1 prog fu (d+6) 14 [Bk rp,Bk Ye]=some ⟨[Cz (B6 9 (B0 rp)==B6 9 (B0 Ye))],[]⟩:=by have h1:=YS (fu:=fu) (d:=d) (s:=rp) (by omega) Bi;have h2:=YS (fu:=fu) (d:=d) (s:=Ye) (by decide) Bi;refine (Xt fu (d+5) rp Ye).trans ?_;simp only[A5,A6,h1,h2]
theorem otX(v:Int):∃s:ByteArray,s.size<=40/\Gk (B0 s)=0/\∀{fu d:Nat},Ac C1 prog fu (d+2) 10 [Aw v]=some ⟨[Bk s],[]⟩:=by
 obtain⟨r,h0,h1,hm⟩:=A6q v 6 (by omega) (by omega);have e:=fun {fu d:Nat}=>Uj (p:=pG) fu (d+1) v;have a1:=dT (q:=(0:Int)<=r) h0;have a2:=dT (q:=r<6) h1;simp only[A5,A6,hm,a1,a2] at e;rcases (by omega:r=0\/r=1\/r=2\/r=3\/r=4\/r=5) with rfl|rfl|rfl|rfl|rfl|rfl
 all_goals exact⟨_,by decide,by decide +kernel,fun {fu d}=>e.trans rfl⟩
theorem Apr(Bi:1000400<=fu){n f at_ e g:Int}{vf:Bool}{b oth:Aj}{rp:ByteArray}(hrp:rp.size<=1000)(hs:(B6 9 (B0 rp)==B6 9 (B0 Ye))=true->g=e)(hn:(B6 9 (B0 rp)==B6 9 (B0 Ye))=false->g=34):
  Er fu (Ac C1 prog fu (d+20)) n f b.length (Ad .u8 b) oth.length (Ad .u8 oth) rp at_ vf fu rp e g 3=some ⟨[Cz true],[]⟩:=by
 have sr:=Amu (fu:=fu) (d:=d+14) Bi hrp;have aw:=Abt (fu:=fu) (d:=d+19);have z3:((3:Int)==3)=true:=rfl;have z34:((34:Int)==34)=true:=rfl;generalize (B6 9 (B0 rp)==B6 9 (B0 Ye))=B at *
 rw[Kx (Gz:=by omega)];cases B with
 |true=>
  have ge:(g==e)=true:=by rw[hs rfl];simp
  simp only[A5,A6,sr,ge,z3,aw]
 |false=>
  have g3:(g==34)=true:=by rw[hn rfl];rfl
  simp only[A5,A6,sr,g3,z3,aw]
set_option maxHeartbeats 4000000 in
theorem Arm(Bi:1000400<=fu){n f at_ e g:Int}{vf:Bool}{b oth:Aj}{rp:ByteArray}(hrp:rp.size<=1000)(f0:0<=f)(f1:f<=255)(hs:(B6 9 (B0 rp)==B6 9 (B0 Ye))=true->g=e)(hn:(B6 9 (B0 rp)==B6 9 (B0 Ye))=false->g=34){m:Mt}(hm:m.ok){y:Rq}(yok:y.ok)(yk:y.kind=2):
  Eu fu (Ac C1 prog fu (d+20)) n f b.length (Ad .u8 b) oth.length (Ad .u8 oth) rp at_ vf fu f b.length (Ad .u8 b) rp e g m.v m.i m.x m.es.length (mnC m.es) m.lf m.n1 m.c1 m.n2 m.c2 y.kind y.cd y.ad.length (Ad .u8 y.ad) y.sg.length (Ad .u8 y.sg) y.cn y.cc y.fm y.id.length (Ad .u8 y.id) y.us=some ⟨[Cz true],[]⟩:=by
 have cf:=Acg (fu:=fu) (d:=d+5) (by omega) (Int.tmod f 3)
 have w:wrap .i64 (Int.tmod f 3)=Int.tmod f 3:=by
  have:=Int.tmod_nonneg 3 f0;have:=Int.tmod_lt_of_pos f (show (0:Int)<3 by decide);exact Bb
 have cok:=Atu (Int.tmod f 3)
 have cl:MI (cfX (Int.tmod f 3)).os 1 b y=3:=by
  unfold MI;rw[yk];rfl
 have vy:=Ajb (fu:=fu) (d:=d+9) Bi cok hm 0 [] b 5 yok (fun _=>⟨0,0,0,0⟩) (fun h=>absurd (cl.symm.trans h) (by decide))
 have y3:(Y3 (cfX (Int.tmod f 3)) m b 5 y fun _=>⟨0,0,0,0⟩).2=3:=by
  have a1:decide ((5:Int)<0)=false:=rfl;have a2:decide ((5:Int)>1099511627776)=false:=rfl;unfold Y3;rw[a1,a2,cl];rfl
 generalize (Y3 (cfX (Int.tmod f 3)) m b 5 y fun _=>⟨0,0,0,0⟩)=Z at vy y3;have tail:=Apr (fu:=fu) (d:=d) Bi (n:=n) (f:=f) (at_:=at_) (vf:=vf) (b:=b) (oth:=oth) hrp hs hn;generalize cfX (Int.tmod f 3)=c at cf vy;clear cl cok;simp only[Cf.cells,Mt.cells,Rq.cells,Sd.ownd,y3] at cf vy;rw[Kt (Gz:=by omega)];simp only[A5,A6,w,cf,vy];exact tail
set_option maxHeartbeats 8000000 in
theorem Ati(Bi:1000400<=fu){n f at_ e:Int}{vf sh:Bool}{b oth id:Aj}{rp:ByteArray}(hbB:Cm b)(h2:b.length<=64)(BS:id.length=176)(crp:rp.size<=1000)(f0:0<=f)(f1:f<=255){seed:Int}{m:Mt}(hm:m.ok){c:Cf}{r:Rq}{R:Cf->Aj->Sd × Int}(vr:∀ch:Aj,Ac C1 prog fu (d+20) 12 [.agg c.cells,.agg m.cells,.lst false 3 0 [],.lst false 1 ch.length (Ad .u8 ch),Aw 5,.agg r.cells]=some ⟨[.agg (R c ch).1.ownd,Aw (R c ch).2],[]⟩)(vr':∀ch:Aj,Ac C1 prog fu (d+20) 12 [.agg ({ c with rp:=rp }:Cf).cells,.agg m.cells,.lst false 3 0 [],.lst false 1 ch.length (Ad .u8 ch),Aw 5,.agg r.cells]=some ⟨[.agg (R { c with rp:=rp } ch).1.ownd,Aw (R { c with rp:=rp } ch).2],[]⟩)(F35:eqB oth b=false->(R c oth).2=35)(hs:(B6 9 (B0 rp)==B6 9 (B0 Ye))=true->(R { c with rp:=rp } b).2=e)(hn:(B6 9 (B0 rp)==B6 9 (B0 Ye))=false->(R { c with rp:=rp } b).2=34):
  Ey fu (Ac C1 prog fu (d+20)) n f b.length (Ad .u8 b) oth.length (Ad .u8 oth) rp at_ vf fu f b.length (Ad .u8 b) oth.length (Ad .u8 oth) rp e c.rp c.ti c.os.length (MT c.os) c.p.vf c.p.rs c.p.ht c.p.pr c.p.sh c.p.fm c.p.od c.p.dn.length (Ad .u64 c.p.dn) c.p.op c.sec c.kh c.kr seed 2 176 sh (Ad .u8 id) m.v m.i m.x m.es.length (mnC m.es) m.lf m.n1 m.c1 m.n2 m.c2 r.kind r.cd r.ad.length (Ad .u8 r.ad) r.sg.length (Ad .u8 r.sg) r.cn r.cc r.fm r.id.length (Ad .u8 r.id) r.us=some ⟨[Cz true],[]⟩:=by
 have Li:=Ak .u8 id;have c1:decide (0+176*1<=List.length (Ad .u8 id))=true:=dT (by omega);have t1:List.take (176*1) (List.drop 0 (Ad .u8 id))=Ad .u8 id:=H5 (by rw[Ma];omega)
 have asr:=Al7 (fu:=fu) (d:=d+7) Bi (seed:=seed) (h:=2) (id:=id) (sh:=sh) (rp:=Ye) (o:=B0 oxS) (ch:=b) (vf:=true) (leaf:=0) (f:=0) (us:=ByteArray.mk #[]) (by decide) (Yn _) (by rw[Cv];decide) hbB (by omega)
 rw[H2,BS] at asr;have yok:(Aht seed 2 id sh Ye (B0 oxS) b true 0 0 (ByteArray.mk #[])).ok:=Aye (by rw[Cv];decide)
 have yk:(Aht seed 2 id sh Ye (B0 oxS) b true 0 0 (ByteArray.mk #[])).kind=2:=rfl;generalize Aht seed 2 id sh Ye (B0 oxS) b true 0 0 (ByteArray.mk #[])=y at asr yok yk;have tail:=Arm (fu:=fu) (d:=d) Bi (n:=n) (f:=f) (at_:=at_) (vf:=vf) (b:=b) (oth:=oth) crp f0 f1 hs hn hm yok yk;have p2:=vr oth;have p3:=vr' b;clear vr vr' hs hn;generalize R c oth=Z2 at p2 F35;generalize R { c with rp:=rp } b=Z3 at p3 tail;simp only[Cf.cells,Mt.cells,Rq.cells,Sd.ownd] at p2 p3 asr;have k1:decide (List.length (Ad .u8 oth)=oth.length)=true:=dT (Ak _ _);have k2:decide (List.length (Ad .u8 b)=b.length)=true:=dT (Ak _ _);have bo:=Lh oth;have bb:=Lh b;have be:=YE oth b;rw[Kk (Gz:=by omega)];cases he:eqB oth b
 ·rw[he] at be;have F35:(Z2.2 != 35)=false:=by rw[F35 he];rfl
  simp only[A5,A6,p2,k1,k2,bo,bb,be,F35,p3,c1,t1,asr];exact tail
 ·rw[he] at be;simp only[A5,A6,p2,k1,k2,bo,bb,be,p3,c1,t1,asr];exact tail
set_option maxHeartbeats 8000000 in
theorem Atl(Bi:1000400<=fu){n f at_ e:Int}{vf sh:Bool}{b oth id:Aj}{rp o:ByteArray}(hbB:Cm b)(h2:b.length<=64)(BS:id.length=176)(crp:rp.size<=1000)(f0:0<=f)(f1:f<=255){seed:Int}{m:Mt}(hm:m.ok){c:Cf}{r:Rq}{R:Cf->Aj->Sd × Int}(vr:∀ch:Aj,Ac C1 prog fu (d+20) 12 [.agg c.cells,.agg m.cells,.lst false 3 0 [],.lst false 1 ch.length (Ad .u8 ch),Aw 5,.agg r.cells]=some ⟨[.agg (R c ch).1.ownd,Aw (R c ch).2],[]⟩)(vr':∀ch:Aj,Ac C1 prog fu (d+20) 12 [.agg ({ c with rp:=rp }:Cf).cells,.agg m.cells,.lst false 3 0 [],.lst false 1 ch.length (Ad .u8 ch),Aw 5,.agg r.cells]=some ⟨[.agg (R { c with rp:=rp } ch).1.ownd,Aw (R { c with rp:=rp } ch).2],[]⟩)(F35:eqB oth b=false->(R c oth).2=35)(hs:(B6 9 (B0 rp)==B6 9 (B0 Ye))=true->(R { c with rp:=rp } b).2=(R c b).2)(hn:(B6 9 (B0 rp)==B6 9 (B0 Ye))=false->(R { c with rp:=rp } b).2=34)(g0:YC [oxS,olS] o=true->(R c b).2=0/\(R c b).1.id=id)(g1:YC [oxS,olS] o=false->(R c b).2=34):
  Ex fu (Ac C1 prog fu (d+20)) n f b.length (Ad .u8 b) oth.length (Ad .u8 oth) rp at_ vf fu f b.length (Ad .u8 b) oth.length (Ad .u8 oth) rp o c.rp c.ti c.os.length (MT c.os) c.p.vf c.p.rs c.p.ht c.p.pr c.p.sh c.p.fm c.p.od c.p.dn.length (Ad .u64 c.p.dn) c.p.op c.sec c.kh c.kr seed 2 176 sh (Ad .u8 id) m.v m.i m.x m.es.length (mnC m.es) m.lf m.n1 m.c1 m.n2 m.c2 r.kind r.cd r.ad.length (Ad .u8 r.ad) r.sg.length (Ad .u8 r.sg) r.cn r.cc r.fm r.id.length (Ad .u8 r.id) r.us=some ⟨[Cz true],[]⟩:=by
 have tail:=Ati (fu:=fu) (d:=d) Bi (n:=n) (f:=f) (at_:=at_) (vf:=vf) (sh:=sh) (b:=b) (oth:=oth) (id:=id) (rp:=rp) (e:=(R c b).2) hbB h2 BS crp f0 f1 (seed:=seed) hm vr vr' F35 hs hn;have p1:=vr b;clear vr vr' F35 hs hn;generalize R c b=Z at p1 tail g0 g1;have Li:=Ak .u8 id;have c1:decide (0+176*1<=List.length (Ad .u8 id))=true:=dT (by omega);have t1:List.take (176*1) (List.drop 0 (Ad .u8 id))=Ad .u8 id:=H5 (by rw[Ma];omega)
 have k1:decide (List.length (Ad .u8 id)=176)=true:=dT (by omega);have bi:=Lh id;have be:=YE id id;rw[SI] at be;simp only[Cf.cells,Mt.cells,Rq.cells,Sd.ownd] at p1;rw[Ke (Gz:=by omega)];have n1:(!((0:Int)==0)==true)=false:=rfl;have n2:(!((34:Int)==0)==false)=false:=rfl;have n3:((34:Int) != 34)=false:=rfl;have io:YC [oxS,olS] o=((Array.toList (ByteArray.data o)==Array.toList (ByteArray.data oxS))||((Array.toList (ByteArray.data o)==Array.toList (ByteArray.data olS))||false)):=rfl;rw[io] at g0 g1;clear io;cases b1:Array.toList (ByteArray.data o)==Array.toList (ByteArray.data oxS)
 ·cases b2:Array.toList (ByteArray.data o)==Array.toList (ByteArray.data olS)
  ·rw[b1,b2] at g1;have g1:Z.2=34:=g1 rfl;rw[g1] at p1 tail;simp only[A5,A6,p1,b1,b2,n2,n3,Kd];exact tail
  ·rw[b1,b2] at g0;have g0:=g0 rfl;rw[g0.1,g0.2,BS] at p1;rw[g0.1] at tail;simp only[A5,A6,p1,b1,b2,n1,G9,c1,t1,k1,bi,be];exact tail
 ·rw[b1] at g0;have g0:=g0 rfl;rw[g0.1,g0.2,BS] at p1;rw[g0.1] at tail;simp only[A5,A6,p1,b1,n1,G9,c1,t1,k1,bi,be];exact tail
set_option maxHeartbeats 8000000 in
theorem Amv(Bi:1000400<=fu)(n at_:Int){f:Int}(vf:Bool){b oth:Aj}{rp:ByteArray}(hbB:Cm b)(f0:0<=f)(f1:f<=255):
  Ac C1 prog fu (d+21) 3 [Aw n,.sc (.int .u8 f),.lst false 1 b.length (Ad .u8 b),.lst false 1 oth.length (Ad .u8 oth),Bk rp,Aw at_,Cz vf]=some ⟨[Cz true],[]⟩:=by
 refine (Mi fu (d+20) n f b.length (Ad .u8 b) oth.length (Ad .u8 oth) rp at_ vf).trans ?_;have aw:=Abt (fu:=fu) (d:=d+19);by_cases h1:b.length<1
 ·have a1:=dT (q:=((b.length:Nat):Int)<1) (by omega);simp only[A5,A6,a1,aw]
 have a1:=dF (q:=((b.length:Nat):Int)<1) (by omega);by_cases h2:64<b.length
 ·have a2:=dT (q:=((b.length:Nat):Int)>64) (by omega);simp only[A5,A6,a1,a2,aw]
 have a2:=dF (q:=((b.length:Nat):Int)>64) (by omega);by_cases h3:100<oth.length
 ·have a3:=dT (q:=((oth.length:Nat):Int)>100) (by omega);simp only[A5,A6,a1,a2,a3,aw]
 have a3:=dF (q:=((oth.length:Nat):Int)>100) (by omega);by_cases h4:64<rp.size
 ·have a4:=dT (q:=((rp.size:Nat):Int)>64) (by omega);simp only[A5,A6,a1,a2,a3,a4,aw]
 have a4:=dF (q:=((rp.size:Nat):Int)>64) (by omega);clear aw;obtain⟨k,k0,k1,md⟩:=A6q n 20 (by omega) (by omega);have md:=md (fu:=fu) (d:=d+19) (p:=pG);obtain⟨sh,hsh⟩:∃s,(Du .i64 n 1==1)=s:=⟨_,rfl⟩
 obtain⟨id,hib,BS,cr⟩:=A8h (fu:=fu) (d:=d+13) (by omega) k 2 sh;generalize wrap .u64 (1000+wrap .u64 k)=seed at cr;obtain⟨o,os,oO,ot⟩:=otX at_;have ot:=ot (fu:=fu) (d:=d+18);have q0:0<=Int.tmod f 3:=Int.tmod_nonneg _ f0;have q1:Int.tmod f 3<3:=Int.tmod_lt_of_pos _ (by omega);obtain⟨fm,hq⟩:∃q,Int.tmod f 3=q:=⟨_,rfl⟩
 rw[hq] at q0 q1;have w:wrap .i64 fm=fm:=Bb;have hfm:fm=0\/fm=1\/fm=2:=by omega
 have cf:=Acg (fu:=fu) (d:=d+5) (by omega) fm;have st:=stC (fu:=fu) (d:=d+19);have ol:(B0 o).length<=100:=by rw[Cv];omega
 have fok:=Abc sh vf;have rg:=Azb (fu:=fu) (d:=d+6) Bi (seed:=seed) (id:=id) (ch:=b) (o:=B0 o) hib BS hbB (by omega) (Yn _) (by omega) sh vf hfm Xo (fun _=>chC);rw[H2] at rg;have vr:=fun (c:Cf) (hc:c.ok) (ch:Aj)=>A71 (fu:=fu) (d:=d+9) Bi (seed:=seed) (b:=b) hib BS fok hfm (show (B0 o).length<=50000 by omega) rfl hc ch;have A:=fun (c:Cf) hos hp=>A8e (seed:=seed) (id:=id) (fl:=EU sh vf) (fm:=fm) (o:=B0 o) (b:=b) BS fok hfm hbB (by omega) (by omega) ol oO (c:=c) hos hp rfl;simp only[H2] at A;have cok:=Atu fm;have cok':({ cfX fm with rp:=rp }:Cf).ok:=⟨by show rp.size<=_;omega,cok.os,cok.dn⟩
 have A1:=A (cfX fm) rfl rfl;have A2:=A { cfX fm with rp:=rp } rfl rfl
 have hex:(B6 9 (B0 (cfX fm).rp)==B6 9 (B0 Ye))=true:=by
  show (B6 9 (B0 Ye)==B6 9 (B0 Ye))=true;simp
 have hrp:(B6 9 (B0 ({ cfX fm with rp:=rp }:Cf).rp))=B6 9 (B0 rp):=rfl;rw[hex] at A1;rw[hrp] at A2;clear hex hrp A;have V1:=vr _ cok;have V2:=vr _ cok';clear vr;generalize NB (Yb seed id (EU sh vf) fm (B0 o) b Xo) (rgW (SW seed id (EU sh vf) fm) (VB b (B0 o)))=T at *
 generalize Yb seed id (EU sh vf) fm (B0 o) b Xo=r at *
 have tail:=Atl (fu:=fu) (d:=d) Bi (n:=n) (f:=f) (at_:=at_) (vf:=vf) (sh:=sh) (b:=b) (oth:=oth) (id:=id) (rp:=rp) (o:=o) (e:=0) hbB (by omega) BS (by omega) f0 f1 (seed:=seed) Ata (c:=cfX fm) (r:=r) (R:=fun c ch=>Y3 c mtS ch 5 r T) V1 V2 (fun h=>A1.2.2.2 oth (by rw[Apl];exact h)) (fun h=>by
  cases hi:YC [oxS,olS] o
  ·exact (A2.1 hi).trans (A1.1 hi).symm
  ·exact (A2.2.2.1 hi h).1.trans (A1.2.2.1 hi rfl).1.symm) (fun h=>by
  cases hi:YC [oxS,olS] o
  ·exact A2.1 hi
  ·exact A2.2.1 hi h) (fun h=>A1.2.2.1 h rfl) A1.1
 clear A1 A2 V1 V2 cok cok';generalize mtS=m at st tail;generalize cfX fm=c at cf tail;have Li:=Ak .u8 id;have c1:decide (0+176*1<=List.length (Ad .u8 id))=true:=dT (by omega);have t1:List.take (176*1) (List.drop 0 (Ad .u8 id))=Ad .u8 id:=H5 (by rw[Ma];omega)
 simp only[Cf.cells,Mt.cells,Rq.cells] at cf st rg;simp only[A5,A6,a1,a2,a3,a4];rw[Kl (Gz:=by omega)];simp only[A5,A6,hq,w,cf];rw[Ko (Gz:=by omega)];simp only[A5,A6,md,hsh,cr,st,ot,hq,w,c1,t1,rg];exact tail
end
theorem registrationBinds_plain(qs:Ae)(h:Bj (WTv prog) [3,5,22,22,9,3,4] qs):∃fu d,Ac C1 prog fu d 3 qs=some ⟨[Cz true],[]⟩:=by
 obtain⟨q0,_,rfl,h0,g⟩:=h.cons_inv;obtain⟨q1,_,rfl,h1,g⟩:=g.cons_inv;obtain⟨q2,_,rfl,h2,g⟩:=g.cons_inv;obtain⟨q3,_,rfl,h3,g⟩:=g.cons_inv;obtain⟨q4,_,rfl,h4,g⟩:=g.cons_inv;obtain⟨q5,_,rfl,h5,g⟩:=g.cons_inv;obtain⟨q6,_,rfl,h6,g⟩:=g.cons_inv;obtain rfl:=g.nil_inv;clear h g;obtain⟨n,rfl,_⟩:=Aar (k:=.i64) (by kernel_rfl) (by kernel_rfl) h0;obtain⟨f,rfl,hf⟩:=Aar (k:=.u8) (by kernel_rfl) (by kernel_rfl) h1;obtain⟨b,rfl,Wn,hbB⟩:=Aeh (k:=.u8) (e:=5) (by kernel_rfl) (by kernel_rfl) (by kernel_rfl) (by kernel_rfl) h2;obtain⟨oth,rfl,_,_⟩:=Aeh (k:=.u8) (e:=5) (by kernel_rfl) (by kernel_rfl) (by kernel_rfl) (by kernel_rfl) h3;obtain⟨rp,rfl,_⟩:=Awa (by kernel_rfl) (by kernel_rfl) h4;obtain⟨a,rfl,_⟩:=Aar (k:=.i64) (by kernel_rfl) (by kernel_rfl) h5;obtain⟨vf,rfl⟩:=Ary (by kernel_rfl) (by kernel_rfl) h6;have lb:=A0d hf
 exact⟨1000400,21,Amv (d:=0) (by omega) n a vf (fun x hx=>A0d (hbB x hx)) lb.1 lb.2⟩
end
end Go.Proofs.YtamoegpkglhedaaGreatDoor.Pv
