/-
  The proof of MetadataForward, part 6.
-/
import Derived.Test.YtpogefhpiaaliaaDoorFE
import Derived.Test.YtpogefhpiaaliaaDoorRows
import Derived.Shelf.Abstract
import Derived.WalkKit
import Derived.OwnWalkIn
import Derived.TacticsInMore
import Derived.Lib.BytesEntry
import Derived.Lib.Bytealg
import Derived.Lib.Walk
import Derived.WalkMore
import Derived.Shelf.Unicode.ValidAny
import Derived.Lib.LaidU8T
set_option linter.unusedSimpArgs false
set_option linter.unusedVariables false
namespace Go.Proofs.YtpogefhpiaaliaaDoor.Pv
section
open Go.Proofs.Tryd (prog)
open Go.IntKind (wrap)
set_option maxRecDepth 1000000
def KU (m:Md)(model now:Int):Int:=G7 now (match m.ents.find? fun x=>x.model==model with|some x=>x.sts.map fun s=>(s.kd,s.at_)|none=>[])
def Avk (x:Me):En:=⟨x.model,x.ans.length,D8 x.ans,x.sts.length,Eb x.sts⟩
theorem PA:∀{l:List Me},(∀x∈l,x.sts.length<=1000∧x.ans.length<=1000)->Ve (Dd l)=some (l.map Avk)
 |[],_=>rfl
 |x::l,h=>by
  have h0:=h x (by simp)
  have ih:=PA (l:=l) fun y hy=>h y (by simp[hy])
  have b:(Nat.beq (D8 x.ans).length (x.ans.length*3)&&Nat.beq (Eb x.sts).length (x.sts.length*2)&&Nat.ble x.ans.length 1000&&Nat.ble x.sts.length 1000)=true:=by
   rw[Yv,GY];simp only[Nat.beq_refl,Bool.true_and,Bool.and_eq_true];exact⟨Nat.ble_eq_true_of_le h0.2,Nat.ble_eq_true_of_le h0.1⟩
  show Ve (.sc (.int .u64 x.model) :: .lst false 3 x.ans.length (D8 x.ans) :: .lst false 2 x.sts.length (Eb x.sts)::Dd l)=_;rw[Ve,b,cond_true,ih];rfl
theorem KV:∀(l:List Sa),P1 (Eb l)=some (l.map fun s=>(s.kd,s.at_))
 |[]=>rfl
 |s::l=>by
  show P1 (.sc (.int .i64 s.kd) :: .sc (.int .i64 s.at_)::Eb l)=_;rw[P1,KV l];rfl
theorem Acg (model:Int):∀(l:List Me),Afh model (l.map Avk)=match l.find? fun x=>x.model==model with|some x=>Eb x.sts|none=>[]
 |[]=>rfl
 |x::l=>by
  have ih:=Acg model l;unfold Afh at ih ⊢;by_cases h:x.model=model
  ·rw[VO,List.find?_cons_of_pos (by simpa [Avk] using h),List.find?_cons_of_pos (by simpa using h)]
   rfl
  ·rw[VO,List.find?_cons_of_neg (by simpa [Avk] using h),List.find?_cons_of_neg (by simpa using h)]
   exact ih
theorem Ak6 (fu d:Nat)(args:List PV):Ad C0 prog fu (d+1) 8 args=Ais args:=by kernel_rfl
section
variable {fu d:Nat}
theorem EP {m:Md}(hm:m.shrt)(model now:Int):Ad C0 prog fu (d+1) 8 [.agg m.cells,.sc (.int .u64 model),.sc (.int .i64 now)]=some ⟨[.sc (.int .i64 (KU m model now))],[]⟩:=by
 rw[Ak6]
 have b:(Nat.beq (Dd m.ents).length (m.ents.length*3)&&Nat.ble m.ents.length 1000)=true:=by
  rw[Yy];simp only[Nat.beq_refl,Bool.true_and];exact Nat.ble_eq_true_of_le hm.1
 show (bif (Nat.beq (Dd m.ents).length (m.ents.length*3)&&Nat.ble m.ents.length 1000) then _ else none)=_;rw[b,cond_true,PA hm.2];simp only;rw[Acg];unfold KU;cases m.ents.find? fun x=>x.model==model with
 |none=>rfl
 |some x=>
  simp only;rw[KV]
end
structure CR (m:Md) (seed h:Int):Prop where
 ok:m.ok
 err:D6 m=0
 ver:Ad2 m (Rs seed h)=0
 path:(m.sig.path.length:Int)=h
 leaf:m.sig.leaf=m.ver-1
theorem WL {m:Md}(hm:m.ok){seed h:Int}(he:B9 m=0)(hh:Ey h=false)(ho:Qb (m.ver-1) h=false):∃s,KM m seed h=({ m with sig:=s },0)∧CR { m with sig:=s } seed h:=by
 obtain⟨s,e,k1,k2,k3,k4,k5⟩:=Auv (seed:=seed) (m:=AB m) hh ho;refine⟨s,?_,?_⟩
 ·unfold KM;rw[Cy he,e]
 ·have VM:B9 { m with sig:=s }=0:=he;refine⟨⟨hm.ent,k1⟩,?_,?_,k4,k2⟩
  ·unfold D6;rw[VM,Cy rfl];show PP s=0;unfold PP;rw[k4,k2,hh,ho,k3];rfl
  ·unfold Ad2;rw[VM,Cy rfl,Bj (by simp only[ne_eq,Decidable.not_not];exact k2)]
   exact k5
theorem CR.wf {m:Md}{seed h:Int}(hs:CR m seed h):m.wf:=hs.ok.wf
theorem CR.sizes {m:Md}{seed h:Int}(hs:CR m seed h)(h4:h<=4):m.shrt∧m.sig.chains.length<=1000∧m.sig.path.length<=1000:=by
 obtain⟨e0,e1,e2,e3⟩:=J7 hs.err;obtain⟨_,_,_,_,_,m6,m7⟩:=Qi e0;have:=hs.path;exact⟨⟨by omega,fun x hx=>by have:=T7 (Ql m7 x hx);omega⟩,by omega,by omega⟩
theorem Ac1 {m:Md}(hw:m.wf)(h:D6 m=0)(hf:(Be m).length<=90):(G0 m).length<=4096:=by
 obtain⟨h0,h1,h2,h3⟩:=J7 h;obtain⟨_,f,_⟩:=Yp hw h0;have:=f.len;have hp:=Kv (h:=m.sig.path.length) (by simpa using h1)
 unfold G0;rw[Kb,Au3];omega
theorem Aob {m:Md}(hw:m.wf)(h:D6 m=0):Kg (G0 m):=fun y hy=>(List.mem_append.1 hy).elim (ZF hw (J7 h).1 y) (Awd m.sig y)
def mA0:Md:=⟨2,1,9,[⟨4,[],[⟨1,0⟩,⟨4,50⟩]⟩],sg0⟩
theorem Apv:mA0.ok:=⟨fun x hx=>by
 rw[List.mem_singleton.1 hx];exact⟨⟨by decide,by decide⟩,fun a ha=>by cases ha⟩,⟨fun x hx=>(by cases hx),fun x hx=>(by cases hx)⟩⟩
theorem Asu:B9 mA0=0:=by decide
section
variable {fu d:Nat}
abbrev mC (v i x:Int)(n:Nat)(c:List PV):List PV:=[.sc (.int .i64 v),.sc (.int .i64 i),.sc (.int .i64 x),.lst false 3 n c,.sc (.int .i64 0),.lst false 1 0 [],.lst false 1 0 []]
theorem XC (Cb:20000<=fu):Ad C0 prog fu (d+14) Ow []=some ⟨[.sc (.bool true)],[]⟩:=by
 rw[X8]
 have hM:∃M,KM mA0 7 2=(M,0)∧CR M 7 2∧M.ver=2∧M.iss=1∧M.nxt=9∧M.ents=[⟨4,[],[⟨1,0⟩,⟨4,50⟩]⟩]∧(Be M).length<=90∧M.sig.leaf=1:=by
  obtain⟨s,hs,hg⟩:=WL Apv (seed:=7) (h:=2) Asu (by decide) (by decide)
  exact⟨_,hs,hg,rfl,rfl,rfl,rfl,(show (15:Nat)<=90 by omega),hg.leaf⟩
 obtain⟨M,hs,hg,m1,m2,m3,m4,m5,lf⟩:=hM;have k7:=Afj (fu:=fu) (d:=d) (by omega) 7 2
 have sg:Ad C0 prog fu (d+13) Iq [.agg (mC 2 1 9 1 [.sc (.int .u64 4),.lst false 3 0 [],.lst false 2 2 [.sc (.int .i64 1),.sc (.int .i64 0),.sc (.int .i64 4),.sc (.int .i64 50)]]),.sc (.int .u64 7),.sc (.int .i64 2)]=some ⟨[.agg M.cells,.sc (.int .i64 0)],[]⟩:=by
  have:=Abm (fu:=fu) (d:=d+2) (m:=mA0) Cb Apv.wf 7 2;rw[hs] at this;exact this
 obtain⟨z1,z2,z3⟩:=hg.sizes (by omega)
 have en:=ZB (fu:=fu) (d:=d+3) (m:=M) Cb hg.wf (by omega) (by omega)
 unfold FX at en;rw[hg.err,Cy rfl] at en;have le:(G0 M).length<=4096:=Ac1 hg.wf hg.err m5;have hb:=Aob hg.wf hg.err;have dh:=GS hg.ok hg.err le
 have a1:Ad C0 prog fu (d+13) F7 [.agg (mC 1 0 0 0 []),.lst false 1 (G0 M).length (Af .u8 (G0 M)),.agg (Rs 7 2).cells,.sc (.int .i64 5)]=some ⟨[.agg M.cells,.sc (.int .i64 0)],[]⟩:=by
  have:=EL (fu:=fu) (d:=d+1) Cb hb (by omega) ⟨1,0,0,[],sg0⟩ (Rs 7 2) 5
  have e1:Aal ⟨1,0,0,[],sg0⟩ (G0 M) (Rs 7 2) 5=(M,0):=by
   unfold Aal;rw[Bj (by omega),dh,Bj (by simp),Bj (by rw[m1];show ¬(2:Int)<=1;omega),Bj (by rw[hg.ver];simp),Bj (by rw[m2,m3];omega)]
  rw[e1] at this;exact this
 have a2:Ad C0 prog fu (d+13) F7 [.agg M.cells,.lst false 1 (G0 M).length (Af .u8 (G0 M)),.agg (Rs 7 2).cells,.sc (.int .i64 5)]=some ⟨[.agg (mC 0 0 0 0 []),.sc (.int .i64 7)],[]⟩:=by
  have:=EL (fu:=fu) (d:=d+1) Cb hb (by omega) M (Rs 7 2) 5
  have e2:Aal M (G0 M) (Rs 7 2) 5=(TY,7):=by
   unfold Aal;rw[Bj (by omega),dh,Bj (by simp),Cy (Int.le_refl _)]
  rw[e2] at this;exact this
 have sm:=Aod (fu:=fu) (d:=d+10) (m:=M) (by omega) z1 z2 z3
 have s1:=EP (fu:=fu) (d:=d+12) (m:=M) z1 4 49;have s2:=EP (fu:=fu) (d:=d+12) (m:=M) z1 4 50;have v1:KU M 4 49=1:=by unfold KU;rw[m4];rfl
 have v2:KU M 4 50=4:=by unfold KU;rw[m4];rfl
 rw[v1] at s1;rw[v2] at s2;have L:=At .u8 (G0 M);have t:=Tl .u8 (G0 M);generalize G0 M=E at *
 generalize Rs 7 2=K at *
 simp only[Md.cells,Ky.cells,lf] at k7 sg en a1 a2 sm s1 s2;clear hs hg dh v1 v2
 try unfold Aa
 repeat first
  |((with_reducible first|apply Ax|apply Ap|apply Az|apply A9|apply Bq|apply Bv|apply Bp|apply Aq|apply A4|apply A3);· first|with_reducible rfl|(simp (disch:=omega) only[gT,k7,sg,en,Dp,C8,Fg,L,t,a1,a2,sm,s1,s2,Int.reduceBEq]<;>first|with_reducible rfl|omega)|omega)
  |(with_reducible apply Ay;· first|with_reducible rfl|(simp (disch:=omega) only[gF,k7,sg,en,Dp,C8,Fg,L,t,a1,a2,sm,s1,s2,Int.reduceBEq]<;>omega))
 try simp (disch:=omega) only[k7,sg,en,Dp,C8,Fg,L,t,a1,a2,sm,s1,s2,Int.reduceBEq]
 all_goals rfl
end
end
section
open Go.Proofs.Tryd (prog)
open Go.IntKind (wrap)
set_option maxRecDepth 100000
abbrev H7:FuncId:=3
noncomputable def Cl (fu:Nat)(call:Ah)(Bd:Nat)(a0:List PV)(a1:Int)(nn y0:Nat)(y1:List PV)(y2:Int)(y3:Nat)(y4:Int)(y5:List PV):Option A5:=Du CB prog fu call 3 Tryd.f3 (Ca Tryd.f3) [.lst false 1 Bd a0,.sc (.int .u8 a1)] [.r,.r,.r,.l,.r,.l] nn ⟨lk [(0,(.lst false 1 y0 y1)),(5,(.sc (.int .i64 y2))),(6,(.view 6 1 0 y3)),(7,(.sc (.int .i64 y4)))],Br [(6,(.ar false y5))]⟩
noncomputable def Dy (fu:Nat)(call:Ah)(Bd:Nat)(a0:List PV)(a1:Int)(nn y0:Nat)(y1:List PV)(y2:Int)(y3:Nat)(y4:Bool)(y5:Int)(y6:List PV)(y7 y8 y9:Int)(y10:Nat)(G5:Int)(Hq J0:Nat)(O7 M5 Vd:List PV):Option A5:=Du CB prog fu call 3 Tryd.f3 (Ca Tryd.f3) [.lst false 1 Bd a0,.sc (.int .u8 a1)] [.r,.r,.r,.r,.r,.r,.l,.r,.l] nn ⟨lk [(0,(.lst false 1 y0 y1)),(5,(.sc (.int .i64 y2))),(6,(.view 6 1 0 y3)),(13,(.ptr 13 0)),(14,(.sc (.bool y4))),(15,(.sc (.int .i64 y5)))],Br [(6,(.ar false y6)),(13,(.st [(.sc (.int .i64 y7)),(.sc (.int .i64 y8)),(.sc (.int .i64 y9)),(.view 461 3 0 y10),(.sc (.int .i64 G5)),(.view 685 1 0 Hq),(.view 797 1 0 J0)])),(461,(.ar false O7)),(685,(.ar false M5)),(797,(.ar false Vd))]⟩
noncomputable def Mh (fu:Nat)(call:Ah)(Bd:Nat)(a0:List PV)(a1:Int)(nn y0:Nat)(y1:List PV)(y2:Int)(y3:Nat)(y4:Bool)(y5:Int)(y6:List PV)(y7 y8 y9:Int)(y10:Nat)(G5:Int)(Hq J0:Nat)(O7 M5 Vd:List PV):Option A5:=Du CB prog fu call 3 Tryd.f3 (Ca Tryd.f3) [.lst false 1 Bd a0,.sc (.int .u8 a1)] [.r,.r,.r,.r,.r,.r,.l,.r,.l] nn ⟨lk [(0,(.lst false 1 y0 y1)),(5,(.sc (.int .i64 y2))),(6,(.view 6 1 0 y3)),(13,(.ptr 13 0)),(14,(.sc (.bool y4))),(15,(.sc (.int .i64 y5)))],Br [(6,(.ar false y6)),(13,(.st [(.sc (.int .i64 y7)),(.sc (.int .i64 y8)),(.sc (.int .i64 y9)),(.view 461 3 0 y10),(.sc (.int .i64 G5)),(.view 685 1 0 Hq),(.view 797 1 0 J0)])),(461,(.ar true O7)),(685,(.ar true M5)),(797,(.ar true Vd))]⟩
noncomputable def Bz (fu:Nat)(call:Ah)(Bd:Nat)(a0:List PV)(a1:Int)(nn y0:Nat)(y1:List PV)(y2:Int)(y3:Nat)(y4:Bool)(y5:Int)(y6:List PV)(y7 y8 y9:Int)(y10:Nat)(G5:List PV)(Hq:Int)(J0:Nat)(O7:List PV)(M5:Nat)(Vd:List PV):Option A5:=Du CB prog fu call 3 Tryd.f3 (Ca Tryd.f3) [.lst false 1 Bd a0,.sc (.int .u8 a1)] [.r,.r,.r,.r,.r,.r,.l,.r,.l] nn ⟨lk [(0,(.lst false 1 y0 y1)),(5,(.sc (.int .i64 y2))),(6,(.view 6 1 0 y3)),(13,(.ptr 13 0)),(14,(.sc (.bool y4))),(15,(.sc (.int .i64 y5)))],Br [(6,(.ar false y6)),(13,(.st [(.sc (.int .i64 y7)),(.sc (.int .i64 y8)),(.sc (.int .i64 y9)),(.lst false 3 y10 G5),(.sc (.int .i64 Hq)),(.lst false 1 J0 O7),(.lst false 1 M5 Vd)]))]⟩
theorem Ep (fu:Nat)(call:Ah)(Bd:Nat)(a0:List PV)(a1:Int)(nn y0:Nat)(y1:List PV)(y2:Int)(y3:Nat)(y4:Int)(y5:List PV):Cl fu call Bd a0 a1 (nn+1) y0 y1 y2 y3 y4 y5=(Bi (decide (y4<=16)) (Bi (decide (y4>=y2)) (Ai (call 4 [.agg [.sc (.int .i64 y4),.sc (.int .i64 0),.sc (.int .i64 100),.lst false 3 1 [.sc (.int .u64 3),.lst false 3 0 [],.lst false 2 2 [.sc (.int .i64 1),.sc (.int .i64 0),.sc (.int .i64 4),.sc (.int .i64 5)]],.sc (.int .i64 0),.lst false 1 0 [],.lst false 1 0 []],.sc (.int .u64 5),.sc (.int .i64 4)]) fun x4 x5=>Ac x5<|Ab x4 fun x6 x7=>Fm x6 fun x8=>Ab x8 fun x9 C6=>Ae .i64 x9 fun Dr=>Ab C6 fun Eg Ez=>Ae .i64 Eg fun D7=>Ab Ez fun Ew Fw=>Ae .i64 Ew fun Gm=>Ab Fw fun G4 Gi=>Fq 3 G4 fun Gy Jk Ia=>Ab Gi fun Je Fn=>Ae .i64 Je fun Eu=>Ab Fn fun Hv J8=>Fq 1 Hv fun G3 O6 M7=>Ab J8 fun Kw Mz=>Fq 1 Kw fun O8 Pn O5=>Ac Mz<|Ab x7 fun Ry Vb=>Ae .i64 Ry fun Ic=>Ac Vb<|Ai (call 5 [.agg [.sc (.int .i64 Dr),.sc (.int .i64 D7),.sc (.int .i64 Gm),.lst false 3 Jk Ia,.sc (.int .i64 Eu),.lst false 1 O6 M7,.lst false 1 Pn O5]]) fun Ln S4=>Ac S4<|Ab Ln fun Xb R9=>Gl 1 Xb fun Ye Za=>Ab R9 fun X6 Xc=>Ae .i64 X6 fun Yd=>Ac Xc<|Bi (Ic != 0) (some (A5.mk [.sc (.bool false)] [])) (Bi (Yd != 0) (some (A5.mk [.sc (.bool false)] [])) (Ar (decide (0+Ye*1<=Za.length))<|Ar (decide (y3*1<=y5.length)&&true&&decide ((y3+1)*24<=1099511627776)&&decide (y3+1<=1099511627776))<|Aa (y3+1) fun Yq=>Aa (List.take (y3*1) y5++[.lst false 1 Ye (List.take (Ye*1) (List.drop 0 Za))]) fun Yu=>Aa (wrap .i64 (y4+1)) fun BD=>Cl fu call Bd a0 a1 (nn) (y0) (y1) (y2) Yq BD Yu))) (Ai (call 4 [.agg [.sc (.int .i64 y4),.sc (.int .i64 0),.sc (.int .i64 100),.lst false 3 1 [.sc (.int .u64 3),.lst false 3 0 [],.lst false 2 1 [.sc (.int .i64 1),.sc (.int .i64 0)]],.sc (.int .i64 0),.lst false 1 0 [],.lst false 1 0 []],.sc (.int .u64 5),.sc (.int .i64 4)]) fun Zz Zg=>Ac Zg<|Ab Zz fun BX EJ=>Fm BX fun DK=>Ab DK fun CJ CI=>Ae .i64 CJ fun Z3=>Ab CI fun GV AF=>Ae .i64 GV fun CU=>Ab AF fun FF DM=>Ae .i64 FF fun AA=>Ab DM fun Y9 Xd=>Fq 3 Y9 fun EH GU DN=>Ab Xd fun FH DJ=>Ae .i64 FH fun FS=>Ab DJ fun GW AL=>Fq 1 GW fun KL MX DH=>Ab AL fun LX QU=>Fq 1 LX fun RT OM TH=>Ac QU<|Ab EJ fun x83 VU=>Ae .i64 x83 fun x85=>Ac VU<|Ai (call 5 [.agg [.sc (.int .i64 Z3),.sc (.int .i64 CU),.sc (.int .i64 AA),.lst false 3 GU DN,.sc (.int .i64 FS),.lst false 1 MX DH,.lst false 1 OM TH]]) fun YL x87=>Ac x87<|Ab YL fun YA NB=>Gl 1 YA fun RV UR=>Ab NB fun x92 x93=>Ae .i64 x92 fun x94=>Ac x93<|Bi (x85 != 0) (some (A5.mk [.sc (.bool false)] [])) (Bi (x94 != 0) (some (A5.mk [.sc (.bool false)] [])) (Ar (decide (0+RV*1<=UR.length))<|Ar (decide (y3*1<=y5.length)&&true&&decide ((y3+1)*24<=1099511627776)&&decide (y3+1<=1099511627776))<|Aa (y3+1) fun x95=>Aa (List.take (y3*1) y5++[.lst false 1 RV (List.take (RV*1) (List.drop 0 UR))]) fun x96=>Aa (wrap .i64 (y4+1)) fun WG=>Cl fu call Bd a0 a1 (nn) (y0) (y1) (y2) x95 WG x96)))) (Dy fu call Bd a0 a1 (fu) (y0) (y1) (y2) (y3) (false) 0 (y5) 0 0 0 0 0 0 0 ([]) ([]) ([]))):=by kernel_rfl
theorem Lo (fu:Nat)(call:Ah)(Bd:Nat)(a0:List PV)(a1:Int)(nn y0:Nat)(y1:List PV)(y2:Int)(y3:Nat)(y4:Bool)(y5:Int)(y6:List PV)(y7 y8 y9:Int)(y10:Nat)(G5:Int)(Hq J0:Nat)(O7 M5 Vd:List PV):Dy fu call Bd a0 a1 (nn+1) y0 y1 y2 y3 y4 y5 y6 y7 y8 y9 y10 G5 Hq J0 O7 M5 Vd=(Bi (decide (y5<(↑y0:Int))) (Bi (decide (y5<30)) (Ar (decide (0<=y5)&&decide (y5<(↑y0:Int)))<|Ae .u8 (List.getD y1 (Int.toNat y5*1) .top) fun SB=>Aa (Int.tmod SB 16) fun x99=>Aa (wrap .i64 x99) fun T0=>Ar (decide (0<=T0)&&decide (T0<(↑y3:Int)))<|Fq 1 (List.getD y6 (0+Int.toNat T0*1) .top) fun ES Jq M0=>Ai (call 7 [.sc (.int .u64 5),.sc (.int .i64 4)]) fun Z4 We=>Ac We<|Ab Z4 fun Ww Qd=>Fm Ww fun HM=>Ab HM fun MD PW=>Ae .i64 MD fun QN=>Ab PW fun Ma Q2=>Ae .u64 Ma fun SP=>Ac Q2<|Ac Qd<|Ar (decide (0+y10*3<=O7.length))<|Ar (decide (0+Hq*1<=M5.length))<|Ar (decide (0+J0*1<=Vd.length))<|Ai (call 6 [.agg [.sc (.int .i64 y7),.sc (.int .i64 y8),.sc (.int .i64 y9),.lst false 3 y10 (List.take (y10*3) (List.drop 0 O7)),.sc (.int .i64 G5),.lst false 1 Hq (List.take (Hq*1) (List.drop 0 M5)),.lst false 1 J0 (List.take (J0*1) (List.drop 0 Vd))],.lst false 1 Jq M0,.agg [.sc (.int .i64 QN),.sc (.int .u64 SP)],.sc (.int .i64 10)]) fun SF MJ=>Ac MJ<|Ab SF fun TZ SZ=>Fm TZ fun QW=>Ab QW fun TO LU=>Ae .i64 TO fun EB=>Ab LU fun SG QE=>Ae .i64 SG fun CO=>Ab QE fun DF IV=>Ae .i64 DF fun HA=>Ab IV fun QT MK=>Fq 3 QT fun Ae1 HF MI=>Ab MK fun YX XZ=>Ae .i64 YX fun MO=>Ab XZ fun Abw Ac7=>Fq 1 Abw fun Ab5 MT ME=>Ab Ac7 fun ZV YG=>Fq 1 ZV fun TT HN MP=>Ac YG<|Ab SZ fun YD ZU=>Ae .i64 YD fun Adh=>Ac ZU<|Aa (wrap .i64 (T0+1)) fun Afn=>Bi (!(Adh==0)==decide (Afn>y7)) (some (A5.mk [.sc (.bool false)] [])) (Bi (Adh != 0) (Aa (wrap .i64 (y5+1)) fun Af9=>Mh fu call Bd a0 a1 (nn) (y0) (y1) (y2) (y3) (y4) Af9 (y6) (y7) (y8) (y9) (y10) (G5) (Hq) (J0) (O7) (M5) (Vd)) (Bi (y4) (Ai (call 8 [.agg [.sc (.int .i64 EB),.sc (.int .i64 CO),.sc (.int .i64 HA),.lst false 3 HF MI,.sc (.int .i64 MO),.lst false 1 MT ME,.lst false 1 HN MP],.sc (.int .u64 3),.sc (.int .i64 10)]) fun Af2 Arh=>Ac Arh<|Ab Af2 fun An6 Ard=>Ae .i64 An6 fun Am8=>Ac Ard<|Bi (!(Am8==4)==true) (some (A5.mk [.sc (.bool false)] [])) (Aa (wrap .i64 (y5+1)) fun Alv=>Bz fu call Bd a0 a1 (nn) (y0) (y1) (y2) (y3) (true) Alv (y6) EB CO HA HF MI MO MT ME HN MP)) (Aa (wrap .i64 (T0+1)) fun Aj3=>Ai (call 8 [.agg [.sc (.int .i64 EB),.sc (.int .i64 CO),.sc (.int .i64 HA),.lst false 3 HF MI,.sc (.int .i64 MO),.lst false 1 MT ME,.lst false 1 HN MP],.sc (.int .u64 3),.sc (.int .i64 10)]) fun Apx Amu=>Ac Amu<|Ab Apx fun Aml Aqb=>Ae .i64 Aml fun Au9=>Ac Aqb<|Bi (!(Au9==4)==decide (Aj3>=y2)) (some (A5.mk [.sc (.bool false)] [])) (Aa (wrap .i64 (y5+1)) fun Agv=>Bz fu call Bd a0 a1 (nn) (y0) (y1) (y2) (y3) (decide (Aj3>=y2)) Agv (y6) EB CO HA HF MI MO MT ME HN MP))))) (Ai (call 9 []) fun Ald Amz=>Ac Amz<|Ab Ald fun Apu Aun=>Bu Apu fun Amv=>Ac Aun<|some (A5.mk [.sc (.bool Amv)] []))) (Ai (call 9 []) fun Api Aq8=>Ac Aq8<|Ab Api fun Aoh Apd=>Bu Aoh fun Amy=>Ac Apd<|some (A5.mk [.sc (.bool Amy)] []))):=by kernel_rfl
theorem Kl (fu:Nat)(call:Ah)(Bd:Nat)(a0:List PV)(a1:Int)(nn y0:Nat)(y1:List PV)(y2:Int)(y3:Nat)(y4:Bool)(y5:Int)(y6:List PV)(y7 y8 y9:Int)(y10:Nat)(G5:List PV)(Hq:Int)(J0:Nat)(O7:List PV)(M5:Nat)(Vd:List PV):Bz fu call Bd a0 a1 (nn+1) y0 y1 y2 y3 y4 y5 y6 y7 y8 y9 y10 G5 Hq J0 O7 M5 Vd=(Bi (decide (y5<(↑y0:Int))) (Bi (decide (y5<30)) (Ar (decide (0<=y5)&&decide (y5<(↑y0:Int)))<|Ae .u8 (List.getD y1 (Int.toNat y5*1) .top) fun A87=>Aa (Int.tmod A87 16) fun A9n=>Aa (wrap .i64 A9n) fun Aqk=>Ar (decide (0<=Aqk)&&decide (Aqk<(↑y3:Int)))<|Fq 1 (List.getD y6 (0+Int.toNat Aqk*1) .top) fun Bd2 A9b A64=>Ai (call 7 [.sc (.int .u64 5),.sc (.int .i64 4)]) fun A7m A68=>Ac A68<|Ab A7m fun Bao A80=>Fm Bao fun A59=>Ab A59 fun A6d A5u=>Ae .i64 A6d fun A6y=>Ab A5u fun A6b A7x=>Ae .u64 A6b fun A7d=>Ac A7x<|Ac A80<|Ai (call 6 [.agg [.sc (.int .i64 y7),.sc (.int .i64 y8),.sc (.int .i64 y9),.lst false 3 y10 G5,.sc (.int .i64 Hq),.lst false 1 J0 O7,.lst false 1 M5 Vd],.lst false 1 A9b A64,.agg [.sc (.int .i64 A6y),.sc (.int .u64 A7d)],.sc (.int .i64 10)]) fun A85 Bae=>Ac Bae<|Ab A85 fun A6r A7w=>Fm A6r fun A89=>Ab A89 fun A8m A7i=>Ae .i64 A8m fun Asr=>Ab A7i fun A7t A60=>Ae .i64 A7t fun As8=>Ab A60 fun A8e A5p=>Ae .i64 A8e fun As5=>Ab A5p fun A96 A5t=>Fq 3 A96 fun Bcw Asb Asj=>Ab A5t fun A77 A8b=>Ae .i64 A77 fun Atk=>Ab A8b fun A6v A6n=>Fq 1 A6v fun Bdq Aui At1=>Ab A6n fun A7c A5w=>Fq 1 A7c fun Bb8 Au4 Asg=>Ac A5w<|Ab A7w fun A9c A9h=>Ae .i64 A9c fun A23=>Ac A9h<|Aa (wrap .i64 (Aqk+1)) fun A63=>Bi (!(A23==0)==decide (A63>y7)) (some (A5.mk [.sc (.bool false)] [])) (Bi (A23 != 0) (Aa (wrap .i64 (y5+1)) fun A9w=>Bz fu call Bd a0 a1 (nn) (y0) (y1) (y2) (y3) (y4) A9w (y6) (y7) (y8) (y9) (y10) (G5) (Hq) (J0) (O7) (M5) (Vd)) (Bi (y4) (Ai (call 8 [.agg [.sc (.int .i64 Asr),.sc (.int .i64 As8),.sc (.int .i64 As5),.lst false 3 Asb Asj,.sc (.int .i64 Atk),.lst false 1 Aui At1,.lst false 1 Au4 Asg],.sc (.int .u64 3),.sc (.int .i64 10)]) fun A6f A8d=>Ac A8d<|Ab A6f fun A5z A9t=>Ae .i64 A5z fun A9f=>Ac A9t<|Bi (!(A9f==4)==true) (some (A5.mk [.sc (.bool false)] [])) (Aa (wrap .i64 (y5+1)) fun A61=>Bz fu call Bd a0 a1 (nn) (y0) (y1) (y2) (y3) (true) A61 (y6) Asr As8 As5 Asb Asj Atk Aui At1 Au4 Asg)) (Aa (wrap .i64 (Aqk+1)) fun A3d=>Ai (call 8 [.agg [.sc (.int .i64 Asr),.sc (.int .i64 As8),.sc (.int .i64 As5),.lst false 3 Asb Asj,.sc (.int .i64 Atk),.lst false 1 Aui At1,.lst false 1 Au4 Asg],.sc (.int .u64 3),.sc (.int .i64 10)]) fun A73 A7s=>Ac A7s<|Ab A73 fun A6w A9i=>Ae .i64 A6w fun A53=>Ac A9i<|Bi (!(A53==4)==decide (A3d>=y2)) (some (A5.mk [.sc (.bool false)] [])) (Aa (wrap .i64 (y5+1)) fun A5x=>Bz fu call Bd a0 a1 (nn) (y0) (y1) (y2) (y3) (decide (A3d>=y2)) A5x (y6) Asr As8 As5 Asb Asj Atk Aui At1 Au4 Asg))))) (Ai (call 9 []) fun A8y Baj=>Ac Baj<|Ab A8y fun A9s Bag=>Bu A9s fun A8t=>Ac Bag<|some (A5.mk [.sc (.bool A8t)] []))) (Ai (call 9 []) fun A5v A8x=>Ac A8x<|Ab A5v fun A6e A6k=>Bu A6e fun A71=>Ac A6k<|some (A5.mk [.sc (.bool A71)] []))):=by kernel_rfl
theorem Ni (fu d Bd:Nat)(a0:List PV)(a1:Int):Ad C0 prog fu (d+1) H7 [.lst false 1 Bd a0,.sc (.int .u8 a1)]=(fun (call:Ah)=>Aa (Int.tmod a1 15) fun x1=>Aa (wrap .i64 x1) fun x2=>Aa (wrap .i64 (1+x2)) fun x3=>Cl fu call Bd a0 a1 (fu) (Bd) (a0) x3 0 1 ([])) (Ad C0 prog fu d):=by kernel_rfl
end
section
open Go.Proofs.Tryd (prog)
open Go.IntKind (wrap)
set_option maxRecDepth 1000000
def fwS (w v:Int):List Sa:=if v>=w then [⟨1,0⟩,⟨4,5⟩] else [⟨1,0⟩]
def fw0 (w v:Int):Md:=⟨v,0,100,[⟨3,[],fwS w v⟩],sg0⟩
noncomputable def Vq (w v:Int):Md:=(KM (fw0 w v) 5 4).1
noncomputable def QZ (w v:Int):List Int:=G0 (Vq w v)
theorem A0f {v:Int}(h1:1<=v)(h2:v<=16):Qb (v-1) 4=false:=by
 have:v=1∨v=2∨v=3∨v=4∨v=5∨v=6∨v=7∨v=8∨v=9∨v=10∨v=11∨v=12∨v=13∨v=14∨v=15∨v=16:=by omega
 rcases this with rfl|rfl|rfl|rfl|rfl|rfl|rfl|rfl|rfl|rfl|rfl|rfl|rfl|rfl|rfl|rfl<;>rfl
theorem Ap6 (w v:Int):(fw0 w v).ok:=⟨fun x hx=>by
 rw[List.mem_singleton.1 hx];exact⟨⟨by show (0:Int)<=3;omega,by show (3:Int)<=_;omega⟩,fun a ha=>by cases ha⟩,⟨fun x hx=>(by cases hx),fun x hx=>(by cases hx)⟩⟩
theorem Atw {w v:Int}(h1:1<=v)(h2:v<=16):B9 (fw0 w v)=0:=by
 have e:Fz none (fw0 w v).ents=0:=by
  show Fz none [⟨3,[],fwS w v⟩]=0;unfold fwS;split<;>rfl
 have c1:¬((fw0 w v).ver<1∨16<(fw0 w v).ver):=by show ¬(v<1∨16<v);omega
 have c2:¬((fw0 w v).iss<0∨(fw0 w v).nxt<(fw0 w v).iss∨1099511627776<(fw0 w v).nxt):=by show ¬((0:Int)<0∨(100:Int)<0∨(1099511627776:Int)<100);omega
 have c3:¬(16<(fw0 w v).ents.length):=by show ¬(16<1);omega
 unfold B9;rw[Bj c1,Bj c2,Bj c3,e]
theorem LC {w v:Int}(h1:1<=v)(h2:v<=16):KM (fw0 w v) 5 4=(Vq w v,0)∧CR (Vq w v) 5 4∧(Vq w v).ver=v∧(Vq w v).iss=0∧(Vq w v).nxt=100∧(Vq w v).ents=[⟨3,[],fwS w v⟩]:=by
 obtain⟨s,hs,hg⟩:=WL (Ap6 w v) (seed:=5) (h:=4) (Atw h1 h2) (by decide) (A0f h1 h2)
 have e:Vq w v={ fw0 w v with sig:=s }:=by unfold Vq;rw[hs]
 rw[e];exact⟨hs,hg,rfl,rfl,rfl,rfl⟩
theorem Ayb {w v:Int}(h1:1<=v)(h2:v<=16):(Be (Vq w v)).length<=90:=by
 obtain⟨_,_,_,_,_,h⟩:=LC (w:=w) h1 h2;unfold Be O9;rw[h];unfold fwS;split<;>simp[Ba,Wu,Dt,C5,De,ZL]
theorem Agu {w v:Int}(h1:1<=v)(h2:v<=16):Kg (QZ w v)∧(QZ w v).length<=4096:=by
 obtain⟨_,hg,_⟩:=LC (w:=w) h1 h2;exact⟨Aob hg.wf hg.err,Ac1 hg.wf hg.err (Ayb h1 h2)⟩
theorem Ahe {w v:Int}(h1:1<=v)(h2:v<=16):KU (Vq w v) 3 10=if v>=w then 4 else 1:=by
 obtain⟨_,_,_,_,_,h⟩:=LC (w:=w) h1 h2;unfold KU;rw[h];unfold fwS;by_cases hv:v>=w
 ·rw[Cy hv,Cy hv];rfl
 ·rw[Bj hv,Bj hv];rfl
theorem Apb {w v:Int}(h1:1<=v)(h2:v<=16)(cur:Md):Aal cur (QZ w v) (Rs 5 4) 10=if v<=cur.ver then (TY,7) else (Vq w v,0):=by
 obtain⟨_,hg,e1,e2,e3,_⟩:=LC (w:=w) h1 h2;have dh:=GS hg.ok hg.err (Agu h1 h2).2;unfold Aal;unfold QZ;rw[Bj (by omega),dh,Bj (by simp)]
 simp only[e1,hg.ver,e2,e3];split
 ·rfl
 ·rw[Bj (by simp),Bj (by omega)]
noncomputable def Tu (w:Int)(n:Nat):List PV:=(List.range n).map fun (i:Nat)=>PV.lst false 1 (QZ w ((i:Int)+1)).length (Af .u8 (QZ w ((i:Int)+1)))
theorem Akk (w:Int)(n:Nat):(Tu w n).length=n:=by simp[Tu]
theorem Ab4 {w:Int}{n i:Nat}(h:i<n):(Tu w n).getD i .top=.lst false 1 (QZ w ((i:Int)+1)).length (Af .u8 (QZ w ((i:Int)+1))):=by
 unfold Tu;rw[List.getD_eq_getElem?_getD,List.getElem?_map,List.getElem?_range h];rfl
theorem Alc (w:Int)(n:Nat):Tu w n++[PV.lst false 1 (QZ w ((n:Int)+1)).length (Af .u8 (QZ w ((n:Int)+1)))]=Tu w (n+1):=by
 unfold Tu;rw[List.range_succ,List.map_append];rfl
section
variable {l:List Int} {a1:Int}
theorem Awr {w:Int}(hw:1<=w):∀(k n nn:Nat),n+k=16->k<nn ->
  Cl 20000 (Ad C0 prog 20000 19) l.length (Af .u8 l) a1 nn l.length (Af .u8 l) w n ((n:Int)+1) (Tu w n) =
   Dy 20000 (Ad C0 prog 20000 19) l.length (Af .u8 l) a1 20000 l.length (Af .u8 l) w 16 false 0 (Tu w 16) 0 0 0 0 0 0 0 [] [] []
 |_,_,0,_,h=>by omega
 |0,n,nn+1,hn,hk=>by
  obtain rfl:n=16:=by omega
  rw[Ep];exact Fi _ _ _ (by omega)
 |k+1,n,nn+1,hn,hk=>by
  have h1:(1:Int)<=(n:Int)+1:=by omega
  have h2:(n:Int)+1<=16:=by omega
  obtain⟨hs,hg,e1,e2,e3,e4⟩:=LC (w:=w) h1 h2;have ih:=Awr hw k (n+1) nn (by omega) (by omega)
  have wn:wrap .i64 (((n:Int)+1)+1)=((n+1:Nat):Int)+1:=by rw[Ak (by omega) (by omega)];omega
  have LA:=Akk w n;have tA:List.take n (Tu w n)=Tu w n:=My (by omega)
  have aA:=Alc w n;obtain⟨z1,z2,z3⟩:=hg.sizes (by omega)
  have en:=ZB (fu:=20000) (d:=9) (m:=Vq w ((n:Int)+1)) (by omega) hg.wf (by omega) (by omega)
  unfold FX at en;rw[hg.err,Cy rfl] at en;have L:=At .u8 (QZ w ((n:Int)+1));have t:=Tl .u8 (QZ w ((n:Int)+1));have en:Ad C0 prog 20000 19 Mt [.agg (Vq w ((n:Int)+1)).cells]=some ⟨[.own 1 (QZ w ((n:Int)+1)).length (Af .u8 (QZ w ((n:Int)+1))),.sc (.int .i64 0)],[]⟩:=en;have sg:=Abm (fu:=20000) (d:=8) (m:=fw0 w ((n:Int)+1)) (by omega) (Ap6 w _).wf 5 4
  rw[hs] at sg;have e00:((0:Int) != 0)=false:=rfl;by_cases hv:(n:Int)+1>=w
  ·have sg:Ad C0 prog 20000 19 Iq [.agg (mC ((n:Int)+1) 0 100 1 [.sc (.int .u64 3),.lst false 3 0 [],.lst false 2 2 [.sc (.int .i64 1),.sc (.int .i64 0),.sc (.int .i64 4),.sc (.int .i64 5)]]),.sc (.int .u64 5),.sc (.int .i64 4)]=some ⟨[.agg (Vq w ((n:Int)+1)).cells,.sc (.int .i64 0)],[]⟩:=by
    refine Eq.trans ?_ sg
    congr 1
    show _=[PV.agg [.sc (.int .i64 ((n:Int)+1)),.sc (.int .i64 0),.sc (.int .i64 100),.lst false 3 1 [.sc (.int .u64 3),.lst false 3 0 [],.lst false 2 (fwS w ((n:Int)+1)).length (Eb (fwS w ((n:Int)+1)))],.sc (.int .i64 0),.lst false 1 0 [],.lst false 1 0 []],.sc (.int .u64 5),.sc (.int .i64 4)];unfold fwS;rw[Cy hv];rfl
   generalize QZ w ((n:Int)+1)=E at *
   generalize Vq w ((n:Int)+1)=M at *
   simp only[Md.cells] at sg en;rw[←ih,Ep];clear ih hs hg
   try unfold Aa
   repeat first
    |((with_reducible first|apply Ax|apply Ap|apply Az|apply A9|apply Bq|apply Bv|apply Bp|apply Aq|apply A4|apply A3);· first|with_reducible rfl|(simp (disch:=omega) only[gT,sg,en,e00,Dp,C8,Fg,L,t,LA,tA,aA,wn]<;>first|with_reducible rfl|omega)|omega)
    |(with_reducible apply Ay;· first|with_reducible rfl|(simp (disch:=omega) only[gF,sg,en,e00,Dp,C8,Fg,L,t,LA,tA,aA,wn]<;>omega))
   try simp (disch:=omega) only[sg,en,e00,Dp,C8,Fg,L,t,LA,tA,aA,wn]
   all_goals rfl
  ·have sg:Ad C0 prog 20000 19 Iq [.agg (mC ((n:Int)+1) 0 100 1 [.sc (.int .u64 3),.lst false 3 0 [],.lst false 2 1 [.sc (.int .i64 1),.sc (.int .i64 0)]]),.sc (.int .u64 5),.sc (.int .i64 4)]=some ⟨[.agg (Vq w ((n:Int)+1)).cells,.sc (.int .i64 0)],[]⟩:=by
    refine Eq.trans ?_ sg
    congr 1
    show _=[PV.agg [.sc (.int .i64 ((n:Int)+1)),.sc (.int .i64 0),.sc (.int .i64 100),.lst false 3 1 [.sc (.int .u64 3),.lst false 3 0 [],.lst false 2 (fwS w ((n:Int)+1)).length (Eb (fwS w ((n:Int)+1)))],.sc (.int .i64 0),.lst false 1 0 [],.lst false 1 0 []],.sc (.int .u64 5),.sc (.int .i64 4)];unfold fwS;rw[Bj hv];rfl
   generalize QZ w ((n:Int)+1)=E at *
   generalize Vq w ((n:Int)+1)=M at *
   simp only[Md.cells] at sg en;rw[←ih,Ep];clear ih hs hg
   try unfold Aa
   repeat first
    |((with_reducible first|apply Ax|apply Ap|apply Az|apply A9|apply Bq|apply Bv|apply Bp|apply Aq|apply A4|apply A3);· first|with_reducible rfl|(simp (disch:=omega) only[gT,sg,en,e00,Dp,C8,Fg,L,t,LA,tA,aA,wn]<;>first|with_reducible rfl|omega)|omega)
    |(with_reducible apply Ay;· first|with_reducible rfl|(simp (disch:=omega) only[gF,sg,en,e00,Dp,C8,Fg,L,t,LA,tA,aA,wn]<;>omega))
   try simp (disch:=omega) only[sg,en,e00,Dp,C8,Fg,L,t,LA,tA,aA,wn]
   all_goals rfl
theorem Av7 {x:Int}(h:0<=x∧x<=255):∃v:Nat,v<16∧wrap .i64 (Int.tmod x 16)=v:=by
 obtain⟨h0,h1⟩:=h;refine⟨(x % 16).toNat,by omega,?_⟩
 rw[Int.tmod_eq_emod_of_nonneg h0,Ak (by omega) (by omega)]
 omega
theorem YJ (hl:Kg l){w:Int}(hw:1<=w):∀(k i nn:Nat)(u:Int),i+k=30->k<nn->1<=u->u<=16 ->
  Bz 20000 (Ad C0 prog 20000 19) l.length (Af .u8 l) a1 nn l.length (Af .u8 l) w 16 (decide (u>=w)) (i:Int) (Tu w 16) (Vq w u).ver (Vq w u).iss (Vq w u).nxt (Vq w u).ents.length (Dd (Vq w u).ents) (Vq w u).sig.leaf (Vq w u).sig.chains.length (Af .u64 (Vq w u).sig.chains) (Vq w u).sig.path.length (Af .u64 (Vq w u).sig.path)=some ⟨[.sc (.bool true)],[]⟩
 |_,_,0,_,_,h,_,_=>by omega
 |k,i,nn+1,u,hi,hk,hu1,hu2=>by
  have aw:=XC (fu:=20000) (d:=5) (by omega)
  rw[Kl];by_cases c1:i<l.length
  rotate_left
  ·skip
   try unfold Aa
   repeat first
    |((with_reducible first|apply Ax|apply Ap|apply Az|apply A9|apply Bq|apply Bv|apply Bp|apply Aq|apply A4|apply A3);· first|with_reducible rfl|(simp (disch:=omega) only[gT,aw]<;>first|with_reducible rfl|omega)|omega)
    |(with_reducible apply Ay;· first|with_reducible rfl|(simp (disch:=omega) only[gF,aw]<;>omega))
   try simp (disch:=omega) only[aw]
   all_goals rfl
  by_cases c2:i<30
  rotate_left
  ·skip
   try unfold Aa
   repeat first
    |((with_reducible first|apply Ax|apply Ap|apply Az|apply A9|apply Bq|apply Bv|apply Bp|apply Aq|apply A4|apply A3);· first|with_reducible rfl|(simp (disch:=omega) only[gT,aw]<;>first|with_reducible rfl|omega)|omega)
    |(with_reducible apply Ay;· first|with_reducible rfl|(simp (disch:=omega) only[gF,aw]<;>omega))
   try simp (disch:=omega) only[aw]
   all_goals rfl
  obtain⟨k,rfl⟩:∃k',k=k'+1:=⟨k-1,by omega⟩
  have hx:=List.getElem?_eq_getElem c1;have hxb:=hl _ (List.getElem_mem c1);generalize l[i]=x at hx hxb;obtain⟨v,hv,hm⟩:=Av7 hxb;have gx:=BI (k:=.u8) hx;have gA:=Ab4 (w:=w) hv;have wi:wrap .i64 ((i:Int)+1)=((i+1:Nat):Int):=by rw[Ak (by omega) (by omega)];omega
  have wv:wrap .i64 ((v:Int)+1)=(v:Int)+1:=Ak (by omega) (by omega)
  have ky:=Afj (fu:=20000) (d:=6) (by omega) 5 4
  obtain⟨hB,hL⟩:=Agu (w:=w) (v:=(v:Int)+1) (by omega) (by omega)
  have ac:=EL (fu:=20000) (d:=7) (by omega) hB (by omega) (Vq w u) (Rs 5 4) 10
  rw[Apb (by omega) (by omega)] at ac
  obtain⟨_,_,ev,_⟩:=LC (w:=w) hu1 hu2;have hvn:(0:Int)<=v:=by omega
  have A7g:(v:Int)<16:=by omega
  by_cases Xa:(v:Int)+1<=u
  ·have d1:decide ((v:Int)+1>u)=false:=by simp;omega
   have b1:(!((7:Int)==0)==false)=false:=rfl;have ih:=YJ hl hw k (i+1) nn u (by omega) (by omega) hu1 hu2
   rw[ev,Cy Xa] at ac;have ac:Ad C0 prog 20000 19 F7 [.agg (Vq w u).cells,.lst false 1 (QZ w ((v:Int)+1)).length (Af .u8 (QZ w ((v:Int)+1))),.agg (Rs 5 4).cells,.sc (.int .i64 10)]=some ⟨[.agg (mC 0 0 0 0 []),.sc (.int .i64 7)],[]⟩:=ac;have n7:((7:Int) != 0)=true:=rfl;have n70:((7:Int)==0)=false:=rfl;have bb:((false:Bool)==false)=true:=rfl;rw[←ih];clear ih;generalize QZ w ((v:Int)+1)=E at *
   generalize Rs 5 4=K at *
   generalize Vq w u=M at *
   simp only[Md.cells,Ky.cells,ev] at ac ky ⊢
   try unfold Aa
   repeat first
    |((with_reducible first|apply Ax|apply Ap|apply Az|apply A9|apply Bq|apply Bv|apply Bp|apply Aq|apply A4|apply A3);· first|with_reducible rfl|(simp (disch:=omega) only[gT,gx,hm,gA,Hs,Dp,C8,ky,ac,wv,d1,n7,n70,bb,D2,wi]<;>first|with_reducible rfl|omega)|omega)
    |(with_reducible apply Ay;· first|with_reducible rfl|(simp (disch:=omega) only[gF,gx,hm,gA,Hs,Dp,C8,ky,ac,wv,d1,n7,n70,bb,D2,wi]<;>omega))
   try simp (disch:=omega) only[gx,hm,gA,Hs,Dp,C8,ky,ac,wv,d1,n7,n70,bb,D2,wi]
   all_goals rfl
  ·have d1:decide ((v:Int)+1>u)=true:=by simp;omega
   have e00:((0:Int) != 0)=false:=rfl;have e0:((0:Int)==0)=true:=rfl;have bb:((true:Bool)==true)=true:=rfl;have bf:((false:Bool)==false)=true:=rfl;have ih:=YJ hl hw k (i+1) nn ((v:Int)+1) (by omega) (by omega) (by omega) (by omega)
   rw[ev,Bj Xa] at ac;obtain⟨_,hg,ev2,_⟩:=LC (w:=w) (v:=(v:Int)+1) (by omega) (by omega)
   have st:=EP (fu:=20000) (d:=18) (hg.sizes (by omega)).1 3 10
   rw[Ahe (by omega) (by omega)] at st
   rw[←ih];clear ih hg;generalize QZ w ((v:Int)+1)=E at *
   generalize Rs 5 4=K at *
   by_cases hg:u>=w
   ·have g1:decide (u>=w)=true:=by simp[hg]
    have g2:decide ((v:Int)+1>=w)=true:=by simp;omega
    rw[Cy (by omega)] at st
    have e4:((4:Int)==4)=true:=rfl;rw[g1,g2];generalize Vq w u=M at *
    generalize Vq w ((v:Int)+1)=M2 at *
    simp only[Md.cells,Ky.cells,ev] at ac ky st ⊢
    try unfold Aa
    repeat first
     |((with_reducible first|apply Ax|apply Ap|apply Az|apply A9|apply Bq|apply Bv|apply Bp|apply Aq|apply A4|apply A3);· first|with_reducible rfl|(simp (disch:=omega) only[gT,gx,hm,gA,Hs,Dp,C8,ky,ac,wv,d1,e00,e0,bb,D2,st,e4,wi]<;>first|with_reducible rfl|omega)|omega)
     |(with_reducible apply Ay;· first|with_reducible rfl|(simp (disch:=omega) only[gF,gx,hm,gA,Hs,Dp,C8,ky,ac,wv,d1,e00,e0,bb,D2,st,e4,wi]<;>omega))
    try simp (disch:=omega) only[gx,hm,gA,Hs,Dp,C8,ky,ac,wv,d1,e00,e0,bb,D2,st,e4,wi]
    all_goals rfl
   ·have g1:decide (u>=w)=false:=by simp;omega
    rw[g1];by_cases hg2:(v:Int)+1>=w
    ·have g2:decide ((v:Int)+1>=w)=true:=by simp[hg2]
     rw[Cy hg2] at st;have e4:((4:Int)==4)=true:=rfl;rw[g2];generalize Vq w u=M at *
     generalize Vq w ((v:Int)+1)=M2 at *
     simp only[Md.cells,Ky.cells,ev] at ac ky st ⊢
     try unfold Aa
     repeat first
      |((with_reducible first|apply Ax|apply Ap|apply Az|apply A9|apply Bq|apply Bv|apply Bp|apply Aq|apply A4|apply A3);· first|with_reducible rfl|(simp (disch:=omega) only[gT,gx,hm,gA,Hs,Dp,C8,ky,ac,wv,d1,g2,e00,e0,bb,D2,st,e4,wi]<;>first|with_reducible rfl|omega)|omega)
      |(with_reducible apply Ay;· first|with_reducible rfl|(simp (disch:=omega) only[gF,gx,hm,gA,Hs,Dp,C8,ky,ac,wv,d1,g2,e00,e0,bb,D2,st,e4,wi]<;>omega))
     try simp (disch:=omega) only[gx,hm,gA,Hs,Dp,C8,ky,ac,wv,d1,g2,e00,e0,bb,D2,st,e4,wi]
     all_goals rfl
    ·have g2:decide ((v:Int)+1>=w)=false:=by simp;omega
     rw[Bj hg2] at st;have e4:((1:Int)==4)=false:=rfl;rw[g2];generalize Vq w u=M at *
     generalize Vq w ((v:Int)+1)=M2 at *
     simp only[Md.cells,Ky.cells,ev] at ac ky st ⊢
     try unfold Aa
     repeat first
      |((with_reducible first|apply Ax|apply Ap|apply Az|apply A9|apply Bq|apply Bv|apply Bp|apply Aq|apply A4|apply A3);· first|with_reducible rfl|(simp (disch:=omega) only[gT,gx,hm,gA,Hs,Dp,C8,ky,ac,wv,d1,g2,e00,e0,bb,bf,D2,st,e4,wi]<;>first|with_reducible rfl|omega)|omega)
      |(with_reducible apply Ay;· first|with_reducible rfl|(simp (disch:=omega) only[gF,gx,hm,gA,Hs,Dp,C8,ky,ac,wv,d1,g2,e00,e0,bb,bf,D2,st,e4,wi]<;>omega))
     try simp (disch:=omega) only[gx,hm,gA,Hs,Dp,C8,ky,ac,wv,d1,g2,e00,e0,bb,bf,D2,st,e4,wi]
     all_goals rfl
theorem A3o (hl:Kg l){w:Int}(hw:1<=w):
  Dy 20000 (Ad C0 prog 20000 19) l.length (Af .u8 l) a1 20000 l.length (Af .u8 l) w 16 false 0 (Tu w 16) 0 0 0 0 0 0 0 [] [] []=some ⟨[.sc (.bool true)],[]⟩:=by
 have aw:=XC (fu:=20000) (d:=5) (by omega)
 rw[Lo 20000 _ _ _ _ 19999];by_cases c1:0<l.length
 rotate_left
 ·skip
  try unfold Aa
  repeat first
   |((with_reducible first|apply Ax|apply Ap|apply Az|apply A9|apply Bq|apply Bv|apply Bp|apply Aq|apply A4|apply A3);· first|with_reducible rfl|(simp (disch:=omega) only[gT,aw]<;>first|with_reducible rfl|omega)|omega)
   |(with_reducible apply Ay;· first|with_reducible rfl|(simp (disch:=omega) only[gF,aw]<;>omega))
  try simp (disch:=omega) only[aw]
  all_goals rfl
 have hx:=List.getElem?_eq_getElem c1;have hxb:=hl _ (List.getElem_mem c1);generalize l[0]=x at hx hxb;obtain⟨v,hv,hm⟩:=Av7 hxb;have gx:=BI (k:=.u8) hx;have gA:=Ab4 (w:=w) hv;have wi:wrap .i64 ((0:Int)+1)=((1:Nat):Int):=by decide
 have wv:wrap .i64 ((v:Int)+1)=(v:Int)+1:=Ak (by omega) (by omega)
 have ky:=Afj (fu:=20000) (d:=6) (by omega) 5 4
 obtain⟨hB,hL⟩:=Agu (w:=w) (v:=(v:Int)+1) (by omega) (by omega)
 have ac:=EL (fu:=20000) (d:=7) (by omega) hB (by omega) TY (Rs 5 4) 10
 rw[Apb (by omega) (by omega),Bj (by show ¬((v:Int)+1<=0);omega)] at ac
 have ac:Ad C0 prog 20000 19 F7 [.agg (mC 0 0 0 0 []),.lst false 1 (QZ w ((v:Int)+1)).length (Af .u8 (QZ w ((v:Int)+1))),.agg (Rs 5 4).cells,.sc (.int .i64 10)]=some ⟨[.agg (Vq w ((v:Int)+1)).cells,.sc (.int .i64 0)],[]⟩:=ac;have d1:decide ((v:Int)+1>0)=true:=by simp<;>omega
 have hvn:(0:Int)<=v:=by omega
 have A7g:(v:Int)<16:=by omega
 have e00:((0:Int) != 0)=false:=rfl;have e0:((0:Int)==0)=true:=rfl;have bb:((true:Bool)==true)=true:=rfl;have bf:((false:Bool)==false)=true:=rfl;have ih:=YJ hl (a1:=a1) hw 29 1 19999 ((v:Int)+1) (by omega) (by omega) (by omega) (by omega)
 obtain⟨_,hg,ev2,_⟩:=LC (w:=w) (v:=(v:Int)+1) (by omega) (by omega)
 have st:=EP (fu:=20000) (d:=18) (hg.sizes (by omega)).1 3 10
 rw[Ahe (by omega) (by omega)] at st
 have tz:Int.toNat 0=0:=rfl;rw[←ih];clear ih hg;generalize QZ w ((v:Int)+1)=E at *
 generalize Rs 5 4=K at *
 generalize Vq w ((v:Int)+1)=M2 at *
 by_cases hg2:(v:Int)+1>=w
 ·have g2:decide ((v:Int)+1>=w)=true:=by simp[hg2]
  rw[Cy hg2] at st;have e4:((4:Int)==4)=true:=rfl;rw[g2];simp only[Md.cells,Ky.cells] at ac ky st ⊢
  try unfold Aa
  repeat first
   |((with_reducible first|apply Ax|apply Ap|apply Az|apply A9|apply Bq|apply Bv|apply Bp|apply Aq|apply A4|apply A3);· first|with_reducible rfl|(simp (disch:=omega) only[gT,tz,gx,hm,gA,Hs,Dp,C8,W5,List.drop_nil,List.take_nil,Nat.zero_mul,ky,ac,wv,d1,g2,e00,e0,bb,D2,st,e4,wi]<;>first|with_reducible rfl|omega)|omega)
   |(with_reducible apply Ay;· first|with_reducible rfl|(simp (disch:=omega) only[gF,tz,gx,hm,gA,Hs,Dp,C8,W5,List.drop_nil,List.take_nil,Nat.zero_mul,ky,ac,wv,d1,g2,e00,e0,bb,D2,st,e4,wi]<;>omega))
  try simp (disch:=omega) only[tz,gx,hm,gA,Hs,Dp,C8,W5,List.drop_nil,List.take_nil,Nat.zero_mul,ky,ac,wv,d1,g2,e00,e0,bb,D2,st,e4,wi]
  all_goals rfl
 ·have g2:decide ((v:Int)+1>=w)=false:=by simp;omega
  rw[Bj hg2] at st;have e4:((1:Int)==4)=false:=rfl;rw[g2];simp only[Md.cells,Ky.cells] at ac ky st ⊢
  try unfold Aa
  repeat first
   |((with_reducible first|apply Ax|apply Ap|apply Az|apply A9|apply Bq|apply Bv|apply Bp|apply Aq|apply A4|apply A3);· first|with_reducible rfl|(simp (disch:=omega) only[gT,tz,gx,hm,gA,Hs,Dp,C8,W5,List.drop_nil,List.take_nil,Nat.zero_mul,ky,ac,wv,d1,g2,e00,e0,bb,bf,D2,st,e4,wi]<;>first|with_reducible rfl|omega)|omega)
   |(with_reducible apply Ay;· first|with_reducible rfl|(simp (disch:=omega) only[gF,tz,gx,hm,gA,Hs,Dp,C8,W5,List.drop_nil,List.take_nil,Nat.zero_mul,ky,ac,wv,d1,g2,e00,e0,bb,bf,D2,st,e4,wi]<;>omega))
  try simp (disch:=omega) only[tz,gx,hm,gA,Hs,Dp,C8,W5,List.drop_nil,List.take_nil,Nat.zero_mul,ky,ac,wv,d1,g2,e00,e0,bb,bf,D2,st,e4,wi]
  all_goals rfl
end
theorem metadataForward_plain (qs:List PV)(h:Bw (WTv prog) [22,5] qs):∃fu d,Ad C0 prog fu d H7 qs=some ⟨[.sc (.bool true)],[]⟩:=by
 obtain⟨q0,_,rfl,h0,g⟩:=h.cons_inv;obtain⟨q1,_,rfl,h1,g⟩:=g.cons_inv;obtain rfl:=g.nil_inv;clear h g;obtain⟨l,rfl,CP,hbw⟩:=Apy (k:=.u8) (e:=5) (by kernel_rfl) (by kernel_rfl) (by kernel_rfl) (by kernel_rfl) h0
 have hb:Kg l:=fun x hx=>Awv (hbw x hx)
 obtain⟨b,rfl,hw⟩:=Atn (k:=.u8) (by kernel_rfl) (by kernel_rfl) h1
 have hw:=Awv hw;clear h0 h1;refine⟨20000,20,?_⟩;refine (Ni 20000 19 l.length (Af .u8 l) b).trans ?_
 obtain⟨w,hw1,hwe⟩:∃w:Int,1<=w∧wrap .i64 (1+wrap .i64 (Int.tmod b 15))=w:=by
  obtain⟨b0,b1⟩:=hw;refine⟨1+b % 15,by omega,?_⟩
  rw[Int.tmod_eq_emod_of_nonneg b0,Ak (x:=b % 15) (by omega) (by omega),Ak (by omega) (by omega)]
 show Cl 20000 (Ad C0 prog 20000 19) l.length (Af .u8 l) b 20000 l.length (Af .u8 l) (wrap .i64 (1+wrap .i64 (Int.tmod b 15))) 0 1 []=_;rw[hwe];have z:=Awr (l:=l) (a1:=b) hw1 16 0 20000 (by omega) (by omega)
 have z0:((0:Nat):Int)+1=1:=rfl;rw[z0] at z;exact z.trans (A3o hb hw1)
end
section
open Go.Proofs.Tryd (prog)
open Go.IntKind (wrap)
open Go Go.RowKit
def sL:Code->Code
 |.seq a _=>a
 |c=>c
def sR:Code->Code
 |.seq _ b=>b
 |c=>c
def sB:Code->Code
 |.block _ c=>c
 |.loop c=>c
 |c=>c
def sF:Code->Code
 |.rangeFunc _ _ _ b=>b
 |c=>c
def sA:Code->Code
 |.rangeFunc _ _ a _=>a
 |c=>c
def Gw:Code->Array Oper
 |.region _ ops _=>ops
 |_=> #[]
noncomputable abbrev DG:Code:=Ca Tryd.f47
noncomputable abbrev OT:Code:=Ca Tryd.f11
def CS:I3:={ CB with shr:=fun _=>true }
noncomputable abbrev KA (N:Nat)(call:Ah)(c:Code)(L:Nat)(s:St):Option (Nat × St):=
 Mq CB prog 2000 N call c L (fun _=>L) 0 (fun s=>Ir N L s fun s'=>some (0,s')) (fun id s=>Ir N L s fun s'=>some (id+1,s')) (fun _=>none) s
section
variable {N:Nat} {w0:World} {X0:Fp} {Y:Nat->Prop} {β:Bt} {s s1:St} {a:Act} {w:World}
theorem Df {G:Us}(Ja:JJ prog G w0 X0)(hm:prog.follows .mixedOrders=true){call:Ah}(C4:∀f args res,call f args=some res->C7 G prog f args res){c:Code}{L t:Nat}{Q:Exit->Act->World->Prop}(h:B4 N w0 X0 Y β s a w)
  (hk:KA N call c L s=some (t,s1)) (hQ:∀a' w' β',B4 N w0 X0 Y β' s1 a' w'->match t with|0=>Q .normal a' w'|id+1=>Q (.exit id) a' w'):c.wp prog Q a w:=by
 refine CK Ja C4 hm c h hk (fun s' a' w' β' h1 h2=>?_) (fun id s' a' w' β' h1 h2=>?_) (fun s' a' w' β' h1 h2=>by cases h1)
 ·obtain⟨β1,s2,h3,h4⟩:=B6 h2 h1;cases h3;exact hQ _ _ _ h4
 ·obtain⟨β1,s2,h3,h4⟩:=B6 h2 h1;cases h3;exact hQ _ _ _ h4
theorem BK {G:Us}(Ja:JJ prog G w0 X0)(hm:prog.follows .mixedOrders=true){call:Ah}(C4:∀f args res,call f args=some res->C7 G prog f args res){ro:Option Nat}{n:Nat}{c:Code}(ho:okR c=true){L t:Nat}{Q:Exit->Act->World->Prop}(CL:∀a w,¬Q .outgrown a w)(h:B4 N w0 X0 Y β s a w)
  (hk:KA N call c L s=some (t,s1)) (hQ:∀a' w' β',B4 N w0 X0 Y β' s1 a' w'->match t with|0=>Q .normal a' w'|id+1=>Q (.exit id) a' w'):c.wpIn (WF ro) n prog Q a w:=by
 refine JX Ja C4 hm c ho CL h hk (fun s' a' w' β' h1 h2=>?_) (fun id s' a' w' β' h1 h2=>?_) (fun s' a' w' β' h1 h2=>by cases h1)
 ·obtain⟨β1,s2,h3,h4⟩:=B6 h2 h1;cases h3;exact hQ _ _ _ h4
 ·obtain⟨β1,s2,h3,h4⟩:=B6 h2 h1;cases h3;exact hQ _ _ _ h4
end
end
section
open Go.Proofs.Tryd (prog)
open Go.IntKind (wrap)
set_option maxRecDepth 100000
theorem Azq (call:Ah)(yv:Value)(h seed:Int):KA 63 call (sL DG) 23 ⟨lk [(0,.sc yv),(1,.iptr [.sc (.int .i64 h)] 0),(2,.iptr [.sc (.int .u64 seed)] 0)],Br []⟩=(
 Ar (decide ((0:Int)<=h)) <|
 Aa (Jj IntKind.i64 (1:Int) h) fun x1=>
 Ar (decide ((0:Int)<=x1)&&decide (x1<=x1)&&decide (x1*(8:Int)<=(1099511627776:Int))&&decide (x1<=(1099511627776:Int))) <|
 some (0,⟨lk [(0,(.sc (yv))),(1,(.iptr ([PV.sc (Value.int IntKind.i64 h)]) ((0:Nat)))),(2,(.iptr ([PV.sc (Value.int IntKind.u64 seed)]) ((0:Nat)))),(4,(.view 4 1 0 (Int.toNat x1)))],Br [(4,(.ar false (Up (Int.toNat x1) [PV.sc (Value.int IntKind.u64 (0:Int))])))]⟩)):=by kernel_rfl
theorem Azu (call:Ah)(yv:Value)(h seed:Int)(n:Nat)(c:List PV):KA 63 call (sL (sL (sR DG))) 24599 ⟨lk [(0,.sc yv),(1,.iptr [.sc (.int .i64 h)] 0),(2,.iptr [.sc (.int .u64 seed)] 0),(4,.view 4 1 0 n)],Br [(4,.ar false c)]⟩=(
 some (0,⟨lk [(0,(.sc (yv))),(1,(.iptr ([PV.sc (Value.int IntKind.i64 h)]) ((0:Nat)))),(2,(.iptr ([PV.sc (Value.int IntKind.u64 seed)]) ((0:Nat)))),(4,(.view 4 1 0 (n))),(13,(.sc (.int .i64 ((↑n:Int))))),(14,(.sc (.int .i64 ((0:Int)))))],Br [(4,(.ar false (c)))]⟩)):=by kernel_rfl
theorem Ap8 (call:Ah)(yv:Value)(h seed m i:Int)(n:Nat)(c:List PV):KA 63 call (sB (sB (sR (sL (sR DG))))) 24599 ⟨lk [(0,.sc yv),(1,.iptr [.sc (.int .i64 h)] 0),(2,.iptr [.sc (.int .u64 seed)] 0),(4,.view 4 1 0 n),(13,.sc (.int .i64 m)),(14,.sc (.int .i64 i))],Br [(4,.ar false c)]⟩=(
  Bi (decide (i<m))
   (
   Ai (call (48:Nat) [PV.sc (Value.int IntKind.u64 seed),PV.sc (Value.int IntKind.i64 i)]) fun x1 x2=>
   Ac (x2) <|
   Ab (x1) fun x3 x4=>
   Ae (IntKind.u64) (x3) fun x5=>
   Ac (x4) <|
   Ar (decide ((0:Int)<=i)&&decide (i<(↑n:Int))) <|
   Ar (decide ((0:Nat)+Int.toNat i*(1:Nat)+(1:Nat)<=List.length c)) <|
   Aa (Bn c [PV.sc (Value.int IntKind.u64 x5)] ((0:Nat)+Int.toNat i*(1:Nat))) fun x6=>
   Aa (wrap IntKind.i64 (i+(1:Int))) fun x7=>
   some (0,⟨lk [(0,(.sc (yv))),(1,(.iptr ([PV.sc (Value.int IntKind.i64 h)]) ((0:Nat)))),(2,(.iptr ([PV.sc (Value.int IntKind.u64 seed)]) ((0:Nat)))),(4,(.view 4 1 0 (n))),(13,(.sc (.int .i64 (m)))),(14,(.sc (.int .i64 (x7))))],Br [(4,(.ar false (x6)))]⟩))
   (
   some (1,⟨lk [(0,(.sc (yv))),(1,(.iptr ([PV.sc (Value.int IntKind.i64 h)]) ((0:Nat)))),(2,(.iptr ([PV.sc (Value.int IntKind.u64 seed)]) ((0:Nat)))),(4,(.view 4 1 0 (n))),(13,(.sc (.int .i64 (m)))),(14,(.sc (.int .i64 (i))))],Br [(4,(.ar false (c)))]⟩))):=by kernel_rfl
theorem Ax6 (call:Ah)(yv:Value)(h seed m i:Int)(n:Nat)(c:List PV):KA 63 call (sL (sR (sR DG))) 87 ⟨lk [(0,.sc yv),(1,.iptr [.sc (.int .i64 h)] 0),(2,.iptr [.sc (.int .u64 seed)] 0),(4,.view 4 1 0 n),(13,.sc (.int .i64 m)),(14,.sc (.int .i64 i))],Br [(4,.ar false c)]⟩=(
 some (0,⟨lk [(0,(.sc (yv))),(1,(.iptr ([PV.sc (Value.int IntKind.i64 h)]) ((0:Nat)))),(2,(.iptr ([PV.sc (Value.int IntKind.u64 seed)]) ((0:Nat)))),(4,(.view 4 1 0 (n))),(6,(.sc (.int .i64 ((0:Int)))))],Br [(4,(.ar false (c)))]⟩)):=by kernel_rfl
theorem Azn (call:Ah)(yv:Value)(h seed k:Int)(n:Nat)(c:List PV):KA 63 call (sL (sB (sL (sR (sB (sB (sR (sR (sR DG))))))))) 215 ⟨lk [(0,.sc yv),(1,.iptr [.sc (.int .i64 h)] 0),(2,.iptr [.sc (.int .u64 seed)] 0),(4,.view 4 1 0 n),(6,.sc (.int .i64 k))],Br [(4,.ar false c)]⟩=(
 Aa (wrap IntKind.i64 (Int.tdiv (↑n:Int) (2:Int))) fun x1=>
 Ar (decide ((0:Int)<=x1)&&decide (x1<=x1)&&decide (x1*(8:Int)<=(1099511627776:Int))&&decide (x1<=(1099511627776:Int))) <|
 some (0,⟨lk [(0,(.sc (yv))),(1,(.iptr ([PV.sc (Value.int IntKind.i64 h)]) ((0:Nat)))),(2,(.iptr ([PV.sc (Value.int IntKind.u64 seed)]) ((0:Nat)))),(4,(.view 4 1 0 (n))),(6,(.sc (.int .i64 (k)))),(7,(.view 7 1 0 (Int.toNat x1)))],Br [(4,(.ar false (c))),(7,(.ar false (Up (Int.toNat x1) [PV.sc (Value.int IntKind.u64 (0:Int))])))]⟩)):=by kernel_rfl
theorem Axq (call:Ah)(yv:Value)(h seed k:Int)(n m:Nat)(c e:List PV):KA 63 call (sL (sL (sR (sB (sL (sR (sB (sB (sR (sR (sR DG))))))))))) 3298534883543 ⟨lk [(0,.sc yv),(1,.iptr [.sc (.int .i64 h)] 0),(2,.iptr [.sc (.int .u64 seed)] 0),(4,.view 4 1 0 n),(6,.sc (.int .i64 k)),(7,.view 7 1 0 m)],Br [(4,.ar false c),(7,.ar false e)]⟩=(
 some (0,⟨lk [(0,(.sc (yv))),(1,(.iptr ([PV.sc (Value.int IntKind.i64 h)]) ((0:Nat)))),(2,(.iptr ([PV.sc (Value.int IntKind.u64 seed)]) ((0:Nat)))),(4,(.view 4 1 0 (n))),(6,(.sc (.int .i64 (k)))),(7,(.view 7 1 0 (m))),(40,(.sc (.int .i64 ((↑m:Int))))),(41,(.sc (.int .i64 ((0:Int)))))],Br [(4,(.ar false (c))),(7,(.ar false (e)))]⟩)):=by kernel_rfl
theorem Ap2 (call:Ah)(yv:Value)(h seed k p i:Int)(n m:Nat)(c e:List PV):KA 63 call (sB (sB (sR (sL (sR (sB (sL (sR (sB (sB (sR (sR (sR DG))))))))))))) 3298534883543 ⟨lk [(0,.sc yv),(1,.iptr [.sc (.int .i64 h)] 0),(2,.iptr [.sc (.int .u64 seed)] 0),(4,.view 4 1 0 n),(6,.sc (.int .i64 k)),(7,.view 7 1 0 m),(40,.sc (.int .i64 p)),(41,.sc (.int .i64 i))],Br [(4,.ar false c),(7,.ar false e)]⟩=(
  Bi (decide (i<p))
   (
   Aa (wrap IntKind.i64 (k+(1:Int))) fun x1=>
   Aa (wrap IntKind.i64 ((2:Int)*i)) fun x2=>
   Ar (decide ((0:Int)<=x2)&&decide (x2<(↑n:Int))) <|
   Ae (IntKind.u64) (List.getD c ((0:Nat)+Int.toNat x2*(1:Nat)) PV.top) fun x3=>
   Aa (wrap IntKind.i64 ((2:Int)*i)) fun x4=>
   Aa (wrap IntKind.i64 (x4+(1:Int))) fun x5=>
   Ar (decide ((0:Int)<=x5)&&decide (x5<(↑n:Int))) <|
   Ae (IntKind.u64) (List.getD c ((0:Nat)+Int.toNat x5*(1:Nat)) PV.top) fun x6=>
   Ai (call (49:Nat) [PV.sc (Value.int IntKind.i64 x1),PV.sc (Value.int IntKind.u64 x3),PV.sc (Value.int IntKind.u64 x6)]) fun x7 x8=>
   Ac (x8) <|
   Ab (x7) fun x9 C6=>
   Ae (IntKind.u64) (x9) fun Dr=>
   Ac (C6) <|
   Ar (decide ((0:Int)<=i)&&decide (i<(↑m:Int))) <|
   Ar (decide ((0:Nat)+Int.toNat i*(1:Nat)+(1:Nat)<=List.length e)) <|
   Aa (Bn e [PV.sc (Value.int IntKind.u64 Dr)] ((0:Nat)+Int.toNat i*(1:Nat))) fun Eg=>
   Aa (wrap IntKind.i64 (i+(1:Int))) fun Ez=>
   some (0,⟨lk [(0,(.sc (yv))),(1,(.iptr ([PV.sc (Value.int IntKind.i64 h)]) ((0:Nat)))),(2,(.iptr ([PV.sc (Value.int IntKind.u64 seed)]) ((0:Nat)))),(4,(.view 4 1 0 (n))),(6,(.sc (.int .i64 (k)))),(7,(.view 7 1 0 (m))),(40,(.sc (.int .i64 (p)))),(41,(.sc (.int .i64 (Ez))))],Br [(4,(.ar false (c))),(7,(.ar false (Eg)))]⟩))
   (
   some (5,⟨lk [(0,(.sc (yv))),(1,(.iptr ([PV.sc (Value.int IntKind.i64 h)]) ((0:Nat)))),(2,(.iptr ([PV.sc (Value.int IntKind.u64 seed)]) ((0:Nat)))),(4,(.view 4 1 0 (n))),(6,(.sc (.int .i64 (k)))),(7,(.view 7 1 0 (m))),(40,(.sc (.int .i64 (p)))),(41,(.sc (.int .i64 (i))))],Br [(4,(.ar false (c))),(7,(.ar false (e)))]⟩))):=by kernel_rfl
theorem Ayi (call:Ah)(yv:Value)(h seed k p i:Int)(n m:Nat)(c e:List PV):KA 63 call (sR (sR (sB (sL (sR (sB (sB (sR (sR (sR DG)))))))))) 87 ⟨lk [(0,.sc yv),(1,.iptr [.sc (.int .i64 h)] 0),(2,.iptr [.sc (.int .u64 seed)] 0),(4,.view 4 1 0 n),(6,.sc (.int .i64 k)),(7,.view 7 1 0 m),(40,.sc (.int .i64 p)),(41,.sc (.int .i64 i))],Br [(4,.ar false c),(7,.ar false e)]⟩=(
 some (0,⟨lk [(0,(.sc (yv))),(1,(.iptr ([PV.sc (Value.int IntKind.i64 h)]) ((0:Nat)))),(2,(.iptr ([PV.sc (Value.int IntKind.u64 seed)]) ((0:Nat)))),(4,(.view 4 1 0 (m))),(6,(.sc (.int .i64 (k))))],Br [(4,(.ar false (e)))]⟩)):=by kernel_rfl
theorem A0o (call:Ah)(yv:Value)(h seed k:Int)(n:Nat)(c:List PV):KA 63 call (sR (sR (sB (sB (sR (sR (sR DG))))))) 87 ⟨lk [(0,.sc yv),(1,.iptr [.sc (.int .i64 h)] 0),(2,.iptr [.sc (.int .u64 seed)] 0),(4,.view 4 1 0 n),(6,.sc (.int .i64 k))],Br [(4,.ar false c)]⟩=(
 Aa (wrap IntKind.i64 (k+(1:Int))) fun x1=>
 some (0,⟨lk [(0,(.sc (yv))),(1,(.iptr ([PV.sc (Value.int IntKind.i64 h)]) ((0:Nat)))),(2,(.iptr ([PV.sc (Value.int IntKind.u64 seed)]) ((0:Nat)))),(4,(.view 4 1 0 (n))),(6,(.sc (.int .i64 (x1))))],Br [(4,(.ar false (c)))]⟩)):=by kernel_rfl
theorem Ayk (call:Ah)(yv:Value)(h seed k:Int)(n:Nat)(c:List PV):Ke CB prog 63 call (Gw (sL (sL (sB (sB (sR (sR (sR DG)))))))) (List.take 3 (Gw (sL (sL (sB (sB (sR (sR (sR DG)))))))).toList) ⟨lk [(0,.sc yv),(1,.iptr [.sc (.int .i64 h)] 0),(2,.iptr [.sc (.int .u64 seed)] 0),(4,.view 4 1 0 n),(6,.sc (.int .i64 k))],Br [(4,.ar false c)]⟩ (fun s=>Ir 63 117440599 s fun s'=>some (0,s'))=(
 some (0,⟨lk [(0,(.sc (yv))),(1,(.iptr ([PV.sc (Value.int IntKind.i64 h)]) ((0:Nat)))),(2,(.iptr ([PV.sc (Value.int IntKind.u64 seed)]) ((0:Nat)))),(4,(.view 4 1 0 (n))),(6,(.sc (.int .i64 (k)))),(24,(.sc (yv))),(25,(.sc (.int .i64 (k)))),(26,(.view 4 1 0 (n)))],Br [(4,(.ar false (c)))]⟩)):=by kernel_rfl
theorem Atm (call:Ah)(yv:Value)(h seed k:Int)(n:Nat)(c:List PV):Ke CB prog 63 call (Gw (sL (sL (sB (sB (sR (sR (sR DG)))))))) (List.drop 4 (Gw (sL (sL (sB (sB (sR (sR (sR DG)))))))).toList) ⟨lk [(0,.sc yv),(1,.iptr [.sc (.int .i64 h)] 0),(2,.iptr [.sc (.int .u64 seed)] 0),(4,.view 4 1 0 n),(6,.sc (.int .i64 k)),(27,.sc (.bool true))],Br [(4,.ar false c)]⟩ (fun s=>Ir 63 4294967383 s fun s'=>some (0,s'))=(
 some (0,⟨lk [(0,(.sc (yv))),(1,(.iptr ([PV.sc (Value.int IntKind.i64 h)]) ((0:Nat)))),(2,(.iptr ([PV.sc (Value.int IntKind.u64 seed)]) ((0:Nat)))),(4,(.view 4 1 0 (n))),(6,(.sc (.int .i64 (k)))),(32,(.sc (.bool (decide (k<h)))))],Br [(4,(.ar false (c)))]⟩)):=by kernel_rfl
theorem Avh (call:Ah)(yv:Value)(h seed k:Int)(n:Nat)(c:List PV):Ke CB prog 63 call (Gw (sL (sL (sB (sB (sR (sR (sR DG)))))))) (List.drop 4 (Gw (sL (sL (sB (sB (sR (sR (sR DG)))))))).toList) ⟨lk [(0,.sc yv),(1,.iptr [.sc (.int .i64 h)] 0),(2,.iptr [.sc (.int .u64 seed)] 0),(4,.view 4 1 0 n),(6,.sc (.int .i64 k)),(27,.sc (.bool false))],Br [(4,.ar false c)]⟩ (fun s=>Ir 63 4294967383 s fun s'=>some (0,s'))=(
 some (0,⟨lk [(0,(.sc (yv))),(1,(.iptr ([PV.sc (Value.int IntKind.i64 h)]) ((0:Nat)))),(2,(.iptr ([PV.sc (Value.int IntKind.u64 seed)]) ((0:Nat)))),(4,(.view 4 1 0 (n))),(6,(.sc (.int .i64 (k)))),(32,(.sc (.bool (false))))],Br [(4,(.ar false (c)))]⟩)):=by kernel_rfl
theorem Aq5 (call:Ah)(yv:Value)(h seed k:Int)(n:Nat)(c:List PV)(q:Bool):KA 63 call (sR (sL (sB (sB (sR (sR (sR DG))))))) 87 ⟨lk [(0,.sc yv),(1,.iptr [.sc (.int .i64 h)] 0),(2,.iptr [.sc (.int .u64 seed)] 0),(4,.view 4 1 0 n),(6,.sc (.int .i64 k)),(32,.sc (.bool q))],Br [(4,.ar false c)]⟩=(
  Bi (q)
   (
   some (0,⟨lk [(0,(.sc (yv))),(1,(.iptr ([PV.sc (Value.int IntKind.i64 h)]) ((0:Nat)))),(2,(.iptr ([PV.sc (Value.int IntKind.u64 seed)]) ((0:Nat)))),(4,(.view 4 1 0 (n))),(6,(.sc (.int .i64 (k))))],Br [(4,(.ar false (c)))]⟩))
   (
   some (3,⟨lk [(0,(.sc (yv))),(1,(.iptr ([PV.sc (Value.int IntKind.i64 h)]) ((0:Nat)))),(2,(.iptr ([PV.sc (Value.int IntKind.u64 seed)]) ((0:Nat)))),(4,(.view 4 1 0 (n))),(6,(.sc (.int .i64 (k))))],Br [(4,(.ar false (c)))]⟩))):=by kernel_rfl
theorem Azl (call:Ah)(seed h leaf m:Int):KA 48 call (sL OT) 873 ⟨lk [(0,.sc (.int .u64 seed)),(1,.sc (.int .i64 h)),(2,.sc (.int .i64 leaf)),(3,.sc (.int .u64 m))],Br []⟩=(
 some (0,⟨lk [(0,(.sc (.int .u64 (seed)))),(3,(.sc (.int .u64 (m)))),(5,(.ptr 5 0)),(6,(.ptr 6 0)),(8,(.ptr 8 0)),(9,(.sc (.int .i64 ((0:Int)))))],Br [(5,(.st [(.sc (.int .i64 (h)))])),(6,(.st [(.sc (.int .i64 (leaf)))])),(8,(.st [(.sc (.int .i64 ((0:Int)))),(.view 104 1 0 ((0:Nat))),(.view 152 1 0 ((0:Nat)))])),(104,(.ar false ([]))),(152,(.ar false ([])))]⟩)):=by kernel_rfl
theorem Az8 (call:Ah)(seed h leaf m:Int):KA 48 call (sL (sR OT)) 873 ⟨lk [(0,.sc (.int .u64 seed)),(3,.sc (.int .u64 m)),(5,.ptr 5 0),(6,.ptr 6 0),(8,.ptr 8 0),(9,.sc (.int .i64 0))],Br [(5,.st [.sc (.int .i64 h)]),(6,.st [.sc (.int .i64 leaf)]),(8,.st [.sc (.int .i64 0),.view 104 1 0 0,.view 152 1 0 0]),(104,.ar false []),(152,.ar false [])]⟩=(
  Ai (call (22:Nat) [PV.sc (Value.int IntKind.i64 h)]) fun x1 x2=>
  Ac (x2) <|
  Ab (x1) fun x3 x4=>
  Bu (x3) fun x5=>
  Ac (x4) <|
  Bi (x5)
   (
   none)
   (
   Ai (call (23:Nat) [PV.sc (Value.int IntKind.i64 leaf),PV.sc (Value.int IntKind.i64 h)]) fun x6 x7=>
   Ac (x7) <|
   Ab (x6) fun x8 x9=>
   Bu (x8) fun C6=>
   Ac (x9) <|
   Bi (C6)
    (
    none)
    (
    some (0,⟨lk [(0,(.sc (.int .u64 (seed)))),(3,(.sc (.int .u64 (m)))),(5,(.ptr 5 0)),(6,(.ptr 6 0)),(8,(.ptr 8 0)),(9,(.sc (.int .i64 ((0:Int)))))],Br [(5,(.st [(.sc (.int .i64 (h)))])),(6,(.st [(.sc (.int .i64 (leaf)))])),(8,(.st [(.sc (.int .i64 ((0:Int)))),(.view 104 1 0 ((0:Nat))),(.view 152 1 0 ((0:Nat)))])),(104,(.ar false ([]))),(152,(.ar false ([])))]⟩)))):=by kernel_rfl
theorem Az7 (call:Ah)(seed h leaf m:Int):KA 48 call (sL (sR (sR OT))) 1897 ⟨lk [(0,.sc (.int .u64 seed)),(3,.sc (.int .u64 m)),(5,.ptr 5 0),(6,.ptr 6 0),(8,.ptr 8 0),(9,.sc (.int .i64 0))],Br [(5,.st [.sc (.int .i64 h)]),(6,.st [.sc (.int .i64 leaf)]),(8,.st [.sc (.int .i64 0),.view 104 1 0 0,.view 152 1 0 0]),(104,.ar false []),(152,.ar false [])]⟩=(
 Ai (call (24:Nat) [PV.sc (Value.int IntKind.u64 seed),PV.sc (Value.int IntKind.i64 leaf),PV.sc (Value.int IntKind.u64 m)]) fun x1 x2=>
 Ac (x2) <|
 Ab (x1) fun x3 x4=>
 Gl ((1:Nat)) (x3) fun x5 x6=>
 Ac (x4) <|
 some (0,⟨lk [(0,(.sc (.int .u64 (seed)))),(3,(.sc (.int .u64 (m)))),(5,(.ptr 5 0)),(6,(.ptr 6 0)),(8,(.ptr 8 0)),(9,(.sc (.int .i64 ((0:Int))))),(10,(.ptr 10 0))],Br [(5,(.st [(.sc (.int .i64 (h)))])),(6,(.st [(.sc (.int .i64 (leaf)))])),(8,(.st [(.sc (.int .i64 ((0:Int)))),(.view 104 1 0 ((0:Nat))),(.view 152 1 0 ((0:Nat)))])),(104,(.ar false ([]))),(152,(.ar false ([]))),(10,(.st [(.sc (.int .i64 (leaf))),(.view 106 1 0 (x5)),(.view 154 1 0 ((0:Nat)))])),(106,(.ar false (x6))),(154,(.ar false ([])))]⟩)):=by kernel_rfl
theorem Ao9 (call:Ah)(h leaf k:Int)(ch:Value)(n m:Nat)(c d:List PV):KA 48 call (sF (sB (sR (sL (sR (sR (sR OT))))))) 1024 ⟨lk [(5,.iptr [.sc (.int .i64 h)] 0),(6,.iptr [.sc (.int .i64 leaf)] 0),(10,.ptr 96000 0),(11,.sc (.int .i64 k)),(12,.lst false 1 n c)],Br [(96000,.st [.sc (.int .i64 leaf),.sc ch,.view 20 1 0 m]),(20,.ar false d)]⟩=(
  Bi (k==h)
   (
   some (1,⟨lk [(10,(.ptr 96000 0))],Br [(96000,(.st [(.sc (.int .i64 (leaf))),(.sc (ch)),(.view 96144 1 0 (m))])),(96144,(.ar false (d)))]⟩))
   (
   Ar (decide ((0:Int)<=k)) <|
   Aa (Ik IntKind.i64 leaf k) fun x1=>
   Aa (Ev IntKind.i64 x1 (1:Int)) fun x2=>
   Ar (decide ((0:Int)<=x2)&&decide (x2<(↑n:Int))) <|
   Ae (IntKind.u64) (List.getD c (Int.toNat x2*(1:Nat)) PV.top) fun x3=>
   Ar (decide (m*(1:Nat)<=List.length d)&&true&&decide ((m+(1:Nat))*(8:Nat)<=(1099511627776:Nat))&&decide (m+(1:Nat)<=(1099511627776:Nat))) <|
   Aa (m+(1:Nat)) fun x4=>
   Aa (List.take (m*(1:Nat)) d++[PV.sc (Value.int IntKind.u64 x3)]) fun x5=>
   some (0,⟨lk [(10,(.ptr 96000 0))],Br [(96000,(.st [(.sc (.int .i64 (leaf))),(.sc (ch)),(.view 96144 1 0 (x4))])),(96144,(.ar false (x5)))]⟩))):=by kernel_rfl
theorem Ay5 (call:Ah)(seed h leaf m:Int)(n:Nat)(c:List PV):Ke CB prog 48 call (Gw (sL (sL (sR (sR (sR OT)))))) (List.take 2 (Gw (sL (sL (sR (sR (sR OT)))))).toList) ⟨lk [(0,.sc (.int .u64 seed)),(3,.sc (.int .u64 m)),(5,.ptr 5 0),(6,.ptr 6 0),(8,.ptr 8 0),(9,.sc (.int .i64 0)),(10,.ptr 10 0)],Br [(5,.st [.sc (.int .i64 h)]),(6,.st [.sc (.int .i64 leaf)]),(8,.st [.sc (.int .i64 0),.view 104 1 0 0,.view 152 1 0 0]),(104,.ar false []),(152,.ar false []),(10,.st [.sc (.int .i64 leaf),.view 106 1 0 n,.view 154 1 0 0]),(106,.ar false c),(154,.ar false [])]⟩ (fun s=>Ir 48 402655081 s fun s'=>some (0,s'))=(
 some (0,⟨lk [(0,(.sc (.int .u64 (seed)))),(3,(.sc (.int .u64 (m)))),(5,(.ptr 5 0)),(6,(.ptr 6 0)),(8,(.ptr 8 0)),(9,(.sc (.int .i64 ((0:Int))))),(10,(.ptr 10 0)),(27,(.sc (.int .u64 (seed)))),(28,(.sc (.int .i64 (h))))],Br [(5,(.st [(.sc (.int .i64 (h)))])),(6,(.st [(.sc (.int .i64 (leaf)))])),(8,(.st [(.sc (.int .i64 ((0:Int)))),(.view 104 1 0 ((0:Nat))),(.view 152 1 0 ((0:Nat)))])),(104,(.ar false ([]))),(152,(.ar false ([]))),(10,(.st [(.sc (.int .i64 (leaf))),(.view 106 1 0 (n)),(.view 154 1 0 ((0:Nat)))])),(106,(.ar false (c))),(154,(.ar false ([])))]⟩)):=by kernel_rfl
theorem A0j (call:Ah)(leaf:Int)(n1 n2:Nat)(c1 c2:List PV):Ke CB prog 48 call (Gw (sL (sR (sR (sR (sR OT)))))) (Gw (sL (sR (sR (sR (sR OT)))))).toList ⟨lk [(8,.ptr 96000 0),(9,.sc (.int .i64 0)),(10,.iptr [.sc (.int .i64 leaf),.lst false 1 n1 c1,.lst false 1 n2 c2] 0)],Br [(96000,.st [.top,.top,.top])]⟩ (fun s=>Ir 48 768 s fun s'=>some (0,s'))=(
 some (0,⟨lk [(8,(.ptr 96000 0)),(9,(.sc (.int .i64 ((0:Int)))))],Br [(96000,(.st [(.sc (.int .i64 (leaf))),(.lst false 1 (n1) (c1)),(.lst false 1 (n2) (c2))]))]⟩)):=by kernel_rfl
theorem Axw (a0 a1 a2 a3 leaf:Int)(n1 n2:Nat)(c1 c2:List PV):Acx CS prog 11 Tryd.f11 [.sc (.int .u64 a0),.sc (.int .i64 a1),.sc (.int .i64 a2),.sc (.int .u64 a3)] ⟨lk [(8,.ptr 96000 0),(9,.sc (.int .i64 0))],Br [(96000,.st [.sc (.int .i64 leaf),.lst false 1 n1 c1,.lst false 1 n2 c2])]⟩=(
 some (A5.mk [PV.agg [PV.sc (Value.int IntKind.i64 leaf),PV.lst false (1:Nat) n1 c1,PV.lst false (1:Nat) n2 c2],PV.sc (Value.int IntKind.i64 (0:Int))] [])):=by kernel_rfl
theorem Ays (call:Ah)(seed h leaf m:Int):Aug CS prog 2000 call 11 Tryd.f11 OT [.sc (.int .u64 seed),.sc (.int .i64 h),.sc (.int .i64 leaf),.sc (.int .u64 m)]=(
  Ai (call (22:Nat) [PV.sc (Value.int IntKind.i64 h)]) fun x1 x2=>
  Ac (x2) <|
  Ab (x1) fun x3 x4=>
  Bu (x3) fun x5=>
  Ac (x4) <|
  Bi (x5)
   (
   some (A5.mk [PV.agg [PV.sc (Value.int IntKind.i64 (0:Int)),PV.lst false (1:Nat) (0:Nat) [],PV.lst false (1:Nat) (0:Nat) []],PV.sc (Value.int IntKind.i64 (9:Int))] []))
   (
   Ai (call (23:Nat) [PV.sc (Value.int IntKind.i64 leaf),PV.sc (Value.int IntKind.i64 h)]) fun x6 x7=>
   Ac (x7) <|
   Ab (x6) fun x8 x9=>
   Bu (x8) fun C6=>
   Ac (x9) <|
   Bi (C6)
    (
    some (A5.mk [PV.agg [PV.sc (Value.int IntKind.i64 (0:Int)),PV.lst false (1:Nat) (0:Nat) [],PV.lst false (1:Nat) (0:Nat) []],PV.sc (Value.int IntKind.i64 (9:Int))] []))
    (
    Ai (call (24:Nat) [PV.sc (Value.int IntKind.u64 seed),PV.sc (Value.int IntKind.i64 leaf),PV.sc (Value.int IntKind.u64 m)]) fun Dr Eg=>
    Ac (Eg) <|
    Ab (Dr) fun Ez D7=>
    Fq ((1:Nat)) (Ez) fun Ew Fw Gm=>
    Ac (D7) <|
    Ai (call (25:Nat) [PV.sc (Value.int IntKind.u64 seed),PV.sc (Value.int IntKind.i64 h)]) fun G4 Gi=>
    Ac (Gi) <|
    Ab (G4) fun Gy Jk=>
    fnK (Gy) fun Ia=>
    Ac (Jk) <|
    none))):=by kernel_rfl
end
section
open Go.Proofs.Tryd (prog)
open Go.IntKind (wrap)
set_option maxRecDepth 20000
open Go Go.RowKit
def G1:Us:=⟨fun _=>False,fun _=>True,fun _ _ _ _=>trivial⟩
def noX:FuncId->Option (List PV->Option A5):=fun _=>none
theorem Axz:Ai8 G1 prog (CX noX):=by
 intro f g args res h _;have h':(bif GO.any (Nat.beq f) then none else (none:Option (List PV->Option A5)))=some g:=h;cases hb:GO.any (Nat.beq f)<;>rw[hb] at h'<;>cases h'
noncomputable abbrev cl:Ah:=Ad (CX noX) prog 2000 8
theorem ngT:NoNG prog:=by
 have h:(prog.funcs.toList.all fun fn=> !(fn.name == "runtime.NumGoroutine"))=true:=by kernel_rfl
 intro f fn hf;have:=List.all_eq_true.1 h fn (Array.mem_toList_iff.2 (Array.mem_of_getElem? hf))
 simpa using this
theorem DB:prog.follows .mixedOrders=true:=by kernel_rfl
theorem B3:∀f args res,cl f args=some res->C7 G1 prog f args res:=fun f args res h=>Yk ngT DB Axz 8 f args res h
theorem Is (w0:World)(X0:Fp):JJ prog G1 w0 X0:=⟨ngT,fun _ _=>trivial,fun _ h=>h.elim⟩
def gl (f:Nat->Int)(n i:Nat):List Int:=(List.range i).map f++List.replicate (n-i) 0
theorem App (f:Nat->Int){n i:Nat}(h:i<=n):(gl f n i).length=n:=by simp[gl];omega
theorem Aoo (f:Nat->Int){n i:Nat}(h:i<n):(gl f n i).set i (f i)=gl f n (i+1):=by
 unfold gl;rw[List.set_append_right _ _ (by simp),List.length_map,List.length_range,Nat.sub_self,show n-i=(n-(i+1))+1 by omega,List.replicate_succ,List.set_cons_zero,List.range_succ,List.map_append,XX]
 rfl
theorem Aip (f:Nat->Int)(n:Nat):gl f n n=(List.range n).map f:=by simp[gl]
theorem Ai4 (f:Nat->Int)(n:Nat):gl f n 0=List.replicate n 0:=by simp[gl]
abbrev Ak4 (yv:Value)(h seed:Int)(n:Nat)(m i:Int)(c:List PV):St:=
 ⟨lk [(0,.sc yv),(1,.iptr [.sc (.int .i64 h)] 0),(2,.iptr [.sc (.int .u64 seed)] 0),(4,.view 4 1 0 n),(13,.sc (.int .i64 m)),(14,.sc (.int .i64 i))],Br [(4,.ar false c)]⟩
abbrev Alr (yv:Value)(h seed k:Int)(n m:Nat)(p i:Int)(c e:List PV):St:=
 ⟨lk [(0,.sc yv),(1,.iptr [.sc (.int .i64 h)] 0),(2,.iptr [.sc (.int .u64 seed)] 0),(4,.view 4 1 0 n),(6,.sc (.int .i64 k)),(7,.view 7 1 0 m),(40,.sc (.int .i64 p)),(41,.sc (.int .i64 i))],Br [(4,.ar false c),(7,.ar false e)]⟩
theorem A4c (yv:Value)(h seed:Int){n i:Nat}(hn:n<=1000)(hi:i<n):
  KA 63 cl (sB (sB (sR (sL (sR DG))))) 24599 (Ak4 yv h seed n n i (Af .u64 (gl (fun (j:Nat)=>Jr seed (j:Int)) n i)))=some (0,Ak4 yv h seed n n ((i+1:Nat):Int) (Af .u64 (gl (fun (j:Nat)=>Jr seed (j:Int)) n (i+1)))):=by
 have pb:cl Nt [.sc (.int .u64 seed),.sc (.int .i64 i)]=_:=Akv (xs:=noX) (fu:=2000) (d:=1) (by omega) seed i
 have w:wrap .i64 ((i:Int)+1)=((i+1:Nat):Int):=by rw[Ak (by omega) (by omega)];omega
 have L:(Af .u64 (gl (fun (j:Nat)=>Jr seed (j:Int)) n i)).length=n:=by rw[At,App _ (by omega)]
 have Zk:Bn (Af .u64 (gl (fun (j:Nat)=>Jr seed (j:Int)) n i)) [.sc (.int .u64 (Jr seed i))] i=Af .u64 (gl (fun (j:Nat)=>Jr seed (j:Int)) n (i+1)):=by
  rw[Gs (by omega),Lz]
  exact congrArg _ (Aoo (fun (j:Nat)=>Jr seed (j:Int)) hi)
 refine (Ap8 cl yv h seed n i n (Af .u64 (gl (fun (j:Nat)=>Jr seed (j:Int)) n i))).trans ?_
 simp (disch:=omega) only[Cu,Hs,Dp,C8,pb,L,Zk,w]
theorem A2f (yv:Value)(h seed:Int)(n:Nat)(c:List PV):
  KA 63 cl (sB (sB (sR (sL (sR DG))))) 24599 (Ak4 yv h seed n n n c)=some (1,Ak4 yv h seed n n n c):=
 (Ap8 cl yv h seed n n n c).trans (Fi _ _ _ (by omega))
theorem Abj {yv:Value}{h seed:Int}{n:Nat}(hn:n<=1000):∀(r i nn:Nat),i+r=n->r<nn->∀{w0:World}{X0:Fp}{Y:Nat->Prop}{β:Bt}{a:Act}{w:World}{Q:Exit->Act->World->Prop},
  B4 63 w0 X0 Y β (Ak4 yv h seed n n i (Af .u64 (gl (fun (j:Nat)=>Jr seed (j:Int)) n i))) a w ->
  (∀a' w' β',B4 63 w0 X0 Y β' (Ak4 yv h seed n n n (Af .u64 (gl (fun (j:Nat)=>Jr seed (j:Int)) n n))) a' w'->Q (.exit 0) a' w')->Code.rounds prog (sB (sB (sR (sL (sR DG))))) Q nn a w
 |_,_,0,_,h=>by omega
 |0,i,nn+1,hi,_=>by
  intro hs hQ;obtain rfl:i=n:=by omega
  rw[rounds_succ];exact Df (Is _ _) DB B3 hs (A2f yv h seed i _) fun a' w' β' h'=>hQ a' w' β' h'
 |r+1,i,nn+1,hi,hr=>by
  intro hs hQ;rw[rounds_succ];exact Df (Is _ _) DB B3 hs (A4c yv h seed hn (by omega)) fun a' w' β' h'=>Abj hn r (i+1) nn (by omega) (by omega) h' hQ
def Ft (seed:Int)(n k:Nat):List Int:=(List.range n).map fun (j:Nat)=>Cq seed k (j:Int)
theorem PE (seed:Int)(n k:Nat):(Ft seed n k).length=n:=by simp[Ft]
theorem Uj (seed:Int){n k j:Nat}(h:j<n):(Ft seed n k)[j]?=some (Cq seed k j):=by simp[Ft,h]
theorem A28 (yv:Value)(h seed:Int){k m i:Nat}(hm:m<=1000)(hk:k<=1000)(hi:i<m):
  KA 63 cl (sB (sB (sR (sL (sR (sB (sL (sR (sB (sB (sR (sR (sR DG))))))))))))) 3298534883543 (Alr yv h seed k (2*m) m m i (Af .u64 (Ft seed (2*m) k)) (Af .u64 (gl (fun (j:Nat)=>Cq seed (k+1) (j:Int)) m i))) =
   some (0,Alr yv h seed k (2*m) m m ((i+1:Nat):Int) (Af .u64 (Ft seed (2*m) k)) (Af .u64 (gl (fun (j:Nat)=>Cq seed (k+1) (j:Int)) m (i+1)))):=by
 have e1:wrap .i64 ((2:Int)*i)=((2*i:Nat):Int):=by rw[Ak (by omega) (by omega)];omega
 have e2:wrap .i64 (((2*i:Nat):Int)+1)=((2*i+1:Nat):Int):=by rw[Ak (by omega) (by omega)];omega
 have e3:wrap .i64 ((k:Int)+1)=((k+1:Nat):Int):=by rw[Ak (by omega) (by omega)];omega
 have w:wrap .i64 ((i:Int)+1)=((i+1:Nat):Int):=by rw[Ak (by omega) (by omega)];omega
 have a1:(Af .u64 (Ft seed (2*m) k)).getD (2*i) .top=.sc (.int .u64 (Cq seed k ((2*i:Nat):Int))):=BI (Uj seed (by omega))
 have a2:(Af .u64 (Ft seed (2*m) k)).getD (2*i+1) .top=.sc (.int .u64 (Cq seed k ((2*i+1:Nat):Int))):=BI (Uj seed (by omega))
 have pn:cl N5 [.sc (.int .i64 ((k+1:Nat):Int)),.sc (.int .u64 (Cq seed k ((2*i:Nat):Int))),.sc (.int .u64 (Cq seed k ((2*i+1:Nat):Int)))]=some ⟨[.sc (.int .u64 (Cq seed (k+1) (i:Int)))],[]⟩:=by
  have:=IB (xs:=noX) (fu:=2000) (d:=2) (by omega) ((k+1:Nat):Int) (Cq seed k ((2*i:Nat):Int)) (Cq seed k ((2*i+1:Nat):Int))
  rw[show Cq seed (k+1) (i:Int)=N7 ((k+1:Nat):Int) (Cq seed k ((2*i:Nat):Int)) (Cq seed k ((2*i+1:Nat):Int)) by
   rw[Cq];congr 2<;>omega]
  exact this
 have L:(Af .u64 (gl (fun (j:Nat)=>Cq seed (k+1) (j:Int)) m i)).length=m:=by rw[At,App _ (by omega)]
 have Zk:Bn (Af .u64 (gl (fun (j:Nat)=>Cq seed (k+1) (j:Int)) m i)) [.sc (.int .u64 (Cq seed (k+1) (i:Int)))] i=Af .u64 (gl (fun (j:Nat)=>Cq seed (k+1) (j:Int)) m (i+1)):=by
  rw[Gs (by omega),Lz]
  exact congrArg _ (Aoo (fun (j:Nat)=>Cq seed (k+1) (j:Int)) hi)
 refine (Ap2 cl yv h seed k m i (2*m) m _ _).trans ?_;simp (disch:=omega) only[Cu,Hs,Dp,C8,e1,e2,e3,a1,a2,pn,L,Zk,w]
theorem A33 (yv:Value)(h seed k:Int)(n m:Nat)(c e:List PV):
  KA 63 cl (sB (sB (sR (sL (sR (sB (sL (sR (sB (sB (sR (sR (sR DG))))))))))))) 3298534883543 (Alr yv h seed k n m m m c e)=some (5,Alr yv h seed k n m m m c e):=
 (Ap2 cl yv h seed k m m n m c e).trans (Fi _ _ _ (by omega))
theorem Adk {yv:Value}{h seed:Int}{k m:Nat}(hm:m<=1000)(hk:k<=1000):∀(r i nn:Nat),i+r=m->r<nn->∀{w0:World}{X0:Fp}{Y:Nat->Prop}{β:Bt}{a:Act}{w:World}{Q:Exit->Act->World->Prop},
  B4 63 w0 X0 Y β (Alr yv h seed k (2*m) m m i (Af .u64 (Ft seed (2*m) k)) (Af .u64 (gl (fun (j:Nat)=>Cq seed (k+1) (j:Int)) m i))) a w ->
  (∀a' w' β',B4 63 w0 X0 Y β' (Alr yv h seed k (2*m) m m m (Af .u64 (Ft seed (2*m) k)) (Af .u64 (gl (fun (j:Nat)=>Cq seed (k+1) (j:Int)) m m))) a' w'->Q (.exit 4) a' w') ->
  Code.rounds prog (sB (sB (sR (sL (sR (sB (sL (sR (sB (sB (sR (sR (sR DG))))))))))))) Q nn a w
 |_,_,0,_,h=>by omega
 |0,i,nn+1,hi,_=>by
  intro hs hQ;obtain rfl:i=m:=by omega
  rw[rounds_succ];exact Df (Is _ _) DB B3 hs (A33 yv h seed k (2*i) i _ _) fun a' w' β' h'=>hQ a' w' β' h'
 |r+1,i,nn+1,hi,hr=>by
  intro hs hQ;rw[rounds_succ];exact Df (Is _ _) DB B3 hs (A28 yv h seed hm hk (by omega)) fun a' w' β' h'=>Adk hm hk r (i+1) nn (by omega) (by omega) h' hQ
end
section
open Go.Proofs.Tryd (prog)
open Go.IntKind (wrap)
set_option maxRecDepth 20000
open Go Go.RowKit
noncomputable abbrev SW:Code:=sB (sB (sR (sR (sR DG))))
noncomputable abbrev lvX:Code:=sB (sL (sR SW))
theorem Az9:SW=.seq (.seq (.region 7 (Gw (sL (sL SW))) false) (sR (sL SW))) (.seq (.block 3 lvX) (sR (sR SW))):=by kernel_rfl
theorem Ayf:lvX=.seq (sL lvX) (.seq (.seq (sL (sL (sR lvX))) (.block 4 (.loop (sB (sB (sR (sL (sR lvX)))))))) (sR (sR lvX))):=by kernel_rfl
theorem Ay3:DG=.seq (sL DG) (.seq (.seq (sL (sL (sR DG))) (.block 0 (.loop (sB (sB (sR (sL (sR DG)))))))) (.seq (sL (sR (sR DG))) (.block 2 (.loop SW)))):=by kernel_rfl
theorem Oa {F:Fence}{n:Nat}{P:Program}{c c':Code}{Q:Exit->Act->World->Prop}{a:Act}{w:World}(e:c=c')(h:c'.wpIn F n P Q a w):c.wpIn F n P Q a w:=e ▸ h
abbrev lvS (yv:Value)(h seed:Int)(n:Nat)(k:Int)(c:List PV):St:=
 ⟨lk [(0,.sc yv),(1,.iptr [.sc (.int .i64 h)] 0),(2,.iptr [.sc (.int .u64 seed)] 0),(4,.view 4 1 0 n),(6,.sc (.int .i64 k))],Br [(4,.ar false c)]⟩
abbrev XR (yv:Value)(h seed:Int)(n:Nat)(k:Int)(c:List PV):St:=
 ⟨lk [(0,.sc yv),(1,.iptr [.sc (.int .i64 h)] 0),(2,.iptr [.sc (.int .u64 seed)] 0),(4,.view 4 1 0 n),(6,.sc (.int .i64 k)),(24,.sc yv),(25,.sc (.int .i64 k)),(26,.view 4 1 0 n)],Br [(4,.ar false c)]⟩
abbrev A1q (yv:Value)(h seed:Int)(n:Nat)(k:Int)(c:List PV)(b:Bool):St:=
 ⟨lk [(0,.sc yv),(1,.iptr [.sc (.int .i64 h)] 0),(2,.iptr [.sc (.int .u64 seed)] 0),(4,.view 4 1 0 n),(6,.sc (.int .i64 k)),(27,.sc (.bool b))],Br [(4,.ar false c)]⟩
def lvM (seed:Int)(h:Nat)(pre:List Nat)(k:Nat)(args:Array Value)(Z:Nat->Prop)(A:World):Prop:=
 k<=h∧pre=List.range k∧∃b o cap,args = #[.int .i64 k,.slice (some ⟨b,o,none⟩) (2 ^ (h-k):Nat) cap]∧2 ^ (h-k)<=cap∧b<A.heap.size∧¬Z b∧∀j,j<2 ^ (h-k)->A.cell? ⟨b,o+j,none⟩=some (.int .u64 (Cq seed k j))
theorem Ao3 {seed:Int}{h:Nat}{pre:List Nat}{k:Nat}{args:Array Value}{Z:Nat->Prop}{A B:World}(hm:lvM seed h pre k args Z A)(hs:A.heap.size<=B.heap.size)(hk:∀b,b<A.heap.size->¬Z b->B.heap[b]?=A.heap[b]?):lvM seed h pre k args Z B:=by
 obtain⟨h0,hpr,b,o,cap,h1,h2,h3,h4,h5⟩:=hm;exact⟨h0,hpr,b,o,cap,h1,h2,by omega,h4,fun j hj=>(World.cell?_of_block (a:=⟨b,o+j,none⟩) (hk b h3 h4)).trans (h5 j hj)⟩
theorem Aq4 {seed:Int}{h:Nat}{pre:List Nat}{k:Nat}{args:Array Value}{Z:Nat->Prop}{A:World}(hm:lvM seed h pre k args Z A):args.size=2:=by
 obtain⟨h0,_,b,o,cap,h1,_⟩:=hm;rw[h1];rfl
theorem A1m:∃ty pos aft x,(Gw (sL (sL SW)))[3]?=some { dst:=some 27,op:=.call { callee:=.value (.tmp 24),args:= #[.tmp 25,.tmp 26],argTypes:=x },type:=ty,pos:=pos,after:=aft,guard:=none }:=
 ⟨_,_,_,_,rfl⟩
theorem Nr {k:IntKind}{l:List Int}{i:Nat}{n:Int}(h:l[i]?=some n):(Af k l)[i]?=some (.sc (.int k n)):=by
 have h1:=BI (k:=k) h;have Cd:i<(Af k l).length:=by rw[At];exact (List.getElem?_eq_some_iff.1 h).1
 rw[List.getD_eq_getElem?_getD,List.getElem?_eq_getElem Cd] at h1;rw[List.getElem?_eq_getElem Cd];exact congrArg some h1
section
variable {seed:Int} {h l:Nat} {w0:World} {X0:Fp} {Z:Nat->Prop} {β:Bt} {a:Act} {w:World}
theorem Avd {yv:Value}{k n:Nat}{c:List PV}{hi:Int}(hs:B4 63 w0 X0 Z β (XR yv hi seed n k c) a w) (hn:0<n):
  a.tmps.getD 24 undef=yv∧a.tmps.getD 25 undef=.int .i64 k∧∃b o cap,β 4=some (b,o)∧a.tmps.getD 26 undef=.slice (some ⟨b,o,none⟩) n cap∧n<=cap∧b<w.heap.size∧TN w (Db (Br [(4,.ar false c)]) β Z) ⟨b,o,none⟩ c:=by
 have h24:=hs.tms 24 (by decide)
 have h25:=hs.tms 25 (by decide)
 have h26:=hs.tms 26 (by decide)
 have hb:=hs.box 4 _ (rfl:_=some (Bx.ar false c));refine⟨(K8 h24),(K8 h25),?_⟩;rcases (show Ci w (Db (Br [(4,.ar false c)]) β Z) β (.view 4 1 0 n) (a.tmps.getD 26 undef) from h26) with⟨_,_,h3,_⟩|⟨b,o,x,cap,h1,h2,h3,h4,h5,h6⟩
 ·omega
 ·rcases hb with⟨h7,_⟩|⟨b',o',h7,h8,_⟩
  ·rw[h1] at h7;cases h7
  ·rw[h1] at h7;cases h7;have hx:x=o:=by omega
   subst hx;exact⟨b,x,cap,h1,h2,h4,h6,h8⟩
abbrev A1t (yv:Value)(h seed:Int)(n:Nat)(k:Int)(c:List PV)(q:Bool):St:=
 ⟨lk [(0,.sc yv),(1,.iptr [.sc (.int .i64 h)] 0),(2,.iptr [.sc (.int .u64 seed)] 0),(4,.view 4 1 0 n),(6,.sc (.int .i64 k)),(32,.sc (.bool q))],Br [(4,.ar false c)]⟩
theorem Ail {yv:Value}{hi seed:Int}{n:Nat}{k:Int}{c:List PV}:∀id cc,(XR yv hi seed n k c).hp id≠some (.st cc):=by
 intro id cc e;rcases Rb [(4,Bx.ar false c)] id with h1|⟨q,hq,h1,h2⟩
 ·rw[show (XR yv hi seed n k c).hp id=Br [(4,Bx.ar false c)] id from rfl,h1] at e;cases e
 ·simp at hq;subst hq;rw[show (XR yv hi seed n k c).hp id=Br [(4,Bx.ar false c)] id from rfl,h2] at e
  cases e
theorem Asz {hi:Int}{yv:Value}{n:Nat}{k:Int}{c:List PV}{Z':Nat->Prop}{B:World}(b:Bool)(hs:B4 63 w0 X0 Z β (XR yv hi seed n k c) a w) (ht:Qm Z Z' w B):
  B4 63 B (Al1 (XR yv hi seed n k c) β) Z' β (A1q yv hi seed n k c b) (a.put (some 27) (.bool b)) B:=by
 have h1:=(hs.rebase ht Ail).put (d:=some 27) (v:=.sc (.bool b)) (val:=.bool b) rfl (Aw.sc _) (by simp[B7,Cj,Av])
 refine h1.pick _ _ ?_ ?_ ?_ ?_ (fun _ h=>h.elim)
 ·intro q hq;simp only[List.mem_cons,List.not_mem_nil,or_false] at hq;rcases hq with rfl|rfl|rfl|rfl|rfl|rfl<;>rfl
 ·intro q hq;simp only[List.mem_cons,List.not_mem_nil,or_false] at hq;rcases hq with rfl<;>rfl
 ·intro q hq id Bo;simp only[List.mem_cons,List.not_mem_nil,or_false] at hq;rcases hq with rfl|rfl|rfl|rfl|rfl|rfl<;>simp[B7,Cj,Av] at Bo
  subst Bo;simp[Br]
 ·intro q hq cells e;simp only[List.mem_cons,List.not_mem_nil,or_false] at hq;rcases hq with rfl;cases e
theorem Au2 (hh:h<=4){J Jx:(Nat->Prop)->List Nat->World->Prop} (hJ:∀Z pre A B,J Z pre A->L5 Z A B->J Z pre B)(hJx:∀Z pre A B,Jx Z pre A->L5 Z A B->Jx Z pre B)
  (hY:∀Z pre x args A,J Z pre A->lvM seed h pre x args Z A->YieldAt Fence.wide 0 prog l args A fun e B=>∃Z',Qm Z Z' A B∧((e=.returned (.bool true)∧J Z' (pre++[x]) B)∨(e=.returned (.bool false)∧Jx Z' (pre++[x]) B)))
  {k r:Nat} (hk:k+r=h) (hs:B4 63 w0 X0 Z β (lvS (.func (.yield l) #[] #[]) h seed (2 ^ r) k (Af .u64 (Ft seed (2 ^ r) k))) a w) (hd:∀b,Z b->¬X0.X b) (hj:J Z (List.range k) w0) {Q:Exit->Act->World->Prop}
  (hgo:k<h->∀w2 X2 Z' β' a' w',B4 63 w2 X2 Z' β' (lvS (.func (.yield l) #[] #[]) h seed (2 ^ r) k (Af .u64 (Ft seed (2 ^ r) k))) a' w'->(∀b,Z' b->¬X2.X b)->J Z' (List.range (k+1)) w2->Q .normal a' w')
  (YH:∀a' w',a'.defers=[]->(∃Z xs,(xs=List.range (h+1)∧J Z xs w')∨((∃k,xs=List.range (k+1))∧Jx Z xs w'))->Q (.exit 2) a' w'):
  (Code.seq (.region 7 (Gw (sL (sL SW))) false) (sR (sL SW))).wpIn Fence.wide 0 prog Q a w:=by
 have hp:0<2 ^ r:=Nat.pos_of_ne_zero (by simp)
 refine wpIn_seq (wpIn_region ?_);have hl:List.range (Gw (sL (sL SW))).size=[0,1,2]++[3,4,5,6,7,8]:=by kernel_rfl
 rw[hl];refine Gh (ro:=none) (C:=CB) (call:=cl) (r:=((0:Nat),XR (.func (.yield l) #[] #[]) h seed (2 ^ r) k (Af .u64 (Ft seed (2 ^ r) k)))) (Is _ _) B3 ?_ [0,1,2] (List.take 3 (Gw (sL (sL SW))).toList) (by kernel_rfl) ?_ (by kernel_rfl) hs (Ayk cl _ h seed k (2 ^ r) _)
 rotate_left
 ·intro j i hj
  match j,hj with
  |0,hj=>cases hj;rfl
  |1,hj=>cases hj;rfl
  |2,hj=>cases hj;rfl
 intro s' a1 w1 β1 D4 JA;obtain⟨β2,s2,Gc,PF⟩:=B6 JA D4;cases Gc;obtain⟨v24,v25,b,o,cap,hb,v26,LO,CP,hrd⟩:=Avd PF hp;have hjw:J Z (List.range k) w1:=hJ Z _ _ _ hj (PF.stay hd);have hkr:h-k=r:=by omega
 have hm:lvM seed h (List.range k) k #[.int .i64 k,.slice (some ⟨b,o,none⟩) (2 ^ r:Nat) cap] Z w1:=by
  refine⟨by omega,rfl,b,o,cap,by rw[hkr],by rw[hkr];exact LO,CP,fun hz=>PF.Yx b hz ⟨4,o,by trivial,hb⟩,fun j hj=>?_⟩
  rw[hkr] at hj;obtain⟨v,hv,_,hv2⟩:=hrd j (.sc (.int .u64 (Cq seed k j))) (Nr (Uj seed hj));rw[Er] at hv;rw[hv,Aw.val hv2]
 obtain⟨fn,tmps,assign,body,hy,hR⟩:=hY Z _ k _ w1 hjw hm;obtain⟨ty,pos,aft,x,ho⟩:=A1m;rw[wpOpsIn_cons];unfold wpOpIn;rw[ho];simp only[Region.wanted,if_true]
 have run:(execOp a1.eval { dst:=some 27,op:=.call { callee:=.value (.tmp 24),args:= #[.tmp 25,.tmp 26],argTypes:=x },type:=ty,pos:=pos,after:=aft,guard:=none }).run prog w1=.ok (.round l fn tmps assign body) w1:=by
  have e24:a1.eval (.tmp 24)=.func (.yield l) #[] #[]:=v24;have e25:a1.eval (.tmp 25)=.int .i64 k:=v25;have e26:a1.eval (.tmp 26)=.slice (some ⟨b,o,none⟩) (2 ^ r:Nat) cap:=v26;refine WN rfl rfl e24 ?_;rw[←hy];simp only[List.map_toArray,VO,List.map_nil,e25,e26]
 refine⟨fun _ _=>trivial,?_⟩
 rw[show Oper.semAt (WF none).round a1.eval { dst:=some 27,op:=.call { callee:=.value (.tmp 24),args:= #[.tmp 25,.tmp 26],argTypes:=x },type:=ty,pos:=pos,after:=aft,guard:=none }=execOp a1.eval { dst:=some 27,op:=.call { callee:=.value (.tmp 24),args:= #[.tmp 25,.tmp 26],argTypes:=x },type:=ty,pos:=pos,after:=aft,guard:=none } from rfl,run]
 refine⟨(fun h=>by cases h),(KQ hR).mono ?_⟩
 have rest:∀(e:Bool) (B:World) (Z':Nat->Prop) (q:Bool),Qm Z Z' w1 B->(Ke CB prog 63 cl (Gw (sL (sL SW))) (List.drop 4 (Gw (sL (sL SW))).toList) (A1q (.func (.yield l) #[] #[]) h seed (2 ^ r) k (Af .u64 (Ft seed (2 ^ r) k)) e) (fun s=>Ir 63 4294967383 s fun s'=>some (0,s'))=some ((0:Nat),A1t (.func (.yield l) #[] #[]) h seed (2 ^ r) k (Af .u64 (Ft seed (2 ^ r) k)) q)) ->
   (∀a' w' β',B4 63 B (Al1 (XR (.func (.yield l) #[] #[]) h seed (2 ^ r) k (Af .u64 (Ft seed (2 ^ r) k))) β2) Z' β' (lvS (.func (.yield l) #[] #[]) h seed (2 ^ r) k (Af .u64 (Ft seed (2 ^ r) k))) a' w'->if q=true then Q .normal a' w' else Q (.exit 2) a' w') ->
   wpOpsIn (WF none) 0 prog (Gw (sL (sL SW))) (Exit.then ((sR (sL SW)).wpIn Fence.wide 0 prog Q) Q) [4,5,6,7,8] (a1.put (some 27) (.bool e)) B:=by
  intro e B Z' q ht heq hq;have h4:=Asz e PF ht;show wpOpsIn _ _ _ _ _ ([4,5,6,7,8]++[]) _ _;refine Gh (ro:=none) (C:=CB) (call:=cl) (Is _ _) B3 ?_ [4,5,6,7,8] (List.drop 4 (Gw (sL (sL SW))).toList) (by kernel_rfl) ?_ (by kernel_rfl) h4 heq
  rotate_left
  ·intro j i hj
   match j,hj with
   |0,hj=>cases hj;rfl
   |1,hj=>cases hj;rfl
   |2,hj=>cases hj;rfl
   |3,hj=>cases hj;rfl
   |4,hj=>cases hj;rfl
  intro s' a5 w5 β5 VL V1;obtain⟨β6,s6,hk6,hs6⟩:=B6 V1 VL;cases hk6;show (sR (sL SW)).wpIn Fence.wide 0 prog Q a5 w5;cases q
  ·exact wpIn_wide.2 (Df (Is _ _) DB B3 hs6 ((Aq5 cl _ h seed k (2 ^ r) _ false).trans rfl) fun a' w' β' h'=>hq a' w' β' h')
  ·exact wpIn_wide.2 (Df (Is _ _) DB B3 hs6 ((Aq5 cl _ h seed k (2 ^ r) _ true).trans rfl) fun a' w' β' h'=>hq a' w' β' h')
 have Gx:∀{B:World} {Z':Nat->Prop} {β':Bt} {s':St} {a':Act} {w':World},Qm Z Z' w1 B->∀b,Z' b->¬(Al1 (XR (.func (.yield l) #[] #[]) h seed (2 ^ r) k (Af .u64 (Ft seed (2 ^ r) k))) β2).X b:=by
  intro B Z' _ _ _ _ ht b hz;exact (PF.rebase ht Ail).Yx b hz
 have er:List.range k++[k]=List.range (k+1):=(List.range_succ).symm
 rintro e B ⟨Z',ht,(⟨rfl,hj2⟩|⟨rfl,hj2⟩)⟩
 ·rw[er] at hj2;refine rest true B Z' (decide ((k:Int)<(h:Int))) ht (Atm cl _ h seed k (2 ^ r) _) fun a' w' β' h'=>?_
  have hdd:=Gx (β':=β) (s':=s') (a':=a) (w':=w) ht;by_cases Cd:k<h
  ·rw[Cy (by simp;omega)]
   exact hgo Cd B _ Z' β' a' w' h' hdd hj2
  ·rw[Bj (by simp;omega)]
   exact YH a' w' h'.dfr ⟨Z',List.range (k+1),.inl ⟨by rw[show k=h by omega],hJ Z' _ _ _ hj2 (h'.stay hdd)⟩⟩
 ·refine rest false B Z' false ht (Avh cl _ h seed k (2 ^ r) _) fun a' w' β' h'=>?_
  have hdd:=Gx (β':=β) (s':=s') (a':=a) (w':=w) ht;rw[Bj (by simp)]
  exact YH a' w' h'.dfr ⟨Z',_,.inr ⟨⟨k,er⟩,hJx Z' _ _ _ hj2 (h'.stay hdd)⟩⟩
theorem VJ (hh:h<=4){J Jx:(Nat->Prop)->List Nat->World->Prop} (hJ:∀Z pre A B,J Z pre A->L5 Z A B->J Z pre B)(hJx:∀Z pre A B,Jx Z pre A->L5 Z A B->Jx Z pre B)
  (hY:∀Z pre x args A,J Z pre A->lvM seed h pre x args Z A->YieldAt Fence.wide 0 prog l args A fun e B=>∃Z',Qm Z Z' A B∧((e=.returned (.bool true)∧J Z' (pre++[x]) B)∨(e=.returned (.bool false)∧Jx Z' (pre++[x]) B)))
  {Q:Exit->Act->World->Prop} (YH:∀a' w',a'.defers=[]->(∃Z xs,(xs=List.range (h+1)∧J Z xs w')∨((∃k,xs=List.range (k+1))∧Jx Z xs w'))->Q (.exit 2) a' w'):
  ∀(r k nn:Nat),k+r=h->r<nn->∀{w0:World} {X0:Fp} {Z:Nat->Prop} {β:Bt} {a:Act} {w:World},
   B4 63 w0 X0 Z β (lvS (.func (.yield l) #[] #[]) h seed (2 ^ r:Nat) k (Af .u64 (Ft seed (2 ^ r) k))) a w->(∀b,Z b->¬X0.X b)->J Z (List.range k) w0->Code.roundsIn Fence.wide 0 prog SW Q nn a w
 |_,_,0,_,h=>by omega
 |r,k,nn+1,hk,hr=>by
  intro hs hd hj;rw[roundsIn_succ];refine Oa Az9 (wpIn_seq (Au2 hh hJ hJx hY hk hs hd hj ?_ fun a' w' h1 h2=>YH a' w' h1 h2))
  intro Cd w2 X2 Z' β' a' w' PF hd2 hj2
  match r,hk,hr,PF with
  |0,hk,hr,PF=>omega
  |r+1,hk,hr,PF=>
   have hp:2 ^ (r+1)=2*2 ^ r:=by rw[Nat.pow_succ];omega
   have Xa:2 ^ r<=8:=by
    have:2 ^ r<=2 ^ 3:=Nat.pow_le_pow_right (by omega) (by omega)
    omega
   rw[hp] at PF;show (Code.seq (.block 3 lvX) (sR (sR SW))).wpIn Fence.wide 0 prog _ a' w';refine wpIn_seq (wpIn_block (Oa Ayf (wpIn_seq (wpIn_wide.2 (Df (Is _ _) DB B3 PF (L:=215) (t:=0) (s1:=⟨lk [(0,.sc (.func (.yield l) #[] #[])),(1,.iptr [.sc (.int .i64 h)] 0),(2,.iptr [.sc (.int .u64 seed)] 0),(4,.view 4 1 0 (2*2 ^ r)),(6,.sc (.int .i64 k)),(7,.view 7 1 0 (2 ^ r))],Br [(4,.ar false (Af .u64 (Ft seed (2*2 ^ r) k))),(7,.ar false (Af .u64 (List.replicate (2 ^ r) 0)))]⟩) ?_ ?_)))))
   ·have w2:wrap .i64 (Int.tdiv ((2*2 ^ r:Nat):Int) 2)=((2 ^ r:Nat):Int):=by
     rw[Int.tdiv_eq_ediv_of_nonneg (by omega),Ak (by omega) (by omega)];omega
    refine (Azn cl _ h seed k (2*2 ^ r) _).trans ?_;simp (disch:=omega) only[Cu,Hs,w2,RH]
   intro a3 w3 β3 hs3;refine wpIn_seq (wpIn_seq (wpIn_wide.2 (Df (Is _ _) DB B3 hs3 (Axq cl _ h seed k _ _ _ _) ?_)));intro a4 w4 β4 hs4;refine wpIn_block (wpIn_wide.2 (wp_loop_rounds 1000 (Adk (k:=k) (m:=2 ^ r) (by omega) (by omega) (2 ^ r) 0 1000 (by omega) (by omega) (by rw[Ai4];exact hs4) ?_)))
   intro a5 w5 β5 V1;show (sR (sR lvX)).wpIn Fence.wide 0 prog _ a5 w5;refine wpIn_wide.2 (Df (Is _ _) DB B3 V1 (Ayi cl _ h seed k _ _ _ _ _ _) ?_);intro a6 w6 β6 hs6;show (sR (sR SW)).wpIn Fence.wide 0 prog _ a6 w6;refine wpIn_wide.2 (Df (Is _ _) DB B3 hs6 (L:=87) (t:=0) (s1:=lvS (.func (.yield l) #[] #[]) h seed (2 ^ r:Nat) ((k+1:Nat):Int) (Af .u64 (Ft seed (2 ^ r) (k+1)))) ?_ ?_)
   ·have w1:wrap .i64 ((k:Int)+1)=((k+1:Nat):Int):=by rw[Ak (by omega) (by omega)];omega
    refine (A0o cl _ h seed k _ _).trans ?_;simp only[Cu,w1];rw[Aip];rfl
   intro a7 w7 β7 hs7;exact VJ hh hJ hJx hY YH r (k+1) nn (by omega) (by omega) hs7 hd2 hj2
end
end
section
open Go.Proofs.Tryd (prog)
open Go.IntKind (wrap)
set_option maxRecDepth 20000
open Go Go.RowKit
def noL:Fp:={ X:=fun _=>False,L:=fun _ _=>False,pn:=fun _=>False,pt:=fun _=>none,p8:=fun _ h=>h.elim }
theorem B4.init {N:Nat}{W:World}{Z0:Nat->Prop}(l:List (Nat × PV)) (a:Act)(hd:a.defers=[]) (Ku:a.tmps.size=N)(Cd:∀q∈l,q.1<N)(hv:∀q∈l,Ed W Z0 (fun _=>none) q.2 (a.tmps.getD q.1 undef)) (hr:∀q∈l,B7 q.2=[]) (hZ:∀b,Z0 b->b<W.heap.size):
  B4 N W noL Z0 (fun _=>none) ⟨lk l,Br []⟩ a W:=by
 have hA:∀b,b<W.heap.size->Db (Br []) (fun _=>none) Z0 b->Z0 b:=fun b _ hb=>hb.elim (fun ⟨_,_,h,_⟩=>(h:Cs none).elim) id
 have Gk:Co Z0 W W:=⟨Nat.le_refl _,fun _ _ _=>rfl,fun _ _=>Nat.le_refl _⟩
 refine⟨hd,Ku,fun i hi=>?_,fun i hi=>?_,fun id bx e=>(by cases e),fun id id' b o o' h=>(h:Cs none).elim,fun id b o h=>(h rfl).elim,fun i hi id Bo=>?_,fun id c e=>(by cases e),fun b ⟨_,_,h,_⟩=>(h:Cs none).elim,fun id bx b o e=>(by cases e),
  fun i hi=>hi.elim,fun id c b o e=>(by cases e),fun b hz ⟨_,_,h,_⟩=>(h:Cs none).elim,hZ,⟨rfl,rfl,rfl,⟨Nat.le_refl _,fun _ _ _=>rfl,fun _ _=>Nat.le_refl _⟩,fun _ _ _ _=>⟨rfl,rfl⟩⟩⟩
 ·rcases P3 l i with e|⟨q,hq,h1,h2⟩
  ·exact e
  ·have:=Cd q hq;omega
 ·show Ed W (Db (Br []) (fun _=>none) Z0) (fun _=>none) (lk l i) _
  rcases P3 l i with e|⟨q,hq,h1,h2⟩
  ·rw[e];exact Aw.top _
  ·rw[h2,←h1];exact (hv q hq).step Gk hA fun _ _=>rfl
 ·rcases P3 l i with e|⟨q,hq,h1,h2⟩
  ·rw[show (St.mk (lk l) (Br [])).tm i=lk l i from rfl,e] at Bo;simp[B7,Cj,Av] at Bo
  ·rw[show (St.mk (lk l) (Br [])).tm i=lk l i from rfl,h2,hr q hq] at Bo;cases Bo
def Aw3 (seed:Int)(h Bh Bs:Nat)(Z0:Nat->Prop)(W:World):Prop:=
 W.cell? ⟨Bh,0,none⟩=some (.int .i64 h)∧W.cell? ⟨Bs,0,none⟩=some (.int .u64 seed)∧Bh<W.heap.size∧Bs<W.heap.size∧¬Z0 Bh∧¬Z0 Bs
theorem Avu {h:Nat}(hh:h<=4):Jj .i64 1 (h:Int)=((2 ^ h:Nat):Int):=by
 have:h=0∨h=1∨h=2∨h=3∨h=4:=by omega
 rcases this with rfl|rfl|rfl|rfl|rfl<;>decide
theorem Ase {seed:Int}{h Bh Bs:Nat}{Z0:Nat->Prop}{W:World}{yv:Value}(hP:Aw3 seed h Bh Bs Z0 W)(hZ:∀b,Z0 b->b<W.heap.size):
  B4 63 W noL Z0 (fun _=>none) ⟨lk [(0,.sc yv),(1,.iptr [.sc (.int .i64 h)] 0),(2,.iptr [.sc (.int .u64 seed)] 0)],Br []⟩ { tmps:=(yv::Value.pointer (some ⟨Bh,0,none⟩)::Value.pointer (some ⟨Bs,0,none⟩)::List.replicate 60 undef).toArray,defers:=[] } W:=by
 obtain⟨p1,p2,p3,p4,p5,p6⟩:=hP;refine B4.init _ _ rfl (by simp) ?_ ?_ ?_ hZ
 ·intro q hq;simp only[List.mem_cons,List.not_mem_nil,or_false] at hq;rcases hq with rfl|rfl|rfl<;>simp
 ·intro q hq;simp only[List.mem_cons,List.not_mem_nil,or_false] at hq;rcases hq with rfl|rfl|rfl
  ·exact Aw.sc _
  ·refine⟨⟨Bh,0,none⟩,rfl,rfl,p3,p5,fun j c hj=>?_⟩
   match j,hj with
   |0,hj=>cases hj;exact⟨_,p1,rfl,Aw.sc _⟩
  ·refine⟨⟨Bs,0,none⟩,rfl,rfl,p4,p6,fun j c hj=>?_⟩
   match j,hj with
   |0,hj=>cases hj;exact⟨_,p2,rfl,Aw.sc _⟩
 ·intro q hq;simp only[List.mem_cons,List.not_mem_nil,or_false] at hq;rcases hq with rfl|rfl|rfl<;>rfl
theorem Avr {seed:Int}{h Bh Bs:Nat}(hh:h<=4):Av9 prog 47 #[.pointer (some ⟨Bh,0,none⟩),.pointer (some ⟨Bs,0,none⟩)] (lvM seed h) (fun xs=>xs=List.range (h+1)) (fun xs=>∃k,xs=List.range (k+1)) (Aw3 seed h Bh Bs):=by
 intro l J Jx W Z0 hZ hP hJ hJx hY h0;obtain⟨p1,p2,p3,p4,p5,p6⟩:=hP;refine callsIn_wide.1 (callsIn_of_wp (F:=Fence.wide) (n:=0) Tryd.func47 rfl trivial ?_ rfl);show DG.wpIn _ _ _ _ _ _;have t1:(({ tmps:=(#[Value.func (.yield l) #[] #[]] ++ #[Value.pointer (some ⟨Bh,0,none⟩),Value.pointer (some ⟨Bs,0,none⟩)])++Array.replicate (Tryd.f47.ntmps-(#[Value.func (.yield l) #[] #[]] ++ #[Value.pointer (some ⟨Bh,0,none⟩),Value.pointer (some ⟨Bs,0,none⟩)]).size) undef,defers:=[] }:Act))={ tmps:=(Value.func (.yield l) #[] #[]::Value.pointer (some ⟨Bh,0,none⟩)::Value.pointer (some ⟨Bs,0,none⟩)::List.replicate 60 undef).toArray,defers:=[] }:=by kernel_rfl
 rw[t1];have i0:=Ase (seed:=seed) (h:=h) (Z0:=Z0) (yv:=.func (.yield l) #[] #[]) ⟨p1,p2,p3,p4,p5,p6⟩ hZ;generalize ({ tmps:=(Value.func (.yield l) #[] #[]::Value.pointer (some ⟨Bh,0,none⟩)::Value.pointer (some ⟨Bs,0,none⟩)::List.replicate 60 undef).toArray,defers:=[] }:Act)=a0 at i0 ⊢
 have Xa:2 ^ h<=16:=by
  have:2 ^ h<=2 ^ 4:=Nat.pow_le_pow_right (by omega) hh
  omega
 refine Oa Ay3 (wpIn_seq (wpIn_wide.2 (Df (Is _ _) DB B3 i0 (L:=23) (t:=0)
  (s1:=⟨lk [(0,.sc (.func (.yield l) #[] #[])),(1,.iptr [.sc (.int .i64 h)] 0),(2,.iptr [.sc (.int .u64 seed)] 0),(4,.view 4 1 0 (2 ^ h))],Br [(4,.ar false (Af .u64 (List.replicate (2 ^ h) 0)))]⟩) ?_ ?_)))
 ·refine (Azq cl _ h seed).trans ?_;have e1:=Avu hh;have e2:(0:Int)<=h:=by omega
  generalize 2 ^ h=n at Xa e1 ⊢;simp (disch:=omega) only[Cu,e1,Hs,RH]
 intro a1 w1 β1 h1;refine wpIn_seq (wpIn_seq (wpIn_wide.2 (Df (Is _ _) DB B3 h1 (Azu cl _ h seed _ _) ?_)));intro a2 w2 β2 h2;refine wpIn_block (wpIn_wide.2 (wp_loop_rounds 1000 (Abj (n:=2 ^ h) (by omega) (2 ^ h) 0 1000 (by omega) (by omega) (by rw[Ai4];exact h2) ?_)))
 intro a3 w3 β3 h3;show (Code.seq (sL (sR (sR DG))) (.block 2 (.loop SW))).wpIn Fence.wide 0 prog _ a3 w3;refine wpIn_seq (wpIn_wide.2 (Df (Is _ _) DB B3 h3 (L:=87) (t:=0) (s1:=lvS (.func (.yield l) #[] #[]) h seed (2 ^ h:Nat) ((0:Nat):Int) (Af .u64 (Ft seed (2 ^ h) 0))) ?_ ?_))
 ·refine (Ax6 cl _ h seed _ _ _ _).trans ?_;rw[Aip];rfl
 intro a4 w4 β4 h4;refine wpIn_block (wpIn_loop_rounds 1000 (VJ hh hJ hJx hY ?_ h 0 1000 (by omega) (by omega) h4 (fun b _ hb=>hb) h0))
 intro a5 w5 h5 h6;exact⟨h5,_,results_none rfl _ _ _,⟨_,rfl⟩,h6⟩
end
section
open Go.IntKind (wrap)
set_option maxRecDepth 20000
open Go Go.RowKit
theorem B4.make {N:Nat}{W:World}{Y:Nat->Prop}{β:Bt}(l:List (Nat × PV)) (bl:List (Nat × Bx)) (a:Act)(pn:Nat->Prop)(p8:∀i,pn i->i<8)(hd:a.defers=[]) (Ku:a.tmps.size=N)(Cd:∀q∈l,q.1<N)
  (hv:∀q∈l,Ed W (Db (Br bl) β Y) β q.2 (a.tmps.getD q.1 undef)) (hb:∀id bx,Br bl id=some bx->Tv W (Db (Br bl) β Y) β id bx)
  (inj:∀id id' b o o',Cs (Br bl id)->Cs (Br bl id')->β id=some (b,o)->β id'=some (b,o')->id=id') (blt:∀id b o,Br bl id≠none->β id=some (b,o)->b<W.heap.size)
  (wfT:∀q∈l,∀id∈B7 q.2,Br bl id≠none)(wfB:∀id cells,Br bl id=some (.st cells)->∀c∈cells,∀i∈Av c,Br bl i≠none) (Xg:∀i,pn i->Br bl (Dh N i)≠none)
  (stp:∀id c,Br bl id=some (.st c)->∃i,id=Dh N i∧pn i) (Yx:∀b,Y b->¬BZ (Br bl) β b) (Ylt:∀b,Y b->b<W.heap.size):
  B4 N W { X:=BZ (Br bl) β,L:=fun b _=>BZ (Br bl) β b,pn:=pn,pt:=fun i=>β (Dh N i),p8:=p8 } Y β ⟨lk l,Br bl⟩ a W:=by
 refine⟨hd,Ku,fun i hi=>?_,fun i hi=>?_,hb,inj,blt,fun i hi id Bo=>?_,wfB,fun b hb=>.inl hb,fun id bx b o h1 h2 h3 _ j _=>⟨id,o,by rw[show Br bl id=some bx from h1];exact h2,h3⟩,fun i hi=>⟨Xg i hi,rfl⟩,
  fun id c b o h1 _ _=>stp id c h1,Yx,Ylt,⟨rfl,rfl,rfl,⟨Nat.le_refl _,fun _ _ _=>rfl,fun _ _=>Nat.le_refl _⟩,fun _ _ _ _=>⟨rfl,rfl⟩⟩⟩
 ·rcases P3 l i with e|⟨q,hq,h1,h2⟩
  ·exact e
  ·have:=Cd q hq;omega
 ·show Ed W _ β (lk l i) _;rcases P3 l i with e|⟨q,hq,h1,h2⟩
  ·rw[e];exact Aw.top _
  ·rw[h2,←h1];exact hv q hq
 ·rcases P3 l i with e|⟨q,hq,h1,h2⟩
  ·rw[show (St.mk (lk l) (Br bl)).tm i=lk l i from rfl,e] at Bo;simp[B7,Cj,Av] at Bo
  ·rw[show (St.mk (lk l) (Br bl)).tm i=lk l i from rfl,h2] at Bo;exact wfT q hq id Bo
def A38 (lo e0:Nat)(A:World)(pv:Value)(l:List Int):Prop:=
 (l=[]∧∃ad,pv=.slice ad 0 0)∨∃pb po cap,0<cap∧pv=.slice (some ⟨pb,po,none⟩) l.length cap∧l.length<=cap∧po+cap<=bsz A pb∧pb<A.heap.size∧(lo<=pb∨pb=e0)∧(∀(j:Nat) x,l[j]?=some x->A.cell? ⟨pb,po+j,none⟩=some (.int .u64 x))∧∀j,po<=j->j<bsz A pb->A.frozen? ⟨pb,j,none⟩=false
theorem frozen?_of_block {A B:World}{b j:Nat}(h:B.heap[b]?=A.heap[b]?):B.frozen? ⟨b,j,none⟩=A.frozen? ⟨b,j,none⟩:=by
 unfold World.frozen?;simp only[h]
structure HS (wS:World) (D:Nat) (seed leaf:Int) (h b10 o10 e0:Nat) (chv:Value) (Z:Nat->Prop) (pre:List Nat) (A:World):Prop where
 os:A.os=wS.os
 tape:A.tape=wS.tape
 output:A.output=wS.output
 size:D+2<=A.heap.size
 zlo:∀b,b<wS.heap.size->Z b
 zlt:∀b,Z b->b<A.heap.size
 keep:∀b,b<wS.heap.size->b≠b10->b≠e0->A.heap[b]?=wS.heap[b]?
 bs:bsz wS b10<=bsz A b10
 c0:A.cell? ⟨b10,o10,none⟩=some (.int .i64 leaf)
 c1:A.cell? ⟨b10,o10+1,none⟩=some chv
 fz:∀k,k<3->A.frozen? ⟨b10,o10+k,none⟩=false
 lt:∀x∈pre,x<h
 path:∃pv,A.cell? ⟨b10,o10+2,none⟩=some pv∧A38 (D+2) e0 A pv (pre.map fun k=>Cq seed k (Jo leaf k))∧∀pb po n cap,0<cap->pv=.slice (some ⟨pb,po,none⟩) n cap->Z pb
noncomputable abbrev Agf:Code:=sF (sB (sR (sL (sR (sR (sR OT))))))
abbrev A3r (h leaf:Int)(x:Nat)(n:Nat)(c:List PV):List (Nat × PV):=[(5,.iptr [.sc (.int .i64 h)] 0),(6,.iptr [.sc (.int .i64 leaf)] 0),(10,.ptr 96000 0),(11,.sc (.int .i64 x)),(12,.lst false 1 n c)]
abbrev SU (leaf:Int)(ch:Value)(m:Nat)(d:List PV):List (Nat × Bx):=[(96000,.st [.sc (.int .i64 leaf),.sc ch,.view 20 1 0 m]),(20,.ar false d)]
structure A2o (wS:World) (b5 o5 b6 o6 b10 o10:Nat) (args:Array Value) (a:Act):Prop where
 dfr:a.defers=[]
 size:a.tmps.size=48
 t5:a.tmps.getD 5 undef=.pointer (some ⟨b5,o5,none⟩)
 t6:a.tmps.getD 6 undef=.pointer (some ⟨b6,o6,none⟩)
 t10:a.tmps.getD 10 undef=.pointer (some ⟨b10,o10,none⟩)
 t11:a.tmps.getD 11 undef=args.getD 0 undef
 t12:a.tmps.getD 12 undef=args.getD 1 undef
theorem Apn {wS:World}{D:Nat}{seed leaf:Int}{h b5 o5 b6 o6 b10 o10 e0:Nat}{chv:Value}{Z:Nat->Prop}{pre:List Nat}{A:World}(hI:HS wS D seed leaf h b10 o10 e0 chv Z pre A){x:Nat}{args:Array Value}(hM:lvM seed h pre x args Z A){a:Act}(ha:A2o wS b5 o5 b6 o6 b10 o10 args a)
  (h5:wS.cell? ⟨b5,o5,none⟩=some (.int .i64 h)) (h6:wS.cell? ⟨b6,o6,none⟩=some (.int .i64 leaf)) (l5:b5<wS.heap.size)(l6:b6<wS.heap.size)(l10:b10<wS.heap.size)(n5:b5≠b10)(n6:b6≠b10)(m5:b5≠e0)(m6:b6≠e0)(m10:b10≠e0)(hD:wS.heap.size<=D):
  ∃β X0,X0.pt 0=some (b10,o10)∧X0.pn 0∧(∀b,X0.X b->Z b∧(b=b10∨D+2<=b∨b=e0)) ∧
   B4 48 A X0 (fun _=>False) β ⟨lk (A3r h leaf x (2 ^ (h-x)) (Af .u64 (Ft seed (2 ^ (h-x)) x))),Br (SU leaf chv pre.length (Af .u64 (pre.map fun k=>Cq seed k (Jo leaf k))))⟩ a A:=by
 obtain⟨hx,_,b,o,cap,Es,LO,CP,hbz,hcell⟩:=hM;obtain⟨pv,CE,Gx,hpz⟩:=hI.path
 obtain⟨q,hq⟩:∃q:Option (Nat × Nat),(q=none∧pre=[]∧∃ad,pv=.slice ad 0 0)∨∃pb po cap,q=some (pb,po)∧pv=.slice (some ⟨pb,po,none⟩) pre.length cap∧pre.length<=cap∧po+cap<=bsz A pb∧pb<A.heap.size∧(D+2<=pb∨pb=e0)∧Z pb∧(∀(j:Nat) y,(pre.map fun k=>Cq seed k (Jo leaf k))[j]?=some y->A.cell? ⟨pb,po+j,none⟩=some (.int .u64 y))∧∀j,po<=j->j<bsz A pb->A.frozen? ⟨pb,j,none⟩=false:=by
  rcases Gx with⟨h1,h2⟩|⟨pb,po,cap,h0,h1,h2,h3,h4,h5,h6,h7⟩
  ·exact⟨none,.inl ⟨rfl,by simpa using h1,h2⟩⟩
  ·rw[List.length_map] at h1 h2;exact⟨some (pb,po),.inr ⟨pb,po,cap,rfl,h1,h2,h3,h4,h5,hpz _ _ _ _ h0 h1,h6,h7⟩⟩
 obtain⟨β,hβ⟩:∃β:Bt,β=fun id=>if id=96000 then some (b10,o10) else if id=20 then q else none:=⟨_,rfl⟩
 have e1:β 96000=some (b10,o10):=by rw[hβ];rfl
 have e2:β 20=q:=by rw[hβ];rfl
 obtain⟨d,hd⟩:∃d,Af .u64 (pre.map fun k=>Cq seed k (Jo leaf k))=d:=⟨_,rfl⟩
 have hdl:d.length=pre.length:=by rw[←hd,At,List.length_map]
 rw[hd]
 have Vc:∀id bx,Br (SU leaf chv pre.length d) id=some bx->(id=96000∧bx=.st [.sc (.int .i64 leaf),.sc chv,.view 20 1 0 pre.length])∨(id=20∧bx=.ar false d):=by
  intro id bx e;rcases Rb (SU leaf chv pre.length d) id with h1|⟨p,hp,h1,h2⟩
  ·rw[h1] at e;cases e
  ·rw[h2] at e;cases e;simp only[List.mem_cons,List.not_mem_nil,or_false] at hp;rcases hp with rfl|rfl
   ·exact .inl ⟨h1.symm,rfl⟩
   ·exact .inr ⟨h1.symm,rfl⟩
 have hX:∀b,BZ (Br (SU leaf chv pre.length d)) β b->b=b10∨∃po,q=some (b,po):=by
  rintro b' ⟨id,o',hl,hb⟩
  cases hh:Br (SU leaf chv pre.length d) id with
  |none=>rw[hh] at hl;exact hl.elim
  |some bx=>
   rcases Vc id bx hh with⟨rfl,_⟩|⟨rfl,_⟩
   ·rw[e1] at hb;cases hb;exact .inl rfl
   ·rw[e2] at hb;exact .inr ⟨o',hb⟩
 have hqz:∀b' po,q=some (b',po)->Z b'∧(D+2<=b'∨b'=e0)∧b'<A.heap.size:=by
  intro b' po e;rcases hq with⟨h1,_⟩|⟨pb,po',cap',h1,h2,h3,h4,h5,h6,h7,h8,h9⟩
  ·rw[h1] at e;cases e
  ·rw[h1] at e;cases e;exact⟨h7,h6,h5⟩
 have A3l:∀b',b'<wS.heap.size->b'≠b10->b'≠e0->¬Db (Br (SU leaf chv pre.length d)) β (fun _=>False) b':=by
  rintro b' hb F9 A9a (hx|hf)
  ·rcases hX b' hx with h1|⟨po,h1⟩
   ·exact F9 h1
   ·rcases (hqz _ _ h1).2.1 with h2|h2
    ·omega
    ·exact A9a h2
  ·exact hf
 have Ku:wS.heap.size<A.heap.size:=by have:=hI.size;omega
 refine⟨β,_,e1,rfl,?_,B4.make (A3r h leaf x (2 ^ (h-x)) (Af .u64 (Ft seed (2 ^ (h-x)) x))) (SU leaf chv pre.length d) a (fun i=>i=0) (fun i hi=>by omega) ha.dfr ha.size ?_ ?_ ?_ ?_ ?_ ?_ ?_ ?_ ?_ (fun _ h=>h.elim) (fun _ h=>h.elim)⟩
 ·intro b' hb;rcases hX b' hb with rfl|⟨po,h1⟩
  ·exact⟨hI.zlo _ l10,.inl rfl⟩
  ·exact⟨(hqz _ _ h1).1,.inr (hqz _ _ h1).2.1⟩
 ·intro p hp;simp only[List.mem_cons,List.not_mem_nil,or_false] at hp;rcases hp with rfl|rfl|rfl|rfl|rfl<;>simp
 ·intro p hp;simp only[List.mem_cons,List.not_mem_nil,or_false] at hp;rcases hp with rfl|rfl|rfl|rfl|rfl
  ·refine⟨⟨b5,o5,none⟩,ha.t5,rfl,by show b5<_;omega,A3l b5 l5 n5 m5,fun j c hj=>?_⟩
   match j,hj with
   |0,hj=>cases hj;exact⟨_,(World.cell?_of_block (a:=⟨b5,o5,none⟩) (hI.keep b5 l5 n5 m5)).trans h5,rfl,Aw.sc _⟩
  ·refine⟨⟨b6,o6,none⟩,ha.t6,rfl,by show b6<_;omega,A3l b6 l6 n6 m6,fun j c hj=>?_⟩
   match j,hj with
   |0,hj=>cases hj;exact⟨_,(World.cell?_of_block (a:=⟨b6,o6,none⟩) (hI.keep b6 l6 n6 m6)).trans h6,rfl,Aw.sc _⟩
  ·exact⟨b10,o10,e1,ha.t10⟩
  ·show Ed _ _ _ (.sc (.int .i64 x)) (a.tmps.getD 11 undef);rw[ha.t11,Es];exact Aw.sc _
  ·show Ed _ _ _ (.lst false 1 _ _) (a.tmps.getD 12 undef);rw[ha.t12,Es];refine Aw.lst 1 _ _ ⟨b,o,none⟩ cap (fun j=>.int .u64 (Cq seed x j)) rfl CP ?_ LO ?_ (fun _ _ _=>rfl) ?_
   ·rintro (Z6|hf)
    ·rcases hX b Z6 with h1|⟨po,h1⟩
     ·exact hbz (h1 ▸ hI.zlo _ l10)
     ·exact hbz (hqz _ _ h1).1
    ·exact hf
   ·intro j c hj;rw[Er];have Cd:j<(Af .u64 (Ft seed (2 ^ (h-x)) x)).length:=(List.getElem?_eq_some_iff.1 hj).1;rw[At,PE] at Cd;exact hcell j Cd
   ·intro j c hj;have Cd:j<(Af .u64 (Ft seed (2 ^ (h-x)) x)).length:=(List.getElem?_eq_some_iff.1 hj).1;rw[At,PE] at Cd;rw[Nr (Uj seed Cd)] at hj;cases hj;exact Aw.sc _
 ·intro id bx e;rcases Vc id bx e with⟨rfl,rfl⟩|⟨rfl,rfl⟩
  ·refine⟨b10,o10,e1,fun j c hj=>?_,fun j hj=>hI.fz j hj⟩
   match j,hj with
   |0,hj=>cases hj;exact⟨_,hI.c0,Aw.sc _⟩
   |1,hj=>cases hj;exact⟨_,hI.c1,Aw.sc _⟩
   |2,hj=>
    cases hj;refine⟨_,CE,?_⟩;rcases hq with⟨h1,h2,h3⟩|⟨pb,po,cap',h1,h2,h3,h4,h5,h6,h7,h8,h9⟩
    ·exact .inl ⟨e2.trans h1,rfl,by rw[h2];rfl,h3⟩
    ·exact .inr ⟨pb,po,po,cap',e2.trans h1,h2,.inl rfl,h3,by omega,h5⟩
  ·rcases hq with⟨h1,h2,h3⟩|⟨pb,po,cap',h1,h2,h3,h4,h5,h6,h7,h8,h9⟩
   ·exact .inl ⟨e2.trans h1,by rw[←hd,h2];rfl⟩
   ·refine .inr ⟨pb,po,e2.trans h1,fun j c hj=>?_,fun _=>h9,fun h=>by cases h⟩
    have Cd:j<d.length:=(List.getElem?_eq_some_iff.1 hj).1;have Ad5:j<(pre.map fun k=>Cq seed k (Jo leaf k)).length:=by rw[List.length_map];omega
    rw[←hd,Nr (List.getElem?_eq_getElem Ad5)] at hj;cases hj;rw[Er];exact⟨_,h8 j _ (List.getElem?_eq_getElem Ad5),rfl,Aw.sc _⟩
 ·intro id id' b1 o1 o2 g1 g2 g3 g4
  have Bo:∀i,Cs (Br (SU leaf chv pre.length d) i)->i=96000∨i=20:=by
   intro i hi;cases hh:Br (SU leaf chv pre.length d) i with
   |none=>rw[hh] at hi;exact hi.elim
   |some bx=>exact (Vc i bx hh).imp (·.1) (·.1)
  have F9:∀po po',β 96000=some (b1,po)->β 20=some (b1,po')->False:=by
   intro po po' f1 f2;rw[e1] at f1;rw[e2] at f2;cases f1;rcases (hqz _ _ f2).2.1 with h2|h2
   ·omega
   ·exact m10 h2
  rcases Bo id g1 with rfl|rfl<;>rcases Bo id' g2 with rfl|rfl
  ·rfl
  ·exact (F9 _ _ g3 g4).elim
  ·exact (F9 _ _ g4 g3).elim
  ·rfl
 ·intro id b1 o1 g1 g2;cases hh:Br (SU leaf chv pre.length d) id with
  |none=>exact absurd hh g1
  |some bx=>
   rcases Vc id bx hh with⟨rfl,_⟩|⟨rfl,_⟩
   ·rw[e1] at g2;cases g2;omega
   ·rw[e2] at g2;exact (hqz _ _ g2).2.2
 ·intro p hp id Bo;simp only[List.mem_cons,List.not_mem_nil,or_false] at hp;rcases hp with rfl|rfl|rfl|rfl|rfl<;>simp[B7,Cj,Av] at Bo
  subst Bo;simp[Br]
 ·intro id cells e c hc i hi;rcases Vc id _ e with⟨rfl,e'⟩|⟨rfl,e'⟩
  ·cases e';simp only[List.mem_cons,List.not_mem_nil,or_false] at hc;rcases hc with rfl|rfl|rfl<;>simp[Av] at hi
   subst hi;exact fun h0:some (Bx.ar false d)=none=>by cases h0
  ·cases e'
 ·intro i hi;subst hi;simp[Br,Dh]
 ·intro id c e;rcases Vc id _ e with⟨rfl,e'⟩|⟨rfl,e'⟩
  ·exact⟨0,rfl,rfl⟩
  ·cases e'
end
section
open Go.Proofs.Tryd (prog)
open Go.IntKind (wrap)
set_option maxRecDepth 20000
open Go Go.RowKit
theorem Ak5:∀h:Nat,h<5->∀k:Nat,k<h->∀n:Nat,n<16->n<2 ^ h->0<=Jo (n:Int) k∧Jo (n:Int) k<((2 ^ (h-k):Nat):Int):=by decide +kernel
theorem Aha {wS:World}{D:Nat}{seed leaf:Int}{h b10 o10 e0:Nat}{chv:Value}{Z:Nat->Prop}{pre pre':List Nat}{A w':World}(hI:HS wS D seed leaf h b10 o10 e0 chv Z pre A){β':Bt}{X0:Fp}{a':Act}{m:Nat}{d:List PV}
  (hx1:X0.pt 0=some (b10,o10)) (hx2:X0.pn 0)(hX:∀b,X0.X b->Z b∧(b=b10∨D+2<=b∨b=e0)) (nD:D≠e0)(nD1:D+1≠e0)(l10:b10<wS.heap.size)(hD:wS.heap.size<=D)
  (hs:B4 48 A X0 (fun _=>False) β' ⟨lk [(10,.ptr 96000 0)],Br [(96000,.st [.sc (.int .i64 leaf),.sc chv,.view 96144 1 0 m]),(96144,.ar false d)]⟩ a' w')
  (hm:m=pre'.length)(hd:d=Af .u64 (pre'.map fun k=>Cq seed k (Jo leaf k))) (Cd:∀x∈pre',x<h)(hZD:Z D)(Atf:Z (D+1)):
  Qm Z (fun b=>Z b∨(A.heap.size<=b∧b<w'.heap.size)) A w'∧w'.heap[D]?=A.heap[D]?∧w'.heap[D+1]?=A.heap[D+1]?∧HS wS D seed leaf h b10 o10 e0 chv (fun b=>Z b∨(A.heap.size<=b∧b<w'.heap.size)) pre' w':=by
 have Ku:=hI.size;have Gk:=hs.fr.step
 have same:∀b,b<A.heap.size->b≠b10->b≠e0->b<D+2->w'.heap[b]?=A.heap[b]?:=fun b hb hn NC hl=>Gk.keep b hb fun hx=>by
  rcases (hX b hx).2 with h1|h1|h1
  ·exact hn h1
  ·omega
  ·exact NC h1
 have hp:β' 96000=some (b10,o10):=(hs.pin 0 hx2).2.trans hx1;obtain⟨b,o,g1,g2,g3⟩:=(show ∃b o,β' 96000=some (b,o)∧_∧_ from hs.box 96000 _ (rfl:_=some (Bx.st [.sc (.int .i64 leaf),.sc chv,.view 96144 1 0 m])))
 rw[hp] at g1;cases g1;obtain⟨v0,q0,r0⟩:=g2 0 _ rfl;obtain⟨v1,q1,r1⟩:=g2 1 _ rfl;obtain⟨v2,q2,r2⟩:=g2 2 _ rfl;have r0:=Aw.val r0;have r1:=Aw.val r1;subst r0 r1;have Nv:=hs.box 96144 _ (rfl:_=some (Bx.ar false d))
 have F9:∀pb po,β' 96144=some (pb,po)->pb≠b10∧(Z pb∨(A.heap.size<=pb∧pb<w'.heap.size))∧(D+2<=pb∨pb=e0)∧pb<w'.heap.size:=by
  intro pb po e;have Cd:pb<w'.heap.size:=hs.blt 96144 pb po (fun h0:some (Bx.ar false d)=none=>by cases h0) e
  have hn:pb≠b10:=by
   intro e';subst e';have:=hs.inj 96000 96144 pb o10 po trivial trivial hp e;cases this
  rcases hs.ownd pb ⟨96144,po,trivial,e⟩ with h1|h1
  ·have h2:=hX pb h1;rcases h2.2 with h3|h3
   ·exact absurd h3 hn
   ·exact⟨hn,.inl h2.1,h3,Cd⟩
  ·exact⟨hn,.inr ⟨h1,Cd⟩,.inl (by omega),Cd⟩
 refine⟨⟨hs.fr.os,hs.fr.tape,hs.fr.output,Gk.size,fun b hb hn=>Gk.keep b hb fun hx=>hn (hX b hx).1,fun b hb=>.inl hb,fun b hb=>hb.imp (fun x=>x) (·.1),fun b hb=>hb.elim (fun h1=>Nat.lt_of_lt_of_le (hI.zlt b h1) Gk.size) (·.2),Gk.bs⟩,
  same D (hI.zlt D hZD) (by omega) nD (by omega),same (D+1) (hI.zlt _ Atf) (by omega) nD1 (by omega),?_⟩
 refine⟨hs.fr.os.trans hI.os,hs.fr.tape.trans hI.tape,hs.fr.output.trans hI.output,by have:=Gk.size;omega,fun b hb=>.inl (hI.zlo b hb),fun b hb=>hb.elim (fun h1=>Nat.lt_of_lt_of_le (hI.zlt b h1) Gk.size) (·.2),fun b hb hn NC=>(same b (by omega) hn NC (by omega)).trans (hI.keep b hb hn NC),Nat.le_trans hI.bs (Gk.bs b10 (by omega)),q0,q1,fun k hk=>g3 k hk,Cd,v2,q2,?_,?_⟩
 ·rcases r2 with⟨f1,_,f3,f4⟩|⟨pb,po,xx,cap,f1,f2,f3,f4,f5,f6⟩
  ·have:pre'=[]:=List.length_eq_zero_iff.1 (by omega)
   exact .inl ⟨by rw[this];rfl,f4⟩
  ·rcases Nv with⟨e1,_⟩|⟨pb',po',e1,e2,e3,_⟩
   ·rw[f1] at e1;cases e1
   ·rw[f1] at e1;cases e1;have hxx:xx=po:=by omega
    subst hxx;rcases Nat.eq_zero_or_pos cap with q0|q0
    ·subst q0;have:pre'=[]:=List.length_eq_zero_iff.1 (by omega)
     have h0:m=0:=by omega
     exact .inl ⟨by rw[this];rfl,_,by rw[f2,h0]⟩
    refine .inr ⟨pb,xx,cap,q0,by rw[f2,List.length_map,hm],by rw[List.length_map];omega,by omega,f6,(F9 pb xx f1).2.2.1,fun j y hj=>?_,fun j hj hjb=>e3 rfl j hj hjb⟩
    obtain⟨v,h1,_,h3⟩:=e2 j (.sc (.int .u64 y)) (by rw[hd];exact Nr hj)
    rw[Er] at h1;rw[h1,Aw.val h3]
 ·intro pb po n cap hc0 e;rcases r2 with⟨f1,_,f3,ad,f4⟩|⟨pb',po',xx,cap',f1,f2,f3,f4,f5,f6⟩
  ·rw[f4] at e;cases e;omega
  ·rw[f2] at e;cases e;exact (F9 pb po' f1).2.1
def Ay4 (wS:World)(D:Nat)(seed leaf:Int)(h b10 o10 e0:Nat)(chv:Value)(c:Code)(Z:Nat->Prop)(xs:List Nat)(B:World):Prop:=c=.exit 0∧∃pre,xs=pre++[h]∧HS wS D seed leaf h b10 o10 e0 chv Z pre B
theorem Amj {wS:World}{D:Nat}{seed leaf:Int}{h b5 o5 b6 o6 b10 o10 e0:Nat}{chv:Value}{Z:Nat->Prop}{pre:List Nat}{A:World}(hh:h<=4)(Vc:0<=leaf)(GT:leaf<((2 ^ h:Nat):Int)) (hI:HS wS D seed leaf h b10 o10 e0 chv Z pre A){x:Nat}{args:Array Value}(hM:lvM seed h pre x args Z A){a:Act}(ha:A2o wS b5 o5 b6 o6 b10 o10 args a)
  (h5:wS.cell? ⟨b5,o5,none⟩=some (.int .i64 h)) (h6:wS.cell? ⟨b6,o6,none⟩=some (.int .i64 leaf)) (l5:b5<wS.heap.size)(l6:b6<wS.heap.size)(l10:b10<wS.heap.size)(n5:b5≠b10)(n6:b6≠b10)(m5:b5≠e0)(m6:b6≠e0)(m10:b10≠e0)(nD:D≠e0)(nD1:D+1≠e0)(hD:wS.heap.size<=D)(hZD:Z D)(Atf:Z (D+1)):
  Agf.wpIn (WF (some (D+1))) 0 prog (IQ D (HS wS D seed leaf h b10 o10 e0 chv) (Ay4 wS D seed leaf h b10 o10 e0 chv) Z (pre++[x]) A) a A:=by
 obtain⟨β,X0,hx1,hx2,hX,hs⟩:=Apn hI hM ha h5 h6 l5 l6 l10 n5 n6 m5 m6 m10 hD;have hx:=hM.1;have LF:pre.length<=1000:=by rw[hM.2.1,List.length_range];omega
 have CL:∀a w,¬IQ D (HS wS D seed leaf h b10 o10 e0 chv) (Ay4 wS D seed leaf h b10 o10 e0 chv) Z (pre++[x]) A .outgrown a w:=fun a w ⟨_,_,_,_,hf⟩=>hf
 by_cases hxh:x=h
 ·subst hxh;refine BK (Is _ _) DB B3 (by kernel_rfl) CL hs (t:=1) (L:=1024) (s1:=⟨lk [(10,.ptr 96000 0)],Br [(96000,.st [.sc (.int .i64 leaf),.sc chv,.view 96144 1 0 pre.length]),(96144,.ar false (Af .u64 (pre.map fun k=>Cq seed k (Jo leaf k))))]⟩) ?_ ?_
  ·refine (Ao9 cl x leaf x chv _ _ _ _).trans ?_;rw[show ((x:Int)==(x:Int))=true from beq_self_eq_true _]
   rfl
  ·intro a' w' β' hs';obtain⟨k1,k2,k3,k4⟩:=Aha hI hx1 hx2 hX nD nD1 l10 hD hs' rfl rfl hI.lt hZD Atf;exact⟨_,k1,k2,k3,rfl,pre,rfl,k4⟩
 ·have Cd:x<h:=by omega
  obtain⟨n,rfl⟩:∃n:Nat,leaf=n:=⟨leaf.toNat,by omega⟩
  have h16:2 ^ h<=16:=by
   have:2 ^ h<=2 ^ 4:=Nat.pow_le_pow_right (by omega) hh
   omega
  have sb:=Ak5 h (by omega) x Cd n (by omega) (by omega)
  have es:Ev .i64 (Ik .i64 (n:Int) (x:Int)) 1=Jo n x:=rfl;obtain⟨y,hy⟩:∃y:Nat,Jo n x=y:=⟨(Jo n x).toNat,by omega⟩
  have at1:(Af .u64 (Ft seed (2 ^ (h-x)) x)).getD y .top=.sc (.int .u64 (Cq seed x (Jo n x))):=by
   rw[hy] at sb ⊢;exact BI (Uj seed (by omega))
  have L:(Af .u64 (pre.map fun k=>Cq seed k (Jo n k))).length=pre.length:=by rw[At,List.length_map]
  have T:List.take pre.length (Af .u64 (pre.map fun k=>Cq seed k (Jo n k)))=Af .u64 (pre.map fun k=>Cq seed k (Jo n k)):=My (by omega)
  have bq:((x:Int)==(h:Int))=false:=by
   rw[beq_eq_false_iff_ne];omega
  refine BK (Is _ _) DB B3 (by kernel_rfl) CL hs (t:=0) (L:=1024) (s1:=⟨lk [(10,.ptr 96000 0)],Br [(96000,.st [.sc (.int .i64 n),.sc chv,.view 96144 1 0 (pre.length+1)]),(96144,.ar false (Af .u64 (pre.map fun k=>Cq seed k (Jo n k))++[.sc (.int .u64 (Cq seed x (Jo n x)))]))]⟩) ?_ ?_
  ·refine (Ao9 cl h n x chv _ _ _ _).trans ?_;rw[bq];have t0:(0:Int)<=x:=by omega
   have t1:(0:Int)<=y:=by omega
   have t2:(y:Int)<((2 ^ (h-x):Nat):Int):=by omega
   have NC:((pre.length+1)*8<=1099511627776):=by omega
   generalize 2 ^ (h-x)=nn at *
   simp (disch:=omega) only[Cu,es,hy,at1,L,T,Hs,Dp]
  ·intro a' w' β' hs'
   obtain⟨k1,k2,k3,k4⟩:=Aha (pre':=pre++[x]) hI hx1 hx2 hX nD nD1 l10 hD hs' (by simp) (by simp) (by
    intro z hz;rcases List.mem_append.1 hz with h1|h1
    ·exact hI.lt z h1
    ·rw[List.mem_singleton.1 h1];exact Cd) hZD Atf
   exact⟨_,k1,k2,k3,k4⟩
end
section
open Go.Proofs.Tryd (prog)
open Go.IntKind (wrap)
set_option maxRecDepth 20000
open Go Go.RowKit Go.Shelf
set_option maxHeartbeats 2000000 in
theorem As3 (seed h:Int)(n:Nat)(w:World):CallsIn Fence.wide n prog 25 #[.int .u64 seed,.int .i64 h] w fun e w'=>
  e=.returned (.func (.func 47) #[] #[.pointer (some ⟨w.heap.size+1,0,none⟩),.pointer (some ⟨w.heap.size,0,none⟩)])∧w'=(w.alloc (.cells #[.int .u64 seed] 24)).alloc (.cells #[.int .i64 h] 3):=by
 refine callsIn_of_wp Tryd.func25 rfl trivial ?_ rfl;simp only[Tryd.ntmps25,List.size_toArray,Io,W5,Nat.reduceAdd,Nat.reduceSub,Array.replicate_succ,Array.replicate_zero,List.push_toArray,List.append_toArray,Zzq,Zzp]
 gi_wp2
 go_ret
 exact⟨rfl,rfl⟩
end
section
open Go.IntKind (wrap)
set_option maxRecDepth 20000
open Go Go.RowKit
theorem Ayq {G:Us}{P:Program}{f:FuncId}{v0 v1 v2 v3:Value}{vals:List PV}(hf:∃fn,P.funcs[f]?=some fn∧fn.body.isSome=true)
  (h:∀(w:World)(Y:Nat->Prop),(∀b,Y b->b<w.heap.size)->Calls P f #[v0,v1,v2,v3] w fun e w'=>∃vs own,e=.returned (K5 vs)∧Out w w' Y Xj [.sc v0,.sc v1,.sc v2,.sc v3] own ⟨vals,[]⟩ vs):C7 G P f [.sc v0,.sc v1,.sc v2,.sc v3] ⟨vals,[]⟩:=by
 refine⟨hf,fun w Y bt us Y7 _ _=>?_⟩
 have hus:us=[v0,v1,v2,v3]:=by
  have ha:=Y7.args
  match us,ha with
  |[u0,u1,u2,u3],⟨h0,h1,h2,h3,_⟩=>
   rw[Aw.val h0.2,Aw.val h1.2,Aw.val h2.2,Aw.val h3.2]
 subst hus
 have hl:∀i q,bt i 0≠some q:=by
  intro i q e;obtain⟨p,h1,h2⟩:=Y7.l0 i q e
  match i,h1 with
  |0,h1=>cases h1;cases h2
  |1,h1=>cases h1;cases h2
  |2,h1=>cases h1;cases h2
  |3,h1=>cases h1;cases h2
 refine (h w Y Y7.Ylt).mono ?_
 rintro e w' ⟨vs,own,rfl,ho⟩
 have hA:RE bt own Y=RE Xj own Y:=by
  funext b
  apply propext;constructor
  ·rintro (h1|⟨i,o,h1⟩|h1)
   ·exact .inl h1
   ·exact absurd h1 (hl i _)
   ·exact .inr (.inr h1)
  ·rintro (h1|⟨i,o,h1⟩|h1)
   ·exact .inl h1
   ·cases h1
   ·exact .inr (.inr h1)
 refine⟨vs,own,rfl,ho.os,ho.tape,ho.output,ho.ext.weaken (fun b _ hb=>absurd hb (Pk b)),fun b j hb _=>ho.rng b j hb ?_,by rw[hA];exact ho.vals,rfl,fun j b o hj=>⟨(ho.fresh j b o hj).1,fun Cd=>?_⟩,ho.inj⟩
 ·rintro⟨i,p,_,⟨k,o,h1,_⟩|⟨o,ps,h1,_⟩⟩
  ·cases h1
  ·cases h1
 ·obtain⟨⟨i,k,o',h1⟩,_⟩:=(ho.fresh j b o hj).2 Cd;cases h1
theorem B4.unbase {N:Nat}{we B w':World}{X XB:Fp}{Y YB:Nat->Prop}{β:Bt}{s:St}{a:Act}(h:B4 N B XB YB β s a w')(hY:∀b,Y b->YB b)(Ax9:∀b,Y b->b<we.heap.size)(Gx:∀b,XB.X b->we.heap.size<=b)(hpn:∀i,¬X.pn i)
  (hos:B.os=we.os)(ht:B.tape=we.tape)(hou:B.output=we.output)(Ku:we.heap.size<=B.heap.size)(hk:∀b,b<we.heap.size->B.heap[b]?=we.heap[b]?):B4 N we X Y β s a w':=by
 have hX:∀b,BZ s.hp β b->we.heap.size<=b:=fun b hb=>(h.ownd b hb).elim (Gx b) (fun h1=>Nat.le_trans Ku h1)
 have hA:∀b,Db s.hp β Y b->Db s.hp β YB b:=fun b hb=>hb.imp (fun x=>x) (hY b)
 have Gk:Co (Db s.hp β YB) w' w':=⟨Nat.le_refl _,fun _ _ _=>rfl,fun _ _=>Nat.le_refl _⟩
 have hkw:∀b,b<we.heap.size->w'.heap[b]?=we.heap[b]?:=fun b hb=>(h.fr.step.keep b (by omega) fun hx=>by have:=Gx b hx;omega).trans (hk b hb)
 refine⟨h.dfr,h.tsz,h.tmo,fun i hi=>(h.tms i hi).step Gk (fun b _=>hA b) fun _ _=>rfl,fun id bx e=>(h.box id bx e).step' hA,h.inj,h.blt,h.wfT,h.wfB,fun b hb=>.inr (hX b hb),fun id bx b o h1 h2 h3 h4=>?_,fun i hi=>absurd hi (hpn i),fun id c b o h1 h2 h3=>?_,fun b hy=>h.Yx b (hY b hy),Ax9,
  ⟨h.fr.os.trans hos,h.fr.tape.trans ht,h.fr.output.trans hou,⟨Nat.le_trans Ku h.fr.step.size,fun b hb _=>hkw b hb,fun b hb=>by unfold bsz;rw[hkw b hb];exact Nat.le_refl _⟩,fun b j hb _=>⟨World.cell?_of_block (hkw b hb),frozen?_of_block (hkw b hb)⟩⟩⟩
 ·have:=hX b ⟨id,o,by rw[h1];exact h2,h3⟩
  omega
 ·have:=hX b ⟨id,o,by rw[h1];trivial,h2⟩
  omega
theorem HS.stay {wS:World}{D:Nat}{seed leaf:Int}{h b10 o10 e0:Nat}{chv:Value}{Z:Nat->Prop}{pre:List Nat}{A B:World}(hI:HS wS D seed leaf h b10 o10 e0 chv Z pre A)(l10:b10<wS.heap.size)(nD:D≠e0)(nD1:D+1≠e0)(hD:wS.heap.size<=D)(hs:L5 (fun b=>Z b∧b≠D∧b≠D+1) A B):HS wS D seed leaf h b10 o10 e0 chv Z pre B:=by
 have e:∀b,b<wS.heap.size->B.heap[b]?=A.heap[b]?:=fun b hb=>hs.same b ⟨hI.zlo b hb,by omega,by omega⟩
 have hb:bsz B b10=bsz A b10:=by unfold bsz;rw[e b10 l10]
 have hc:∀j,B.cell? ⟨b10,j,none⟩=A.cell? ⟨b10,j,none⟩:=fun j=>World.cell?_of_block (e b10 l10)
 obtain⟨pv,p1,p2,p3⟩:=hI.path;refine⟨hs.os.trans hI.os,hs.tape.trans hI.tape,hs.output.trans hI.output,Nat.le_trans hI.size hs.size,hI.zlo,fun b hz=>Nat.lt_of_lt_of_le (hI.zlt b hz) hs.size,fun b hb hn NC=>(e b hb).trans (hI.keep b hb hn NC),by rw[hb];exact hI.bs,(hc _).trans hI.c0,(hc _).trans hI.c1,fun k hk=>by rw[frozen?_of_block (e b10 l10)];exact hI.fz k hk,hI.lt,pv,(hc _).trans p1,?_,p3⟩
 rcases p2 with p2|⟨pb,po,cap,h0,h1,h2,h3,h4,h5,h6,h7⟩
 ·exact .inl p2
 ·have hh:B.heap[pb]?=A.heap[pb]?:=hs.same pb ⟨p3 _ _ _ _ h0 h1,by omega,by omega⟩
  have hbb:bsz B pb=bsz A pb:=by unfold bsz;rw[hh]
  exact .inr ⟨pb,po,cap,h0,h1,h2,by rw[hbb];exact h3,Nat.lt_of_lt_of_le h4 hs.size,h5,fun j x hj=>(World.cell?_of_block (a:=⟨pb,po+j,none⟩) hh).trans (h6 j x hj),fun j hj hjb=>by rw[frozen?_of_block hh];exact h7 j hj (by rw[←hbb];exact hjb)⟩
end
section
open Go.IntKind (wrap)
set_option maxRecDepth 20000
open Go Go.RowKit
abbrev sgE (leaf:Int)(n1 n2:Nat)(c1 c2:List PV):List (Nat × PV):=[(8,.ptr 96000 0),(9,.sc (.int .i64 0)),(10,.iptr [.sc (.int .i64 leaf),.lst false 1 n1 c1,.lst false 1 n2 c2] 0)]
theorem Axt {wS:World}{D:Nat}{seed leaf:Int}{h b8 o8 b10 o10 e0:Nat}{chv:Value}{Z:Nat->Prop}{pre:List Nat}{B:World}{Y:Nat->Prop}{a:Act}{n1:Nat}{c1:List PV}(hB:HS wS D seed leaf h b10 o10 e0 chv Z pre B)
  (hd:a.defers=[]) (Ku:a.tmps.size=48)(t8:a.tmps.getD 8 undef=.pointer (some ⟨b8,o8,none⟩)) (t9:a.tmps.getD 9 undef=.int .i64 0)(t10:a.tmps.getD 10 undef=.pointer (some ⟨b10,o10,none⟩))
  (c8:∀j,j<3->∃v,B.cell? ⟨b8,o8+j,none⟩=some v)(f8:∀j,j<3->B.frozen? ⟨b8,o8+j,none⟩=false)(l8:b8<B.heap.size)(l10:b10<B.heap.size)(n8:b8≠b10)(y8:¬Y b8)(y10:¬Y b10)
  (hch:Aw B (fun b=>b=b8∨Y b) (.lst false 1 n1 c1) chv) (Bam:chv.oneCell'=true)(hp:∀pb,(D+2<=pb∨pb=e0)->pb≠b8∧¬Y pb) (hY:∀b,Y b->b<B.heap.size):
  ∃X0 β,(∀b,X0.X b->b=b8)∧B4 48 B X0 Y β ⟨lk (sgE leaf n1 pre.length c1 (Af .u64 (pre.map fun k=>Cq seed k (Jo leaf k)))),Br [(96000,.st [.top,.top,.top])]⟩ a B:=by
 obtain⟨pv,CE,Gx,hpz⟩:=hB.path;obtain⟨β,hβ⟩:∃β:Bt,β=fun id=>if id=96000 then some (b8,o8) else none:=⟨_,rfl⟩
 have e1:β 96000=some (b8,o8):=by rw[hβ];rfl
 have Vc:∀id bx,Br [(96000,Bx.st [.top,.top,.top])] id=some bx->id=96000∧bx=.st [.top,.top,.top]:=by
  intro id bx e;rcases Rb [(96000,Bx.st [.top,.top,.top])] id with h1|⟨p,hp,h1,h2⟩
  ·rw[h1] at e;cases e
  ·rw[h2] at e;cases e;simp only[List.mem_cons,List.not_mem_nil,or_false] at hp;subst hp;exact⟨h1.symm,rfl⟩
 have hX:∀b,BZ (Br [(96000,Bx.st [.top,.top,.top])]) β b->b=b8:=by
  rintro b' ⟨id,o',hl,hb⟩
  cases hh:Br [(96000,Bx.st [.top,.top,.top])] id with
  |none=>rw[hh] at hl;exact hl.elim
  |some bx=>
   obtain⟨rfl,_⟩:=Vc id bx hh;rw[e1] at hb;cases hb;rfl
 have hA:∀b,Db (Br [(96000,Bx.st [.top,.top,.top])]) β Y b->b=b8∨Y b:=fun b hb=>hb.imp (hX b) (fun x=>x)
 have Gk:Co (fun b=>b=b8∨Y b) B B:=⟨Nat.le_refl _,fun _ _ _=>rfl,fun _ _=>Nat.le_refl _⟩
 have one:pv.oneCell'=true:=by
  rcases Gx with⟨_,ad,h2⟩|⟨pb,po,cap,_,h1,_⟩
  ·rw[h2];rfl
  ·rw[h1];rfl
 refine⟨_,β,?_,B4.make (sgE leaf n1 pre.length c1 (Af .u64 (pre.map fun k=>Cq seed k (Jo leaf k)))) [(96000,.st [.top,.top,.top])] a (fun i=>i=0) (fun i hi=>by omega) hd Ku ?_ ?_ ?_ ?_ ?_ ?_ ?_ ?_ ?_ ?_ hY⟩
 ·exact hX
 ·intro p C1;simp only[List.mem_cons,List.not_mem_nil,or_false] at C1;rcases C1 with rfl|rfl|rfl<;>simp
 ·intro p C1;simp only[List.mem_cons,List.not_mem_nil,or_false] at C1;rcases C1 with rfl|rfl|rfl
  ·exact⟨b8,o8,e1,t8⟩
  ·show Ed _ _ _ (.sc (.int .i64 0)) (a.tmps.getD 9 undef);rw[t9];exact Aw.sc _
  ·refine⟨⟨b10,o10,none⟩,t10,rfl,l10,fun hb=>?_,fun j c hj=>?_⟩
   ·rcases hA _ hb with h1|h1
    ·exact n8 h1.symm
    ·exact y10 h1
   ·match j,hj with
    |0,hj=>cases hj;exact⟨_,hB.c0,rfl,Aw.sc _⟩
    |1,hj=>cases hj;exact⟨_,hB.c1,Bam,hch.step Gk fun b _=>hA b⟩
    |2,hj=>
     cases hj;refine⟨_,CE,one,?_⟩;rcases Gx with⟨h1,ad,h2⟩|⟨pb,po,cap,_,h1,h2,h3,h4,h5,h6,h7⟩
     ·rw[h2];have:pre=[]:=by simpa using h1
      subst this;cases ad with
      |none=>exact Aw.lnil _ _
      |some p=>exact Aw.lemp _ p 0
     ·rw[h1,List.length_map];rw[List.length_map] at h2;refine Aw.lst 1 _ _ ⟨pb,po,none⟩ cap (fun j=>.int .u64 ((pre.map fun k=>Cq seed k (Jo leaf k)).getD j 0)) rfl h4 (fun hb=>?_) h2 ?_ (fun _ _ _=>rfl) ?_
      ·have hh:=hp pb h5;rcases hA _ hb with h8|h8
       ·exact hh.1 h8
       ·exact hh.2 h8
      ·intro j c hj;have Cd:j<(Af .u64 (pre.map fun k=>Cq seed k (Jo leaf k))).length:=(List.getElem?_eq_some_iff.1 hj).1
       rw[At] at Cd;rw[Er,h6 j _ (List.getElem?_eq_getElem Cd),List.getD_eq_getElem?_getD,List.getElem?_eq_getElem Cd];rfl
      ·intro j c hj;have Cd:j<(Af .u64 (pre.map fun k=>Cq seed k (Jo leaf k))).length:=(List.getElem?_eq_some_iff.1 hj).1
       rw[At] at Cd;rw[Nr (List.getElem?_eq_getElem Cd)] at hj;cases hj;rw[List.getD_eq_getElem?_getD,List.getElem?_eq_getElem Cd];exact Aw.sc _
 ·intro id bx e;obtain⟨rfl,rfl⟩:=Vc id bx e;refine⟨b8,o8,e1,fun j c hj=>?_,fun j hj=>f8 j hj⟩
  have Cd:j<3:=(List.getElem?_eq_some_iff.1 hj).1;obtain⟨v,hv⟩:=c8 j Cd
  match j,hj with
  |0,hj=>cases hj;exact⟨v,hv,Aw.top _⟩
  |1,hj=>cases hj;exact⟨v,hv,Aw.top _⟩
  |2,hj=>cases hj;exact⟨v,hv,Aw.top _⟩
 ·intro id id' b1 o1 o2 g1 g2 g3 g4
  have Bo:∀i,Cs (Br [(96000,Bx.st [.top,.top,.top])] i)->i=96000:=by
   intro i hi;cases hh:Br [(96000,Bx.st [.top,.top,.top])] i with
   |none=>rw[hh] at hi;exact hi.elim
   |some bx=>exact (Vc i bx hh).1
  rw[Bo id g1,Bo id' g2]
 ·intro id b1 o1 g1 g2;cases hh:Br [(96000,Bx.st [.top,.top,.top])] id with
  |none=>exact absurd hh g1
  |some bx=>
   obtain⟨rfl,_⟩:=Vc id bx hh;rw[e1] at g2;cases g2;exact l8
 ·intro p C1 id Bo;simp only[List.mem_cons,List.not_mem_nil,or_false] at C1;rcases C1 with rfl|rfl|rfl<;>simp[B7,Cj,Av] at Bo
  subst Bo;simp[Br]
 ·intro id cells e c hc i hi;obtain⟨rfl,e'⟩:=Vc id _ e;cases e';simp only[List.mem_cons,List.not_mem_nil,or_false] at hc;rcases hc with rfl|rfl|rfl<;>simp[Av] at hi
 ·intro i hi;subst hi;simp[Br,Dh]
 ·intro id c e;obtain⟨rfl,_⟩:=Vc id _ e;exact⟨0,rfl,rfl⟩
 ·intro b hy hx;rw[hX b hx] at hy;exact y8 hy
end
section
open Go.IntKind (wrap)
set_option maxRecDepth 20000
open Go Go.RowKit
abbrev Aku (seed h leaf m:Int)(n:Nat)(c:List PV):St:=
  ⟨lk [(0,.sc (.int .u64 seed)),(3,.sc (.int .u64 m)),(5,.ptr 5 0),(6,.ptr 6 0),(8,.ptr 8 0),(9,.sc (.int .i64 0)),(10,.ptr 10 0),(27,.sc (.int .u64 seed)),(28,.sc (.int .i64 h))],
   Br [(5,.st [.sc (.int .i64 h)]),(6,.st [.sc (.int .i64 leaf)]),(8,.st [.sc (.int .i64 0),.view 104 1 0 0,.view 152 1 0 0]),(104,.ar false []),(152,.ar false []),(10,.st [.sc (.int .i64 leaf),.view 106 1 0 n,.view 154 1 0 0]),(106,.ar false c),(154,.ar false [])]⟩
theorem B4.var {N:Nat}{w0:World}{X0:Fp}{Y:Nat->Prop}{β:Bt}{s:St}{a:Act}{w:World}(h:B4 N w0 X0 Y β s a w){i id:Nat}{cells:List PV}(hi:i<N)(ht:s.tm i=.ptr id 0)(hb:s.hp id=some (.st cells)):
  ∃b o,β id=some (b,o)∧a.tmps.getD i undef=.pointer (some ⟨b,o,none⟩)∧b<w.heap.size∧(∀j c,cells[j]?=some c->∃v,w.cell? ⟨b,o+j,none⟩=some v∧Ci w (Db s.hp β Y) β c v)∧∀j,j<cells.length->w.frozen? ⟨b,o+j,none⟩=false:=by
 have h1:=h.tms i hi;rw[ht] at h1;obtain⟨b,o,e1,e2⟩:=(show ∃b o,β id=some (b,o)∧a.tmps.getD i undef=.pointer (some ⟨b,o+0,none⟩) from h1)
 obtain⟨b',o',e3,e4,e5⟩:=(show ∃b o,β id=some (b,o)∧_∧_ from h.box id _ hb)
 rw[e1] at e3;cases e3;exact⟨b,o,e1,e2,h.blt id b o (by rw[hb];simp) e1,e4,e5⟩
structure A1y (w w4:World) (Y:Nat->Prop) (seed h leaf:Int) (c:List PV) (n:Nat) (a4:Act) (b5 o5 b6 o6 b8 o8 b10 o10 e0:Nat) (chv:Value):Prop where
 t5:a4.tmps.getD 5 undef=.pointer (some ⟨b5,o5,none⟩)
 t6:a4.tmps.getD 6 undef=.pointer (some ⟨b6,o6,none⟩)
 t8:a4.tmps.getD 8 undef=.pointer (some ⟨b8,o8,none⟩)
 t9:a4.tmps.getD 9 undef=.int .i64 0
 t10:a4.tmps.getD 10 undef=.pointer (some ⟨b10,o10,none⟩)
 t27:a4.tmps.getD 27 undef=.int .u64 seed
 t28:a4.tmps.getD 28 undef=.int .i64 h
 c5:w4.cell? ⟨b5,o5,none⟩=some (.int .i64 h)
 c6:w4.cell? ⟨b6,o6,none⟩=some (.int .i64 leaf)
 c8:∀j,j<3->∃v,w4.cell? ⟨b8,o8+j,none⟩=some v
 f8:∀j,j<3->w4.frozen? ⟨b8,o8+j,none⟩=false
 c10:w4.cell? ⟨b10,o10,none⟩=some (.int .i64 leaf)
 c11:w4.cell? ⟨b10,o10+1,none⟩=some chv
 f10:∀j,j<3->w4.frozen? ⟨b10,o10+j,none⟩=false
 l5:b5<w4.heap.size
 l6:b6<w4.heap.size
 l8:b8<w4.heap.size
 l10:b10<w4.heap.size
 le:e0<=w4.heap.size
 n5:b5≠b10
 n6:b6≠b10
 m5:b5≠e0
 m6:b6≠e0
 m10:b10≠e0
 n8:b8≠b10
 m8:b8≠e0
 y8:¬Y b8
 y10:¬Y b10
 ye:¬Y e0
 g10:w.heap.size<=b10
 ge:w.heap.size<=e0
 g8:w.heap.size<=b8
 one:chv.oneCell'=true
 ch:∀B:World,w4.heap.size<=B.heap.size->(∀b,b<w4.heap.size->b≠b10->b≠e0->B.heap[b]?=w4.heap[b]?)->Aw B (fun b=>b=b8∨Y b) (.lst false 1 n c) chv
 p0:∃v2,w4.cell? ⟨b10,o10+2,none⟩=some v2∧((∃ad,v2=.slice ad 0 0)∨∃x cap,v2=.slice (some ⟨e0,x,none⟩) 0 cap∧x+cap<=bsz w4 e0∧e0<w4.heap.size∧∀j,x<=j->j<bsz w4 e0->w4.frozen? ⟨e0,j,none⟩=false)
theorem Ane {w w4:World}{Y:Nat->Prop}{seed h leaf m:Int}{l:List Int}{n:Nat}{a4:Act}{X0:Fp}{β4:Bt}(hn:0<n)(hl:l.length=n)(hX:∀b,¬X0.X b)(hs:B4 48 w X0 Y β4 (Aku seed h leaf m n (Af .u64 l)) a4 w4):
  ∃b5 o5 b6 o6 b8 o8 b10 o10 e0 chv,A1y w w4 Y seed h leaf (Af .u64 l) n a4 b5 o5 b6 o6 b8 o8 b10 o10 e0 chv:=by
 obtain⟨b5,o5,e5,t5,l5,k5,f5⟩:=hs.var (i:=5) (id:=5) (by decide) rfl rfl
 obtain⟨b6,o6,e6,t6,l6,k6,f6⟩:=hs.var (i:=6) (id:=6) (by decide) rfl rfl
 obtain⟨b8,o8,e8,t8,l8,k8,f8⟩:=hs.var (i:=8) (id:=8) (by decide) rfl rfl
 obtain⟨b10,o10,e10,t10,l10,k10,f10⟩:=hs.var (i:=10) (id:=10) (by decide) rfl rfl
 obtain⟨v5,q5,r5⟩:=k5 0 _ rfl;obtain⟨v6,q6,r6⟩:=k6 0 _ rfl;obtain⟨v80,q80,_⟩:=k8 0 _ rfl;obtain⟨v81,q81,_⟩:=k8 1 _ rfl;obtain⟨v82,q82,_⟩:=k8 2 _ rfl;obtain⟨v0,q0,r0⟩:=k10 0 _ rfl;obtain⟨v1,q1,r1⟩:=k10 1 _ rfl;obtain⟨v2,q2,r2⟩:=k10 2 _ rfl;have r5:=Aw.val r5;have r6:=Aw.val r6;have r0:=Aw.val r0;subst r5 r6 r0;have H3:=hs.box 106 _ (rfl:_=some (Bx.ar false (Af .u64 l)));have Nv:=hs.box 154 _ (rfl:_=some (Bx.ar false []));have own:∀id b o,Cs ((Aku seed h leaf m n (Af .u64 l)).hp id)->β4 id=some (b,o)->w.heap.size<=b∧¬Y b:=fun id b o h1 h2=>⟨(hs.ownd b ⟨id,o,h1,h2⟩).elim (fun x=>absurd x (hX b)) (fun x=>x),fun hy=>hs.Yx b hy ⟨id,o,h1,h2⟩⟩
 have dif:∀id id' b b' o o',id≠id'->Cs ((Aku seed h leaf m n (Af .u64 l)).hp id)->Cs ((Aku seed h leaf m n (Af .u64 l)).hp id')->β4 id=some (b,o)->β4 id'=some (b',o')->b≠b':=fun id id' b b' o o' F9 h1 h2 h3 h4 e=>by
  subst e;exact F9 (hs.inj id id' b o o' h1 h2 h3 h4)
 obtain⟨e0,he1,he2⟩:∃e0,(∀b o,β4 154=some (b,o)->e0=b)∧((∃o,β4 154=some (e0,o))∨e0=w4.heap.size):=by
  cases hq:β4 154 with
  |none=>exact⟨w4.heap.size,fun b o h=>by (cases h),.inr rfl⟩
  |some q=>exact⟨q.1,fun b o h=>by (cases h;rfl),.inl ⟨q.2,rfl⟩⟩
 have Bc1:w.heap.size<=w4.heap.size:=hs.fr.step.size
 have de:∀id b o,id≠154->Cs ((Aku seed h leaf m n (Af .u64 l)).hp id)->β4 id=some (b,o)->b<w4.heap.size->b≠e0:=fun id b o F9 h1 h2 Cd e=>by
  rcases he2 with⟨o',h3⟩|h3
  ·exact dif id 154 b e0 o o' F9 h1 trivial h2 h3 e
  ·omega
 have ge:w.heap.size<=e0∧¬Y e0∧e0<=w4.heap.size:=by
  rcases he2 with⟨o',h3⟩|h3
  ·have:=own 154 e0 o' trivial h3;exact⟨this.1,this.2,Nat.le_of_lt (hs.blt 154 e0 o' (fun h0:some (Bx.ar false [])=none=>by cases h0) h3)⟩
  ·exact⟨by omega,fun hy=>by have:=hs.Ylt e0 hy;omega,by omega⟩
 rcases r1 with⟨_,_,h3,_⟩|⟨cb,co,x,cap,g1,g2,g3,g4,g5,g6⟩
 ·omega
 rcases H3 with⟨h7,_⟩|⟨cb',co',h7,h8,h9,_⟩
 ·rw[g1] at h7;cases h7
 rw[g1] at h7;cases h7;have hx:x=co:=by omega
 subst hx
 refine⟨b5,o5,b6,o6,b8,o8,b10,o10,e0,v1,⟨t5,t6,t8,K8 (hs.tms 9 (by decide)),t10,K8 (hs.tms 27 (by decide)),K8 (hs.tms 28 (by decide)),q5,q6,fun j hj=>?_,fun j hj=>f8 j hj,q0,q1,fun j hj=>f10 j hj,l5,l6,l8,l10,ge.2.2,
  dif 5 10 _ _ _ _ (by decide) trivial trivial e5 e10,dif 6 10 _ _ _ _ (by decide) trivial trivial e6 e10,de 5 _ _ (by decide) trivial e5 l5,de 6 _ _ (by decide) trivial e6 l6,de 10 _ _ (by decide) trivial e10 l10,dif 8 10 _ _ _ _ (by decide) trivial trivial e8 e10,de 8 _ _ (by decide) trivial e8 l8,
  (own 8 _ _ trivial e8).2,(own 10 _ _ trivial e10).2,ge.2.1,(own 10 _ _ trivial e10).1,ge.1,(own 8 _ _ trivial e8).1,by rw[g2];rfl,fun B hB hk=>?_,v2,q2,?_⟩⟩
 ·match j,hj with
  |0,_=>exact⟨v80,q80⟩
  |1,_=>exact⟨v81,q81⟩
  |2,_=>exact⟨v82,q82⟩
 ·have Wi:=hk cb g6 (dif 106 10 _ _ _ _ (by decide) trivial trivial g1 e10) (de 106 _ _ (by decide) trivial g1 g6)
  rw[g2];refine Aw.lst 1 _ _ ⟨cb,x,none⟩ cap (fun j=>.int .u64 (l.getD j 0)) rfl (by show cb<_;omega) (fun hb=>?_) g4 (fun j c hj=>?_) (fun _ _ _=>rfl) (fun j c hj=>?_)
  ·rcases hb with hb|hb
   ·exact dif 106 8 _ _ _ _ (by decide) trivial trivial g1 e8 hb
   ·exact (own 106 _ _ trivial g1).2 hb
  ·have Cd:j<(Af .u64 l).length:=(List.getElem?_eq_some_iff.1 hj).1;rw[At] at Cd;obtain⟨v,k1,_,k3⟩:=h8 j _ (Nr (List.getElem?_eq_getElem Cd));rw[Er] at k1 ⊢;rw[World.cell?_of_block (a:=⟨cb,x+j,none⟩) Wi,k1,Aw.val k3,List.getD_eq_getElem?_getD,List.getElem?_eq_getElem Cd];rfl
  ·have Cd:j<(Af .u64 l).length:=(List.getElem?_eq_some_iff.1 hj).1;rw[At] at Cd;rw[Nr (List.getElem?_eq_getElem Cd)] at hj;cases hj;rw[List.getD_eq_getElem?_getD,List.getElem?_eq_getElem Cd];exact Aw.sc _
 ·rcases r2 with⟨_,_,_,h4⟩|⟨pb,po,x',cap',k1,k2,k3,k4,k5',k6'⟩
  ·exact .inl h4
  ·have he:=he1 pb po k1;subst he;rcases Nv with⟨h7,_⟩|⟨pb',po',h7,_,h9',_⟩
   ·rw[k1] at h7;cases h7
   ·rw[k1] at h7;cases h7;have hxx:x'=po:=by omega
    subst hxx;exact .inr ⟨x',cap',k2,by omega,k6',fun j hj hjb=>h9' rfl j hj hjb⟩
end
section
open Go.Proofs.Tryd (prog)
open Go.IntKind (wrap)
set_option maxRecDepth 20000
open Go Go.RowKit
noncomputable abbrev Aqm:Code:=sA (sB (sR (sL (sR (sR (sR OT))))))
theorem Ams:∃o1 o2:Oper,Aqm=.seq (.region 5 #[o1] false) (.region 6 #[o2] false)∧(o1.op=.assign (.tmp 30)∧o1.dst=some 11∧o1.guard=none)∧(o2.op=.assign (.tmp 31)∧o2.dst=some 12∧o2.guard=none):=
 ⟨_,_,rfl,⟨rfl,rfl,rfl⟩,⟨rfl,rfl,rfl⟩⟩
theorem Ajc {F:Fence}{n:Nat}{P:Program}{o:Oper}{x:Operand}{a:Act}{w:World}{next:Act->World->Prop}{Q:Exit->Act->World->Prop}(hF:∀f,F.fn f)(ho:o.op=.assign x)(h:next (a.put o.dst (a.eval x)) w):o.wpIn F n P a w next Q:=by
 refine⟨fun f _=>hF f,?_⟩
 have e:o.semAt F.round a.eval=execOp a.eval o:=Oper.semAt_eq _ _ _ (by intro c hc;rw[ho] at hc;cases hc)
 rw[e]
 have r:(execOp a.eval o).run P w=.ok (.value (a.eval x)) w:=by
  unfold execOp;rw[ho];simp
 rw[r];exact h
theorem Aii {F:Fence}{n:Nat}{P:Program}{o:Oper}{x:Operand}{id:Nat}{a:Act}{w:World}{Q:Exit->Act->World->Prop}(hF:∀f,F.fn f)(ho:o.op=.assign x)(hg:o.guard=none)(h:Q .normal (a.put o.dst (a.eval x)) w):(Code.region id #[o] false).wpIn F n P Q a w:=by
 refine wpIn_region ?_;show wpOpsIn F n P #[o] Q [0] a w;unfold wpOpsIn;simp only[List.getElem?_toArray,List.getElem?_cons_zero,Region.wanted,hg,if_true];exact Ajc hF ho h
theorem Fj {a:Act}{i j:Nat}{v:Value}(h:i≠j):(a.put (some i) v).tmps.getD j undef=a.tmps.getD j undef:=by
 show (a.tmps.setIfInBounds i v).getD j undef=_;simp[Array.getD_eq_getD_getElem?,Array.getElem?_setIfInBounds_ne h]
theorem CH {a:Act}{i:Nat}{v:Value}(h:i<a.tmps.size):(a.put (some i) v).tmps.getD i undef=v:=by
 show (a.tmps.setIfInBounds i v).getD i undef=_;simp[Array.getD_eq_getD_getElem?,h]
def sgA (a:Act)(args:Array Value):Act:=
 let r:Act:={ tmps:=((#[30,31]:Array Tmp).zip args).foldl (fun t (p,v)=>t.setIfInBounds p v) a.tmps,defers:=[] }
 let r1:=r.put (some 11) (r.eval (.tmp 30))
 r1.put (some 12) (r1.eval (.tmp 31))
theorem Aqj {a:Act}{x y:Value}(hs:a.tmps.size=48):(sgA a #[x,y]).defers=[]∧(sgA a #[x,y]).tmps.size=48∧(sgA a #[x,y]).tmps.getD 5 undef=a.tmps.getD 5 undef∧(sgA a #[x,y]).tmps.getD 6 undef=a.tmps.getD 6 undef∧(sgA a #[x,y]).tmps.getD 10 undef=a.tmps.getD 10 undef ∧
  (sgA a #[x,y]).tmps.getD 11 undef=x∧(sgA a #[x,y]).tmps.getD 12 undef=y:=by
 obtain⟨b,hb⟩:∃b:Act,({ tmps:=a.tmps,defers:=[] }:Act)=b:=⟨_,rfl⟩;have OL:b.tmps.size=48:=by rw[←hb];exact hs
 have e:sgA a #[x,y]=(((b.put (some 30) x).put (some 31) y).put (some 11) (((b.put (some 30) x).put (some 31) y).eval (.tmp 30))).put (some 12) ((((b.put (some 30) x).put (some 31) y).put (some 11) (((b.put (some 30) x).put (some 31) y).eval (.tmp 30))).eval (.tmp 31)):=by
  rw[←hb];have z:((#[30,31]:Array Tmp).zip #[x,y]) = #[(30,x),(31,y)]:=by simp
  unfold sgA;rw[z];simp[Act.put]
 have ev:∀(c:Act) (t:Nat),c.eval (.tmp t)=c.tmps.getD t undef:=fun c t=>rfl
 have e30:((b.put (some 30) x).put (some 31) y).eval (.tmp 30)=x:=by rw[ev,Fj (by decide),CH (by omega)]
 rw[e,e30];have e31:(((b.put (some 30) x).put (some 31) y).put (some 11) x).eval (.tmp 31)=y:=by rw[ev,Fj (by decide),CH (by rw[Hc];omega)]
 rw[e31];have hd:b.defers=[]:=by rw[←hb]
 have ht:b.tmps=a.tmps:=by rw[←hb]
 refine⟨by simp only[Jn,hd],by simp only[Hc,OL],?_,?_,?_,?_,?_⟩
 ·rw[Fj (by decide),Fj (by decide),Fj (by decide),Fj (by decide),ht]
 ·rw[Fj (by decide),Fj (by decide),Fj (by decide),Fj (by decide),ht]
 ·rw[Fj (by decide),Fj (by decide),Fj (by decide),Fj (by decide),ht]
 ·rw[Fj (by decide),CH (by simp only[Hc];omega)]
 ·rw[CH (by simp only[Hc];omega)]
theorem Auc {w w4 w5:World}{Y:Nat->Prop}{seed leaf:Int}{h:Nat}{c:List PV}{n:Nat}{a4 a5:Act}{b5 o5 b6 o6 b8 o8 b10 o10 e0:Nat}{chv:Value}(hh:h<=4)(Vc:0<=leaf)(GT:leaf<((2 ^ h:Nat):Int)) (hp:A1y w w4 Y seed h leaf c n a4 b5 o5 b6 o6 b8 o8 b10 o10 e0 chv)
  (Ku:a4.tmps.size=48)(hw5:w5=(w4.alloc (.cells #[.int .u64 seed] 24)).alloc (.cells #[.int .i64 h] 3))
  (PR:a5=a4.put (some 29) (.func (.func 47) #[] #[.pointer (some ⟨w4.heap.size+1,0,none⟩),.pointer (some ⟨w4.heap.size,0,none⟩)])) {K:Act->World->Prop}{Q:Exit->Act->World->Prop}
  (hK:∀Z B,HS w4 (w4.heap.size+2) seed leaf h b10 o10 e0 chv Z (List.range h) B->B.heap[w4.heap.size+2]?=some (.deferred (some []))->K { a5 with defers:={ target:=.collected (w4.heap.size+2),args:= #[] }::a5.defers } B):
  (Code.block 0 (.rangeFunc (.tmp 29) #[30,31] Aqm Agf)).wpIn Fence.wide 0 prog (Exit.then K Q) a5 w5:=by
 have V1:w5.heap.size=w4.heap.size+2:=by rw[hw5,World.size_alloc,World.size_alloc]
 have hold:∀b,b<w4.heap.size->w5.heap[b]?=w4.heap[b]?:=fun b hb=>by
  rw[hw5];exact (Below.heap_alloc _ _ _ (by simp;omega)).trans (Below.heap_alloc _ _ _ hb)
 have hB1:w5.heap[w4.heap.size+1]?=some (.cells #[.int .i64 h] 3):=by
  rw[hw5];have:=World.alloc_heap_new (w4.alloc (.cells #[.int .u64 seed] 24)) (.cells #[.int .i64 h] 3);rwa [World.size_alloc] at this
 have hB0:w5.heap[w4.heap.size]?=some (.cells #[.int .u64 seed] 24):=by
  rw[hw5];exact (Below.heap_alloc _ _ _ (by simp)).trans (World.alloc_heap_new w4 _)
 have A0r:a5.tmps.size=48:=by rw[PR,Hc];exact Ku
 have g5:a5.tmps.getD 5 undef=.pointer (some ⟨b5,o5,none⟩):=by rw[PR,Fj (by decide)];exact hp.t5
 have g6:a5.tmps.getD 6 undef=.pointer (some ⟨b6,o6,none⟩):=by rw[PR,Fj (by decide)];exact hp.t6
 have g10:a5.tmps.getD 10 undef=.pointer (some ⟨b10,o10,none⟩):=by rw[PR,Fj (by decide)];exact hp.t10
 have g29:a5.eval (.tmp 29)=.func (.func 47) #[] #[.pointer (some ⟨w4.heap.size+1,0,none⟩),.pointer (some ⟨w4.heap.size,0,none⟩)]:=by
  show a5.tmps.getD 29 undef=_;rw[PR,CH (by omega)]
 have nD:w4.heap.size+2≠e0:=by have:=hp.le;omega
 have nD1:w4.heap.size+2+1≠e0:=by have:=hp.le;omega
 have SJ:=Avr (seed:=seed) (h:=h) (Bh:=w4.heap.size+1) (Bs:=w4.heap.size) hh
 refine wpIn_block (Aj4 (Z0:=fun b=>b<w4.heap.size) g29 (enters_of Tryd.func47 (by kernel_rfl) rfl) SJ (fun b hb=>by omega) (fun W hW hk=>?_) (fun pre x args Z A B hm h1 h2=>Ao3 hm h1 h2) (fun pre x args Z A hm=>Aq4 hm)
  (HS w4 (w4.heap.size+2) seed leaf h b10 o10 e0 chv) (Ay4 w4 (w4.heap.size+2) seed leaf h b10 o10 e0 chv) ?_ ?_ ?_ (sgA a5) ?_ ?_ ?_ ?_)
 ·have k1:=hk (w4.heap.size+1) (by omega)
  have k0:=hk w4.heap.size (by omega)
  refine⟨(World.cell?_of_block (a:=⟨w4.heap.size+1,0,none⟩) k1).trans ?_,(World.cell?_of_block (a:=⟨w4.heap.size,0,none⟩) k0).trans ?_,by omega,by omega,?_,?_⟩
  ·unfold World.cell?;rw[hB1];rfl
  ·unfold World.cell?;rw[hB0];rfl
  ·rintro (h1|h1|h1)<;>omega
  ·rintro (h1|h1|h1)<;>omega
 ·intro Z pre A B hI hs;rw[V1] at hs;exact hI.stay hp.l10 nD nD1 (by omega) hs
 ·rintro c' Z pre A B ⟨h1,pre',h2,hI⟩ hs
  rw[V1] at hs;exact⟨h1,pre',h2,hI.stay hp.l10 nD nD1 (by omega) hs⟩
 ·intro W hW Gk;have e:∀b,b<w4.heap.size->W.heap[b]?=w4.heap[b]?:=fun b hb=>(Gk.same b (by omega)).trans (hold b hb)
  have o5:w5.os=w4.os∧w5.tape=w4.tape∧w5.output=w4.output:=by rw[hw5];exact⟨rfl,rfl,rfl⟩
  obtain⟨v2,p1,p2⟩:=hp.p0;refine⟨Gk.os.trans o5.1,Gk.tape.trans o5.2.1,Gk.output.trans o5.2.2,by omega,fun b hb=>.inl hb,fun b hb=>by rcases hb with hb|hb|hb<;>omega,fun b hb _ _=>e b hb,by unfold bsz;rw[e b10 hp.l10];exact Nat.le_refl _,(World.cell?_of_block (e b10 hp.l10)).trans hp.c10,(World.cell?_of_block (e b10 hp.l10)).trans hp.c11,fun k hk=>by rw[frozen?_of_block (e b10 hp.l10)];exact hp.f10 k hk,(fun x hx=>by cases hx),v2,(World.cell?_of_block (e b10 hp.l10)).trans p1,?_,?_⟩
  ·rcases p2 with p2|⟨x,cap,q1,q2,q3,q4⟩
   ·exact .inl ⟨rfl,p2⟩
   ·have hb:bsz W e0=bsz w4 e0:=by unfold bsz;rw[e e0 q3]
    rcases Nat.eq_zero_or_pos cap with q0|q0
    ·subst q0;exact .inl ⟨rfl,_,q1⟩
    exact .inr ⟨e0,x,cap,q0,q1,Nat.zero_le _,by rw[hb];exact q2,by omega,.inr rfl,fun j y hj=>(by cases hj),fun j hj hjb=>by rw[frozen?_of_block (e e0 q3)];exact q4 j hj (by rw[←hb];exact hjb)⟩
  ·intro pb po k cap' hc0 hv;rcases p2 with⟨ad,p2⟩|⟨x,cap,q1,q2,q3,q4⟩
   ·rw[p2] at hv;cases hv;omega
   ·rw[q1] at hv;cases hv;exact .inl q3
 ·intro pre x args Z A K' hm hk;obtain⟨o1,o2,e,⟨a1,a2,a3⟩,⟨c1,c2,c3⟩⟩:=Ams;refine Oa e (wpIn_seq (Aii (fun _=>trivial) a1 a3 ?_))
  show (Code.region 6 #[o2] false).wpIn _ _ _ _ _ _;refine Aii (fun _=>trivial) c1 c3 ?_
  rw[a2,c2];exact hk
 ·intro Z pre x args A hZ1 hZ2 hI hm;rw[V1] at hZ1 hZ2 ⊢;obtain⟨hx,_,bb,oo,cc,Es,_⟩:=id hm;have sp:=Aqj (a:=a5) (x:=.int .i64 x) (y:=.slice (some ⟨bb,oo,none⟩) (2 ^ (h-x):Nat) cc) A0r;rw[←Es] at sp;refine Amj hh Vc GT hI hm ⟨sp.1,sp.2.1,sp.2.2.1.trans g5,sp.2.2.2.1.trans g6,sp.2.2.2.2.1.trans g10,?_,?_⟩ hp.c5 hp.c6 hp.l5 hp.l6 hp.l10 hp.n5 hp.n6 hp.m5 hp.m6 hp.m10 nD nD1 (by omega) hZ1 hZ2
  ·rw[sp.2.2.2.2.2.1,Es];rfl
  ·rw[sp.2.2.2.2.2.2,Es];rfl
 ·intro Z xs B hS hI _;subst hS;have:=hI.lt h (by simp)
  omega
 ·rintro c' Z xs B ⟨k,hk⟩ ⟨rfl,pre,Aa5,hI⟩ hdf
  have hrg:pre=List.range h:=by
   rw[Aa5,List.range_succ] at hk;have:=List.append_inj' hk rfl;have h2:h=k:=by simpa using this.2
   rw[this.1,h2]
  subst hrg;rw[V1] at hdf ⊢;refine wpIn_exit ?_;simp only[Exit.inBlock,if_true];exact hK Z B hI hdf
end
section
open Go.Proofs.Tryd (prog)
open Go.IntKind (wrap)
set_option maxRecDepth 20000
open Go Go.RowKit
theorem Ayr:OT=.seq (sL OT) (.seq (sL (sR OT)) (.seq (sL (sR (sR OT))) (.seq (.seq (.region 4 (Gw (sL (sL (sR (sR (sR OT)))))) false) (.block 0 (.rangeFunc (.tmp 29) #[30,31] Aqm Agf))) (.seq (.region 9 (Gw (sL (sR (sR (sR (sR OT)))))) false) .ret)))):=by kernel_rfl
theorem A1i:∃ty pos aft x,(Gw (sL (sL (sR (sR (sR OT))))))[2]?=some { dst:=some 29,op:=.call { callee:=.value (.func 25),args:= #[.tmp 27,.tmp 28],argTypes:=x },type:=ty,pos:=pos,after:=aft,guard:=none }:=
 ⟨_,_,_,_,rfl⟩
theorem JW {P:Program}{ops:Array Oper}{Q Q':Exit->Act->World->Prop}{n id:Nat}{ds:List Deferred}{a:Act}{w:World}(h:wpOpsIn (WF none) n P ops Q' (List.range ops.size) a w) (hq:∀e a w,TD ds Q' e a w->Q e a w):(Code.region id ops false).wpIn Fence.wide n P Q (R1 ds a) w:=
 wpIn_mono (wpIn_region (F:=Fence.wide) (Vf _ h)) hq
abbrev A6i (seed h leaf m:Int):St:=
  ⟨lk [(0,.sc (.int .u64 seed)),(3,.sc (.int .u64 m)),(5,.ptr 5 0),(6,.ptr 6 0),(8,.ptr 8 0),(9,.sc (.int .i64 0))],
   Br [(5,.st [.sc (.int .i64 h)]),(6,.st [.sc (.int .i64 leaf)]),(8,.st [.sc (.int .i64 0),.view 104 1 0 0,.view 152 1 0 0]),(104,.ar false []),(152,.ar false [])]⟩
abbrev A92 (seed h leaf m:Int)(n:Nat)(c:List PV):St:=
  ⟨lk [(0,.sc (.int .u64 seed)),(3,.sc (.int .u64 m)),(5,.ptr 5 0),(6,.ptr 6 0),(8,.ptr 8 0),(9,.sc (.int .i64 0)),(10,.ptr 10 0)],
   Br [(5,.st [.sc (.int .i64 h)]),(6,.st [.sc (.int .i64 leaf)]),(8,.st [.sc (.int .i64 0),.view 104 1 0 0,.view 152 1 0 0]),(104,.ar false []),(152,.ar false []),(10,.st [.sc (.int .i64 leaf),.view 106 1 0 n,.view 154 1 0 0]),(106,.ar false c),(154,.ar false [])]⟩
abbrev Ayc (leaf:Int)(n1 n2:Nat)(c1 c2:List PV):St:=⟨lk [(8,.ptr 96000 0),(9,.sc (.int .i64 0))],Br [(96000,.st [.sc (.int .i64 leaf),.lst false 1 n1 c1,.lst false 1 n2 c2])]⟩
theorem Af5 {h leaf:Int}(hb:OU h leaf=false):Ey h=false∧Qb leaf h=false∧∃H:Nat,h=H∧H<=4∧0<=leaf∧leaf<((2 ^ H:Nat):Int):=by
 unfold OU at hb;rw[Bool.or_eq_false_iff] at hb;refine⟨hb.1,hb.2,h.toNat,?_⟩;have h1:=hb.1;have h2:=hb.2;unfold Ey at h1;unfold Qb at h2;rw[Bool.or_eq_false_iff,decide_eq_false_iff_not,decide_eq_false_iff_not] at h1 h2;have h3:h=(h.toNat:Int):=by omega
 have h4:=Avu (h:=h.toNat) (by omega)
 rw[←h3] at h4;rw[h4] at h2;exact⟨h3,by omega,by omega,by omega⟩
theorem At9 {G:Us}{seed h leaf m:Int}(hb:OU h leaf=false):C7 G prog 11 [.sc (.int .u64 seed),.sc (.int .i64 h),.sc (.int .i64 leaf),.sc (.int .u64 m)]
  ⟨[.agg [.sc (.int .i64 leaf),.lst false 1 18 (Af .u64 (Of seed leaf m)),.lst false 1 h.toNat (Af .u64 ((List.range h.toNat).map fun k=>Cq seed k (Jo leaf k)))],.sc (.int .i64 0)],[]⟩:=by
 obtain⟨hhi,hou,H,rfl,hh,Vc,GT⟩:=Af5 hb;refine Ayq ⟨_,Tryd.func11,rfl⟩ fun w Y hY=>?_
 have hk0:Afr prog 48 0 Tryd.f11.params.toList [.sc (.int .u64 seed),.sc (.int .i64 H),.sc (.int .i64 leaf),.sc (.int .u64 m)] (fun tms bs=>some (tms,bs))=some ([(0,.sc (.int .u64 seed)),(1,.sc (.int .i64 H)),(2,.sc (.int .i64 leaf)),(3,.sc (.int .u64 m))],[]):=by kernel_rfl
 have Y7:Ins w Y Xj [.sc (.int .u64 seed),.sc (.int .i64 H),.sc (.int .i64 leaf),.sc (.int .u64 m)] [.int .u64 seed,.int .i64 H,.int .i64 leaf,.int .u64 m]:=
  ⟨hY,fun b _=>Pk b,fun b x=>(Pk b x).elim,fun _ _ _ _ _ _ _ x=>(by cases x),fun _ _ x=>(by cases x),⟨.inl trivial,Aw.sc _⟩,⟨.inl trivial,Aw.sc _⟩,⟨.inl trivial,Aw.sc _⟩,⟨.inl trivial,Aw.sc _⟩,trivial⟩
 obtain⟨tms,bs,D4,Gk⟩:=HD Y7 hk0;cases D4;obtain⟨h8,β0,RX⟩:=Gk rfl (by simp)
 refine callsIn_wide.1 (callsIn_of_wp_marks (F:=Fence.wide) (n:=0) Tryd.func11 rfl trivial ?_ rfl);have t1:({ tmps:= #[Value.int .u64 seed,.int .i64 H,.int .i64 leaf,.int .u64 m]++Array.replicate (Tryd.f11.ntmps-(#[Value.int .u64 seed,.int .i64 H,.int .i64 leaf,.int .u64 m]).size) undef,defers:=[] }:Act)={ tmps:=[Value.int .u64 seed,.int .i64 H,.int .i64 leaf,.int .u64 m].toArray++Array.replicate (48-[Value.int .u64 seed,.int .i64 H,.int .i64 leaf,.int .u64 m].toArray.size) undef,defers:=[] }:=by kernel_rfl
 rw[t1];show OT.wpIn _ _ _ _ _ _;generalize ({ tmps:=[Value.int .u64 seed,.int .i64 H,.int .i64 leaf,.int .u64 m].toArray++Array.replicate (48-[Value.int .u64 seed,.int .i64 H,.int .i64 leaf,.int .u64 m].toArray.size) undef,defers:=[] }:Act)=a0 at RX ⊢;have hXn:∀b,¬(CY Xj [.sc (.int .u64 seed),.sc (.int .i64 H),.sc (.int .i64 leaf),.sc (.int .u64 m)] h8).X b:=Pk;refine Oa Ayr (wpIn_seq (wpIn_wide.2 (Df (Is _ _) DB B3 RX (Azl cl seed H leaf m) ?_)));intro a1 w1 β1 JA;have eh:cl Mi [.sc (.int .i64 H)]=_:=Vs (xs:=noX) (fu:=2000) (d:=7) (H:Int);have eo:cl Jh [.sc (.int .i64 leaf),.sc (.int .i64 H)]=_:=Q8 (xs:=noX) (fu:=2000) (d:=7) leaf H (by omega)
 have es:cl Rm [.sc (.int .u64 seed),.sc (.int .i64 leaf),.sc (.int .u64 m)]=_:=Atl (xs:=noX) (fu:=2000) (d:=1) (by omega) seed leaf m
 refine wpIn_seq (wpIn_wide.2 (Df (Is _ _) DB B3 JA (L:=873) (t:=0) (s1:=A6i seed H leaf m) ?_ ?_))
 ·refine (Az8 cl seed H leaf m).trans ?_;simp only[Cu,eh,eo,hhi,hou]
 intro a2 w2 β2 PF;refine wpIn_seq (wpIn_wide.2 (Df (Is _ _) DB B3 PF (L:=1897) (t:=0) (s1:=A92 seed H leaf m 18 (Af .u64 (Of seed leaf m))) ?_ ?_))
 ·refine (Az7 cl seed H leaf m).trans ?_;simp only[Cu,es]
 intro a3 w3 β3 hs3;refine wpIn_seq (wpIn_seq (wpIn_region ?_));have hl:List.range (Gw (sL (sL (sR (sR (sR OT)))))).size=[0,1]++[2]:=by kernel_rfl
 rw[hl];refine Gh (ro:=none) (C:=CB) (call:=cl) (r:=((0:Nat),Aku seed H leaf m 18 (Af .u64 (Of seed leaf m)))) (Is _ _) B3 ?_ [0,1] (List.take 2 (Gw (sL (sL (sR (sR (sR OT)))))).toList) (by kernel_rfl) ?_ (by kernel_rfl) hs3 (Ay5 cl seed H leaf m 18 _)
 rotate_left
 ·intro j i hj
  match j,hj with
  |0,hj=>cases hj;rfl
  |1,hj=>cases hj;rfl
 intro s' a4 w4 β4 Tc hs4;obtain⟨β5,s5,VL,V1⟩:=B6 hs4 Tc;cases VL;obtain⟨b5,o5,b6,o6,b8,o8,b10,o10,e0,chv,hp⟩:=Ane (l:=Of seed leaf m) (n:=18) (by omega) (by simp[Of]) hXn V1
 obtain⟨ty,pos,aft,x,ho⟩:=A1i;rw[wpOpsIn_cons];unfold wpOpIn;rw[ho];simp only[Region.wanted,if_true];refine⟨fun _ _=>trivial,?_⟩
 rw[show Oper.semAt (WF none).round a4.eval { dst:=some 29,op:=.call { callee:=.value (.func 25),args:= #[.tmp 27,.tmp 28],argTypes:=x },type:=ty,pos:=pos,after:=aft,guard:=none }=execOp a4.eval { dst:=some 29,op:=.call { callee:=.value (.func 25),args:= #[.tmp 27,.tmp 28],argTypes:=x },type:=ty,pos:=pos,after:=aft,guard:=none } from rfl,
  FY (o:={ dst:=some 29,op:=.call { callee:=.value (.func 25),args:= #[.tmp 27,.tmp 28],argTypes:=x },type:=ty,pos:=pos,after:=aft,guard:=none }) rfl rfl ngT Tryd.func25 rfl]
 have e27:a4.eval (.tmp 27)=.int .u64 seed:=hp.t27;have e28:a4.eval (.tmp 28)=.int .i64 H:=hp.t28;simp only[List.map_toArray,VO,List.map_nil,e27,e28];refine⟨(fun h=>by cases h),(As3 seed H _ w4).mono ?_⟩
 rintro e w5 ⟨rfl,hw5⟩
 refine Auc (w:=w) (Y:=Y) hh Vc GT hp V1.tsz hw5 rfl ?_;intro Z B hRI hdf;obtain⟨a5,PR⟩:∃a5,a4.put (some 29) (.func (.func 47) #[] #[.pointer (some ⟨w4.heap.size+1,0,none⟩),.pointer (some ⟨w4.heap.size,0,none⟩)])=a5:=⟨_,rfl⟩;rw[PR];have hd5:a5.defers=[]:=by rw[←PR,Jn];exact V1.dfr
 have hz5:a5.tmps.size=48:=by rw[←PR,Hc];exact V1.tsz
 have ea:({ a5 with defers:={ target:=.collected (w4.heap.size+2),args:= #[] }::a5.defers }:Act)=R1 [{ target:=.collected (w4.heap.size+2),args:= #[] }] a5:=by unfold R1;rw[hd5];rfl
 rw[ea];have hsB:w4.heap.size<=B.heap.size:=by have:=hRI.size;omega
 have hkB:∀b,b<w4.heap.size->b≠b10->b≠e0->B.heap[b]?=w4.heap[b]?:=hRI.keep;have h8B:=hkB b8 hp.l8 hp.n8 hp.m8
 obtain⟨XB,βB,hXB,hB⟩:=Axt (Y:=Y) (a:=a5) (b8:=b8) (o8:=o8) (n1:=18) (c1:=Af .u64 (Of seed leaf m)) hRI hd5 hz5 (by rw[←PR,Fj (by decide)];exact hp.t8) (by rw[←PR,Fj (by decide)];exact hp.t9) (by rw[←PR,Fj (by decide)];exact hp.t10)
  (fun j hj=>by rw[World.cell?_of_block (a:=⟨b8,o8+j,none⟩) h8B];exact hp.c8 j hj) (fun j hj=>by rw[frozen?_of_block h8B];exact hp.f8 j hj) (Nat.lt_of_lt_of_le hp.l8 hsB) (Nat.lt_of_lt_of_le hp.l10 hsB) hp.n8 hp.y8 hp.y10 (hp.ch B hsB hkB) hp.one
  (fun pb hpb=>by
   rcases hpb with hpb|hpb
   ·have:=hp.l8;exact⟨by omega,fun hy=>by have:=hY pb hy;have:=V1.fr.step.size;omega⟩
   ·rw[hpb];exact⟨fun e=>hp.m8 e.symm,hp.ye⟩)
  (fun b hb=>by have:=hY b hb;have:=V1.fr.step.size;omega)
 rw[List.length_range] at hB;refine wpIn_seq (JW (Q':=fun e a' w'=>e=.normal∧∃β',B4 48 B XB Y β' (Ayc leaf 18 H (Af .u64 (Of seed leaf m)) (Af .u64 ((List.range H).map fun k=>Cq seed k (Jo leaf k)))) a' w') ?_ ?_)
 ·have hl9:List.range (Gw (sL (sR (sR (sR (sR OT)))))).size=[0,1,2]++[]:=by kernel_rfl
  rw[hl9];refine Gh (ro:=none) (C:=CB) (call:=cl) (r:=((0:Nat),Ayc leaf 18 H (Af .u64 (Of seed leaf m)) (Af .u64 ((List.range H).map fun k=>Cq seed k (Jo leaf k))))) (Is _ _) B3 ?_ [0,1,2] (Gw (sL (sR (sR (sR (sR OT)))))).toList (by kernel_rfl) ?_ (by kernel_rfl) hB (A0j cl leaf 18 H _ _)
  rotate_left
  ·intro j i hj
   match j,hj with
   |0,hj=>cases hj;rfl
   |1,hj=>cases hj;rfl
   |2,hj=>cases hj;rfl
  intro s6 a6 w6 β6 hk6 hs6;obtain⟨β7,s7,hk7,hs7⟩:=B6 hs6 hk6;cases hk7;exact⟨rfl,β7,hs7⟩
 ·rintro e a7 w7 ⟨a6,rfl,rfl,β6,hz⟩
  refine wpIn_ret ?_
  have hD':w7.heap[w4.heap.size+2]?=some (.deferred (some [])):=by
   have Cd:=hRI.size;have hl8:=hp.l8;rw[hz.fr.step.keep (w4.heap.size+2) (by omega) fun hx=>by have:=hXB _ hx;omega]
   exact hdf
  show LeavesInM _ _ _ _ _ _ (a6.defers++[{ target:=.collected (w4.heap.size+2),args:= #[] }]) .returning w7;rw[hz.dfr];refine⟨by simp,.inl ⟨_,_,rfl,run_takeDeferred hD',?_⟩⟩
  have TJ:=V1.fr
  have hu:B4 48 w (CY Xj [.sc (.int .u64 seed),.sc (.int .i64 H),.sc (.int .i64 leaf),.sc (.int .u64 m)] h8) Y β6 (Ayc leaf 18 H (Af .u64 (Of seed leaf m)) (Af .u64 ((List.range H).map fun k=>Cq seed k (Jo leaf k)))) a6 w7:=
   hz.unbase (fun _ h=>h) hY (fun b hx=>by rw[hXB b hx];exact hp.g8) (fun i ⟨p,h1,h2⟩=>by
    match i,h1 with
    |0,h1=>cases h1;cases h2
    |1,h1=>cases h1;cases h2
    |2,h1=>cases h1;cases h2
    |3,h1=>cases h1;cases h2) (hRI.os.trans TJ.os) (hRI.tape.trans TJ.tape) (hRI.output.trans TJ.output) (Nat.le_trans TJ.step.size hsB) (fun b hb=>by
    have h1:=hp.g10;have h2:=hp.ge;have h3:=TJ.step.size;exact (hkB b (by omega) (by omega) (by omega)).trans (TJ.step.keep b hb (hXn b)))
  have hv:=hu.same (KP (y:=none) hD') fun b hb=>World.putObj_heap_other (by have:=TJ.step.size;omega)
  obtain⟨_,v,r1,vs,own,r2,r3⟩:=Y4 (C:=CS) (f:=11) (fn:=Tryd.f11) Y7 (res:=⟨[.agg [.sc (.int .i64 leaf),.lst false 1 18 (Af .u64 (Of seed leaf m)),.lst false 1 H (Af .u64 ((List.range H).map fun k=>Cq seed k (Jo leaf k)))],.sc (.int .i64 0)],[]⟩) (Axw seed H leaf m leaf 18 H _ _) hv
  exact⟨v,r1,vs,own,r2,r3⟩
end
section
open Go.Proofs.Tryd (prog)
open Go.IntKind (wrap)
set_option maxRecDepth 20000
open Go Go.RowKit
theorem C7.any {G:Us}{P:Program}{f:FuncId}{args:List PV}{r:A5}(h:C7 G1 P f args r):C7 G P f args r:=
 ⟨h.1,fun w Y bt us Y7 _ _=>h.2 w Y bt us Y7 trivial fun _ hb=>hb.elim⟩
theorem A0h {G:Us}{seed h leaf m:Int}(hb:OU h leaf=true):C7 G prog 11 [.sc (.int .u64 seed),.sc (.int .i64 h),.sc (.int .i64 leaf),.sc (.int .u64 m)]
  ⟨[.agg [.sc (.int .i64 0),.lst false 1 0 [],.lst false 1 0 []],.sc (.int .i64 9)],[]⟩:=by
 refine C7.any (RR ngT DB B3 Tryd.func11 rfl ((Ays cl seed h leaf m).trans ?_));have eh:cl Mi [.sc (.int .i64 h)]=_:=Vs (xs:=noX) (fu:=2000) (d:=7) h;unfold OU at hb;cases hhi:Ey h
 ·rw[hhi,Bool.false_or] at hb
  have h0:0<=h:=by
   unfold Ey at hhi;rw[Bool.or_eq_false_iff,decide_eq_false_iff_not] at hhi;omega
  have eo:cl Jh [.sc (.int .i64 leaf),.sc (.int .i64 h)]=_:=Q8 (xs:=noX) (fu:=2000) (d:=7) leaf h h0;simp only[Cu,eh,eo,hhi,hb]
 ·simp only[Cu,eh,hhi]
theorem Aji {G:Us}{args:List PV}{r:A5}(h:Azk args=some r):C7 G prog 11 args r:=by
 unfold Azk at h;split at h
 ·rename_i seed hh leaf m;cases h;cases hb:OU hh leaf
  ·have l18:(Of seed leaf m).length=18:=by simp[Of]
   have:=At9 (G:=G) (seed:=seed) (m:=m) hb;unfold tkL tkC tkP tkE;rw[hb];simp only[Bool.false_eq_true,if_false,l18,List.length_map,List.length_range];exact this
  ·have:=A0h (G:=G) (seed:=seed) (m:=m) hb;unfold tkL tkC tkP tkE;rw[hb];exact this
 ·cases h
end
section
open Go.Proofs.Tryd (prog)
open Go.IntKind (wrap)
open Go Go.RowKit
noncomputable abbrev stC:Code:=Ca Tryd.f8
noncomputable abbrev bwC:Code:=Ca Tryd.f40
noncomputable abbrev bwL:Code:=sB (sB (sR bwC))
noncomputable abbrev bwX:Code:=sB (sL (sR bwL))
noncomputable abbrev A2s:Code:=sB (sR (sL (sR (sR stC))))
noncomputable abbrev Aie:Code:=sA A2s
noncomputable abbrev YY:Code:=sF A2s
noncomputable abbrev Ask (N:Nat)(call:Ah)(c:Code)(L:Nat)(s:St):Option (Nat × St):=
 Mq CB prog 2000 N call c L (fun _=>L) L (fun s=>Ir N L s fun s'=>some (0,s')) (fun id s=>Ir N L s fun s'=>some (id+2,s')) (fun s=>Ir N L s fun s'=>some (1,s')) s
section
variable {N:Nat} {w0:World} {X0:Fp} {Y:Nat->Prop} {β:Bt} {s s1:St} {a:Act} {w:World}
theorem PU {G:Us}(Ja:JJ prog G w0 X0)(hm:prog.follows .mixedOrders=true){call:Ah}(C4:∀f args res,call f args=some res->C7 G prog f args res){c:Code}{L t:Nat}{Q:Exit->Act->World->Prop}(h:B4 N w0 X0 Y β s a w)
  (hk:Ask N call c L s=some (t,s1)) (hQ:∀a' w' β' e,B4 N w0 X0 Y β' s1 a' w'->(t=0∧e=.normal)∨(t=1∧e=.ret)∨(∃id,t=id+2∧e=.exit id)->Q e a' w'):c.wp prog Q a w:=by
 refine CK Ja C4 hm c h hk (fun s' a' w' β' h1 h2=>?_) (fun id s' a' w' β' h1 h2=>?_) (fun s' a' w' β' h1 h2=>?_)
 ·obtain⟨β1,s2,h3,h4⟩:=B6 h2 h1;cases h3;exact hQ _ _ _ _ h4 (.inl ⟨rfl,rfl⟩)
 ·obtain⟨β1,s2,h3,h4⟩:=B6 h2 h1;cases h3;exact hQ _ _ _ _ h4 (.inr (.inr ⟨id,rfl,rfl⟩))
 ·obtain⟨β1,s2,h3,h4⟩:=B6 h2 h1;cases h3;exact hQ _ _ _ _ h4 (.inr (.inl ⟨rfl,rfl⟩))
theorem JL {G:Us}(Ja:JJ prog G w0 X0)(hm:prog.follows .mixedOrders=true){call:Ah}(C4:∀f args res,call f args=some res->C7 G prog f args res){ro:Option Nat}{n:Nat}{c:Code}(ho:okR c=true){L t:Nat}{Q:Exit->Act->World->Prop}(CL:∀a w,¬Q .outgrown a w)(h:B4 N w0 X0 Y β s a w)
  (hk:Ask N call c L s=some (t,s1)) (hQ:∀a' w' β' e,B4 N w0 X0 Y β' s1 a' w'->(t=0∧e=.normal)∨(t=1∧e=.ret)∨(∃id,t=id+2∧e=.exit id)->Q e a' w'):c.wpIn (WF ro) n prog Q a w:=by
 refine JX Ja C4 hm c ho CL h hk (fun s' a' w' β' h1 h2=>?_) (fun id s' a' w' β' h1 h2=>?_) (fun s' a' w' β' h1 h2=>?_)
 ·obtain⟨β1,s2,h3,h4⟩:=B6 h2 h1;cases h3;exact hQ _ _ _ _ h4 (.inl ⟨rfl,rfl⟩)
 ·obtain⟨β1,s2,h3,h4⟩:=B6 h2 h1;cases h3;exact hQ _ _ _ _ h4 (.inr (.inr ⟨id,rfl,rfl⟩))
 ·obtain⟨β1,s2,h3,h4⟩:=B6 h2 h1;cases h3;exact hQ _ _ _ _ h4 (.inr (.inl ⟨rfl,rfl⟩))
end
end
section
open Go.Proofs.Tryd (prog)
open Go.IntKind (wrap)
set_option maxRecDepth 100000
theorem A0l (call:Ah)(v i x lf model now:Int)(n n1 n2:Nat)(c c1 c2:List PV):KA 28 call (sL stC) 106 ⟨lk [(0,.agg [.sc (.int .i64 v),.sc (.int .i64 i),.sc (.int .i64 x),.lst false 3 n c,.sc (.int .i64 lf),.lst false 1 n1 c1,.lst false 1 n2 c2]),(1,.sc (.int .u64 model)),(2,.sc (.int .i64 now))],Br []⟩=(
 some (0,⟨lk [(1,(.sc (.int .u64 (model)))),(3,(.ptr 3 0)),(5,(.ptr 5 0)),(6,(.ptr 6 0))],Br [(3,(.st [(.sc (.int .i64 (v))),(.sc (.int .i64 (i))),(.sc (.int .i64 (x))),(.lst false 3 (n) (c)),(.sc (.int .i64 (lf))),(.lst false 1 (n1) (c1)),(.lst false 1 (n2) (c2))])),(5,(.st [(.sc (.int .i64 (now)))])),(6,(.st [(.sc (.int .i64 ((0:Int))))]))]⟩)):=by kernel_rfl
theorem Ax8 (call:Ah)(v i x lf model now:Int)(n n1 n2:Nat)(c c1 c2:List PV):KA 28 call (sL (sR stC)) 224 ⟨lk [(1,.sc (.int .u64 model)),(3,.ptr 3 0),(5,.ptr 5 0),(6,.ptr 6 0)],Br [(3,.st [.sc (.int .i64 v),.sc (.int .i64 i),.sc (.int .i64 x),.lst false 3 n c,.sc (.int .i64 lf),.lst false 1 n1 c1,.lst false 1 n2 c2]),(5,.st [.sc (.int .i64 now)]),(6,.st [.sc (.int .i64 0)])]⟩=(
 Ai (call (18:Nat) [PV.agg [PV.sc (Value.int IntKind.i64 v),PV.sc (Value.int IntKind.i64 i),PV.sc (Value.int IntKind.i64 x),PV.lst false (3:Nat) n c,PV.sc (Value.int IntKind.i64 lf),PV.lst false (1:Nat) n1 c1,PV.lst false (1:Nat) n2 c2],PV.sc (Value.int IntKind.u64 model)]) fun x1 x2=>
 Ac (x2) <|
 Ab (x1) fun x3 x4=>
 Fm (x3) fun x5=>
 Ab (x5) fun x6 x7=>
 Ae (IntKind.u64) (x6) fun x8=>
 Ab (x7) fun x9 C6=>
 Fq ((3:Nat)) (x9) fun Dr Eg Ez=>
 Ab (C6) fun D7 Ew=>
 Fq ((2:Nat)) (D7) fun Fw Gm G4=>
 Ac (Ew) <|
 Ab (x4) fun Gi Gy=>
 Bu (Gi) fun Jk=>
 Ac (Gy) <|
 some (0,⟨lk [(5,(.ptr 5 0)),(6,(.ptr 6 0)),(7,(.ptr 7 0))],Br [(5,(.st [(.sc (.int .i64 (now)))])),(6,(.st [(.sc (.int .i64 ((0:Int))))])),(7,(.st [(.sc (.int .u64 (x8))),(.lst false 3 (Eg) (Ez)),(.lst false 2 (Gm) (G4))]))]⟩)):=by kernel_rfl
theorem Ayo (call:Ah)(mo now:Int)(n1 n2:Nat)(c1 c2:List PV):Ke CB prog 28 call (Gw (sL (sL (sR (sR stC))))) (List.take 2 (Gw (sL (sL (sR (sR stC))))).toList) ⟨lk [(5,.ptr 5 0),(6,.ptr 6 0),(7,.ptr 7 0)],Br [(5,.st [.sc (.int .i64 now)]),(6,.st [.sc (.int .i64 0)]),(7,.st [.sc (.int .u64 mo),.lst false 3 n1 c1,.lst false 2 n2 c2])]⟩ (fun s=>Ir 28 262240 s fun s'=>some (0,s'))=(
 some (0,⟨lk [(5,(.ptr 5 0)),(6,(.ptr 6 0)),(18,(.lst false 2 (n2) (c2)))],Br [(5,(.st [(.sc (.int .i64 (now)))])),(6,(.st [(.sc (.int .i64 ((0:Int))))]))]⟩)):=by kernel_rfl
theorem A0d (call:Ah)(v5 v6:Value)(kd t:Int):KA 28 call Aie 1120 ⟨lk [(5,.sc v5),(6,.sc v6),(21,.agg [.sc (.int .i64 kd),.sc (.int .i64 t)])],Br []⟩=(
 some (0,⟨lk [(5,(.sc (v5))),(6,(.sc (v6))),(10,(.ptr 10 0))],Br [(10,(.st [(.sc (.int .i64 (kd))),(.sc (.int .i64 (t)))]))]⟩)):=by kernel_rfl
theorem Aol (call:Ah)(now kd t:Int):Ask 28 call YY 64 ⟨lk [(5,.iptr [.sc (.int .i64 now)] 0),(6,.ptr 56000 0),(10,.iptr [.sc (.int .i64 kd),.sc (.int .i64 t)] 0)],Br [(56000,.st [.sc (.int .i64 0)])]⟩=(
  Bi (decide (t<=now))
   (
   some (1,⟨lk [(6,(.ptr 56000 0))],Br [(56000,(.st [(.sc (.int .i64 (kd)))]))]⟩))
   (
   some (0,⟨lk [(6,(.ptr 56000 0))],Br [(56000,(.st [(.sc (.int .i64 ((0:Int))))]))]⟩))):=by kernel_rfl
theorem Ay0 (call:Ah)(k:Int):Ke CB prog 28 call (Gw (sL (sR (sR (sR stC))))) (Gw (sL (sR (sR (sR stC))))).toList ⟨lk [(6,.ptr 56000 0)],Br [(56000,.st [.sc (.int .i64 k)])]⟩ (fun s=>Ir 28 64 s fun s'=>some (0,s'))=(
 some (0,⟨lk [(6,(.ptr 56000 0))],Br [(56000,(.st [(.sc (.int .i64 ((0:Int))))]))]⟩)):=by kernel_rfl
theorem Aye (v i x lf model now k:Int)(n n1 n2:Nat)(c c1 c2:List PV):Acx CS prog 8 Tryd.f8 [.agg [.sc (.int .i64 v),.sc (.int .i64 i),.sc (.int .i64 x),.lst false 3 n c,.sc (.int .i64 lf),.lst false 1 n1 c1,.lst false 1 n2 c2],.sc (.int .u64 model),.sc (.int .i64 now)] ⟨lk [(6,.ptr 56000 0)],Br [(56000,.st [.sc (.int .i64 k)])]⟩=(
 some (A5.mk [PV.sc (Value.int IntKind.i64 k)] [])):=by kernel_rfl
theorem A0m (call:Ah)(yv:Value)(n:Nat)(c:List PV):KA 19 call (sL bwC) 11 ⟨lk [(0,.sc yv),(1,.iptr [.lst false 2 n c] 0)],Br []⟩=(
 Aa (wrap IntKind.i64 ((↑n:Int)-(1:Int))) fun x1=>
 some (0,⟨lk [(0,(.sc (yv))),(1,(.iptr ([PV.lst false (2:Nat) n c]) ((0:Nat)))),(3,(.sc (.int .i64 (x1))))],Br []⟩)):=by kernel_rfl
theorem Aqs (call:Ah)(yv:Value)(n:Nat)(c:List PV)(i:Int):KA 19 call (sL bwL) 11 ⟨lk [(0,.sc yv),(1,.iptr [.lst false 2 n c] 0),(3,.sc (.int .i64 i))],Br []⟩=(
  Bi (decide (i>=(0:Int)))
   (
   some (0,⟨lk [(0,(.sc (yv))),(1,(.iptr ([PV.lst false (2:Nat) n c]) ((0:Nat)))),(3,(.sc (.int .i64 (i))))],Br []⟩))
   (
   some (1,⟨lk [(0,(.sc (yv))),(1,(.iptr ([PV.lst false (2:Nat) n c]) ((0:Nat)))),(3,(.sc (.int .i64 (i))))],Br []⟩))):=by kernel_rfl
theorem Axv (call:Ah)(yv:Value)(n:Nat)(c:List PV)(i:Int):Ke CB prog 19 call (Gw (sL bwX)) (List.take 6 (Gw (sL bwX)).toList) ⟨lk [(0,.sc yv),(1,.iptr [.lst false 2 n c] 0),(3,.sc (.int .i64 i))],Br []⟩ (fun s=>Ir 19 71691 s fun s'=>some (0,s'))=(
 Ar (decide ((0:Int)<=i)&&decide (i<(↑n:Int))) <|
 Ae (IntKind.i64) (List.getD c (Int.toNat i*(2:Nat)) PV.top) fun x1=>
 Ae (IntKind.i64) (List.getD c (Int.toNat i*(2:Nat)+(1:Nat)) PV.top) fun x2=>
 some (0,⟨lk [(0,(.sc (yv))),(1,(.iptr ([PV.lst false (2:Nat) n c]) ((0:Nat)))),(3,(.sc (.int .i64 (i)))),(11,(.sc (yv))),(12,(.sc (.int .i64 (i)))),(16,(.agg [(.sc (.int .i64 (x1))),(.sc (.int .i64 (x2)))]))],Br []⟩)):=by kernel_rfl
theorem Am1 (call:Ah)(yv:Value)(n:Nat)(c:List PV)(i:Int)(e:Bool):Ke CB prog 19 call (Gw (sL bwX)) (List.drop 7 (Gw (sL bwX)).toList) ⟨lk [(0,.sc yv),(1,.iptr [.lst false 2 n c] 0),(3,.sc (.int .i64 i)),(17,.sc (.bool e))],Br []⟩ (fun s=>Ir 19 262155 s fun s'=>some (0,s'))=(
 some (0,⟨lk [(0,(.sc (yv))),(1,(.iptr ([PV.lst false (2:Nat) n c]) ((0:Nat)))),(3,(.sc (.int .i64 (i)))),(18,(.sc (.bool (!e))))],Br []⟩)):=by kernel_rfl
theorem Aqo (call:Ah)(yv:Value)(n:Nat)(c:List PV)(i:Int)(q:Bool):Ask 19 call (sR bwX) 11 ⟨lk [(0,.sc yv),(1,.iptr [.lst false 2 n c] 0),(3,.sc (.int .i64 i)),(18,.sc (.bool q))],Br []⟩=(
  Bi (q)
   (
   some (1,⟨lk [(0,(.sc (yv))),(1,(.iptr ([PV.lst false (2:Nat) n c]) ((0:Nat)))),(3,(.sc (.int .i64 (i))))],Br []⟩))
   (
   some (0,⟨lk [(0,(.sc (yv))),(1,(.iptr ([PV.lst false (2:Nat) n c]) ((0:Nat)))),(3,(.sc (.int .i64 (i))))],Br []⟩))):=by kernel_rfl
theorem Azv (call:Ah)(yv:Value)(n:Nat)(c:List PV)(i:Int):KA 19 call (sR (sR bwL)) 11 ⟨lk [(0,.sc yv),(1,.iptr [.lst false 2 n c] 0),(3,.sc (.int .i64 i))],Br []⟩=(
 Aa (wrap IntKind.i64 (i-(1:Int))) fun x1=>
 some (0,⟨lk [(0,(.sc (yv))),(1,(.iptr ([PV.lst false (2:Nat) n c]) ((0:Nat)))),(3,(.sc (.int .i64 (x1))))],Br []⟩)):=by kernel_rfl
end
section
open Go.IntKind (wrap)
open Go Go.RowKit
theorem Qm.trans {Z Z1 Z2:Nat->Prop}{A B C:World}(h:Qm Z Z1 A B)(g:Qm Z1 Z2 B C):Qm Z Z2 A C:=
 ⟨g.os.trans h.os,g.tape.trans h.tape,g.output.trans h.output,Nat.le_trans h.size g.size,fun b hb hn=>(g.keep b (Nat.lt_of_lt_of_le hb h.size) fun h1=>(h.new b h1).elim hn fun h2=>by omega).trans (h.keep b hb hn),
  fun b hb=>g.sub b (h.sub b hb),fun b hb=>(g.new b hb).elim (h.new b) fun h1=>.inr (Nat.le_trans h.size h1),g.lt,fun b hb=>Nat.le_trans (h.bs b hb) (g.bs b (Nat.lt_of_lt_of_le hb h.size))⟩
def Awn {α:Type}(P:Program)(gf:Nat)(lb:Array Value)(M:List α->α->Array Value->(Nat->Prop)->World->Prop) (S Sp:List α->Prop)(Pre:(Nat->Prop)->World->Prop):Prop:=
 ∀(l:Nat) (J Jx:(Nat->Prop)->List α->World->Prop) (W:World) (Z0:Nat->Prop),(∀b,Z0 b->b<W.heap.size)->Pre Z0 W ->
  (∀Z pre A B,J Z pre A->L5 (fun b=>b<A.heap.size) A B->J Z pre B)->(∀Z pre A B,Jx Z pre A->L5 (fun b=>b<A.heap.size) A B->Jx Z pre B) ->
  (∀Z pre x args A,J Z pre A->M pre x args Z A->YieldAt Fence.wide 0 P l args A fun e B=>∃Z',Qm Z Z' A B ∧
   ((e=.returned (.bool true)∧J Z' (pre++[x]) B)∨(e=.returned (.bool false)∧Jx Z' (pre++[x]) B))) ->
  J Z0 [] W ->
  Calls P gf (#[.func (.yield l) #[] #[]]++lb) W fun e B=>(∃v,e=.returned v)∧∃Z xs,(S xs∧J Z xs B)∨(Sp xs∧Jx Z xs B)
theorem Afw {α:Type}{P:Program}{n:Nat}{g:Operand}{ps:Array Tmp}{assign body:Code}{Q:Exit->Act->World->Prop}{a:Act}{w:World}{gf:Nat}{lb:Array Value}
  (hg:a.eval g=.func (.func gf) #[] lb) (eg:∀args w,(callFunc gf args).run P w=.ok (.enter gf args) w)
  {M:List α->α->Array Value->(Nat->Prop)->World->Prop} {S Sp:List α->Prop} {Pre:(Nat->Prop)->World->Prop} (hit:Awn P gf lb M S Sp Pre) {Z0:Nat->Prop} (hZ0:∀b,Z0 b->b<w.heap.size)
  (Anw:∀W:World,W.heap.size=w.heap.size+2->(∀b,b<w.heap.size->W.heap[b]?=w.heap[b]?)->Pre (fun b=>Z0 b∨b=w.heap.size∨b=w.heap.size+1) W)
  (KX:∀pre x args Z A,M pre x args Z A->args.size=ps.size)
  (I:(Nat->Prop)->List α->World->Prop) (Ix:Code->(Nat->Prop)->List α->World->Prop)
  (hI:∀Z pre A B,I Z pre A->L5 (fun b=>b<A.heap.size∧b≠w.heap.size∧b≠w.heap.size+1) A B->I Z pre B)
  (hIx:∀c Z pre A B,Ix c Z pre A->L5 (fun b=>b<A.heap.size∧b≠w.heap.size∧b≠w.heap.size+1) A B->Ix c Z pre B)
  (h0:∀W,W.heap.size=w.heap.size+2->L5 (fun b=>b<w.heap.size) w W->I (fun b=>Z0 b∨b=w.heap.size∨b=w.heap.size+1) [] W)
  (Nn:(Nat->Prop)->List α->α->Act->World->Prop)
  (hN:∀Z pre x a' A B,Nn Z pre x a' A->L5 (fun b=>b<A.heap.size∧b≠w.heap.size∧b≠w.heap.size+1) A B->Nn Z pre x a' B)
  (FC:∀Z pre x args A (K:Act->World->Prop),Z w.heap.size->Z (w.heap.size+1)->I Z pre A->M pre x args Z A->(∀Z1 a' A1,Qm Z Z1 A A1->A1.heap[w.heap.size]?=A.heap[w.heap.size]?->A1.heap[w.heap.size+1]?=A.heap[w.heap.size+1]?->Nn Z1 pre x a' A1->K a' A1) ->
   assign.wpIn (Fence.wide.inRound (w.heap.size+1)) 0 P (Exit.then K (fun _ _ _=>False)) { tmps:=(ps.zip args).foldl (fun t (p,v)=>t.setIfInBounds p v) a.tmps,defers:=[] } A)
  (Adj:∀Z pre x a' A,Z w.heap.size->Z (w.heap.size+1)->Nn Z pre x a' A->body.wpIn (Fence.wide.inRound (w.heap.size+1)) 0 P (IQ w.heap.size I Ix Z (pre++[x]) A) a' A)
  (Acn:∀Z xs B,S xs->I Z xs B->B.heap[w.heap.size]?=some (.deferred (some []))->Q .normal { a with defers:={ target:=.collected w.heap.size,args:= #[] }::a.defers } B)
  (Ace:∀c Z xs B,Sp xs->Ix c Z xs B->B.heap[w.heap.size]?=some (.deferred (some []))->c.wpIn Fence.wide n P Q { a with defers:={ target:=.collected w.heap.size,args:= #[] }::a.defers } B):
  (Code.rangeFunc g ps assign body).wpIn Fence.wide n P Q a w:=by
 refine wpIn_rangeFunc ?_;intro fn hfn;obtain⟨rec,Wd⟩:∃rec:LoopState->Option Code->Loop,rec=fun st pe=>{ state:=st,pending:=pe,fn,tmps:=a.tmps,params:=ps,assign,body,defers:=w.heap.size }:=⟨_,rfl⟩
 obtain⟨D,hD⟩:∃D,w.heap.size=D:=⟨_,rfl⟩;rw[hD] at hI hIx h0 hN FC Adj Acn Ace hZ0 Anw;obtain⟨W1,hW1⟩:∃W1,(w.alloc (.deferred (some []))).alloc (.loop (rec .ready none))=W1:=⟨_,rfl⟩;have JA:W1.heap.size=D+2:=by rw[←hW1,World.size_alloc,World.size_alloc,hD]
 have hL1:W1.heap[D+1]?=some (.loop (rec .ready none)):=by
  rw[←hW1,←hD];have:=World.alloc_heap_new (w.alloc (.deferred (some []))) (.loop (rec .ready none));rwa [World.size_alloc] at this
 have hK1:W1.heap[D]?=some (.deferred (some [])):=by
  rw[←hW1,←hD];exact (Below.heap_alloc _ _ _ (by simp)).trans (World.alloc_heap_new w _)
 have Gk:L5 (fun b=>b<D) w W1:=by
  rw[←hW1,←hD];exact⟨rfl,rfl,rfl,by simp;omega,fun b hb=>(Below.heap_alloc _ _ _ (by simp;omega)).trans (Below.heap_alloc _ _ _ hb)⟩
 refine⟨D+1,[{ target:=.collected D,args:= #[] }],W1,{ target:=.fn (.func gf) lb,args:= #[.func (.yield (D+1)) #[] #[]] },W1,gf,
  #[.func (.yield (D+1)) #[] #[]]++lb,W1,?_,?_,fun _ _=>trivial,?_,(fun h=>by cases h),?_⟩
 ·rw[←hW1,Wd,←hD];exact run_enterLoop_outer _ _ _ _ _
 ·simp only[resolve,hg];simp[go_sem]
 ·simp[invoke,go_sem,eg]
 ·have put:∀{A:World} (o:Obj),L5 (fun b=>b<A.heap.size∧b≠D∧b≠D+1) A (A.putObj (D+1) o):=fun o=>
   ⟨rfl,rfl,rfl,by simp,fun b hb=>World.putObj_heap_other hb.2.2⟩
  refine callsIn_wide.2 (Calls.mono (hit (D+1)
   (fun Z pre A=>(Z D∧Z (D+1))∧I Z pre A∧A.heap[D+1]?=some (.loop (rec .ready none))∧A.heap[D]?=some (.deferred (some [])))
   (fun Z pre A=>(Z D∧Z (D+1))∧∃c,Ix c Z pre A∧A.heap[D+1]?=some (.loop (rec .done (some c)))∧A.heap[D]?=some (.deferred (some [])))
   W1 (fun b=>Z0 b∨b=D∨b=D+1) (fun b hb=>by rw[JA];exact hb.elim (fun h=>by have:=hZ0 b h;omega) fun h=>by omega) (Anw W1 JA (fun b hb=>Gk.same b hb)) ?_ ?_ ?_ ?_) ?_)
  ·rintro Z pre A B ⟨hz,hi,hl,hk⟩ hs
   exact⟨hz,hI Z pre A B hi (hs.sub fun _ h=>h.1),(hs.same _ (Array.getElem?_eq_some_iff.1 hl).1).trans hl,(hs.same _ (Array.getElem?_eq_some_iff.1 hk).1).trans hk⟩
  ·rintro Z pre A B ⟨hz,c,hi,hl,hk⟩ hs
   exact⟨hz,c,hIx c Z pre A B hi (hs.sub fun _ h=>h.1),(hs.same _ (Array.getElem?_eq_some_iff.1 hl).1).trans hl,(hs.same _ (Array.getElem?_eq_some_iff.1 hk).1).trans hk⟩
  ·rintro Z0' pre x args A0 ⟨hz0,hi,Vc,hk0⟩ hm
   have hy:=run_yield (P:=P) (args:=args) Vc (by rw[Wd];exact KX pre x args Z0' A0 hm)
   rw[Wd] at hy;refine⟨fn,_,assign,body,hy,roundIn_of_wpIn hfn (FC Z0' pre x args A0 _ hz0.1 hz0.2 hi hm ?_)⟩;intro Z a' A ht0 k0 k1 hn;have hz:Z D∧Z (D+1):=⟨ht0.sub _ hz0.1,ht0.sub _ hz0.2⟩;have hl:=k1.trans Vc;have hk:=k0.trans hk0;have Cd:D+1<A.heap.size:=(Array.getElem?_eq_some_iff.1 hl).1;refine⟨_,run_beginRound hl (by rw[Wd]),?_⟩
   obtain⟨A2,hA2⟩:∃A2,A.putObj (D+1) (.loop { rec .ready none with state:=.busy })=A2:=⟨_,rfl⟩;rw[hA2];have LZ:A2.heap[D+1]?=some (.loop { rec .ready none with state:=.busy }):=by rw[←hA2];exact World.putObj_heap_same Cd
   have Gc:A2.heap[D]?=some (.deferred (some [])):=by rw[←hA2];exact (World.putObj_heap_other (by omega)).trans hk
   have hz2:A2.heap.size=A.heap.size:=by rw[←hA2];simp
   have hn2:Nn Z pre x a' A2:=by rw[←hA2];exact hN Z pre x a' A _ hn (put _)
   refine wpIn_mono (Adj Z pre x a' A2 hz.1 hz.2 hn2) ?_
   have fin:∀(jump:Option Code) (W3:World) (Z':Nat->Prop),Qm Z Z' A2 W3->W3.heap[D]?=A2.heap[D]?->W3.heap[D+1]?=A2.heap[D+1]? ->
     (Instr.endRound (D+1) jump).run P W3=.ok (.bool jump.isNone) (W3.putObj (D+1) (.loop (rec (if jump.isNone then .ready else .done) jump))) ∧
     (W3.putObj (D+1) (.loop (rec (if jump.isNone then .ready else .done) jump))).heap[D+1]?=some (.loop (rec (if jump.isNone then .ready else .done) jump)) ∧
     (W3.putObj (D+1) (.loop (rec (if jump.isNone then .ready else .done) jump))).heap[D]?=some (.deferred (some [])) ∧
     Qm Z Z' A (W3.putObj (D+1) (.loop (rec (if jump.isNone then .ready else .done) jump))):=fun jump W3 Z' ht e1 e2=>by
    have hl3:=e2.trans LZ;have:=run_endRound (P:=P) jump hl3;rw[Wd] at this ⊢;refine⟨this,World.putObj_heap_same (Array.getElem?_eq_some_iff.1 hl3).1,(World.putObj_heap_other (by omega)).trans (e1.trans Gc),?_⟩
    have hA:A2.os=A.os∧A2.tape=A.tape∧A2.output=A.output:=by rw[←hA2];exact⟨rfl,rfl,rfl⟩
    refine⟨ht.os.trans hA.1,ht.tape.trans hA.2.1,ht.output.trans hA.2.2,by have:=ht.size;simp;omega,fun b hb hn=>?_,ht.sub,fun b hb=>by have:=ht.new b hb;rw[hz2] at this;exact this,fun b hb=>by simpa using ht.lt b hb,fun b hb=>?_⟩
    ·have F9:b≠D+1:=fun e=>hn (e ▸ hz.2)
     rw[World.putObj_heap_other F9,ht.keep b (by omega) hn,←hA2,World.putObj_heap_other F9]
    ·by_cases F9:b=D+1
     ·subst F9;unfold bsz;rw[hl];exact Nat.zero_le _
     ·have h5:=ht.bs b (by omega)
      have h6:bsz A2 b=bsz A b:=by unfold bsz;rw[←hA2,World.putObj_heap_other F9]
      have h7:∀o,bsz (W3.putObj (D+1) o) b=bsz W3 b:=fun o=>by unfold bsz;rw[World.putObj_heap_other F9]
      rw[h7,←h6];exact h5
   rintro e a3 W3 ⟨Z',ht,e1,e2,hp⟩
   cases e with
   |normal=>
    obtain⟨hr,hl4,Tc,ht4⟩:=fin none W3 Z' ht e1 e2;exact⟨_,_,hr,Z',ht0.trans ht4,.inl ⟨rfl,⟨ht.sub _ hz.1,ht.sub _ hz.2⟩,hI Z' _ _ _ hp (put _),hl4,Tc⟩⟩
   |ret=>
    obtain⟨hr,hl4,Tc,ht4⟩:=fin (some .ret) W3 Z' ht e1 e2;exact⟨_,_,hr,Z',ht0.trans ht4,.inr ⟨rfl,⟨ht.sub _ hz.1,ht.sub _ hz.2⟩,.ret,hIx _ Z' _ _ _ hp (put _),hl4,Tc⟩⟩
   |exit id=>
    obtain⟨hr,hl4,Tc,ht4⟩:=fin (some (.exit id)) W3 Z' ht e1 e2;exact⟨_,_,hr,Z',ht0.trans ht4,.inr ⟨rfl,⟨ht.sub _ hz.1,ht.sub _ hz.2⟩,.exit id,hIx _ Z' _ _ _ hp (put _),hl4,Tc⟩⟩
   |goto t=>
    obtain⟨hr,hl4,Tc,ht4⟩:=fin (some (.goto t)) W3 Z' ht e1 e2;exact⟨_,_,hr,Z',ht0.trans ht4,.inr ⟨rfl,⟨ht.sub _ hz.1,ht.sub _ hz.2⟩,.goto t,hIx _ Z' _ _ _ hp (put _),hl4,Tc⟩⟩
   |panic ch=>exact hp.elim
   |outgrown=>exact hp.elim
  ·exact⟨⟨.inr (.inl rfl),.inr (.inr rfl)⟩,h0 W1 JA Gk,hL1,hK1⟩
  ·rintro e W2 ⟨⟨v,rfl⟩,Z,xs,(⟨hS,hz,hi,hl,hk⟩|⟨hSp,hz,c,hi,hl,hk⟩)⟩
   ·exact⟨none,_,by have:=run_endLoop (P:=P) hl (by rw[Wd];simp);rw[Wd] at this;exact this,Acn Z xs _ hS (hI Z _ _ _ hi (put _)) ((World.putObj_heap_other (by omega)).trans hk)⟩
   ·exact⟨some c,_,by have:=run_endLoop (P:=P) hl (by rw[Wd];simp);rw[Wd] at this;exact this,Ace c Z xs _ hSp (hIx c Z _ _ _ hi (put _)) ((World.putObj_heap_other (by omega)).trans hk)⟩
end
section
open Go.Proofs.Tryd (prog)
open Go.IntKind (wrap)
set_option maxRecDepth 20000
open Go Go.RowKit
def prC (p:Int × Int):List PV:=[.sc (.int .i64 p.1),.sc (.int .i64 p.2)]
def Jt (l:List (Int × Int)):List PV:=l.flatMap prC
theorem XJ (p:Int × Int):(prC p).length=2:=rfl
theorem Aln (l:List (Int × Int)):(Jt l).length=l.length*2:=Te XJ l
theorem Aqr {l:List (Int × Int)} {i:Nat}{p:Int × Int}(h:l[i]?=some p):(Jt l).getD (i*2) .top=.sc (.int .i64 p.1)∧(Jt l).getD (i*2+1) .top=.sc (.int .i64 p.2):=
 ⟨Ie XJ h (j:=0) (by omega),Ie XJ h (j:=1) (by omega)⟩
theorem Azf:bwC=.seq (sL bwC) (.block 0 (.loop bwL)):=by kernel_rfl
theorem Ao7:bwL=.seq (sL bwL) (.seq (.block 1 bwX) (sR (sR bwL))):=by kernel_rfl
theorem Ayl:bwX=.seq (.region 3 (Gw (sL bwX)) false) (sR bwX):=by kernel_rfl
theorem A1u:∃ty pos aft x,(Gw (sL bwX))[6]?=some { dst:=some 17,op:=.call { callee:=.value (.tmp 11),args:= #[.tmp 12,.tmp 16],argTypes:=x },type:=ty,pos:=pos,after:=aft,guard:=none }:=
 ⟨_,_,_,_,rfl⟩
abbrev bwS (yv:Value)(l:List (Int × Int)) (i:Int):St:=⟨lk [(0,.sc yv),(1,.iptr [.lst false 2 l.length (Jt l)] 0),(3,.sc (.int .i64 i))],Br []⟩
abbrev Ans (yv:Value)(l:List (Int × Int)) (i kd t:Int):St:=⟨lk [(0,.sc yv),(1,.iptr [.lst false 2 l.length (Jt l)] 0),(3,.sc (.int .i64 i)),(11,.sc yv),(12,.sc (.int .i64 i)),(16,.agg [.sc (.int .i64 kd),.sc (.int .i64 t)])],Br []⟩
abbrev A8j (yv:Value)(l:List (Int × Int)) (i:Int)(e:Bool):St:=⟨lk [(0,.sc yv),(1,.iptr [.lst false 2 l.length (Jt l)] 0),(3,.sc (.int .i64 i)),(17,.sc (.bool e))],Br []⟩
abbrev A1s (yv:Value)(l:List (Int × Int)) (i:Int)(e:Bool):St:=⟨lk [(0,.sc yv),(1,.iptr [.lst false 2 l.length (Jt l)] 0),(3,.sc (.int .i64 i)),(18,.sc (.bool e))],Br []⟩
def bwM (l:List (Int × Int)) (pre:List Nat)(i:Nat)(args:Array Value)(Z:Nat->Prop)(A:World):Prop:=
 (∀j,i<j->j<l.length->j∈pre)∧∃p,l[i]?=some p∧args = #[.int .i64 i,.agg #[.int .i64 p.1,.int .i64 p.2]]
theorem Amw {l:List (Int × Int)} {pre:List Nat}{i:Nat}{args:Array Value}{Z:Nat->Prop}{A:World}(hm:bwM l pre i args Z A):args.size=2:=by
 obtain⟨_,p,_,h⟩:=hm;rw[h];rfl
theorem B4.stayA {N:Nat}{w0 w:World}{X0:Fp}{Y:Nat->Prop}{β:Bt}{s:St}{a:Act}(h:B4 N w0 X0 Y β s a w)(hx:∀b,¬X0.X b):L5 (fun b=>b<w0.heap.size) w0 w:=
 ⟨h.fr.os,h.fr.tape,h.fr.output,h.fr.step.size,fun b hb=>h.fr.step.keep b hb (hx b)⟩
theorem Axi (b:Nat):¬noL.X b:=fun h=>h
theorem hp0 {id:Nat}{bx:Bx}:Br [] id=some bx->False:=fun h=>by cases h
theorem A88 {β:Bt}{b:Nat}:¬BZ (Br []) β b:=fun ⟨_,_,h,_⟩=>(h:Cs none).elim
section
variable {l:List (Int × Int)} {y:Nat} {w0:World} {X0:Fp} {Z:Nat->Prop} {β:Bt} {a:Act} {w:World}
theorem Atv {yv:Value}{i kd t:Int}(hs:B4 19 w0 X0 Z β (Ans yv l i kd t) a w):
  a.tmps.getD 11 undef=yv∧a.tmps.getD 12 undef=.int .i64 i∧a.tmps.getD 16 undef=.agg #[.int .i64 kd,.int .i64 t]:=by
 refine⟨K8 (hs.tms 11 (by decide)),K8 (hs.tms 12 (by decide)),?_⟩
 obtain⟨vs,h1,h2⟩:=(show ∃vs,a.tmps.getD 16 undef=.agg ⟨vs⟩∧Bw (Ci w (Db (Br []) β Z) β) [.sc (.int .i64 kd),.sc (.int .i64 t)] vs from hs.tms 16 (by decide))
 match vs,h2 with
 |[u,v],⟨k1,k2,_⟩=>
  have e1:=Aw.val (w:=w) k1;have e2:=Aw.val (w:=w) k2;rw[h1,←e1,←e2]
theorem Ah3 {yv:Value}{i kd t:Int}{Z':Nat->Prop}{B:World}(b:Bool)(hs:B4 19 w0 X0 Z β (Ans yv l i kd t) a w) (ht:Qm Z Z' w B):
  B4 19 B (Al1 (Ans yv l i kd t) β) Z' β (A8j yv l i b) (a.put (some 17) (.bool b)) B:=by
 have h1:=(hs.rebase ht (fun id c (e:(Br [] id:Option Bx)=some (.st c))=>hp0 e)).put (d:=some 17) (v:=.sc (.bool b)) (val:=.bool b) rfl (Aw.sc _) (by simp[B7,Cj,Av])
 refine h1.pick _ _ ?_ ?_ ?_ ?_ (fun _ h=>h.elim)
 ·intro q hq;simp only[List.mem_cons,List.not_mem_nil,or_false] at hq;rcases hq with rfl|rfl|rfl|rfl<;>rfl
 ·intro q hq;cases hq
 ·intro q hq id Bo;simp only[List.mem_cons,List.not_mem_nil,or_false] at hq;rcases hq with rfl|rfl|rfl|rfl<;>simp[B7,Cj,Av] at Bo
 ·intro q hq;cases hq
theorem WJ {J Jx:(Nat->Prop)->List Nat->World->Prop} (hJ:∀Z pre A B,J Z pre A->L5 (fun b=>b<A.heap.size) A B->J Z pre B) (hJx:∀Z pre A B,Jx Z pre A->L5 (fun b=>b<A.heap.size) A B->Jx Z pre B)
  (hY:∀Z pre x args A,J Z pre A->bwM l pre x args Z A->YieldAt Fence.wide 0 prog y args A fun e B=>∃Z',Qm Z Z' A B∧((e=.returned (.bool true)∧J Z' (pre++[x]) B)∨(e=.returned (.bool false)∧Jx Z' (pre++[x]) B)))
  (hl:l.length<=100000){Q:Exit->Act->World->Prop}(YH:∀e a' w',e=.exit 0∨e=.ret->a'.defers=[]->(∃Z xs,((∀j,j<l.length->j∈xs)∧J Z xs w')∨Jx Z xs w')->Q e a' w'):
  ∀(k nn:Nat),k<=l.length->k<nn->∀{w0:World} {X0:Fp} {Z:Nat->Prop} {β:Bt} {a:Act} {w:World} {pre:List Nat},
   B4 19 w0 X0 Z β (bwS (.func (.yield y) #[] #[]) l ((k:Int)-1)) a w->(∀b,¬X0.X b)->(∀j,k<=j->j<l.length->j∈pre)->J Z pre w0->Code.roundsIn Fence.wide 0 prog bwL Q nn a w
 |_,0,_,h=>by omega
 |0,nn+1,hk,hn=>by
  intro hs hd Aa5 hj;rename_i w0 X0 Z β a w pre;rw[roundsIn_succ];refine Oa Ao7 (wpIn_seq (wpIn_wide.2 (Df (Is _ _) DB B3 hs (t:=1) (L:=11) (s1:=bwS (.func (.yield y) #[] #[]) l (((0:Nat):Int)-1)) ?_ ?_)))
  ·exact (Aqs cl _ l.length (Jt l) _).trans (Fi _ _ _ (by omega))
  ·intro a' w' β' h';exact YH _ a' w' (.inl rfl) h'.dfr ⟨Z,pre,.inl ⟨fun j hj2=>Aa5 j (by omega) hj2,hJ Z pre _ _ hj (h'.stayA hd)⟩⟩
 |k+1,nn+1,hk,hn=>by
  intro hs hd Aa5 hj;rename_i w0 X0 Z β a w pre;rw[roundsIn_succ];have ek:(((k+1:Nat):Int)-1)=(k:Int):=by omega
  rw[ek] at hs;refine Oa Ao7 (wpIn_seq (wpIn_wide.2 (Df (Is _ _) DB B3 hs (t:=0) (L:=11) (s1:=bwS (.func (.yield y) #[] #[]) l (k:Int)) ?_ ?_)))
  ·exact (Aqs cl _ l.length (Jt l) _).trans (BP _ _ _ (by omega))
  intro a1 w1 β1 JA;show (Code.seq (.block 1 bwX) (sR (sR bwL))).wpIn Fence.wide 0 prog _ a1 w1;refine wpIn_seq (wpIn_block (Oa Ayl (wpIn_seq (wpIn_region ?_))));have hli:List.range (Gw (sL bwX)).size=[0,1,2,3,4,5]++[6,7]:=by kernel_rfl
  rw[hli];have Cd:k<l.length:=by omega
  have hp:=List.getElem?_eq_getElem Cd;generalize l[k]=p at hp;obtain⟨g0,g1⟩:=Aqr hp;refine Gh (ro:=none) (C:=CB) (call:=cl) (r:=((0:Nat),Ans (.func (.yield y) #[] #[]) l k p.1 p.2)) (Is _ _) B3 ?_ [0,1,2,3,4,5] (List.take 6 (Gw (sL bwX)).toList) (by kernel_rfl) ?_ (by kernel_rfl) JA ((Axv cl _ l.length (Jt l) k).trans ?_)
  rotate_left
  ·intro j i hj
   match j,hj with
   |0,hj=>cases hj;rfl
   |1,hj=>cases hj;rfl
   |2,hj=>cases hj;rfl
   |3,hj=>cases hj;rfl
   |4,hj=>cases hj;rfl
   |5,hj=>cases hj;rfl
  ·simp (disch:=omega) only[Cu,Hs,g0,g1]
  intro s' a2 w2 β2 Gc PF;obtain⟨β3,s3,Tn,hs3⟩:=B6 PF Gc;cases Tn;obtain⟨v11,v12,v16⟩:=Atv hs3;have hjw:J Z pre w2:=hJ Z _ _ _ hj (hs3.stayA hd);have hm:bwM l pre k #[.int .i64 k,.agg #[.int .i64 p.1,.int .i64 p.2]] Z w2:=⟨fun j h1 h2=>Aa5 j (by omega) h2,p,hp,rfl⟩
  obtain⟨fn,tmps,assign,body,hy,hR⟩:=hY Z _ k _ w2 hjw hm;obtain⟨ty,pos,aft,x,ho⟩:=A1u;rw[wpOpsIn_cons];unfold wpOpIn;rw[ho];simp only[Region.wanted,if_true]
  have run:(execOp a2.eval { dst:=some 17,op:=.call { callee:=.value (.tmp 11),args:= #[.tmp 12,.tmp 16],argTypes:=x },type:=ty,pos:=pos,after:=aft,guard:=none }).run prog w2=.ok (.round y fn tmps assign body) w2:=by
   have e11:a2.eval (.tmp 11)=.func (.yield y) #[] #[]:=v11;have e12:a2.eval (.tmp 12)=.int .i64 k:=v12;have e16:a2.eval (.tmp 16)=.agg #[.int .i64 p.1,.int .i64 p.2]:=v16;refine WN rfl rfl e11 ?_;rw[←hy];simp only[List.map_toArray,VO,List.map_nil,e12,e16]
  refine⟨fun _ _=>trivial,?_⟩
  rw[show Oper.semAt (WF none).round a2.eval { dst:=some 17,op:=.call { callee:=.value (.tmp 11),args:= #[.tmp 12,.tmp 16],argTypes:=x },type:=ty,pos:=pos,after:=aft,guard:=none }=execOp a2.eval { dst:=some 17,op:=.call { callee:=.value (.tmp 11),args:= #[.tmp 12,.tmp 16],argTypes:=x },type:=ty,pos:=pos,after:=aft,guard:=none } from rfl,run]
  refine⟨(fun h=>by cases h),(KQ hR).mono ?_⟩
  rintro e B ⟨Z',ht,he⟩
  have Gx:∀b,¬(Al1 (Ans (.func (.yield y) #[] #[]) l k p.1 p.2) β3).X b:=fun b hb=>A88 hb
  rcases he with⟨rfl,hj2⟩|⟨rfl,hj2⟩
  ·have h4:=Ah3 true hs3 ht;show wpOpsIn _ _ _ _ _ ([7]++[]) _ _;refine Gh (ro:=none) (C:=CB) (call:=cl) (r:=((0:Nat),A1s (.func (.yield y) #[] #[]) l k (!true))) (Is _ _) B3 ?_ [7] (List.drop 7 (Gw (sL bwX)).toList) (by kernel_rfl) ?_ (by kernel_rfl) h4 (Am1 cl _ l.length (Jt l) k true)
   rotate_left
   ·intro j i hj
    match j,hj with
    |0,hj=>cases hj;rfl
   intro s' a5 w5 β5 VL V1;obtain⟨β6,s6,hk6,hs6⟩:=B6 V1 VL;cases hk6;show (sR bwX).wpIn Fence.wide 0 prog _ a5 w5;refine wpIn_wide.2 (PU (Is _ _) DB B3 hs6 (t:=0) (L:=11) (s1:=bwS (.func (.yield y) #[] #[]) l k) (Aqo cl _ l.length (Jt l) k false) ?_)
   rintro a' w' β' e' h' (⟨_,rfl⟩|⟨h1,_⟩|⟨id,h1,_⟩)
   ·show (sR (sR bwL)).wpIn Fence.wide 0 prog _ a' w';refine wpIn_wide.2 (Df (Is _ _) DB B3 h' (t:=0) (L:=11) (s1:=bwS (.func (.yield y) #[] #[]) l ((k:Int)-1)) ?_ ?_)
    ·have wk:wrap .i64 ((k:Int)-1)=(k:Int)-1:=Ak (by omega) (by omega)
     refine (Azv cl _ l.length (Jt l) k).trans ?_;simp only[Cu,wk]
    ·intro a7 w7 β7 h7
     exact WJ hJ hJx hY hl YH k nn (by omega) (by omega) h7 Gx (fun j h1 h2=>List.mem_append.2 (by
      rcases Nat.lt_or_ge k j with h3|h3
      ·exact .inl (Aa5 j (by omega) h2)
      ·exact .inr (List.mem_singleton.2 (by omega)))) hj2
   ·cases h1
   ·omega
  ·have h4:=Ah3 false hs3 ht;show wpOpsIn _ _ _ _ _ ([7]++[]) _ _;refine Gh (ro:=none) (C:=CB) (call:=cl) (r:=((0:Nat),A1s (.func (.yield y) #[] #[]) l k (!false))) (Is _ _) B3 ?_ [7] (List.drop 7 (Gw (sL bwX)).toList) (by kernel_rfl) ?_ (by kernel_rfl) h4 (Am1 cl _ l.length (Jt l) k false)
   rotate_left
   ·intro j i hj
    match j,hj with
    |0,hj=>cases hj;rfl
   intro s' a5 w5 β5 VL V1;obtain⟨β6,s6,hk6,hs6⟩:=B6 V1 VL;cases hk6;show (sR bwX).wpIn Fence.wide 0 prog _ a5 w5;refine wpIn_wide.2 (PU (Is _ _) DB B3 hs6 (t:=1) (L:=11) (s1:=bwS (.func (.yield y) #[] #[]) l k) (Aqo cl _ l.length (Jt l) k true) ?_)
   rintro a' w' β' e' h' (⟨h1,_⟩|⟨_,rfl⟩|⟨id,h1,rfl⟩)
   ·cases h1
   ·exact YH _ a' w' (.inr rfl) h'.dfr ⟨Z',_,.inr (hJx Z' _ _ _ hj2 (h'.stayA Gx))⟩
   ·omega
end
end
section
open Go.Proofs.Tryd (prog)
open Go.IntKind (wrap)
set_option maxRecDepth 20000
open Go Go.RowKit Go.Shelf
def A2q (S0:Nat)(l:List (Int × Int)) (Z0:Nat->Prop)(W:World):Prop:=TN W Z0 ⟨S0,0,none⟩ [.lst false 2 l.length (Jt l)]∧S0<W.heap.size∧¬Z0 S0
theorem Auu {S0:Nat}{l:List (Int × Int)} (hl:l.length<=100000):Awn prog 40 #[.pointer (some ⟨S0,0,none⟩)] (bwM l) (fun xs=>∀j,j<l.length->j∈xs) (fun _=>True) (A2q S0 l):=by
 intro y J Jx W Z0 hZ hP hJ hJx hY h0;obtain⟨p1,p2,p3⟩:=hP;refine callsIn_wide.1 (callsIn_of_wp (F:=Fence.wide) (n:=0) Tryd.func40 rfl trivial ?_ rfl);show bwC.wpIn _ _ _ _ _ _;have t1:(({ tmps:=(#[Value.func (.yield y) #[] #[]] ++ #[Value.pointer (some ⟨S0,0,none⟩)])++Array.replicate (Tryd.f40.ntmps-(#[Value.func (.yield y) #[] #[]] ++ #[Value.pointer (some ⟨S0,0,none⟩)]).size) undef,defers:=[] }:Act))={ tmps:=(Value.func (.yield y) #[] #[]::Value.pointer (some ⟨S0,0,none⟩)::List.replicate 17 undef).toArray,defers:=[] }:=by kernel_rfl
 rw[t1]
 have i0:B4 19 W noL Z0 (fun _=>none) ⟨lk [(0,.sc (.func (.yield y) #[] #[])),(1,.iptr [.lst false 2 l.length (Jt l)] 0)],Br []⟩ { tmps:=(Value.func (.yield y) #[] #[]::Value.pointer (some ⟨S0,0,none⟩)::List.replicate 17 undef).toArray,defers:=[] } W:=by
  refine B4.init _ _ rfl (by simp) ?_ ?_ ?_ hZ
  ·intro q hq;simp only[List.mem_cons,List.not_mem_nil,or_false] at hq;rcases hq with rfl|rfl<;>simp
  ·intro q hq;simp only[List.mem_cons,List.not_mem_nil,or_false] at hq;rcases hq with rfl|rfl
   ·exact Aw.sc _
   ·exact⟨⟨S0,0,none⟩,rfl,rfl,p2,p3,p1⟩
  ·intro q hq;simp only[List.mem_cons,List.not_mem_nil,or_false] at hq;rcases hq with rfl|rfl<;>rfl
 generalize ({ tmps:=(Value.func (.yield y) #[] #[]::Value.pointer (some ⟨S0,0,none⟩)::List.replicate 17 undef).toArray,defers:=[] }:Act)=a0 at i0 ⊢;refine Oa Azf (wpIn_seq (wpIn_wide.2 (Df (Is _ _) DB B3 i0 (L:=11) (t:=0) (s1:=bwS (.func (.yield y) #[] #[]) l ((l.length:Int)-1)) ?_ ?_)))
 ·have wk:wrap .i64 ((l.length:Int)-1)=(l.length:Int)-1:=Ak (by omega) (by omega)
  refine (A0m cl _ l.length (Jt l)).trans ?_;simp only[Cu,wk]
 intro a1 w1 β1 h1;refine wpIn_block (wpIn_loop_rounds (l.length+1) (WJ hJ hJx hY hl ?_ l.length (l.length+1) (Nat.le_refl _) (by omega) h1 Axi (fun j h1 h2=>by omega) h0))
 rintro e a5 w5 he h5 ⟨Z,xs,h6⟩
 have h7:∃Z xs,((∀j,j<l.length->j∈xs)∧J Z xs w5)∨(True∧Jx Z xs w5):=⟨Z,xs,h6.imp (fun x=>x) fun x=>⟨trivial,x⟩⟩
 rcases he with rfl|rfl
 ·exact⟨h5,_,results_none rfl _ _ _,⟨_,rfl⟩,h7⟩
 ·exact⟨h5,_,results_none rfl _ _ _,⟨_,rfl⟩,h7⟩
set_option maxHeartbeats 2000000 in
theorem Avb (ad:Option Addr)(n c:Int)(m:Nat)(w:World)(k q:Nat):CallsIn Fence.wide m prog 19 #[.slice ad k q] w fun e w'=>
  e=.returned (.func (.func 40) #[] #[.pointer (some ⟨w.heap.size,0,none⟩)])∧w'=w.alloc (.cells #[.slice ad k q] 27):=by
 refine callsIn_of_wp Tryd.func19 rfl trivial ?_ rfl;simp only[Tryd.ntmps19,List.size_toArray,Io,W5,Nat.reduceAdd,Nat.reduceSub,Array.replicate_succ,Array.replicate_zero,List.push_toArray,List.append_toArray,Zzq,Zzp]
 gi_wp2
 go_ret
 exact⟨rfl,rfl⟩
end
section
open Go.Proofs.Tryd (prog)
open Go.IntKind (wrap)
set_option maxRecDepth 20000
open Go Go.RowKit
structure LY (wS:World) (D b6 o6:Nat) (v:Int) (Z:Nat->Prop) (A:World):Prop where
 os:A.os=wS.os
 tape:A.tape=wS.tape
 output:A.output=wS.output
 size:D+2<=A.heap.size
 zlt:∀b,Z b->b<A.heap.size
 z6:Z b6
 zn:∀b,Z b->b=b6∨D<=b
 keep:∀b,b<D->b≠b6->A.heap[b]?=wS.heap[b]?
 bs:bsz wS b6<=bsz A b6
 c6:A.cell? ⟨b6,o6,none⟩=some (.int .i64 v)
 f6:A.frozen? ⟨b6,o6,none⟩=false
theorem LY.stay {wS:World}{D b6 o6:Nat}{v:Int}{Z:Nat->Prop}{A B:World}(hI:LY wS D b6 o6 v Z A)(l6:b6<D)(hs:L5 (fun b=>b<A.heap.size∧b≠D∧b≠D+1) A B):LY wS D b6 o6 v Z B:=by
 have hz:=hI.size;have e:∀b,b<D->B.heap[b]?=A.heap[b]?:=fun b hb=>hs.same b ⟨by omega,by omega,by omega⟩
 have hb6:bsz B b6=bsz A b6:=by unfold bsz;rw[e b6 l6]
 exact⟨hs.os.trans hI.os,hs.tape.trans hI.tape,hs.output.trans hI.output,Nat.le_trans hI.size hs.size,fun b hb=>Nat.lt_of_lt_of_le (hI.zlt b hb) hs.size,hI.z6,hI.zn,fun b hb hn=>(e b hb).trans (hI.keep b hb hn),by rw[hb6];exact hI.bs,
  (World.cell?_of_block (e b6 l6)).trans hI.c6,by rw[frozen?_of_block (e b6 l6)];exact hI.f6⟩
def Azb (l:List (Int × Int)) (now:Int)(pre:List Nat):Prop:=∀j∈pre,∀p,l[j]?=some p->now<p.2
structure At3 (v5 v6:Value) (D:Nat) (kd t:Int) (a:Act) (A:World):Prop where
 dfr:a.defers=[]
 size:a.tmps.size=28
 t5:a.tmps.getD 5 undef=v5
 t6:a.tmps.getD 6 undef=v6
 t10:∃b o,a.tmps.getD 10 undef=.pointer (some ⟨b,o,none⟩)∧D+2<=b∧b<A.heap.size∧A.cell? ⟨b,o,none⟩=some (.int .i64 kd)∧A.cell? ⟨b,o+1,none⟩=some (.int .i64 t)
theorem At3.stay {v5 v6:Value}{D:Nat}{kd t:Int}{a:Act}{A B:World}(h:At3 v5 v6 D kd t a A)(hs:L5 (fun b=>b<A.heap.size∧b≠D∧b≠D+1) A B):At3 v5 v6 D kd t a B:=by
 obtain⟨b,o,h1,h2,h3,h4,h5⟩:=h.t10;have e:B.heap[b]?=A.heap[b]?:=hs.same b ⟨h3,by omega,by omega⟩
 exact⟨h.dfr,h.size,h.t5,h.t6,b,o,h1,h2,Nat.lt_of_lt_of_le h3 hs.size,(World.cell?_of_block e).trans h4,(World.cell?_of_block (a:=⟨b,o+1,none⟩) e).trans h5⟩
def Ayv (wS:World)(D b6 o6:Nat)(v5 v6:Value)(l:List (Int × Int)) (now:Int)(Z:Nat->Prop)(pre:List Nat)(x:Nat)(a:Act)(A:World):Prop:=
 LY wS D b6 o6 0 Z A∧Azb l now pre∧(∀j,x<j->j<l.length->j∈pre)∧∃p,l[x]?=some p∧At3 v5 v6 D p.1 p.2 a A
def stI (wS:World)(D b6 o6:Nat)(l:List (Int × Int)) (now:Int)(Z:Nat->Prop)(pre:List Nat)(A:World):Prop:=LY wS D b6 o6 0 Z A∧Azb l now pre
def Azo (wS:World)(D b6 o6:Nat)(l:List (Int × Int)) (now:Int)(c:Code)(Z:Nat->Prop)(xs:List Nat)(B:World):Prop:=
 c=.ret∧∃pre x p,Azb l now pre∧(∀j,x<j->j<l.length->j∈pre)∧l[x]?=some p∧p.2<=now∧LY wS D b6 o6 p.1 Z B
theorem Alp {wS:World}{D b6 o6:Nat}{v5 v6:Value}{l:List (Int × Int)} {now:Int}{Z:Nat->Prop}{pre:List Nat}{x:Nat}{args:Array Value}{A:World}{a:Act}{K:Act->World->Prop}(l6:b6<D)(hI:stI wS D b6 o6 l now Z pre A)(hm:bwM l pre x args Z A)(hd:a.tmps.size=28)(h5:a.tmps.getD 5 undef=v5)(h6:a.tmps.getD 6 undef=v6)
  (hK:∀Z1 a' A1,Qm Z Z1 A A1->A1.heap[D]?=A.heap[D]?->A1.heap[D+1]?=A.heap[D+1]?->Ayv wS D b6 o6 v5 v6 l now Z1 pre x a' A1->K a' A1):
  Aie.wpIn (Fence.wide.inRound (D+1)) 0 prog (Exit.then K (fun _ _ _=>False)) { tmps:=((#[20,21]:Array Tmp).zip args).foldl (fun t (p,v)=>t.setIfInBounds p v) a.tmps,defers:=[] } A:=by
 obtain⟨hI1,hI2⟩:=hI;obtain⟨RA,p,hp,rfl⟩:=hm;obtain⟨b0,RW⟩:∃b0:Act,({ tmps:=a.tmps,defers:=[] }:Act)=b0:=⟨_,rfl⟩;have OL:b0.tmps.size=28:=by rw[←RW];exact hd
 have ez:((#[20,21]:Array Tmp).zip #[Value.int .i64 (x:Int),.agg #[.int .i64 p.1,.int .i64 p.2]]) = #[(20,Value.int .i64 (x:Int)),(21,.agg #[.int .i64 p.1,.int .i64 p.2])]:=by simp
 have ea:({ tmps:=((#[20,21]:Array Tmp).zip #[Value.int .i64 (x:Int),.agg #[.int .i64 p.1,.int .i64 p.2]]).foldl (fun t (p,v)=>t.setIfInBounds p v) a.tmps,defers:=[] }:Act)=(b0.put (some 20) (.int .i64 (x:Int))).put (some 21) (.agg #[.int .i64 p.1,.int .i64 p.2]):=by
  rw[ez,←RW];simp[Act.put]
 rw[ea];have hd0:b0.defers=[]:=by rw[←RW]
 have ht0:b0.tmps=a.tmps:=by rw[←RW]
 obtain⟨a1,ha1⟩:∃a1,(b0.put (some 20) (.int .i64 (x:Int))).put (some 21) (.agg #[.int .i64 p.1,.int .i64 p.2])=a1:=⟨_,rfl⟩;rw[ha1];have z1:a1.defers=[]:=by rw[←ha1];simp only[Jn,hd0]
 have z2:a1.tmps.size=28:=by rw[←ha1];simp only[Hc,OL]
 have z5:a1.tmps.getD 5 undef=v5:=by rw[←ha1,Fj (by decide),Fj (by decide),ht0];exact h5
 have z6:a1.tmps.getD 6 undef=v6:=by rw[←ha1,Fj (by decide),Fj (by decide),ht0];exact h6
 have z21:a1.tmps.getD 21 undef=.agg #[.int .i64 p.1,.int .i64 p.2]:=by rw[←ha1,CH (by simp only[Hc,OL];decide)]
 have i0:B4 28 A noL (fun _=>False) (fun _=>none) ⟨lk [(5,.sc v5),(6,.sc v6),(21,.agg [.sc (.int .i64 p.1),.sc (.int .i64 p.2)])],Br []⟩ a1 A:=by
  refine B4.init _ _ z1 z2 ?_ ?_ ?_ (fun _ h=>h.elim)
  ·intro q hq;simp only[List.mem_cons,List.not_mem_nil,or_false] at hq;rcases hq with rfl|rfl|rfl<;>simp
  ·intro q hq;simp only[List.mem_cons,List.not_mem_nil,or_false] at hq;rcases hq with rfl|rfl|rfl
   ·rw[z5];exact Aw.sc _
   ·rw[z6];exact Aw.sc _
   ·exact⟨[.int .i64 p.1,.int .i64 p.2],z21,Aw.sc _,Aw.sc _,trivial⟩
  ·intro q hq;simp only[List.mem_cons,List.not_mem_nil,or_false] at hq;rcases hq with rfl|rfl|rfl<;>rfl
 refine BK (ro:=some (D+1)) (Is _ _) DB B3 (by kernel_rfl) (fun _ _ h=>h) i0 (t:=0) (L:=1120) (s1:=⟨lk [(5,.sc v5),(6,.sc v6),(10,.ptr 10 0)],Br [(10,.st [.sc (.int .i64 p.1),.sc (.int .i64 p.2)])]⟩) (A0d cl v5 v6 p.1 p.2) ?_
 intro a2 w2 β2 h2;have Ku:=hI1.size;have Gk:=h2.stayA Axi;have keep:∀b,b<A.heap.size->w2.heap[b]?=A.heap[b]?:=Gk.same;obtain⟨b10,o10,e10,t10,l10,k10,_⟩:=h2.var (i:=10) (id:=10) (by decide) rfl rfl
 obtain⟨v0,q0,r0⟩:=k10 0 _ rfl;obtain⟨v1,q1,r1⟩:=k10 1 _ rfl;have r0:=Aw.val r0;have r1:=Aw.val r1;subst r0 r1;have g10:A.heap.size<=b10:=(h2.ownd b10 ⟨10,o10,by trivial,e10⟩).elim (fun h=>h.elim) (fun h=>h)
 refine hK (fun b=>Z b∨(A.heap.size<=b∧b<w2.heap.size)) a2 w2 ⟨h2.fr.os,h2.fr.tape,h2.fr.output,h2.fr.step.size,fun b hb _=>keep b hb,fun b hb=>.inl hb,fun b hb=>hb.imp (fun h=>h) (·.1),fun b hb=>hb.elim (fun h=>Nat.lt_of_lt_of_le (hI1.zlt b h) h2.fr.step.size) (·.2),h2.fr.step.bs⟩ (keep D (by omega)) (keep (D+1) (by omega)) ⟨?_,hI2,RA,p,hp,⟨h2.dfr,h2.tsz,K8 (h2.tms 5 (by decide)),K8 (h2.tms 6 (by decide)),b10,o10,t10,by omega,l10,q0,q1⟩⟩
 have k6:=keep b6 (by omega)
 exact⟨h2.fr.os.trans hI1.os,h2.fr.tape.trans hI1.tape,h2.fr.output.trans hI1.output,Nat.le_trans Ku h2.fr.step.size,fun b hb=>hb.elim (fun h=>Nat.lt_of_lt_of_le (hI1.zlt b h) h2.fr.step.size) (·.2),.inl hI1.z6,fun b hb=>hb.elim (hI1.zn b) (fun h=>.inr (by omega)),fun b hb hn=>(keep b (by omega)).trans (hI1.keep b hb hn),
  Nat.le_trans hI1.bs (h2.fr.step.bs b6 (by omega)),(World.cell?_of_block k6).trans hI1.c6,by rw[frozen?_of_block k6];exact hI1.f6⟩
theorem Ai2 {B:World}{Y:Nat->Prop}{a:Act}{l:List (Nat × PV)} {b6 o6:Nat}{v:Int}(hd:a.defers=[]) (Ku:a.tmps.size=28)(Cd:∀q∈l,q.1<28)(c6:B.cell? ⟨b6,o6,none⟩=some (.int .i64 v)) (f6:B.frozen? ⟨b6,o6,none⟩=false)(l6:b6<B.heap.size)(y6:¬Y b6)(hY:∀b,Y b->b<B.heap.size)
  (hv:∀(β:Bt),β 56000=some (b6,o6)->(∀b,Db (Br [(56000,.st [.sc (.int .i64 v)])]) β Y b->b=b6∨Y b)->∀q∈l,Ed B (Db (Br [(56000,.st [.sc (.int .i64 v)])]) β Y) β q.2 (a.tmps.getD q.1 undef)) (hr:∀q∈l,∀id∈B7 q.2,id=56000):
  ∃X0 β,(∀b,X0.X b->b=b6)∧X0.pt 0=some (b6,o6)∧X0.pn 0∧(∀i,X0.pn i->i=0)∧B4 28 B X0 Y β ⟨lk l,Br [(56000,.st [.sc (.int .i64 v)])]⟩ a B:=by
 obtain⟨β,hβ⟩:∃β:Bt,β=fun id=>if id=56000 then some (b6,o6) else none:=⟨_,rfl⟩
 have e1:β 56000=some (b6,o6):=by rw[hβ];rfl
 have Vc:∀id bx,Br [(56000,Bx.st [.sc (.int .i64 v)])] id=some bx->id=56000∧bx=.st [.sc (.int .i64 v)]:=by
  intro id bx e;rcases Rb [(56000,Bx.st [.sc (.int .i64 v)])] id with h1|⟨p,hp,h1,h2⟩
  ·rw[h1] at e;cases e
  ·rw[h2] at e;cases e;simp only[List.mem_cons,List.not_mem_nil,or_false] at hp;subst hp;exact⟨h1.symm,rfl⟩
 have hX:∀b,BZ (Br [(56000,Bx.st [.sc (.int .i64 v)])]) β b->b=b6:=by
  rintro b' ⟨id,o',hl,hb⟩
  cases hh:Br [(56000,Bx.st [.sc (.int .i64 v)])] id with
  |none=>rw[hh] at hl;exact hl.elim
  |some bx=>
   obtain⟨rfl,_⟩:=Vc id bx hh;rw[e1] at hb;cases hb;rfl
 have hA:∀b,Db (Br [(56000,Bx.st [.sc (.int .i64 v)])]) β Y b->b=b6∨Y b:=fun b hb=>hb.imp (hX b) (fun x=>x)
 refine⟨_,β,hX,e1,rfl,fun i hi=>hi,B4.make l [(56000,.st [.sc (.int .i64 v)])] a (fun i=>i=0) (fun i hi=>by omega) hd Ku Cd (hv β e1 hA) ?_ ?_ ?_ ?_ ?_ ?_ ?_ ?_ hY⟩
 ·intro id bx e;obtain⟨rfl,rfl⟩:=Vc id bx e;refine⟨b6,o6,e1,fun j c hj=>?_,fun j hj=>?_⟩
  ·match j,hj with
   |0,hj=>cases hj;exact⟨_,c6,Aw.sc _⟩
  ·match j,hj with
   |0,_=>exact f6
 ·intro id id' b1 o1 o2 g1 g2 g3 g4
  have Bo:∀i,Cs (Br [(56000,Bx.st [.sc (.int .i64 v)])] i)->i=56000:=by
   intro i hi;cases hh:Br [(56000,Bx.st [.sc (.int .i64 v)])] i with
   |none=>rw[hh] at hi;exact hi.elim
   |some bx=>exact (Vc i bx hh).1
  rw[Bo id g1,Bo id' g2]
 ·intro id b1 o1 g1 g2;cases hh:Br [(56000,Bx.st [.sc (.int .i64 v)])] id with
  |none=>exact absurd hh g1
  |some bx=>
   obtain⟨rfl,_⟩:=Vc id bx hh;rw[e1] at g2;cases g2;exact l6
 ·intro p hp id Bo;rw[hr p hp id Bo];simp[Br]
 ·intro id cells e c hc i hi;obtain⟨rfl,e'⟩:=Vc id _ e;cases e';simp only[List.mem_cons,List.not_mem_nil,or_false] at hc;subst hc;simp[Av] at hi
 ·intro i hi;subst hi;simp[Br,Dh]
 ·intro id c e;obtain⟨rfl,_⟩:=Vc id _ e;exact⟨0,rfl,rfl⟩
 ·intro b hy hx;rw[hX b hx] at hy;exact y6 hy
theorem Ahg {wS:World}{D b6 o6:Nat}{v v':Int}{Z:Nat->Prop}{A w':World}{X0:Fp}{β':Bt}{a':Act}(l6:b6<D)(hI:LY wS D b6 o6 v Z A)(hx1:X0.pt 0=some (b6,o6)) (hx2:X0.pn 0)(hX:∀b,X0.X b->b=b6)(hs:B4 28 A X0 (fun _=>False) β' ⟨lk [(6,.ptr 56000 0)],Br [(56000,.st [.sc (.int .i64 v')])]⟩ a' w'):
  Qm Z (fun b=>Z b∨(A.heap.size<=b∧b<w'.heap.size)) A w'∧w'.heap[D]?=A.heap[D]?∧w'.heap[D+1]?=A.heap[D+1]?∧LY wS D b6 o6 v' (fun b=>Z b∨(A.heap.size<=b∧b<w'.heap.size)) w':=by
 have Ku:=hI.size;have Gk:=hs.fr.step;have same:∀b,b<A.heap.size->b≠b6->w'.heap[b]?=A.heap[b]?:=fun b hb hn=>Gk.keep b hb fun hx=>hn (hX b hx)
 have hp:β' 56000=some (b6,o6):=(hs.pin 0 hx2).2.trans hx1;obtain⟨b,o,g1,g2,g3⟩:=(show ∃b o,β' 56000=some (b,o)∧_∧_ from hs.box 56000 _ (rfl:_=some (Bx.st [.sc (.int .i64 v')])))
 rw[hp] at g1;cases g1;obtain⟨v0,q0,r0⟩:=g2 0 _ rfl;have r0:=Aw.val r0;subst r0
 refine⟨⟨hs.fr.os,hs.fr.tape,hs.fr.output,Gk.size,fun b hb hn=>same b hb fun e=>hn (e ▸ hI.z6),fun b hb=>.inl hb,fun b hb=>hb.imp (fun x=>x) (·.1),fun b hb=>hb.elim (fun h1=>Nat.lt_of_lt_of_le (hI.zlt b h1) Gk.size) (·.2),Gk.bs⟩,
  same D (by omega) (by omega),same (D+1) (by omega) (by omega),?_⟩
 exact⟨hs.fr.os.trans hI.os,hs.fr.tape.trans hI.tape,hs.fr.output.trans hI.output,by have:=Gk.size;omega,fun b hb=>hb.elim (fun h1=>Nat.lt_of_lt_of_le (hI.zlt b h1) Gk.size) (·.2),.inl hI.z6,fun b hb=>hb.elim (hI.zn b) (fun h=>.inr (by omega)),fun b hb hn=>(same b (by omega) hn).trans (hI.keep b hb hn),Nat.le_trans hI.bs (Gk.bs b6 (by omega)),q0,g3 0 (Nat.zero_lt_succ _)⟩
theorem Ao4 {wS:World}{D b5 o5 b6 o6:Nat}{l:List (Int × Int)} {now:Int}{Z:Nat->Prop}{pre:List Nat}{x:Nat}{a:Act}{A:World}(l5:b5<D)(l6:b6<D)(n5:b5≠b6)(h5:wS.cell? ⟨b5,o5,none⟩=some (.int .i64 now))
  (hn:Ayv wS D b6 o6 (.pointer (some ⟨b5,o5,none⟩)) (.pointer (some ⟨b6,o6,none⟩)) l now Z pre x a A):
  YY.wpIn (WF (some (D+1))) 0 prog (IQ D (stI wS D b6 o6 l now) (Azo wS D b6 o6 l now) Z (pre++[x]) A) a A:=by
 obtain⟨hI,A3b,Aa5,p,hp,hN⟩:=hn;obtain⟨b10,o10,t10,g10,l10,c0,c1⟩:=hN.t10;have Ku:=hI.size
 obtain⟨X0,β,hX,hx1,hx2,_,hs⟩:=Ai2 (B:=A) (Y:=fun _=>False) (a:=a) (l:=[(5,.iptr [.sc (.int .i64 now)] 0),(6,.ptr 56000 0),(10,.iptr [.sc (.int .i64 p.1),.sc (.int .i64 p.2)] 0)]) (b6:=b6) (o6:=o6) (v:=0) hN.dfr hN.size (by
   intro q hq;simp only[List.mem_cons,List.not_mem_nil,or_false] at hq;rcases hq with rfl|rfl|rfl<;>simp) hI.c6 hI.f6 (by omega) (fun h=>h) (fun _ h=>h.elim) (by
   intro β e1 hA q hq;simp only[List.mem_cons,List.not_mem_nil,or_false] at hq;rcases hq with rfl|rfl|rfl
   ·refine⟨⟨b5,o5,none⟩,hN.t5,rfl,by show b5<_;omega,fun hb=>?_,fun j c hj=>?_⟩
    ·rcases hA _ hb with h1|h1
     ·exact n5 h1
     ·exact h1
    ·match j,hj with
     |0,hj=>cases hj;exact⟨_,(World.cell?_of_block (a:=⟨b5,o5,none⟩) (hI.keep b5 l5 n5)).trans h5,rfl,Aw.sc _⟩
   ·exact⟨b6,o6,e1,hN.t6⟩
   ·refine⟨⟨b10,o10,none⟩,t10,rfl,l10,fun hb=>?_,fun j c hj=>?_⟩
    ·rcases hA _ hb with h1|h1
     ·have h1:b10=b6:=h1;omega
     ·exact h1
    ·match j,hj with
     |0,hj=>cases hj;exact⟨_,c0,rfl,Aw.sc _⟩
     |1,hj=>cases hj;exact⟨_,c1,rfl,Aw.sc _⟩) (by
   intro q hq id Bo;simp only[List.mem_cons,List.not_mem_nil,or_false] at hq;rcases hq with rfl|rfl|rfl<;>simp[B7,Cj,Av] at Bo
   exact Bo)
 have CL:∀a w,¬IQ D (stI wS D b6 o6 l now) (Azo wS D b6 o6 l now) Z (pre++[x]) A .outgrown a w:=fun a w ⟨_,_,_,_,hf⟩=>hf
 by_cases Xa:p.2<=now
 ·refine JL (Is _ _) DB B3 (by kernel_rfl) CL hs (t:=1) (L:=64) (s1:=⟨lk [(6,.ptr 56000 0)],Br [(56000,.st [.sc (.int .i64 p.1)])]⟩) ((Aol cl now p.1 p.2).trans (BP _ _ _ Xa)) ?_
  rintro a' w' β' e' h' (⟨h1,_⟩|⟨_,rfl⟩|⟨id,h1,_⟩)
  ·cases h1
  ·obtain⟨k1,k2,k3,k4⟩:=Ahg l6 hI hx1 hx2 hX h';exact⟨_,k1,k2,k3,rfl,pre,x,p,A3b,Aa5,hp,Xa,k4⟩
  ·omega
 ·refine JL (Is _ _) DB B3 (by kernel_rfl) CL hs (t:=0) (L:=64) (s1:=⟨lk [(6,.ptr 56000 0)],Br [(56000,.st [.sc (.int .i64 0)])]⟩) ((Aol cl now p.1 p.2).trans (Fi _ _ _ Xa)) ?_
  rintro a' w' β' e' h' (⟨_,rfl⟩|⟨h1,_⟩|⟨id,h1,_⟩)
  ·obtain⟨k1,k2,k3,k4⟩:=Ahg l6 hI hx1 hx2 hX h';refine⟨_,k1,k2,k3,k4,fun j hj q hq=>?_⟩
   rcases List.mem_append.1 hj with h1|h1
   ·exact A3b j h1 q hq
   ·rw[List.mem_singleton.1 h1,hp] at hq;cases hq;omega
  ·cases h1
  ·omega
end
section
open Go.Proofs.Tryd (prog)
open Go.IntKind (wrap)
set_option maxRecDepth 20000
def En.cells (e:En):List PV:=[.sc (.int .u64 e.k),.lst false 3 e.na e.an,.lst false 2 e.ns e.st]
theorem En.cells_len (e:En):e.cells.length=3:=rfl
def Ml (l:List En):List PV:=l.flatMap En.cells
def En.fit (e:En):Prop:=e.an.length=e.na*3∧e.st.length=e.ns*2∧e.na<=1000∧e.ns<=1000
theorem Ape {l:List En}{i:Nat}{e:En}(h:l[i]?=some e):(Ml l).getD (i*3) .top=.sc (.int .u64 e.k)∧(Ml l).getD (i*3+1) .top=.lst false 3 e.na e.an∧(Ml l).getD (i*3+2) .top=.lst false 2 e.ns e.st:=
 ⟨Ie En.cells_len h (j:=0) (by omega),Ie En.cells_len h (j:=1) (by omega),Ie En.cells_len h (j:=2) (by omega)⟩
theorem Adp {c:List PV}{es:List En}(h:Ve c=some es):c=Ml es∧∀e∈es,e.fit:=by
 fun_induction Ve c generalizing es with
 |case1=>cases h;exact⟨rfl,fun e he=>by cases he⟩
 |case2 k na an ns st r hb ih=>
  simp only[Bool.and_eq_true] at hb;obtain⟨⟨⟨b1,b2⟩,b3⟩,b4⟩:=hb;cases hr:Ve r with
  |none=>rw[hr] at h;cases h
  |some es'=>
   rw[hr] at h;cases h;obtain⟨h1,h2⟩:=ih hr;refine⟨by rw[h1];rfl,fun e he=>?_⟩
   rcases List.mem_cons.1 he with rfl|he
   ·exact⟨Nat.eq_of_beq_eq_true b1,Nat.eq_of_beq_eq_true b2,Nat.le_of_ble_eq_true b3,Nat.le_of_ble_eq_true b4⟩
   ·exact h2 e he
 |case3=>cases h
 |case4=>cases h
theorem XQ {st:List PV}{l:List (Int × Int)} (h:P1 st=some l):st=Jt l:=by
 fun_induction P1 st generalizing l with
 |case1=>cases h;rfl
 |case2 k t r ih=>
  cases hr:P1 r with
  |none=>rw[hr] at h;cases h
  |some l'=>
   rw[hr] at h;cases h;rw[ih hr];rfl
 |case3=>cases h
section
variable {xs:FuncId->Option (List PV->Option A5)} {fu d:Nat}
theorem Azx {n:Nat}{c:List PV}(h:c.length=n*3)(hn:n<=1000):Ad (CX xs) prog fu (d+1) I5 [.lst false 3 n c]=some ⟨[.lst false 3 n c],[]⟩:=by
 refine (M8 fu d n c).trans ?_;have t:List.take (n*3) c=c:=My (by omega)
 by_cases h0:0<n
 ·simp (disch:=omega) only[Cu,Zzq,C8,Fg,h,t]
 ·obtain rfl:n=0:=by omega
  have:c=[]:=List.length_eq_zero_iff.1 (by omega)
  subst this;simp (disch:=omega) only[Cu,Zzq,C8,Fg,W5,Nat.zero_mul,List.take_nil]
theorem A0q {n:Nat}{c:List PV}(h:c.length=n*2)(hn:n<=1000):Ad (CX xs) prog fu (d+1) I6 [.lst false 2 n c]=some ⟨[.lst false 2 n c],[]⟩:=by
 refine (M9 fu d n c).trans ?_;have t:List.take (n*2) c=c:=My (by omega)
 by_cases h0:0<n
 ·simp (disch:=omega) only[Cu,Zzq,C8,Fg,h,t]
 ·obtain rfl:n=0:=by omega
  have:c=[]:=List.length_eq_zero_iff.1 (by omega)
  subst this;simp (disch:=omega) only[Cu,Zzq,C8,Fg,W5,Nat.zero_mul,List.take_nil]
theorem Ayp {e:En}(h:e.fit):Ad (CX xs) prog fu (d+2) Jm [.agg e.cells]=some ⟨[.agg e.cells],[]⟩:=by
 refine (O3 fu (d+1) e.k e.na e.an e.ns e.st).trans ?_;have a:=Azx (xs:=xs) (fu:=fu) (d:=d) h.1 h.2.2.1;have s:=A0q (xs:=xs) (fu:=fu) (d:=d) h.2.1 h.2.2.2;simp only[Cu,a,s];rfl
def en0:En:=⟨0,0,[],0,[]⟩
def Tz (model:Int)(es:List En):En:=(es.find? fun e=>e.k==model).getD en0
theorem Apc (model:Int)(es:List En):(Tz model es).st=Afh model es:=by
 unfold Tz Afh;cases es.find? fun e=>e.k==model<;>rfl
theorem Aj6 {model:Int}{es:List En}(h:∀e∈es,e.fit):(Tz model es).fit:=by
 unfold Tz;cases hf:es.find? fun e=>e.k==model with
 |none=>exact⟨rfl,rfl,by decide,by decide⟩
 |some e=>exact h e (List.mem_of_find?_eq_some hf)
theorem Arp {Aj Ao Bc Fa a1:Int}{Cp C3 C2:Nat}{Cv Fd Fc:List PV}{es:List En}(hn:es.length<=1000)(hf:∀e∈es,e.fit){model:Int}:∀(r:List En)(i nn:Nat),es.drop i=r->r.length<nn ->
  ∃b,Il fu (Ad (CX xs) prog fu (d+2)) Aj Ao Bc Cp Cv Fa C3 Fd C2 Fc a1 nn model es.length (Ml es) (es.length:Int) (i:Int) 0 0 0 [] []=some ⟨[.agg (Tz model r).cells,.sc (.bool b)],[]⟩
 |_,_,0,_,h=>by omega
 |[],i,nn+1,hr,U7=>by
  have hi:=drop_nil hr;refine⟨false,?_⟩;rw[Ok];simp (disch:=omega) only[Cu];rfl
 |e::r,i,nn+1,hr,U7=>by
  obtain⟨Cd,h1,h2⟩:=Dx hr;obtain⟨g0,g1,g2⟩:=Ape h1;have g2':(Ml es).getD (i*3+1+1) .top=.lst false 2 e.ns e.st:=g2;rw[Ok];by_cases hk:e.k=model
  ·refine⟨true,?_⟩;have q:(e.k==model)=true:=by simp[hk]
   have cp:=Ayp (xs:=xs) (fu:=fu) (d:=d) (hf e (List.mem_of_getElem? h1));have fe:Tz model (e::r)=e:=by unfold Tz;rw[List.find?_cons_of_pos (by simpa using hk)];rfl
   rw[fe];simp only[En.cells] at cp;simp (disch:=omega) only[Cu,Hs,g0,g1,g2',q,cp];rfl
  ·have q:(e.k==model)=false:=by simp[hk]
   have w:wrap .i64 ((i:Int)+1)=((i+1:Nat):Int):=by rw[Ak (by omega) (by omega)];omega
   obtain⟨b,ih⟩:=Arp (Aj:=Aj) (Ao:=Ao) (Bc:=Bc) (Fa:=Fa) (a1:=a1) (Cp:=Cp) (C3:=C3) (C2:=C2) (Cv:=Cv) (Fd:=Fd) (Fc:=Fc) hn hf (model:=model) r (i+1) nn h2 (by simp only[Io] at U7;omega)
   have fe:Tz model (e::r)=Tz model r:=by unfold Tz;rw[List.find?_cons_of_neg (by simpa using hk)]
   refine⟨b,?_⟩;rw[fe,←ih];simp (disch:=omega) only[Cu,Hs,g0,g1,g2',q,w]
theorem Azc {es:List En}(hn:es.length<=1000)(Cb:1000<fu)(hf:∀e∈es,e.fit)(v i x lf model:Int)(n1 n2:Nat)(c1 c2:List PV):
  ∃b,Ad (CX xs) prog fu (d+3) Lu [.agg [.sc (.int .i64 v),.sc (.int .i64 i),.sc (.int .i64 x),.lst false 3 es.length (Ml es),.sc (.int .i64 lf),.lst false 1 n1 c1,.lst false 1 n2 c2],.sc (.int .u64 model)]=some ⟨[.agg (Tz model es).cells,.sc (.bool b)],[]⟩:=by
 obtain⟨b,h⟩:=Arp (xs:=xs) (fu:=fu) (d:=d) (Aj:=v) (Ao:=i) (Bc:=x) (Fa:=lf) (a1:=model) (Cp:=es.length) (C3:=n1) (C2:=n2) (Cv:=Ml es) (Fd:=c1) (Fc:=c2) hn hf (model:=model) es 0 fu rfl (by omega)
 exact⟨b,(GF fu (d+2) v i x es.length (Ml es) lf n1 c1 n2 c2 model).trans h⟩
end
end
section
open Go.Proofs.Tryd (prog)
open Go.IntKind (wrap)
set_option maxRecDepth 20000
open Go Go.RowKit
theorem Ac0 {now:Int}{l:List (Int × Int)} (h:∀p∈l,now<p.2):G7 now l=0:=by
 unfold G7
 have:l.reverse.find? (fun p=>decide (p.2<=now))=none:=by
  rw[List.find?_eq_none];intro p hp;have:=h p (List.mem_reverse.1 hp);simp only[decide_eq_true_eq];omega
 rw[this]
theorem Akp {now:Int}{l:List (Int × Int)} {x:Nat}{p:Int × Int}(h:l[x]?=some p) (Xa:p.2<=now)(hn:∀j,x<j->∀q,l[j]?=some q->now<q.2):G7 now l=p.1:=by
 unfold G7;have Cd:=(List.getElem?_eq_some_iff.1 h).1
 have e:l=l.take x++p::l.drop (x+1):=by
  have:l[x]=p:=(List.getElem?_eq_some_iff.1 h).2;rw[←this,List.getElem_cons_drop,List.take_append_drop]
 have h1:(l.drop (x+1)).reverse.find? (fun p=>decide (p.2<=now))=none:=by
  rw[List.find?_eq_none];intro q hq;obtain⟨j,hj⟩:=List.mem_iff_getElem?.1 (List.mem_reverse.1 hq);rw[List.getElem?_drop] at hj;have:=hn (x+1+j) (by omega) q hj
  simp only[decide_eq_true_eq];omega
 have h2:l.reverse.find? (fun p=>decide (p.2<=now))=some p:=by
  rw[e,List.reverse_append,List.reverse_cons,List.find?_append,List.find?_append,h1];simp[Xa]
 rw[h2]
theorem Atc {w4 w5:World}{Y:Nat->Prop}{now:Int}{l:List (Int × Int)} {a4 a5:Act}{b5 o5 b6 o6:Nat}{sv:Value}(hl:l.length<=100000)
  (t5:a4.tmps.getD 5 undef=.pointer (some ⟨b5,o5,none⟩)) (t6:a4.tmps.getD 6 undef=.pointer (some ⟨b6,o6,none⟩)) (l5:b5<w4.heap.size)(l6:b6<w4.heap.size)(n5:b5≠b6)(c5:w4.cell? ⟨b5,o5,none⟩=some (.int .i64 now)) (c6:w4.cell? ⟨b6,o6,none⟩=some (.int .i64 0)) (f6:w4.frozen? ⟨b6,o6,none⟩=false)
  (hsv:Aw w4 (fun b=>b=b6) (.lst false 2 l.length (Jt l)) sv) (JA:sv.oneCell'=true)(Ku:a4.tmps.size=28)(hw5:w5=w4.alloc (.cells #[sv] 27))
  (PR:a5=a4.put (some 19) (.func (.func 40) #[] #[.pointer (some ⟨w4.heap.size,0,none⟩)])) {K:Act->World->Prop}{Q:Exit->Act->World->Prop}
  (hK0:∀Z B,LY w5 (w4.heap.size+1) b6 o6 (G7 now l) Z B->G7 now l=0->B.heap[w4.heap.size+1]?=some (.deferred (some []))->K { a5 with defers:={ target:=.collected (w4.heap.size+1),args:= #[] }::a5.defers } B)
  (hK1:∀Z B,LY w5 (w4.heap.size+1) b6 o6 (G7 now l) Z B->B.heap[w4.heap.size+1]?=some (.deferred (some []))->Q .ret { a5 with defers:={ target:=.collected (w4.heap.size+1),args:= #[] }::a5.defers } B):
  (Code.block 0 (.rangeFunc (.tmp 19) #[20,21] Aie YY)).wpIn Fence.wide 0 prog (Exit.then K Q) a5 w5:=by
 have V1:w5.heap.size=w4.heap.size+1:=by rw[hw5,World.size_alloc]
 have hold:∀b,b<w4.heap.size->w5.heap[b]?=w4.heap[b]?:=fun b hb=>by rw[hw5];exact Below.heap_alloc _ _ _ hb
 have hB0:w5.heap[w4.heap.size]?=some (.cells #[sv] 27):=by rw[hw5];exact World.alloc_heap_new w4 _
 have A0r:a5.tmps.size=28:=by rw[PR,Hc];exact Ku
 have g5:a5.tmps.getD 5 undef=.pointer (some ⟨b5,o5,none⟩):=by rw[PR,Fj (by decide)];exact t5
 have g6:a5.tmps.getD 6 undef=.pointer (some ⟨b6,o6,none⟩):=by rw[PR,Fj (by decide)];exact t6
 have g19:a5.eval (.tmp 19)=.func (.func 40) #[] #[.pointer (some ⟨w4.heap.size,0,none⟩)]:=by
  show a5.tmps.getD 19 undef=_;rw[PR,CH (by omega)]
 have SJ:=Auu (S0:=w4.heap.size) (l:=l) hl
 refine wpIn_block (Afw (Z0:=fun b=>b=b6) g19 (enters_of Tryd.func40 (by kernel_rfl) rfl) SJ (fun b hb=>by omega) (fun W hW hk=>?_) (fun pre x args Z A hm=>Amw hm)
  (stI w5 (w4.heap.size+1) b6 o6 l now) (Azo w5 (w4.heap.size+1) b6 o6 l now) ?_ ?_ ?_ (Ayv w5 (w4.heap.size+1) b6 o6 (.pointer (some ⟨b5,o5,none⟩)) (.pointer (some ⟨b6,o6,none⟩)) l now) ?_ ?_ ?_ ?_ ?_)
 ·have hkk:∀b,b<w4.heap.size->W.heap[b]?=w4.heap[b]?:=fun b hb=>(hk b (by omega)).trans (hold b hb)
  have k0:=hk w4.heap.size (by omega)
  refine⟨fun j c hj=>?_,by omega,by rintro (h|h|h)<;>omega⟩
  match j,hj with
  |0,hj=>
   cases hj;refine⟨sv,(World.cell?_of_block (a:=⟨w4.heap.size,0,none⟩) k0).trans ?_,JA,?_⟩
   ·unfold World.cell?;rw[hB0];rfl
   ·refine hsv.step (w':=W) ⟨by omega,fun b hb _=>hkk b hb,fun b hb=>?_⟩ fun b hb h=>?_
    ·unfold bsz;rw[hkk b hb];exact Nat.le_refl _
    ·rcases h with h|h|h
     ·exact h
     ·omega
     ·omega
 ·intro Z pre A B hI hs;rw[V1] at hs;exact⟨hI.1.stay (by omega) hs,hI.2⟩
 ·rintro c' Z pre A B ⟨h1,pre',x,p,q1,q2,q3,q4,hI⟩ hs
  rw[V1] at hs;exact⟨h1,pre',x,p,q1,q2,q3,q4,hI.stay (by omega) hs⟩
 ·intro W hW Gk;have e:∀b,b<w4.heap.size+1->W.heap[b]?=w5.heap[b]?:=fun b hb=>Gk.same b (by omega)
  have e6:=(e b6 (by omega)).trans (hold b6 l6)
  refine⟨⟨Gk.os,Gk.tape,Gk.output,by omega,fun b hb=>by rcases hb with hb|hb|hb<;>omega,.inl rfl,fun b hb=>by rcases hb with hb|hb|hb<;>omega,fun b hb _=>e b hb,by unfold bsz;rw[e b6 (by omega)];exact Nat.le_refl _,(World.cell?_of_block e6).trans c6,by rw[frozen?_of_block e6];exact f6⟩,fun j hj=>by cases hj⟩
 ·intro Z pre x a' A B hn hs;rw[V1] at hs;obtain⟨h1,h2,h3,p,h4,h5⟩:=hn;exact⟨h1.stay (by omega) hs,h2,h3,p,h4,h5.stay hs⟩
 ·intro Z pre x args A K' hZ1 hZ2 hI hm hk;rw[V1] at hk ⊢;exact Alp (by omega) hI hm A0r g5 g6 hk
 ·intro Z pre x a' A hZ1 hZ2 hn;rw[V1];exact Ao4 (by omega) (by omega) n5 ((World.cell?_of_block (hold b5 l5)).trans c5) hn
 ·intro Z xs B hS hI hdf
  have h0:G7 now l=0:=Ac0 fun p hp=>by
   obtain⟨j,hj⟩:=List.mem_iff_getElem?.1 hp;exact hI.2 j (hS j (List.getElem?_eq_some_iff.1 hj).1) p hj
  rw[V1] at hdf ⊢;exact hK0 Z B (by rw[h0];exact hI.1) h0 hdf
 ·rintro c' Z xs B _ ⟨rfl,pre,x,p,q1,q2,q3,q4,hI⟩ hdf
  have hp:G7 now l=p.1:=Akp q3 q4 fun j hj q hq=>q1 j (q2 j hj (List.getElem?_eq_some_iff.1 hq).1) q hq
  rw[V1] at hdf ⊢;refine wpIn_ret ?_;exact hK1 Z B (by rw[hp];exact hI) hdf
theorem Ayx:stC=.seq (sL stC) (.seq (sL (sR stC)) (.seq (.seq (.region 2 (Gw (sL (sL (sR (sR stC))))) false) (.block 0 (.rangeFunc (.tmp 19) #[20,21] Aie YY))) (.seq (.region 6 (Gw (sL (sR (sR (sR stC))))) false) .ret))):=by kernel_rfl
theorem A3x:∃ty pos aft x,(Gw (sL (sL (sR (sR stC)))))[2]?=some { dst:=some 19,op:=.call { callee:=.value (.func 19),args:= #[.tmp 18],argTypes:=x },type:=ty,pos:=pos,after:=aft,guard:=none }:=
 ⟨_,_,_,_,rfl⟩
abbrev RN (v i x lf model now:Int)(n n1 n2:Nat)(c c1 c2:List PV):List PV:=[.agg [.sc (.int .i64 v),.sc (.int .i64 i),.sc (.int .i64 x),.lst false 3 n c,.sc (.int .i64 lf),.lst false 1 n1 c1,.lst false 1 n2 c2],.sc (.int .u64 model),.sc (.int .i64 now)]
abbrev A50 (now:Int)(e:En):St:=⟨lk [(5,.ptr 5 0),(6,.ptr 6 0),(7,.ptr 7 0)],Br [(5,.st [.sc (.int .i64 now)]),(6,.st [.sc (.int .i64 0)]),(7,.st [.sc (.int .u64 e.k),.lst false 3 e.na e.an,.lst false 2 e.ns e.st])]⟩
abbrev A10 (now:Int)(n:Nat)(c:List PV):St:=⟨lk [(5,.ptr 5 0),(6,.ptr 6 0),(18,.lst false 2 n c)],Br [(5,.st [.sc (.int .i64 now)]),(6,.st [.sc (.int .i64 0)])]⟩
abbrev Aoz (k:Int):St:=⟨lk [(6,.ptr 56000 0)],Br [(56000,.st [.sc (.int .i64 k)])]⟩
theorem Adu {G:Us}{P:Program}{f:FuncId}{args:List PV}{vals:List PV}(hf:∃fn,P.funcs[f]?=some fn∧fn.body.isSome=true) (Es:∀(i:Nat)(p:PV),args[i]?=some p->GH p=false)
  (htr:∀(w:World)(A:Nat->Prop)(bt:JI)(us:List Value),Oq w A bt 0 args us->Bw (Ue w A) args us)
  (ho0:∀(w:World)(A:Nat->Prop)(bt:JI)(own:Bt),AK w A own bt (Rv vals) 0 args [])
  (h:∀(w:World)(Y:Nat->Prop)(us:List Value),Ins w Y Xj args us->Calls P f us.toArray w fun e w'=>∃vs own,e=.returned (K5 vs)∧Out w w' Y Xj args own ⟨vals,[]⟩ vs):C7 G P f args ⟨vals,[]⟩:=by
 refine⟨hf,fun w Y bt us Y7 _ _=>?_⟩
 have hl:∀i q,bt i 0≠some q:=by
  intro i q e;obtain⟨p,h1,h2⟩:=Y7.l0 i q e;rw[Es i p h1] at h2;cases h2
 have ht:=htr w _ bt us Y7.args;have A8z:Ins w Y Xj args us:=⟨Y7.Ylt,fun b _=>Pk b,fun b x=>(Pk b x).elim,fun _ _ _ _ _ _ _ x=>(by cases x),fun _ _ x=>(by cases x),CV (ht.mono fun p v hp=>WI (fun b _ hb=>hb.elim (fun x=>(Pk b x).elim) .inr) hp)⟩
 refine (h w Y us A8z).mono ?_
 rintro e w' ⟨vs,own,rfl,ho⟩
 have hA:RE bt own Y=RE Xj own Y:=by
  funext b
  apply propext;constructor
  ·rintro (h1|⟨i,o,h1⟩|h1)
   ·exact .inl h1
   ·exact absurd h1 (hl i _)
   ·exact .inr (.inr h1)
  ·rintro (h1|⟨i,o,h1⟩|h1)
   ·exact .inl h1
   ·cases h1
   ·exact .inr (.inr h1)
 refine⟨vs,own,rfl,ho.os,ho.tape,ho.output,ho.ext.weaken (fun b _ hb=>absurd hb (Pk b)),fun b j hb _=>ho.rng b j hb ?_,by rw[hA];exact ho.vals,ho0 _ _ _ _,fun j b o hj=>⟨(ho.fresh j b o hj).1,fun Cd=>?_⟩,ho.inj⟩
 ·rintro⟨i,p,_,⟨k,o,h1,_⟩|⟨o,ps,h1,_⟩⟩
  ·cases h1
  ·cases h1
 ·obtain⟨⟨i,k,o',h1⟩,_⟩:=(ho.fresh j b o hj).2 Cd;cases h1
theorem Aw.slice_form {w:World}{A:Nat->Prop}{z:Bool}{es n:Nat}{c:List PV}{v:Value}(h:Aw w A (.lst z es n c) v):∃ad k q,v=.slice ad k q:=by
 generalize hp:PV.lst z es n c=p at h;cases h<;>first|exact⟨_,_,_,rfl⟩|cases hp
theorem Au0 {G:Us}{v i x lf model now:Int}{n1 n2:Nat}{c1 c2:List PV}{es:List En}{l:List (Int × Int)} (hn:es.length<=1000)(hf:∀e∈es,e.fit)(Gk:Afh model es=Jt l):C7 G prog 8 (RN v i x lf model now es.length n1 n2 (Ml es) c1 c2) ⟨[.sc (.int .i64 (G7 now l))],[]⟩:=by
 refine Adu ⟨_,Tryd.func8,rfl⟩ ?_ ?_ (fun _ _ _ _=>rfl) ?_
 ·intro i p h
  match i,h with
  |0,h=>cases h;rfl
  |1,h=>cases h;rfl
  |2,h=>cases h;rfl
 ·intro w A bt us hp
  match us,hp with
  |[u0,u1,u2],⟨⟨vs,e,_,h0⟩,h1,h2,_⟩=>
   refine⟨⟨vs,e,?_⟩,⟨trivial,h1.2⟩,⟨trivial,h2.2⟩,trivial⟩
   match vs,h0 with
   |[v0,v1,v2,v3,v4,v5,v6],⟨k0,k1,k2,k3,k4,k5,k6,_⟩=>exact⟨⟨trivial,k0⟩,⟨trivial,k1⟩,⟨trivial,k2⟩,⟨trivial,k3⟩,⟨trivial,k4⟩,⟨trivial,k5⟩,⟨trivial,k6⟩,trivial⟩
 intro w Y us Y7;have hY:=Y7.Ylt;have hk0:Afr prog 28 0 Tryd.f8.params.toList (RN v i x lf model now es.length n1 n2 (Ml es) c1 c2) (fun tms bs=>some (tms,bs))=some ([(0,.agg [.sc (.int .i64 v),.sc (.int .i64 i),.sc (.int .i64 x),.lst false 3 es.length (Ml es),.sc (.int .i64 lf),.lst false 1 n1 c1,.lst false 1 n2 c2]),(1,.sc (.int .u64 model)),(2,.sc (.int .i64 now))],[]):=by kernel_rfl
 have hus:us.length=3:=by
  match us,Y7.args with
  |[u0,u1,u2],_=>rfl
 obtain⟨tms,bs,D4,Axx⟩:=HD Y7 hk0;cases D4;obtain⟨h8,β0,RX⟩:=Axx rfl (by omega)
 refine callsIn_wide.1 (callsIn_of_wp_marks (F:=Fence.wide) (n:=0) Tryd.func8 rfl trivial ?_ rfl);show stC.wpIn _ _ _ _ { tmps:=us.toArray++Array.replicate (28-us.toArray.size) undef,defers:=[] } _;generalize ({ tmps:=us.toArray++Array.replicate (28-us.toArray.size) undef,defers:=[] }:Act)=a0 at RX ⊢;have hXn:∀b,¬(CY Xj (RN v i x lf model now es.length n1 n2 (Ml es) c1 c2) h8).X b:=Pk;obtain⟨bq,el⟩:=Azc (xs:=noX) (fu:=2000) (d:=5) (es:=es) hn (by omega) hf v i x lf model n1 n2 c1 c2
 have el:cl Lu _=_:=el;simp only[En.cells] at el;have Alw:=Aj6 (model:=model) hf;have hfs:(Tz model es).st=Jt l:=(Apc model es).trans Gk;generalize Tz model es=E at el Alw hfs
 have hns:E.ns=l.length:=by
  have h1:=Alw.2.1;rw[hfs,Aln] at h1;omega
 refine Oa Ayx (wpIn_seq (wpIn_wide.2 (Df (Is _ _) DB B3 RX (A0l cl v i x lf model now es.length n1 n2 (Ml es) c1 c2) ?_)));intro a1 w1 β1 JA;refine wpIn_seq (wpIn_wide.2 (Df (Is _ _) DB B3 JA (L:=224) (t:=0) (s1:=A50 now E) ?_ ?_))
 ·refine (Ax8 cl v i x lf model now es.length n1 n2 (Ml es) c1 c2).trans ?_;simp only[Cu,el]
 intro a2 w2 β2 PF;refine wpIn_seq (wpIn_seq (wpIn_region ?_));have hli:List.range (Gw (sL (sL (sR (sR stC))))).size=[0,1]++[2]:=by kernel_rfl
 rw[hli];refine Gh (ro:=none) (C:=CB) (call:=cl) (r:=((0:Nat),A10 now E.ns E.st)) (Is _ _) B3 ?_ [0,1] (List.take 2 (Gw (sL (sL (sR (sR stC))))).toList) (by kernel_rfl) ?_ (by kernel_rfl) PF (Ayo cl E.k now E.na E.ns E.an E.st)
 rotate_left
 ·intro j i hj
  match j,hj with
  |0,hj=>cases hj;rfl
  |1,hj=>cases hj;rfl
 intro s' a4 w4 β4 Tc hs4;obtain⟨β5,s5,VL,V1⟩:=B6 hs4 Tc;cases VL;obtain⟨b5,o5,e5,t5,l5,k5,f5⟩:=V1.var (i:=5) (id:=5) (by decide) rfl rfl
 obtain⟨b6,o6,e6,t6,l6,k6,f6⟩:=V1.var (i:=6) (id:=6) (by decide) rfl rfl
 obtain⟨v5,q5,r5⟩:=k5 0 _ rfl;obtain⟨v6,q6,r6⟩:=k6 0 _ rfl;have r5:=Aw.val r5;have r6:=Aw.val r6;subst r5 r6;have own6:w.heap.size<=b6∧¬Y b6:=⟨(V1.ownd b6 ⟨6,o6,by trivial,e6⟩).elim (fun h=>absurd h (hXn b6)) (fun h=>h),fun hy=>V1.Yx b6 hy ⟨6,o6,by trivial,e6⟩⟩
 have n56:b5≠b6:=fun e=>by
  subst e;have:=V1.inj 5 6 b5 o5 o6 (by trivial) (by trivial) e5 e6
  cases this
 have h18:Aw w4 (Db (A10 now E.ns E.st).hp β5 Y) (.lst false 2 E.ns E.st) (a4.tmps.getD 18 undef):=V1.tms 18 (by decide)
 rw[hfs,hns] at h18
 have A4a:Aw w4 (fun b=>b=b6) (.lst false 2 l.length (Jt l)) (a4.tmps.getD 18 undef):=h18.step ⟨Nat.le_refl _,fun _ _ _=>rfl,fun _ _=>Nat.le_refl _⟩ fun b _ hb=>by
  have hb:b=b6:=hb;subst hb;exact .inl ⟨6,o6,by trivial,e6⟩
 obtain⟨ad,kk,qq,NN⟩:=Aw.slice_form h18;have Gv:l.length<=100000:=by have:=Alw.2.2.2;omega
 obtain⟨ty,pos,aft,xx,ho⟩:=A3x;rw[wpOpsIn_cons];unfold wpOpIn;rw[ho];simp only[Region.wanted,if_true];refine⟨fun _ _=>trivial,?_⟩
 rw[show Oper.semAt (WF none).round a4.eval { dst:=some 19,op:=.call { callee:=.value (.func 19),args:= #[.tmp 18],argTypes:=xx },type:=ty,pos:=pos,after:=aft,guard:=none }=execOp a4.eval { dst:=some 19,op:=.call { callee:=.value (.func 19),args:= #[.tmp 18],argTypes:=xx },type:=ty,pos:=pos,after:=aft,guard:=none } from rfl,
  FY (o:={ dst:=some 19,op:=.call { callee:=.value (.func 19),args:= #[.tmp 18],argTypes:=xx },type:=ty,pos:=pos,after:=aft,guard:=none }) rfl rfl ngT Tryd.func19 rfl]
 have e18:a4.eval (.tmp 18)=.slice ad kk qq:=NN;simp only[List.map_toArray,VO,List.map_nil,e18];refine⟨(fun h=>by cases h),(Avb ad 0 0 _ w4 kk qq).mono ?_⟩
 rintro e w5 ⟨rfl,hw5⟩
 have Bdo:w5.heap.size=w4.heap.size+1:=by rw[hw5,World.size_alloc]
 have o5w:w5.os=w4.os∧w5.tape=w4.tape∧w5.output=w4.output:=by rw[hw5];exact⟨rfl,rfl,rfl⟩
 have hold:∀b,b<w4.heap.size->w5.heap[b]?=w4.heap[b]?:=fun b hb=>by rw[hw5];exact Below.heap_alloc _ _ _ hb
 obtain⟨a5,PR⟩:∃a5,a4.put (some 19) (.func (.func 40) #[] #[.pointer (some ⟨w4.heap.size,0,none⟩)])=a5:=⟨_,rfl⟩;have hd5:a5.defers=[]:=by rw[←PR,Jn];exact V1.dfr
 have hz5:a5.tmps.size=28:=by rw[←PR,Hc];exact V1.tsz
 have t6':a5.tmps.getD 6 undef=.pointer (some ⟨b6,o6,none⟩):=by rw[←PR,Fj (by decide)];exact t6
 have ea:({ a5 with defers:={ target:=.collected (w4.heap.size+1),args:= #[] }::a5.defers }:Act)=R1 [{ target:=.collected (w4.heap.size+1),args:= #[] }] a5:=by unfold R1;rw[hd5];rfl
 have TJ:=V1.fr;have hw4:=TJ.step.size
 have mk:∀{Z B},LY w5 (w4.heap.size+1) b6 o6 (G7 now l) Z B->∃X0 β,(∀b,X0.X b->b=b6)∧B4 28 B X0 Y β (Aoz (G7 now l)) a5 B:=by
  intro Z B hI
  obtain⟨X0,β,h1,_,_,_,h2⟩:=Ai2 (B:=B) (Y:=Y) (a:=a5) (l:=[(6,.ptr 56000 0)]) (b6:=b6) (o6:=o6) (v:=G7 now l) hd5 hz5 (by
   intro q hq;simp only[List.mem_cons,List.not_mem_nil,or_false] at hq;subst hq;simp) hI.c6 hI.f6 (by have:=hI.size;omega) own6.2 (fun b hb=>by have:=hY b hb;have:=hI.size;omega) (by
   intro β e1 hA q hq;simp only[List.mem_cons,List.not_mem_nil,or_false] at hq;subst hq;exact⟨b6,o6,e1,t6'⟩) (by
   intro q hq id Bo;simp only[List.mem_cons,List.not_mem_nil,or_false] at hq;subst hq;simp[B7,Cj,Av] at Bo;exact Bo)
  exact⟨X0,β,h1,h2⟩
 have leave:∀{Z B XB β6 a6 w7},LY w5 (w4.heap.size+1) b6 o6 (G7 now l) Z B->B.heap[w4.heap.size+1]?=some (.deferred (some []))->(∀b,XB.X b->b=b6)->B4 28 B XB Y β6 (Aoz (G7 now l)) a6 w7 ->
   bodyPostM Fence.wide 0 prog Tryd.f8 (fun e w'=>∃vs own,e=.returned (K5 vs)∧Out w w' Y Xj (RN v i x lf model now es.length n1 n2 (Ml es) c1 c2) own ⟨[.sc (.int .i64 (G7 now l))],[]⟩ vs) .ret (R1 [{ target:=.collected (w4.heap.size+1),args:= #[] }] a6) w7:=by
  intro Z B XB β6 a6 w7 hI hdf hXB hz;have Ku:=hI.size
  have hD':w7.heap[w4.heap.size+1]?=some (.deferred (some [])):=by
   rw[hz.fr.step.keep (w4.heap.size+1) (by omega) fun hx=>by have:=hXB _ hx;omega]
   exact hdf
  show LeavesInM _ _ _ _ _ _ (a6.defers++[{ target:=.collected (w4.heap.size+1),args:= #[] }]) .returning w7;rw[hz.dfr];refine⟨by simp,.inl ⟨_,_,rfl,run_takeDeferred hD',?_⟩⟩
  have hu:B4 28 w (CY Xj (RN v i x lf model now es.length n1 n2 (Ml es) c1 c2) h8) Y β6 (Aoz (G7 now l)) a6 w7:=
   hz.unbase (fun _ h=>h) hY (fun b hx=>by rw[hXB b hx];exact own6.1) (fun k ⟨p,h1,h2⟩=>by
    match k,h1 with
    |0,h1=>cases h1;cases h2
    |1,h1=>cases h1;cases h2
    |2,h1=>cases h1;cases h2) (hI.os.trans (o5w.1.trans TJ.os)) (hI.tape.trans (o5w.2.1.trans TJ.tape)) (hI.output.trans (o5w.2.2.trans TJ.output)) (by omega) (fun b hb=>(hI.keep b (by omega) (by omega)).trans ((hold b (by omega)).trans (TJ.step.keep b hb (hXn b))))
  have hv:=hu.same (KP (y:=none) hD') fun b hb=>World.putObj_heap_other (by omega)
  obtain⟨_,vv,r1,vs,own,r2,r3⟩:=Y4 (C:=CS) (f:=8) (fn:=Tryd.f8) Y7 (res:=⟨[.sc (.int .i64 (G7 now l))],[]⟩) (Aye v i x lf model now (G7 now l) es.length n1 n2 (Ml es) c1 c2) hv;exact⟨vv,r1,vs,own,r2,r3⟩
 rw[NN] at A4a;refine Atc (Y:=Y) (sv:=.slice ad kk qq) Gv t5 t6 l5 l6 n56 q5 q6 (f6 0 (Nat.zero_lt_succ _)) A4a rfl V1.tsz hw5 rfl ?_ ?_
 ·intro Z B hI h0 hdf;rw[PR,ea];obtain⟨XB,βB,hXB,hB⟩:=mk hI;refine wpIn_seq (JW (Q':=fun e a' w'=>e=.normal∧∃β',B4 28 B XB Y β' (Aoz (G7 now l)) a' w') ?_ ?_)
  ·have hl9:List.range (Gw (sL (sR (sR (sR stC))))).size=[0]++[]:=by kernel_rfl
   rw[hl9];rw[h0] at hB ⊢;refine Gh (ro:=none) (C:=CB) (call:=cl) (r:=((0:Nat),Aoz 0)) (Is _ _) B3 ?_ [0] (Gw (sL (sR (sR (sR stC))))).toList (by kernel_rfl) ?_ (by kernel_rfl) hB (Ay0 cl 0)
   rotate_left
   ·intro j i hj
    match j,hj with
    |0,hj=>cases hj;rfl
   intro s6 a6 w6 β6 hk6 hs6;obtain⟨β7,s7,hk7,hs7⟩:=B6 hs6 hk6;cases hk7;exact⟨rfl,β7,hs7⟩
  ·rintro e a7 w7 ⟨a6,rfl,rfl,β6,hz⟩
   exact wpIn_ret (leave hI hdf hXB hz)
 ·intro Z B hI hdf;rw[PR,ea];obtain⟨XB,βB,hXB,hB⟩:=mk hI;exact leave hI hdf hXB hB
theorem Agg {G:Us}{args:List PV}{r:A5}(h:Ais args=some r):C7 G prog 8 args r:=by
 unfold Ais at h;split at h
 ·rename_i v i x n c lf n1 c1 n2 c2 model now;cases hb:(Nat.beq c.length (n*3)&&Nat.ble n 1000)
  ·rw[hb,cond_false] at h;cases h
  rw[hb,cond_true] at h;simp only[Bool.and_eq_true] at hb;cases he:Ve c with
  |none=>rw[he] at h;cases h
  |some es=>
   rw[he] at h;simp only at h;cases hp:P1 (Afh model es) with
   |none=>rw[hp] at h;cases h
   |some l=>
    rw[hp] at h;cases h;obtain⟨rfl,hf⟩:=Adp he;have hl:(Ml es).length=es.length*3:=Te En.cells_len es;have hn:n=es.length:=by have:=Nat.eq_of_beq_eq_true hb.1;omega
    subst hn;exact Au0 (Nat.le_of_ble_eq_true hb.2) hf (XQ hp)
 ·cases h
end
section
open Go.Proofs.Tryd (prog)
open Go.IntKind (wrap)
open Go.RowKit
theorem VD {w w':World}{Y:Nat->Prop}{bt:JI}{args:List PV}{v:Value}(hb:Below w.heap.size w w')(ho:AK w' (RE bt (fun _=>none) Y) (fun _=>none) bt (Rv [.sc v]) 0 args []):
  Out w w' Y bt args (fun _=>none) ⟨[.sc v],[]⟩ [v] where
 os:=hb.os
 tape:=hb.tape
 output:=hb.output
 ext:=⟨hb.size,fun b h _=>hb.block b h,fun b h=>by unfold bsz;rw[hb.block b h];exact Nat.le_refl _⟩
 rng:=fun b j h _=>⟨by unfold World.cell?;simp only[hb.block b h],by unfold World.frozen?;simp only[hb.block b h]⟩
 vals:=⟨Aw.sc v,trivial⟩
 outs:=ho
 fresh:=fun j b o h=>by cases h
 inj:=fun j j' b o o' h=>by cases h
theorem KO {P:Program}{w:World}{A:Nat->Prop}{bt:Bt}{z:Bool}{n:Nat}{c:List PV}{u:Value}{l:List UInt8}(h:Ad7 w A bt (.lst z 1 n c) u) (hl:bytesOf c=some l)(hn:c.length=n):
  (Extern.Bytes.bytesOf u).run P w=.ok ⟨l.toArray⟩ w:=by
 obtain⟨ns,rfl,rfl⟩:=Yf hl;have ht:Aw w A (.lst z 1 n (ns.map fun n=>.sc (.int .u8 n))) u:=h.2
 generalize hc:(ns.map fun n=>PV.sc (.int .u8 n))=c at ht
 cases ht with
 |lnil=>
  have:ns=[]:=by simpa using hc
  subst this;rfl
 |lemp=>
  have:ns=[]:=by simpa using hc
  subst this;rfl
 |lst _ _ _ a cap f hs hb hA hn' hcell h1 hr=>
  subst hc;rw[List.length_map] at hn;subst hn;show (Extern.Bytes.loadBytes a ns.length .empty).run P w=_;rw[Lib.run_loadBytesX w ns a .empty fun j x hj=>?_]
  ·simp[Lib.bytesOf,Nat.toUInt8]
  ·have e:(ns.map fun n=>PV.sc (.int .u8 n))[j]?=some (.sc (.int .u8 x)):=by rw[List.getElem?_map,hj];rfl
   rw[hcell j _ e,(hr j _ e).val]
set_option maxRecDepth 1000000 in
theorem YZ (u1 u2:Value)(a b:List UInt8)(w:World)(h1:(Extern.Bytes.bytesOf u1).run prog w=.ok ⟨a.toArray⟩ w) (h2:(Extern.Bytes.bytesOf u2).run prog w=.ok ⟨b.toArray⟩ w):
  Calls prog 96 #[u1,u2] w fun e w'=>e=.returned (.int .i64 (Lib.compareBytes a b))∧w'=w:=by
 have hr:(Extern.BytealgCompare.compare #[u1,u2]).run prog w=.ok (.int .i64 (Lib.compareBytes a b)) w:=by
  change Sem.run prog (do pure (goInt (Extern.BytealgCompare.cmp (←Extern.Bytes.bytesOf u1) (←Extern.Bytes.bytesOf u2)))) w=_
  simp only[Sem.run_bind,Sem.run_pure,Result.andThen,h1,h2];rw[Lib.cmp_eq];rfl
 go_enter Tryd.func96,Tryd.ntmps96
 go_wp2
 rw[run_callFunc_extern Tryd.func98 (by kernel_rfl) (by kernel_rfl) (by kernel_rfl) (e:=Extern.BytealgCompare.compare) (by kernel_rfl),hr]
 simp only[Result.andThen];rw[Oper.upon_value]
 go_wp2
 go_ret
 exact⟨rfl,rfl⟩
theorem SK (G:Us)(args:List PV)(res:A5)(h:X7 args=some res):C7 G prog 96 args res:=by
 refine⟨⟨_,Tryd.func96,by kernel_rfl⟩,fun w Y bt us hi _ _=>?_⟩
 unfold X7 at h;split at h
 rotate_left
 ·cases h
 rename_i z n c z' m c';cases hq:(Nat.beq c.length n&&Nat.beq c'.length m)
 ·rw[hq] at h;cases h
 rw[hq] at h;simp only[Bool.and_eq_true] at hq;have hn:=Nat.eq_of_beq_eq_true hq.1;have hm:=Nat.eq_of_beq_eq_true hq.2;simp only[cond_true] at h;split at h
 rotate_left
 ·cases h
 rename_i a b ha hb;cases h;have ps:=hi.args
 match us,ps with
 |[u1,u2],ps=>
  refine (YZ u1 u2 a b w (KO ps.1 ha hn) (KO ps.2.1 hb hm)).mono ?_
  rintro e w' ⟨rfl,rfl⟩
  exact⟨[.int .i64 (Lib.compareBytes a b)],fun _=>none,rfl,VD (Below.refl _ _) rfl⟩
 |[],ps=>exact ps.elim
 |[_],ps=>exact ps.2.elim
 |_::_::_::_,ps=>exact ps.2.2.elim
end
section
open Go.Proofs.Tryd (prog)
open Go.IntKind (wrap)
set_option maxRecDepth 1000000
open Go.Shelf Go.RowKit Go.Lib
def A3z:Go.Shelf.Ren:=⟨fun|196=>71|259=>88|n=>n,fun|0=>0|3=>3|4=>4|5=>5|9=>9|12=>12|46=>130|53=>24|119=>153|138=>155|139=>156|n=>n,fun|3=>0|4=>1|n=>n⟩
theorem laysVS:Lays.n196 prog A3z:={
 mixed:=by kernel_rfl
 f196:=Tryd.func71.trans (congrArg some (by kernel_rfl))
 f259:=Tryd.func88.trans (congrArg some (by kernel_rfl))
 t0:=Tryd.underlying0
 a0:=Tryd.isAgg0
 z0:=Tryd.sizeOf0
 v0:=Tryd.zeroValue0
 t3:=Tryd.underlying3
 a3:=Tryd.isAgg3
 z3:=Tryd.sizeOf3
 v3:=Tryd.zeroValue3
 t4:=Tryd.underlying4
 a4:=Tryd.isAgg4
 z4:=Tryd.sizeOf4
 v4:=Tryd.zeroValue4
 t5:=Tryd.underlying5
 a5:=Tryd.isAgg5
 z5:=Tryd.sizeOf5
 v5:=Tryd.zeroValue5
 t9:=Tryd.underlying9
 a9:=Tryd.isAgg9
 z9:=Tryd.sizeOf9
 v9:=Tryd.zeroValue9
 t12:=Tryd.underlying12
 a12:=Tryd.isAgg12
 z12:=Tryd.sizeOf12
 v12:=Tryd.zeroValue12
 t46:=Tryd.underlying130
 a46:=Tryd.isAgg130
 z46:=Tryd.sizeOf130
 v46:=Tryd.zeroValue130
 t53:=Tryd.underlying24
 a53:=Tryd.isAgg24
 z53:=Tryd.sizeOf24
 v53:=Tryd.zeroValue24
 t119:=Tryd.underlying153
 a119:=Tryd.isAgg153
 z119:=Tryd.sizeOf153
 t138:=Tryd.underlying155
 a138:=Tryd.isAgg155
 z138:=Tryd.sizeOf155
 v138:=Tryd.zeroValue155
 t139:=Tryd.underlying156
 a139:=Tryd.isAgg156
 z139:=Tryd.sizeOf156
 v139:=Tryd.zeroValue156
 g3:=by kernel_rfl
 g4:=by kernel_rfl }
def gU:Us:=⟨fun b=>b=0∨b=1,fun w=>0<w.heap.size∧1<w.heap.size∧Lib.Utf8Tabs 0 1 w,fun w w' h ⟨s1,s2,h1,h2⟩=>by
 have e1:=h _ (.inl rfl) s1;have e2:=h _ (.inr rfl) s2
 have hs:∀b,b<w.heap.size->w'.heap[b]?=w.heap[b]?->b<w'.heap.size:=by
  intro b hb he;rw[Array.getElem?_eq_getElem hb] at he;rcases Nat.lt_or_ge b w'.heap.size with q|q
  ·exact q
  ·rw[Array.getElem?_eq_none q] at he;cases he
 refine⟨hs _ s1 e1,hs _ s2 e2,fun c hc=>?_,fun i hi=>?_⟩
 ·have:=h1 c hc;unfold World.cell? at this ⊢;simp only[e1] at this ⊢;exact this
 ·obtain⟨a,b⟩:=h2 i hi;unfold World.cell? at a b ⊢;simp only[e2] at a b ⊢;exact⟨a,b⟩⟩
theorem Acr (args:List PV)(res:A5)(h:NS args=some res):C7 gU prog 71 args res:=by
 refine⟨⟨_,Tryd.func71,by kernel_rfl⟩,fun w Y bt us hi hok _=>?_⟩
 unfold NS at h;split at h
 rotate_left
 ·cases h
 rename_i s;cases hq:decide (s.size<=9223372036854775807)
 ·rw[hq] at h;cases h
 rw[hq] at h;cases h;have hs:=of_decide_eq_true hq;have ps:=hi.args
 match us,ps with
 |[u],ps=>
  have hu:u=.string s:=by
   have:Aw w _ (.sc (.string s)) u:=ps.1.2;exact this.val
  subst hu;refine (Any.utf8_ValidString laysVS s w hs hok.2.2).mono ?_
  rintro e w' ⟨rfl,hb⟩
  exact⟨[.bool (Lib.validD s.data.toList)],fun _=>none,rfl,VD hb rfl⟩
 |[],ps=>exact ps.elim
 |_::_::_,ps=>exact ps.2.elim
theorem extU:Ai8 gU prog C0:=by
 intro f g args res hx hg;have hx0:(bif GO.any (Nat.beq f) then none else Oc f)=some g:=hx;cases hb:GO.any (Nat.beq f)
 rotate_left
 ·rw[hb,cond_true] at hx0;cases hx0
 rw[hb,cond_false] at hx0;have Z6:Oc f=some g:=hx0;unfold Oc at Z6;cases h1:Nat.beq f 71
 rotate_left
 ·rw[h1,cond_true] at Z6;cases Z6;rw[Nat.eq_of_beq_eq_true h1];exact Acr args res hg
 rw[h1,cond_false] at Z6;cases h2:Nat.beq f 96
 rotate_left
 ·rw[h2,cond_true] at Z6;cases Z6;rw[Nat.eq_of_beq_eq_true h2];exact SK gU args res hg
 rw[h2,cond_false] at Z6;cases h4:Nat.beq f 11
 rotate_left
 ·rw[h4,cond_true] at Z6;cases Z6;rw[Nat.eq_of_beq_eq_true h4];exact Aji hg
 rw[h4,cond_false] at Z6;cases h5:Nat.beq f 8
 rotate_left
 ·rw[h5,cond_true] at Z6;cases Z6;rw[Nat.eq_of_beq_eq_true h5];exact Agg hg
 rw[h5,cond_false] at Z6;cases h3:Nat.beq f 1000000
 ·rw[h3,cond_false] at Z6;cases Z6
 ·rw[h3,cond_true] at Z6;cases Z6;cases hg
end
end Go.Proofs.YtpogefhpiaaliaaDoor.Pv
