/-
  The proof of AttestationAny, part 7 (texts Mk2 GnO Mk3 Mk4 Mk5 Mk6 Mk7 OpA GnPa La1 Ex1 Ex2).
-/
import Derived.Test.YtgfgmbpmghgbkaaGreatDoorAF
import Derived.Test.YtgfgmbpmghgbkaaGreatDoorRows
import Derived.Lib.BytesEntry
import Derived.Lib.Bytealg
import Derived.Lib.Walk
import Derived.WalkKit
import Derived.WalkMore
import Derived.Shelf.Unicode.ValidAny
import Derived.Lib.LaidU8T
set_option linter.unusedSimpArgs false
set_option linter.unusedVariables false
namespace Go.Proofs.YtgfgmbpmghgbkaaGreatDoor.Pv
section
structure Ad.good (a:Ad):Prop where
 rp:isU a.rp
 flags:a.flags=77∨a.flags=69∨a.flags=73∨a.flags=65
 cnt:a.cnt=0∨a.cnt=1
 rng:a.rng=0
 model:isU a.model
 idB:Gn a.id_
 idl:a.id_.length=176
 key:Df a.key.h=false
 root:isU a.key.root
def X1 (a:Ad):List Int:=Cg a.rp++([a.flags,a.cnt,a.rng]++(Cg a.model++(a.id_++G3 a.key)))
theorem Ai3 (k:Ky):(G3 k).length=9:=rfl
theorem Axb {a:Ad}(h:a.good):(X1 a).length=204:=by
 unfold X1;simp only [Ic,Cy,H0,X2,h.idl,Ai3]
theorem A6v {a:Ad}(h:a.good):Gn (X1 a):=by
 have hf:=h.flags;have hc:=h.cnt;have hr:=h.rng;refine Z5 (Aad _) (Z5 ?_ (Z5 (Aad _) (Z5 h.idB Auh)));intro x hx;simp only [List.mem_cons,List.not_mem_nil,or_false] at hx;rcases hx with rfl|rfl|rfl<;>omega
section
variable {fu d:Nat}
theorem Agw (n lo hi:Int):Ae C0 Tryz.prog fu (d+1) Nc [.sc (.int .i64 n),.sc (.int .i64 lo),.sc (.int .i64 hi)]=some ⟨[.sc (.bool (decide (lo<=n)&&decide (n<=hi)))],[]⟩:=by
 rw [Xf];by_cases h:lo<=n
 ·simp (disch:=omega) only [B6,h,decide_true,Zzm]
 ·simp (disch:=omega) only [B6,h,decide_false,Bool.false_and]
theorem Ak6 (hfu:1000<=fu){a:Ad}(h:a.good):Ae C0 Tryz.prog fu (d+3) Ix [.agg a.cells]=some ⟨[.sc (.int .i64 0)],[]⟩:=by
 refine (Qt fu (d+2) a.rp a.flags a.cnt a.rng a.model a.id_.length (Ai .u8 a.id_) a.key.h a.key.root).trans ?_;have w1:=Agw (fu:=fu) (d:=d+1) a.cnt 0 16;have w2:=Agw (fu:=fu) (d:=d+1) a.rng 0 15
 have q1:(decide ((0:Int)<=a.cnt)&&decide (a.cnt<=16))=true:=by
  rcases h.cnt with e|e<;>rw [e]<;>rfl
 have q2:(decide ((0:Int)<=a.rng)&&decide (a.rng<=15))=true:=by rw [h.rng];rfl
 rw [q1] at w1;rw [q2] at w2;have ek:=Ac3 (fu:=fu) (d:=d) hfu a.key;rw [h.key,A3 (by simp)] at ek
 simp only [Ky.cells] at ek;have f1:(Apm .i64 a.flags 93 != 0)=false:=by rcases h.flags with e|e|e|e<;>rw [e]<;>decide
 have f2:(Ez .i64 a.flags 16 != 0)=false:=by rcases h.flags with e|e|e|e<;>rw [e]<;>decide
 have f3:(Ez .i64 a.flags 64==0)=false:=by rcases h.flags with e|e|e|e<;>rw [e]<;>decide
 have l:((a.id_.length:Int) != 176)=false:=by rw [h.idl];rfl
 try unfold Aa
 repeat first
  |((with_reducible first|apply Ap|apply Ag|apply Am|apply Ar|apply Az|apply A6|apply Ah);· first|with_reducible rfl|(simp (disch:=omega) only [f1,f2,f3,w1,w2,l,ek,Bn]<;>with_reducible rfl))
  |((with_reducible first|apply Ao|apply Ak);· first|with_reducible rfl|omega|(simp (disch:=omega) only [gT,f1,f2,f3,w1,w2,l,ek,Bn]<;>omega))
  |(with_reducible apply Al;· first|with_reducible rfl|(simp (disch:=omega) only [gF,f1,f2,f3,w1,w2,l,ek,Bn]<;>omega))
 try simp (disch:=omega) only [f1,f2,f3,w1,w2,l,ek,Bn]
 all_goals rfl
theorem Avr (hfu:1000<=fu){a:Ad}(h:a.good):Ae C0 Tryz.prog fu (d+4) Jq [.agg a.cells]=some ⟨[.own 1 204 (Ai .u8 (X1 a)),.sc (.int .i64 0)],[]⟩:=by
 refine (Sm fu (d+3) a.rp a.flags a.cnt a.rng a.model a.id_.length (Ai .u8 a.id_) a.key.h a.key.root).trans ?_;have vd:=Ak6 (fu:=fu) (d:=d) hfu h;simp only [Ad.cells,Sq] at vd;have e00:((0:Int) != 0)=false:=rfl;have ek:=Ac3 (fu:=fu) (d:=d+1) hfu a.key;rw [h.key,A3 (by simp)] at ek
 simp only [Ky.cells] at ek;have o1:=Avm (fu:=fu) (d:=d+2) hfu a.rp;have o2:=Avm (fu:=fu) (d:=d+2) hfu a.model;have f3:(Ez .i64 a.flags 64 != 0)=true:=by rcases h.flags with e|e|e|e<;>rw [e]<;>decide
 have u1:IntKind.wrap .u8 a.flags=a.flags:=by rcases h.flags with e|e|e|e<;>rw [e]<;>decide
 have u2:IntKind.wrap .u8 a.cnt=a.cnt:=by rcases h.cnt with e|e<;>rw [e]<;>decide
 have u3:IntKind.wrap .u8 a.rng=a.rng:=by rw [h.rng];decide
 have l1:(Ai .u8 (Cg a.rp)).length=8:=by rw [As,Cy]
 have l2:(Ai .u8 (Cg a.model)).length=8:=by rw [As,Cy]
 have l3:(Ai .u8 a.id_).length=176:=by rw [As,h.idl]
 have l4:(Ai .u8 (G3 a.key)).length=9:=by rw [As,Ai3]
 have t1:List.take 8 (Ai .u8 (Cg a.rp))=Ai .u8 (Cg a.rp):=I2 (by omega)
 have t2:List.take 8 (Ai .u8 (Cg a.model))=Ai .u8 (Cg a.model):=I2 (by omega)
 have t4:List.take 9 (Ai .u8 (G3 a.key))=Ai .u8 (G3 a.key):=I2 (by omega)
 have E:Ai .u8 (X1 a)=Ai .u8 (Cg a.rp)++[.sc (.int .u8 a.flags),.sc (.int .u8 a.cnt),.sc (.int .u8 a.rng)]++Ai .u8 (Cg a.model)++Ai .u8 a.id_++Ai .u8 (G3 a.key):=by
  unfold X1;simp [Ai,List.flatMap_append]
 have il:=h.idl;rw [il] at vd ⊢;rw [E];generalize Ai .u8 (Cg a.rp)=c1 at *
 generalize Ai .u8 (Cg a.model)=c2 at *
 generalize Ai .u8 a.id_=c3 at *
 generalize Ai .u8 (G3 a.key)=c4 at *
 have T1:List.take 11 (c1++[PV.sc (.int .u8 a.flags),.sc (.int .u8 a.cnt),.sc (.int .u8 a.rng)])=c1++[PV.sc (.int .u8 a.flags),.sc (.int .u8 a.cnt),.sc (.int .u8 a.rng)]:=I2 (by simp;omega)
 have T2:List.take 19 (c1++[PV.sc (.int .u8 a.flags),.sc (.int .u8 a.cnt),.sc (.int .u8 a.rng)]++c2)=c1++[PV.sc (.int .u8 a.flags),.sc (.int .u8 a.cnt),.sc (.int .u8 a.rng)]++c2:=I2 (by simp;omega)
 have T3:List.take 195 (c1++[PV.sc (.int .u8 a.flags),.sc (.int .u8 a.cnt),.sc (.int .u8 a.rng)]++c2++c3)=c1++[PV.sc (.int .u8 a.flags),.sc (.int .u8 a.cnt),.sc (.int .u8 a.rng)]++c2++c3:=I2 (by simp;omega)
 have T4:List.take 204 (c1++[PV.sc (.int .u8 a.flags),.sc (.int .u8 a.cnt),.sc (.int .u8 a.rng)]++c2++c3++c4)=c1++[PV.sc (.int .u8 a.flags),.sc (.int .u8 a.cnt),.sc (.int .u8 a.rng)]++c2++c3++c4:=I2 (by simp;omega)
 have L1:(c1++[PV.sc (.int .u8 a.flags),.sc (.int .u8 a.cnt),.sc (.int .u8 a.rng)]).length=11:=by simp;omega
 have L2:(c1++[PV.sc (.int .u8 a.flags),.sc (.int .u8 a.cnt),.sc (.int .u8 a.rng)]++c2).length=19:=by simp;omega
 have L3:(c1++[PV.sc (.int .u8 a.flags),.sc (.int .u8 a.cnt),.sc (.int .u8 a.rng)]++c2++c3).length=195:=by simp;omega
 have L4:(c1++[PV.sc (.int .u8 a.flags),.sc (.int .u8 a.cnt),.sc (.int .u8 a.rng)]++c2++c3++c4).length=204:=by simp;omega
 try unfold Aa
 repeat first
  |((with_reducible first|apply Ap|apply Ag|apply Am|apply Ar|apply Az|apply A6|apply Ah);· first|with_reducible rfl|(simp (disch:=omega) only [vd,e00,o1,u1,u2,u3,l1,t1,Bl,Nat.reduceAdd,Nat.reduceMul,f3,ek,o2,B4,Cm,l2,t2,L1,T1,L2,T2,l3,L3,T3,l4,t4,L4,T4]<;>with_reducible rfl))
  |((with_reducible first|apply Ao|apply Ak);· first|with_reducible rfl|omega|(simp (disch:=omega) only [gT,vd,e00,o1,u1,u2,u3,l1,t1,Bl,Nat.reduceAdd,Nat.reduceMul,f3,ek,o2,B4,Cm,l2,t2,L1,T1,L2,T2,l3,L3,T3,l4,t4,L4,T4]<;>omega))
  |(with_reducible apply Al;· first|with_reducible rfl|(simp (disch:=omega) only [gF,vd,e00,o1,u1,u2,u3,l1,t1,Bl,Nat.reduceAdd,Nat.reduceMul,f3,ek,o2,B4,Cm,l2,t2,L1,T1,L2,T2,l3,L3,T3,l4,t4,L4,T4]<;>omega))
 try simp (disch:=omega) only [vd,e00,o1,u1,u2,u3,l1,t1,Bl,Nat.reduceAdd,Nat.reduceMul,f3,ek,o2,B4,Cm,l2,t2,L1,T1,L2,T2,l3,L3,T3,l4,t4,L4,T4]
 all_goals rfl
theorem At7 (hfu:1000<=fu){a:Ad}(h:a.good):Ae C0 Tryz.prog fu (d+4) Jt [.lst false 1 204 (Ai .u8 (X1 a))]=some ⟨[.agg a.cells,.sc (.int .i64 0)],[]⟩:=by
 rw [Sw];have vd:=Ak6 (fu:=fu) (d:=d) hfu h;simp only [Ad.cells,Sq] at vd ⊢;have e00:((0:Int) != 0)=false:=rfl;have n1:(((204:Nat):Int) != 11)=true:=rfl;have n2:(((204:Nat):Int) != 204)=false:=rfl
 have d1:List.take 8 (Ai .u8 (X1 a))=Ai .u8 (Cg a.rp):=by
  rw [Dz]
  congr 1
 have w1:=Adn (fu:=fu) (d:=d+2) hfu (l:=Cg a.rp) (Cy _);rw [Zx h.rp.1 h.rp.2] at w1
 have d2:List.take 8 (List.drop 11 (Ai .u8 (X1 a)))=Ai .u8 (Cg a.model):=by
  rw [E6,Dz]
  congr 1
 have w2:=Adn (fu:=fu) (d:=d+2) hfu (l:=Cg a.model) (Cy _);rw [Zx h.model.1 h.model.2] at w2;have g8:(Ai .u8 (X1 a)).getD 8 .top=.sc (.int .u8 a.flags):=rfl;have g9:(Ai .u8 (X1 a)).getD 9 .top=.sc (.int .u8 a.cnt):=rfl;have g10:(Ai .u8 (X1 a)).getD 10 .top=.sc (.int .u8 a.rng):=rfl;have u1:IntKind.wrap .i64 a.flags=a.flags:=by rcases h.flags with e|e|e|e<;>rw [e]<;>decide
 have u2:IntKind.wrap .i64 a.cnt=a.cnt:=by rcases h.cnt with e|e<;>rw [e]<;>decide
 have u3:IntKind.wrap .i64 a.rng=a.rng:=by rw [h.rng];decide
 have D19:(X1 a).drop 19=a.id_++G3 a.key:=rfl
 have D195:(X1 a).drop 195=G3 a.key:=by
  rw [show 195=19+a.id_.length by rw [h.idl],←List.drop_drop,D19,List.drop_left' rfl]
 have d3:List.take 9 (List.drop 195 (Ai .u8 (X1 a)))=Ai .u8 (G3 a.key):=by
  rw [E6,Dz,D195]
  congr 1
 have dk:=Ajj (fu:=fu) (d:=d+1) hfu (l:=G3 a.key) Auh;rw [Ans h.key h.root] at dk;simp only [Acp,Ky.cells,Ai3] at dk
 have d4:List.take 176 (List.drop 19 (Ai .u8 (X1 a)))=Ai .u8 a.id_:=by
  rw [E6,Dz,D19,List.take_left' h.idl]
 have t4:List.take 176 (Ai .u8 a.id_)=Ai .u8 a.id_:=I2 (by rw [As,h.idl];omega)
 have l4:(Ai .u8 a.id_).length=176:=by rw [As,h.idl]
 have f3:(Ez .i64 a.flags 64 != 0)=true:=by rcases h.flags with e|e|e|e<;>rw [e]<;>decide
 have c1:decide (((204:Nat):Int)>11)=true:=rfl;have c2:(true==true)=true:=rfl;have s9:204-195=9:=rfl;have il:=h.idl;rw [il] at vd ⊢;generalize Ai .u8 (X1 a)=E at *
 generalize Ai .u8 (Cg a.rp)=e1 at *
 generalize Ai .u8 (Cg a.model)=e2 at *
 generalize Ai .u8 (G3 a.key)=e3 at *
 generalize Ai .u8 a.id_=e4 at *
 try unfold Aa
 repeat first
  |((with_reducible first|apply Ap|apply Ag|apply Am|apply Ar|apply Az|apply A6|apply Ah);· first|with_reducible rfl|(simp (disch:=omega) only [n1,n2,Cm,d1,w1,g8,g9,g10,u1,u2,u3,c1,s9,Bl,d3,dk,e00,d2,w2,d4,l4,t4,vd,f3,c2,Bn]<;>with_reducible rfl))
  |((with_reducible first|apply Ao|apply Ak);· first|with_reducible rfl|omega|(simp (disch:=omega) only [gT,n1,n2,Cm,d1,w1,g8,g9,g10,u1,u2,u3,c1,s9,Bl,d3,dk,e00,d2,w2,d4,l4,t4,vd,f3,c2,Bn]<;>omega))
  |(with_reducible apply Al;· first|with_reducible rfl|(simp (disch:=omega) only [gF,n1,n2,Cm,d1,w1,g8,g9,g10,u1,u2,u3,c1,s9,Bl,d3,dk,e00,d2,w2,d4,l4,t4,vd,f3,c2,Bn]<;>omega))
 try simp (disch:=omega) only [n1,n2,Cm,d1,w1,g8,g9,g10,u1,u2,u3,c1,s9,Bl,d3,dk,e00,d2,w2,d4,l4,t4,vd,f3,c2,Bn]
 all_goals rfl
end
end
section
set_option maxRecDepth 100000
abbrev I1:FuncId:=24
theorem Qp (fu d:Nat)(a0_0 a0_1:Int)(a0_2n:Nat)(a0_2:List PV)(a0_3:Bool)(a1 a2:ByteArray)(a3n:Nat)(a3:List PV)(a4:Int)(a5:Bool)(a6:Int):Ae C0 Tryz.prog fu (d+1) I1 [.agg [.sc (.int .u64 a0_0),.sc (.int .i64 a0_1),.lst false 1 a0_2n a0_2,.sc (.bool a0_3)],.sc (.string a1),.sc (.string a2),.lst false 1 a3n a3,.sc (.int .i64 a4),.sc (.bool a5),.sc (.int .i64 a6)]=(fun (call:Aq)=>Aj (call 47 [.agg [.sc (.int .i64 1),.lst false 1 a3n a3,.sc (.string a2),.sc (.bool false),.sc (.string (ByteArray.mk #[]))]]) fun x1 x2=>Ac x2<|Ab x1 fun x3 x4=>Cn x3 fun x5=>Ab x4 fun x6 x7=>Af .i64 x6 fun x8=>Ac x7<|Aj (call 48 [.sc (.string a1)]) fun x9 Cj=>Ac Cj<|Ab x9 fun Bp Cz=>Af .u64 Bp fun C9=>Ac Cz<|Aj (call 49 [.agg [.sc (.int .u64 a0_0),.sc (.int .i64 a0_1),.lst false 1 a0_2n a0_2,.sc (.bool a0_3)],.sc (.bool a5)]) fun Cq C8=>Ac C8<|Ab Cq fun Dh Dt=>Af .i64 Dh fun D6=>Ac Dt<|Aa (Xz .i64 D6 64) fun D1=>Aj (call 16 [.sc (.int .u64 a0_0),.sc (.int .i64 a0_1)]) fun Ee Fq=>Ac Fq<|Ab Ee fun Cl Fy=>C3 Cl fun Dn=>Ab Dn fun B3 Ew=>Af .i64 B3 fun F4=>Ab Ew fun Bm Ci=>Af .u64 Bm fun Gx=>Ac Ci<|Ac Fy<|A4 (a4==1) (Aj (call 50 [.agg [.sc (.int .u64 C9),.sc (.int .i64 D1),.sc (.int .i64 1),.sc (.int .i64 0),.sc (.int .u64 3),.lst false 1 a0_2n a0_2,.sc (.int .i64 F4),.sc (.int .u64 Gx)]]) fun G2 Ib=>Ac Ib<|Ab G2 fun Hz I4=>Dp 1 Hz fun G8 I5=>Ab I4 fun Ls F5=>Af .i64 Ls fun Il=>Ac F5<|Aj (call 28 [.sc (.string x5)]) fun Pc Qi=>Ac Qi<|Ab Pc fun Ke Kf=>Af .u64 Ke fun Ph=>Ac Kf<|Ay (decide (0+G8*1<=List.length I5))<|Aj (call 27 [.lst false 1 G8 (List.take (G8*1) (List.drop 0 I5)),.sc (.int .u64 Ph)]) fun Mw Pi=>Ac Pi<|Ab Mw fun Ps Qx=>Af .u64 Ps fun Pd=>Ac Qx<|A4 (a4==1) (Aj (call 17 [.sc (.int .u64 a0_0),.sc (.int .i64 a0_1),.sc (.int .i64 0),.sc (.int .u64 Pd)]) fun Qk Q3=>Ac Q3<|Ab Qk fun Q4 Kx=>C3 Q4 fun Sk=>Ab Sk fun Qw Sx=>Af .i64 Qw fun Ow=>Ab Sx fun Qu R5=>Dp 1 Qu fun S3 Qm=>Ab R5 fun Tw Vs=>Dp 1 Tw fun Sy Su=>Ac Vs<|Ab Kx fun Sf Sa=>Af .i64 Sf fun Wo=>Ac Sa<|Ay (decide (0+S3*1<=List.length Qm))<|Ay (decide (0+Sy*1<=List.length Su))<|Aj (call 18 [.agg [.sc (.int .i64 Ow),.lst false 1 S3 (List.take (S3*1) (List.drop 0 Qm)),.lst false 1 Sy (List.take (Sy*1) (List.drop 0 Su))]]) fun Tf Td=>Ac Td<|Ab Tf fun Th Vh=>Dp 1 Th fun Uh Tc=>Ab Vh fun So Vr=>Af .i64 So fun Uk=>Ac Vr<|Ay (decide (0+G8*1<=List.length I5))<|Ay (decide (0+Uh*1<=List.length Tc))<|some (A0.mk [.agg [.sc (.int .i64 1),.sc (.string x5),.lst false 1 G8 (List.take (G8*1) (List.drop 0 I5)),.lst false 1 Uh (List.take (Uh*1) (List.drop 0 Tc)),.lst false 1 0 [],.sc (.int .i64 a4),.lst false 1 a0_2n a0_2,.sc (.string (ByteArray.mk #[]))]] [])) (A4 (a4==2) (Aj (call 17 [.sc (.int .u64 33),.sc (.int .i64 4),.sc (.int .i64 a6),.sc (.int .u64 Pd)]) fun V2 Xu=>Ac Xu<|Ab V2 fun Xa x81=>C3 Xa fun X3=>Ab X3 fun X4 Xo=>Af .i64 X4 fun x85=>Ab Xo fun x86 x87=>Dp 1 x86 fun Ro Uf=>Ab x87 fun Uo x91=>Dp 1 Uo fun x92 x93=>Ac x91<|Ab x81 fun x94 x95=>Af .i64 x94 fun x96=>Ac x95<|Ay (decide (0+Ro*1<=List.length Uf))<|Ay (decide (0+x92*1<=List.length x93))<|Aj (call 18 [.agg [.sc (.int .i64 x85),.lst false 1 Ro (List.take (Ro*1) (List.drop 0 Uf)),.lst false 1 x92 (List.take (x92*1) (List.drop 0 x93))]]) fun x97 x98=>Ac x98<|Ab x97 fun x99 Xq=>Dp 1 x99 fun Tu H9=>Ab Xq fun Lt Zr=>Af .i64 Lt fun Uc=>Ac Zr<|Aj (call 51 []) fun Ry Mz=>Ac Mz<|Ab Ry fun Aaj Acz=>Dp 1 Aaj fun Zs Aay=>Ac Acz<|Ay (decide (0+G8*1<=List.length I5))<|Ay (decide (0+Tu*1<=List.length H9))<|Ay (decide (0+Zs*1<=List.length Aay))<|some (A0.mk [.agg [.sc (.int .i64 1),.sc (.string x5),.lst false 1 G8 (List.take (G8*1) (List.drop 0 I5)),.lst false 1 Tu (List.take (Tu*1) (List.drop 0 H9)),.lst false 1 Zs (List.take (Zs*1) (List.drop 0 Aay)),.sc (.int .i64 a4),.lst false 1 a0_2n a0_2,.sc (.string (ByteArray.mk #[]))]] [])) (Ay (decide (0+G8*1<=List.length I5))<|some (A0.mk [.agg [.sc (.int .i64 1),.sc (.string x5),.lst false 1 G8 (List.take (G8*1) (List.drop 0 I5)),.lst false 1 0 [],.lst false 1 0 [],.sc (.int .i64 a4),.lst false 1 a0_2n a0_2,.sc (.string (ByteArray.mk #[]))]] [])))) (Aj (call 50 [.agg [.sc (.int .u64 C9),.sc (.int .i64 D1),.sc (.int .i64 0),.sc (.int .i64 0),.sc (.int .u64 3),.lst false 1 a0_2n a0_2,.sc (.int .i64 F4),.sc (.int .u64 Gx)]]) fun Ji Mt=>Ac Mt<|Ab Ji fun Afu Afb=>Dp 1 Afu fun Qg Wb=>Ab Afb fun Agv Acu=>Af .i64 Agv fun Agu=>Ac Acu<|Aj (call 28 [.sc (.string x5)]) fun Ad8 Agj=>Ac Agj<|Ab Ad8 fun Afw Afh=>Af .u64 Afw fun Ad7=>Ac Afh<|Ay (decide (0+Qg*1<=List.length Wb))<|Aj (call 27 [.lst false 1 Qg (List.take (Qg*1) (List.drop 0 Wb)),.sc (.int .u64 Ad7)]) fun Vg Zc=>Ac Zc<|Ab Vg fun Af4 Aft=>Af .u64 Af4 fun Abs=>Ac Aft<|A4 (a4==1) (Aj (call 17 [.sc (.int .u64 a0_0),.sc (.int .i64 a0_1),.sc (.int .i64 0),.sc (.int .u64 Abs)]) fun Aiv Af6=>Ac Af6<|Ab Aiv fun Ad3 Ah7=>C3 Ad3 fun Aji=>Ab Aji fun Aj5 Amd=>Af .i64 Aj5 fun All=>Ab Amd fun Afe Ah8=>Dp 1 Afe fun Agm Ah5=>Ab Ah8 fun Aix Agl=>Dp 1 Aix fun Aee Ada=>Ac Agl<|Ab Ah7 fun Ahy Ala=>Af .i64 Ahy fun Aro=>Ac Ala<|Ay (decide (0+Agm*1<=List.length Ah5))<|Ay (decide (0+Aee*1<=List.length Ada))<|Aj (call 18 [.agg [.sc (.int .i64 All),.lst false 1 Agm (List.take (Agm*1) (List.drop 0 Ah5)),.lst false 1 Aee (List.take (Aee*1) (List.drop 0 Ada))]]) fun Apj Aqg=>Ac Aqg<|Ab Apj fun Afm Akh=>Dp 1 Afm fun Aln Alw=>Ab Akh fun Apt Al4=>Af .i64 Apt fun Amo=>Ac Al4<|Ay (decide (0+Qg*1<=List.length Wb))<|Ay (decide (0+Aln*1<=List.length Alw))<|some (A0.mk [.agg [.sc (.int .i64 1),.sc (.string x5),.lst false 1 Qg (List.take (Qg*1) (List.drop 0 Wb)),.lst false 1 Aln (List.take (Aln*1) (List.drop 0 Alw)),.lst false 1 0 [],.sc (.int .i64 a4),.lst false 1 a0_2n a0_2,.sc (.string (ByteArray.mk #[]))]] [])) (A4 (a4==2) (Aj (call 17 [.sc (.int .u64 33),.sc (.int .i64 4),.sc (.int .i64 a6),.sc (.int .u64 Abs)]) fun Amv Aq1=>Ac Aq1<|Ab Amv fun Ao5 Ame=>C3 Ao5 fun Ape=>Ab Ape fun Alf Amn=>Af .i64 Alf fun Apk=>Ab Amn fun Akw Amt=>Dp 1 Akw fun Akc Ajs=>Ab Amt fun Aqz Aus=>Dp 1 Aqz fun Aqs As4=>Ac Aus<|Ab Ame fun Amw Atd=>Af .i64 Amw fun Axy=>Ac Atd<|Ay (decide (0+Akc*1<=List.length Ajs))<|Ay (decide (0+Aqs*1<=List.length As4))<|Aj (call 18 [.agg [.sc (.int .i64 Apk),.lst false 1 Akc (List.take (Akc*1) (List.drop 0 Ajs)),.lst false 1 Aqs (List.take (Aqs*1) (List.drop 0 As4))]]) fun Ask Auf=>Ac Auf<|Ab Ask fun A07 Akn=>Dp 1 A07 fun Ab9 Av2=>Ab Akn fun A1w A01=>Af .i64 A1w fun A49=>Ac A01<|Aj (call 51 []) fun A1o A3i=>Ac A3i<|Ab A1o fun A05 A34=>Dp 1 A05 fun Av6 Ayl=>Ac A34<|Ay (decide (0+Qg*1<=List.length Wb))<|Ay (decide (0+Ab9*1<=List.length Av2))<|Ay (decide (0+Av6*1<=List.length Ayl))<|some (A0.mk [.agg [.sc (.int .i64 1),.sc (.string x5),.lst false 1 Qg (List.take (Qg*1) (List.drop 0 Wb)),.lst false 1 Ab9 (List.take (Ab9*1) (List.drop 0 Av2)),.lst false 1 Av6 (List.take (Av6*1) (List.drop 0 Ayl)),.sc (.int .i64 a4),.lst false 1 a0_2n a0_2,.sc (.string (ByteArray.mk #[]))]] [])) (Ay (decide (0+Qg*1<=List.length Wb))<|some (A0.mk [.agg [.sc (.int .i64 1),.sc (.string x5),.lst false 1 Qg (List.take (Qg*1) (List.drop 0 Wb)),.lst false 1 0 [],.lst false 1 0 [],.sc (.int .i64 a4),.lst false 1 a0_2n a0_2,.sc (.string (ByteArray.mk #[]))]] []))))) (Ae C0 Tryz.prog fu d):=by kernel_rfl
abbrev P1:FuncId:=8
theorem Aau (fu d:Nat)(a0 a1:Int)(a2 a3:Int):Ae C0 Tryz.prog fu (d+1) P1 [.sc (.int .i64 a0),.sc (.int .i64 a1),.sc (.int .i64 a2),.sc (.int .i64 a3)]=(fun (call:Aq)=>Aj (call 11 [.sc (.int .i64 a0),.sc (.int .i64 50)]) fun x1 x2=>Ac x2<|Ab x1 fun x3 x4=>Af .i64 x3 fun x5=>Ac x4<|Aa (Ez .i64 a0 64) fun x6=>Aj (call 23 [.sc (.int .i64 x5),.sc (.int .i64 a1),.sc (.bool (x6==64))]) fun x7 x8=>Ac x8<|Ab x7 fun x9 Cj=>C3 x9 fun Bp=>Ab Bp fun Cz C9=>Af .u64 Cz fun Cq=>Ab C9 fun C8 Dh=>Af .i64 C8 fun Dt=>Ab Dh fun D6 D1=>Dp 1 D6 fun Ee Fq=>Ab D1 fun Cl Fy=>Bw Cl fun Dn=>Ac Fy<|Ac Cj<|Aa (Ez .i64 a0 7) fun B3=>Aj (call 25 [.sc (.int .i64 B3),.sc (.int .i64 16)]) fun Ew F4=>Ac F4<|Ab Ew fun Bm Ci=>Dp 1 Bm fun Gx G2=>Ac Ci<|Aa (Ez .i64 a0 128) fun Ib=>Ay (decide (0+Ee*1<=List.length Fq))<|Ay (decide (0+Gx*1<=List.length G2))<|Aj (call 24 [.agg [.sc (.int .u64 Cq),.sc (.int .i64 Dt),.lst false 1 Ee (List.take (Ee*1) (List.drop 0 Fq)),.sc (.bool Dn)],.sc (.string (ByteArray.mk #[101,120,97,109,112,108,101,46,99,111,109])),.sc (.string (ByteArray.mk #[104,116,116,112,115,58,47,47,101,120,97,109,112,108,101,46,99,111,109])),.lst false 1 Gx (List.take (Gx*1) (List.drop 0 G2)),.sc (.int .i64 a2),.sc (.bool (Ib==128)),.sc (.int .i64 a3)]) fun Hz I4=>Ac I4<|Ab Hz fun G8 I5=>C3 G8 fun Ls=>Ab Ls fun F5 Il=>Af .i64 F5 fun Pc=>Ab Il fun Qi Ke=>Cn Qi fun Kf=>Ab Ke fun Ph Mw=>Iz 1 Ph fun Pi Ps Qx=>Ab Mw fun Pd Qk=>Iz 1 Pd fun Q3 Q4 Kx=>Ab Qk fun Sk Qw=>Iz 1 Sk fun Sx Ow Qu=>Ab Qw fun R5 S3=>Af .i64 R5 fun Qm=>Ab S3 fun Tw Vs=>Iz 1 Tw fun Sy Su Sf=>Ab Vs fun Sa Wo=>Cn Sa fun Tf=>Ac Wo<|Ac I5<|Aj (call 26 [.lst false 1 Ps Qx]) fun Td Th=>Ac Th<|Ab Td fun Vh Uh=>C3 Vh fun Tc=>Ab Tc fun So Vr=>Af .u64 So fun Uk=>Ab Vr fun V2 Xu=>Af .i64 V2 fun Xa=>Ab Xu fun x81 X3=>Af .i64 x81 fun X4=>Ab X3 fun Xo x85=>Af .i64 Xo fun x86=>Ab x85 fun x87 Ro=>Af .u64 x87 fun Uf=>Ab Ro fun Uo x91=>Iz 1 Uo fun x92 x93 x94=>Ab x91 fun x95 x96=>Af .i64 x95 fun x97=>Ab x96 fun x98 x99=>Af .u64 x98 fun Xq=>Ac x99<|Ab Uh fun Tu H9=>Af .i64 Tu fun Lt=>Ac H9<|Aj (call 28 [.sc (.string Kf)]) fun Zr Uc=>Ac Uc<|Ab Zr fun Ry Mz=>Af .u64 Ry fun Aaj=>Ac Mz<|Aj (call 27 [.lst false 1 Ps Qx,.sc (.int .u64 Aaj)]) fun Acz Zs=>Ac Zs<|Ab Acz fun Aay Ji=>Af .u64 Aay fun Mt=>Ac Ji<|some (A0.mk [.agg [.sc (.int .i64 Pc),.sc (.string Kf),.lst false 1 Ps Qx,.lst false 1 Q4 Kx,.lst false 1 Ow Qu,.sc (.int .i64 Qm),.lst false 1 Su Sf,.sc (.string Tf)],.agg [.sc (.int .u64 Uk),.sc (.int .i64 Xa),.sc (.int .i64 X4),.sc (.int .i64 x86),.sc (.int .u64 Uf),.lst false 1 x93 x94,.sc (.int .i64 x97),.sc (.int .u64 Xq)],.sc (.int .u64 Mt)] [])) (Ae C0 Tryz.prog fu d):=by kernel_rfl
abbrev O9:FuncId:=13
noncomputable def Cr (fu:Nat)(call:Aq)(nn:Nat)(y0:Int):Option A0:=Cw C0 Tryz.prog fu call 13 Tryz.f13 (B5 Tryz.f13) [] [.r,.l,.r,.l] nn ⟨lk [(1,(.sc (.int .i64 y0)))],Gf []⟩
theorem Lh (fu:Nat)(call:Aq)(nn:Nat)(y0:Int):Cr fu call (nn+1) y0=(A4 (decide (y0<=2)) (Aj (call 8 [.sc (.int .i64 1),.sc (.int .i64 1),.sc (.int .i64 y0),.sc (.int .i64 0)]) fun x1 x2=>Ac x2<|Ab x1 fun x3 x4=>C3 x3 fun x5=>Ab x5 fun x6 x7=>Af .i64 x6 fun x8=>Ab x7 fun x9 Cj=>Cn x9 fun Bp=>Ab Cj fun Cz C9=>Iz 1 Cz fun Cq C8 Dh=>Ab C9 fun Dt D6=>Iz 1 Dt fun D1 Ee Fq=>Ab D6 fun Cl Fy=>Iz 1 Cl fun Dn B3 Ew=>Ab Fy fun F4 Bm=>Af .i64 F4 fun Ci=>Ab Bm fun Gx G2=>Iz 1 Gx fun Ib Hz I4=>Ab G2 fun G8 I5=>Cn G8 fun Ls=>Ac I5<|Ab x4 fun F5 Il=>C3 F5 fun Pc=>Ab Pc fun Qi Ke=>Af .u64 Qi fun Kf=>Ab Ke fun Ph Mw=>Af .i64 Ph fun Pi=>Ab Mw fun Ps Qx=>Af .i64 Ps fun Pd=>Ab Qx fun Qk Q3=>Af .i64 Qk fun Q4=>Ab Q3 fun Kx Sk=>Af .u64 Kx fun Qw=>Ab Sk fun Sx Ow=>Iz 1 Sx fun Qu R5 S3=>Ab Ow fun Qm Tw=>Af .i64 Qm fun Vs=>Ab Tw fun Sy Su=>Af .u64 Sy fun Sf=>Ac Su<|Ab Il fun Sa Wo=>Af .u64 Sa fun Tf=>Ac Wo<|Aj (call 20 []) fun Td Th=>Ac Th<|Ab Td fun Vh Uh=>Dp 3 Vh fun Tc So=>Ac Uh<|Ay (decide (0+Tc*3<=List.length So))<|Aj (call 14 [.agg [.sc (.int .i64 x8),.sc (.string Bp),.lst false 1 C8 Dh,.lst false 1 Ee Fq,.lst false 1 B3 Ew,.sc (.int .i64 Ci),.lst false 1 Hz I4,.sc (.string Ls)],.agg [.sc (.int .u64 Kf),.sc (.int .i64 Pi),.sc (.int .i64 Pd),.sc (.int .i64 Q4),.sc (.int .u64 Qw),.lst false 1 R5 S3,.sc (.int .i64 Vs),.sc (.int .u64 Sf)],.sc (.int .u64 Tf),.lst false 3 Tc (List.take (Tc*3) (List.drop 0 So)),.lst false 3 0 [],.sc (.int .i64 5)]) fun Vr Uk=>Ac Uk<|Ab Vr fun V2 Xu=>C3 V2 fun Xa=>Ab Xa fun x81 X3=>Af .i64 x81 fun X4=>Ab X3 fun Xo x85=>Af .i64 Xo fun x86=>Ab x85 fun x87 Ro=>Af .i64 x87 fun Uf=>Ac Ro<|Ab Xu fun Uo x91=>Af .i64 Uo fun x92=>Ac x91<|A4 (y0==2) (A4 (y0==1) (A4 (x92 != 0) (some (A0.mk [.sc (.bool false)] [])) (A4 (!(X4==y0&&(x86==1&&(Uf==0&&true)))) (some (A0.mk [.sc (.bool false)] [])) (Aa (IntKind.wrap .i64 (y0+1)) fun x93=>Cr fu call (nn) x93))) (A4 (x92 != 0) (some (A0.mk [.sc (.bool false)] [])) (A4 (!(X4==y0&&(x86==1&&(Uf==(-1)&&true)))) (some (A0.mk [.sc (.bool false)] [])) (Aa (IntKind.wrap .i64 (y0+1)) fun x94=>Cr fu call (nn) x94)))) (A4 (y0==1) (A4 (x92 != 0) (some (A0.mk [.sc (.bool false)] [])) (A4 (!(X4==y0&&(x86==(-1)&&(Uf==0&&true)))) (some (A0.mk [.sc (.bool false)] [])) (Aa (IntKind.wrap .i64 (y0+1)) fun x95=>Cr fu call (nn) x95))) (A4 (x92 != 0) (some (A0.mk [.sc (.bool false)] [])) (A4 (!(X4==y0&&(x86==(-1)&&(Uf==(-1)&&true)))) (some (A0.mk [.sc (.bool false)] [])) (Aa (IntKind.wrap .i64 (y0+1)) fun x96=>Cr fu call (nn) x96))))) (some (A0.mk [.sc (.bool true)] []))):=by kernel_rfl
theorem Zi (fu d:Nat):Ae C0 Tryz.prog fu (d+1) O9 []=(fun (call:Aq)=>Cr fu call (fu) 0) (Ae C0 Tryz.prog fu d):=by kernel_rfl
end
section
set_option maxRecDepth 1000000
theorem Aih (dom:Int)(l:List Int):isU (Et dom l):=Mc _
theorem A7v (key dom:Int)(l:List Int):isU (A4w key dom l):=Mc _
theorem A2m (leaf chain:Int):∀(k:Nat)(p:Int){x:Int},isU x->isU (Vv leaf chain k p x)
 |0,_,_,h=>h
 |k+1,p,x,h=>A2m leaf chain k (p+1) (Aih _ _)
theorem A7h (seed leaf m:Int):isW (Aa2 seed leaf m):=by
 intro x hx;obtain ⟨k,_,rfl⟩:=List.mem_map.1 hx;exact A2m _ _ _ _ (A7v _ _ _)
theorem Aw3 (seed:Int):∀(l:Nat)(i:Int),isU (Kc seed l i)
 |0,i=>Aih _ _
 |l+1,i=>Aih _ _
theorem Aon (seed h:Int):isU (E1 seed h).root:=by
 unfold E1;split
 ·exact ⟨by simp,by simp⟩
 ·exact Aw3 _ _ _
theorem Anj (seed h:Int):Df (E1 seed h).h=false:=by
 unfold E1;cases hh:Df h
 ·rw [A3 (by simp)]
  exact hh
 ·rw [Bk rfl];rfl
theorem Apz {seed h leaf m:Int}(hh:Df h=false)(ho:Ga leaf h=false):∃s,Amp seed h leaf m=some s∧s.ok∧s.leaf=leaf∧s.chains.length=18∧(s.path.length:Int)=h∧Jj (E1 seed h) m s=0:=by
 have hb:=Gi hh;refine ⟨⟨leaf,Aa2 seed leaf m,(List.range h.toNat).map fun k=>Kc seed k (Xv leaf k)⟩,?_,⟨A7h _ _ _,?_⟩,rfl,by simp [Aa2],?_,A3h hh ho⟩
 ·unfold Amp;rw [A3 (by simp [hh]),A3 (by simp [ho])]
 ·intro x hx;obtain ⟨k,_,rfl⟩:=List.mem_map.1 hx;exact Aw3 _ _ _
 ·simp only [List.length_map,List.length_range];omega
theorem A5i {s:Sg}:(Mv s).length=2+8*s.chains.length+8*s.path.length:=by
 unfold Mv;simp only [H0,Ic,Db];omega
section
variable {fu d:Nat}
theorem A5e {call:Aq}{a0n m0:Nat}{a0:List PV}{b:List Int}{i:Nat}(hi:i<b.length)(hl:b.length<=1000){n:Int}{S B:Nat}(hB:B<=100000)(hL:∀y:ByteArray,y.size<=B->∃s:ByteArray,s.size<=S∧Dd fu call a0n a0 m0 b.length (Ai .u8 b) y ((i+3:Nat):Int)=some ⟨[.sc (.string s)],[]⟩):
  ∀(k nn:Nat) (j:Nat) (y:ByteArray),j+k=4->k<nn->y.size+k<=B->∃s:ByteArray,s.size<=S∧Co fu call a0n a0 m0 nn b.length (Ai .u8 b) y (i:Int) n (j:Int)=some ⟨[.sc (.string s)],[]⟩:=by
 have w3:IntKind.wrap .i64 ((i:Int)+3)=((i+3:Nat):Int):=by rw [Au (by omega) (by omega)];omega
 intro k
 induction k with
 |zero=>
  intro nn j y hj hn hy;obtain ⟨m,rfl⟩:∃m,nn=m+1:=⟨nn-1,by omega⟩
  obtain ⟨s,s1,s2⟩:=hL y (by omega)
  refine ⟨s,s1,?_⟩;rw [←s2,F2]
  try unfold Aa
  repeat first
   |((with_reducible first|apply Ap|apply Ag|apply Am|apply Ah);· first|with_reducible rfl|(simp (disch:=omega) only [w3]<;>with_reducible rfl))
   |((with_reducible first|apply Ao|apply Ak);· first|with_reducible rfl|omega|(simp (disch:=omega) only [gT,w3]<;>omega))
   |(with_reducible apply Al;· first|with_reducible rfl|(simp (disch:=omega) only [gF,w3]<;>omega))
  try simp (disch:=omega) only [w3]
  all_goals rfl
 |succ k ih=>
  intro nn j y hj hn hy;obtain ⟨m,rfl⟩:∃m,nn=m+1:=⟨nn-1,by omega⟩
  have w4:IntKind.wrap .i64 ((b.length:Int)-(i:Int))=(b.length:Int)-i:=Au (by omega) (by omega)
  by_cases hjj:(j:Int)<=(b.length:Int)-i
  rotate_left
  ·obtain ⟨s,s1,s2⟩:=hL y (by omega)
   refine ⟨s,s1,?_⟩;rw [←s2,F2]
   try unfold Aa
   repeat first
    |((with_reducible first|apply Ap|apply Ag|apply Am|apply Ah);· first|with_reducible rfl|(simp (disch:=omega) only [w3,w4]<;>with_reducible rfl))
    |((with_reducible first|apply Ao|apply Ak);· first|with_reducible rfl|omega|(simp (disch:=omega) only [gT,w3,w4]<;>omega))
    |(with_reducible apply Al;· first|with_reducible rfl|(simp (disch:=omega) only [gF,w3,w4]<;>omega))
   try simp (disch:=omega) only [w3,w4]
   all_goals rfl
  have u1:IntKind.wrap .u64 (j:Int)=j:=B7 (by omega) (by omega)
  have u2:IntKind.wrap .u64 (6*(j:Int))=6*j:=B7 (by omega) (by omega)
  have u3:IntKind.wrap .u64 (18-6*(j:Int))=18-6*j:=B7 (by omega) (by omega)
  have ib:=A0o (a:=El .u64 n (18-6*(j:Int))) (m:=63) (by omega) (by omega)
  obtain ⟨v,hv⟩:∃v,Ez .u64 (El .u64 n (18-6*(j:Int))) 63=v:=⟨_,rfl⟩;rw [hv] at ib;have u4:IntKind.wrap .u64 (v+1)=v+1:=B7 (by omega) (by omega)
  have w1:IntKind.wrap .i64 ((j:Int)+1)=((j+1:Nat):Int):=by rw [Au (by omega) (by omega)];omega
  have ez:∀A:ByteArray,(A.extract v.toNat (v+1).toNat).size<=1:=by
   intro A;rw [ByteArray.size_extract];omega
  obtain ⟨q,hq⟩:∃q:List UInt8,q=[(65:UInt8),(66:UInt8),(67:UInt8),(68:UInt8),(69:UInt8),(70:UInt8),(71:UInt8),(72:UInt8),(73:UInt8),(74:UInt8),(75:UInt8),(76:UInt8),(77:UInt8),(78:UInt8),(79:UInt8),(80:UInt8),(81:UInt8),(82:UInt8),(83:UInt8),(84:UInt8),(85:UInt8),(86:UInt8),(87:UInt8),(88:UInt8),(89:UInt8),(90:UInt8),(97:UInt8),(98:UInt8),(99:UInt8),(100:UInt8),(101:UInt8),(102:UInt8),(103:UInt8),(104:UInt8),(105:UInt8),(106:UInt8),(107:UInt8),(108:UInt8),(109:UInt8),(110:UInt8),(111:UInt8),(112:UInt8),(113:UInt8),(114:UInt8),(115:UInt8),(116:UInt8),(117:UInt8),(118:UInt8),(119:UInt8),(120:UInt8),(121:UInt8),(122:UInt8),(48:UInt8),(49:UInt8),(50:UInt8),(51:UInt8),(52:UInt8),(53:UInt8),(54:UInt8),(55:UInt8),(56:UInt8),(57:UInt8),(45:UInt8),(95:UInt8)]:=⟨_,rfl⟩;have ez1:=ez (ByteArray.mk q.toArray)
  obtain ⟨s,s1,s2⟩:=ih m (j+1) (y++(ByteArray.mk q.toArray).extract v.toNat (v+1).toNat) (by omega) (by omega) (by rw [ByteArray.size_append];omega)
  refine ⟨s,s1,?_⟩;rw [←s2,F2,←hq]
  try unfold Aa
  repeat first
   |((with_reducible first|apply Ap|apply Ag|apply Am|apply Ah);· first|with_reducible rfl|(simp (disch:=omega) only [w4,u1,u2,u3,hv,u4,w1]<;>with_reducible rfl))
   |((with_reducible first|apply Ao|apply Ak);· first|with_reducible rfl|omega|(simp (disch:=omega) only [gT,w4,u1,u2,u3,hv,u4,w1]<;>omega))
   |(with_reducible apply Al;· first|with_reducible rfl|(simp (disch:=omega) only [gF,w4,u1,u2,u3,hv,u4,w1]<;>omega))
  try simp (disch:=omega) only [w4,u1,u2,u3,hv,u4,w1]
  all_goals rfl
theorem Aye {call:Aq}{a0n:Nat}{a0:List PV}{b:List Int}(hfu:1000<=fu)(hl:b.length<=300):∀(k nn i:Nat)(y:ByteArray),b.length<=i+3*k->k<nn->i<=b.length+3->y.size+4*k<=10000->∃s:ByteArray,s.size<=y.size+4*k∧Dd fu call a0n a0 nn b.length (Ai .u8 b) y (i:Int)=some ⟨[.sc (.string s)],[]⟩:=by
 intro k
 induction k with
 |zero=>
  intro nn i y h1 h2 h3 h4;obtain ⟨m,rfl⟩:∃m,nn=m+1:=⟨nn-1,by omega⟩
  refine ⟨y,by omega,?_⟩
  rw [F0,Dj _ _ _ (by omega)]
 |succ k ih=>
  intro nn i y h1 h2 h3 h4;obtain ⟨m,rfl⟩:∃m,nn=m+1:=⟨nn-1,by omega⟩
  by_cases hi:i<b.length
  rotate_left
  ·refine ⟨y,by omega,?_⟩
   rw [F0,Dj _ _ _ (by omega)]
  obtain ⟨x,hx⟩:∃x,b[i]?=some x:=⟨_,List.getElem?_eq_getElem hi⟩;have g0:=Qz (k:=.u8) hx;have nt:Int.toNat (i:Int)=i:=G6 _;have nt1:Int.toNat ((i+1:Nat):Int)=i+1:=G6 _;have nt2:Int.toNat ((i+2:Nat):Int)=i+2:=G6 _;have w1:IntKind.wrap .i64 ((i:Int)+1)=((i+1:Nat):Int):=by rw [Au (by omega) (by omega)];omega
  have w2:IntKind.wrap .i64 ((i:Int)+2)=((i+2:Nat):Int):=by rw [Au (by omega) (by omega)];omega
  have inn:∀n:Int,∃s:ByteArray,s.size<=y.size+4*(k+1)∧Co fu call a0n a0 m fu b.length (Ai .u8 b) y (i:Int) n 0=some ⟨[.sc (.string s)],[]⟩:=by
   intro n;refine A5e (S:=y.size+4*(k+1)) (B:=y.size+4) (m0:=m) hi (by omega) (by omega) (fun z hz=>?_) 4 fu 0 y (by omega) (by omega) (by omega)
   obtain ⟨s,s1,s2⟩:=ih m (i+3) z (by omega) (by omega) (by omega) (by omega)
   exact ⟨s,by omega,s2⟩
  rw [F0];by_cases h1':i+1<b.length
  ·obtain ⟨x1,hx1⟩:∃x,b[i+1]?=some x:=⟨_,List.getElem?_eq_getElem h1'⟩;have g1:=Qz (k:=.u8) hx1;by_cases h2':i+2<b.length
   ·obtain ⟨x2,hx2⟩:∃x,b[i+2]?=some x:=⟨_,List.getElem?_eq_getElem h2'⟩;have g2:=Qz (k:=.u8) hx2;obtain ⟨s,s1,s2⟩:=inn (Xz .u64 (Xz .u64 (Fk .u64 (IntKind.wrap .u64 x) 16) (Fk .u64 (IntKind.wrap .u64 x1) 8)) (IntKind.wrap .u64 x2));refine ⟨s,s1,?_⟩;rw [←s2]
    try unfold Aa
    repeat first
     |((with_reducible first|apply Ap|apply Ag|apply Am|apply Ah);· first|with_reducible rfl|(simp (disch:=omega) only [nt,nt1,nt2,w1,w2,Bl,g0,g1,g2]<;>with_reducible rfl))
     |((with_reducible first|apply Ao|apply Ak);· first|with_reducible rfl|omega|(simp (disch:=omega) only [gT,nt,nt1,nt2,w1,w2,Bl,g0,g1,g2]<;>omega))
     |(with_reducible apply Al;· first|with_reducible rfl|(simp (disch:=omega) only [gF,nt,nt1,nt2,w1,w2,Bl,g0,g1,g2]<;>omega))
    try simp (disch:=omega) only [nt,nt1,nt2,w1,w2,Bl,g0,g1,g2]
    all_goals rfl
   ·obtain ⟨s,s1,s2⟩:=inn (Xz .u64 (Fk .u64 (IntKind.wrap .u64 x) 16) (Fk .u64 (IntKind.wrap .u64 x1) 8));refine ⟨s,s1,?_⟩;rw [←s2]
    try unfold Aa
    repeat first
     |((with_reducible first|apply Ap|apply Ag|apply Am|apply Ah);· first|with_reducible rfl|(simp (disch:=omega) only [nt,nt1,nt2,w1,w2,Bl,g0,g1]<;>with_reducible rfl))
     |((with_reducible first|apply Ao|apply Ak);· first|with_reducible rfl|omega|(simp (disch:=omega) only [gT,nt,nt1,nt2,w1,w2,Bl,g0,g1]<;>omega))
     |(with_reducible apply Al;· first|with_reducible rfl|(simp (disch:=omega) only [gF,nt,nt1,nt2,w1,w2,Bl,g0,g1]<;>omega))
    try simp (disch:=omega) only [nt,nt1,nt2,w1,w2,Bl,g0,g1]
    all_goals rfl
  ·obtain ⟨s,s1,s2⟩:=inn (Fk .u64 (IntKind.wrap .u64 x) 16);refine ⟨s,s1,?_⟩;rw [←s2]
   try unfold Aa
   repeat first
    |((with_reducible first|apply Ap|apply Ag|apply Am|apply Ah);· first|with_reducible rfl|(simp (disch:=omega) only [nt,nt1,nt2,w1,w2,Bl,g0]<;>with_reducible rfl))
    |((with_reducible first|apply Ao|apply Ak);· first|with_reducible rfl|omega|(simp (disch:=omega) only [gT,nt,nt1,nt2,w1,w2,Bl,g0]<;>omega))
    |(with_reducible apply Al;· first|with_reducible rfl|(simp (disch:=omega) only [gF,nt,nt1,nt2,w1,w2,Bl,g0]<;>omega))
   try simp (disch:=omega) only [nt,nt1,nt2,w1,w2,Bl,g0]
   all_goals rfl
theorem A5v (hfu:1000<=fu){b:List Int}(hl:b.length<=64):∃s:ByteArray,s.size<=400∧Ae C0 Tryz.prog fu (d+1) Js [.lst false 1 b.length (Ai .u8 b)]=some ⟨[.sc (.string s)],[]⟩:=by
 obtain ⟨s,s1,s2⟩:=Aye (fu:=fu) (call:=Ae C0 Tryz.prog fu d) (a0n:=b.length) (a0:=Ai .u8 b) (b:=b) hfu (by omega) 100 fu 0 ⟨#[]⟩ (by omega) (by omega) (by omega) (by decide)
 refine ⟨s,?_,?_⟩
 ·have:(ByteArray.mk #[]).size=0:=rfl;omega
 ·rw [Sr];exact s2
end
end
section
set_option maxRecDepth 1000000
abbrev A10:ByteArray:=⟨#[(104:UInt8),(116:UInt8),(116:UInt8),(112:UInt8),(115:UInt8),(58:UInt8),(47:UInt8),(47:UInt8),(101:UInt8),(120:UInt8),(97:UInt8),(109:UInt8),(112:UInt8),(108:UInt8),(101:UInt8),(46:UInt8),(99:UInt8),(111:UInt8),(109:UInt8)]⟩
abbrev Ao0:ByteArray:=⟨#[(101:UInt8),(120:UInt8),(97:UInt8),(109:UInt8),(112:UInt8),(108:UInt8),(101:UInt8),(46:UInt8),(99:UInt8),(111:UInt8),(109:UInt8)]⟩
theorem A29 (l:List UInt8):(ByteArray.mk (List.toArray l)).size=l.length:=by exact id rfl
section
variable {d:Nat}
theorem Ayh:Ae C0 Tryz.prog 2000 (d+5) Rg [.sc (.string A10)]=some ⟨[.agg [.sc (.bool true),.sc (.string Ao0),.sc (.int .i64 443)],.sc (.int .i64 0)],[]⟩:=by kernel_rfl
theorem Ayk {b:List Int}(h1:1<=b.length)(h2:b.length<=64):∃t:ByteArray,t.size<=600∧Ae C0 Tryz.prog 2000 (d+6) Jp [.agg [.sc (.int .i64 1),.lst false 1 b.length (Ai .u8 b),.sc (.string A10),.sc (.bool false),.sc (.string C2)]]=some ⟨[.sc (.string t),.sc (.int .i64 0)],[]⟩:=by
 obtain ⟨s,s1,s2⟩:=A5v (fu:=2000) (d:=d+4) (by omega) (b:=b) h2
 have po:=Ayh (d:=d)
 have ty:Ae C0 Tryz.prog 2000 (d+5) Nf [.sc (.int .i64 1)]=some ⟨[.sc (.string ⟨#[(112:UInt8),(97:UInt8),(115:UInt8),(115:UInt8),(107:UInt8),(101:UInt8),(121:UInt8),(46:UInt8),(99:UInt8),(114:UInt8),(101:UInt8),(97:UInt8),(116:UInt8),(101:UInt8)]⟩)],[]⟩:=by
  rw [Xl];rfl
 have e00:((0:Int) != 0)=false:=rfl;have ze:(Array.toList (ByteArray.data (ByteArray.mk #[]))==Array.toList (ByteArray.data (ByteArray.mk #[])))=true:=rfl;have zt:(Array.toList (ByteArray.data (ByteArray.mk #[(112:UInt8),(97:UInt8),(115:UInt8),(115:UInt8),(107:UInt8),(101:UInt8),(121:UInt8),(46:UInt8),(99:UInt8),(114:UInt8),(101:UInt8),(97:UInt8),(116:UInt8),(101:UInt8)]))==Array.toList (ByteArray.data (ByteArray.mk #[])))=false:=rfl;apply Exists.intro;apply And.intro
 rotate_left
 ·refine (Si 2000 (d+5) 1 b.length (Ai .u8 b) A10 false C2).trans ?_
  try unfold Aa
  repeat first
   |((with_reducible first|apply Ap|apply Ag|apply Am|apply Ar|apply Ax|apply A6|apply Ah);· first|with_reducible rfl|(simp (disch:=omega) only [ty,zt,po,e00,s2,ByteArray.size_append,A29,H0,X2,Nat.reduceAdd,ze,Bn,Br]<;>with_reducible rfl))
   |((with_reducible first|apply Ao|apply Ak);· first|with_reducible rfl|omega|(simp (disch:=omega) only [gT,ty,zt,po,e00,s2,ByteArray.size_append,A29,H0,X2,Nat.reduceAdd,ze,Bn,Br]<;>omega))
   |(with_reducible apply Al;· first|with_reducible rfl|(simp (disch:=omega) only [gF,ty,zt,po,e00,s2,ByteArray.size_append,A29,H0,X2,Nat.reduceAdd,ze,Bn,Br]<;>omega))
  try simp (disch:=omega) only [ty,zt,po,e00,s2,ByteArray.size_append,A29,H0,X2,Nat.reduceAdd,ze,Bn,Br]
  all_goals rfl
 ·simp only [ByteArray.size_append,A29,H0,X2,Nat.reduceAdd];omega
end
end
section
set_option maxRecDepth 1000000
abbrev A8h:ByteArray:=⟨#[(98:UInt8),(97:UInt8),(116:UInt8),(99:UInt8),(104:UInt8)]⟩
abbrev Aka:ByteArray:=⟨#[(114:UInt8),(111:UInt8),(111:UInt8),(116:UInt8)]⟩
def M5:Ce:=⟨A8h,Aka,1,E1 33 4,0,900,false,0,3,⟨0,[],[]⟩⟩
theorem Alh:Be M5=0:=by
 unfold Be;have h1:M5.subj.size=5:=rfl;have h2:M5.iss.size=4:=rfl;have h3:okS M5.subj=true:=by decide
 have h4:okS M5.iss=true:=by decide
 have h5:Df M5.key.h=false:=Anj 33 4;have h6:M5.fr=0:=rfl;have h7:M5.un=900:=rfl;have h8:M5.path=0:=rfl;rw [h1,h2,h3,h4,h5,h6,h7,h8];simp
theorem Aw0:∃s,Amp 32 1 0 (Rj M5)=some s∧s.ok∧s.leaf=0∧s.chains.length=18∧(s.path.length:Int)=1∧Jj (E1 32 1) (Rj M5) s=0:=Apz (by decide) (by decide)
noncomputable def Amg:Sg:=Classical.choose Aw0
theorem Aac:Amp 32 1 0 (Rj M5)=some Amg∧Amg.ok∧Amg.leaf=0∧Amg.chains.length=18∧(Amg.path.length:Int)=1∧Jj (E1 32 1) (Rj M5) Amg=0:=Classical.choose_spec Aw0
noncomputable def cB:Ce:={ M5 with sig:=Amg }
theorem A26:cB.ok:=⟨by decide,by decide,Aon 33 4,Aac.2.1⟩
theorem Apg:Be cB=0:=Alh
theorem Aqv:Dv cB=0:=by
 obtain ⟨_,_,h3,h4,h5,_⟩:=Aac;unfold Dv;rw [Apg,Bk rfl];show Af5 Amg=0;unfold Af5;rw [h5,h3,A3 (by decide),A3 (by decide),A3 (by omega)]
noncomputable def Ub:List Int:=Es cB
theorem A30:Gn Ub:=At4 A26.wf Aqv
theorem Auk:Ub.length<=400:=Aes Aqv
theorem Ard:Jy Ub=(cB,0):=Akf A26 Aqv
section
variable {fu d:Nat}
theorem A1a (hfu:1000<=fu):Ae C0 Tryz.prog fu (d+14) P2 []=some ⟨[.own 1 1 [Sq Ub]],[]⟩:=by
 rw [Aal];have k:=Aqy (fu:=fu) (d:=d) hfu 33 4;have sg:=Ayj (fu:=fu) (d:=d) (c:=M5) hfu ⟨by decide,by decide⟩ (by decide) (by decide) 32 1 0
 have es:Ar0 M5 32 1 0=(cB,0):=by
  unfold Ar0;rw [Bk Alh,Aac.1];rfl
 rw [es] at sg;have en:=Awq (fu:=fu) (d:=d+7) (c:=cB) hfu A26.wf (by show A8h.size<=_;decide) (by show Aka.size<=_;decide) (by have:=Aac.2.2.2.2.1;show Amg.path.length<=_;omega)
 unfold Ab1 at en;rw [Aqv,Bk rfl] at en;have L:=As .u8 (Es cB);have t:=G4 .u8 (Es cB);show _=some (A0.mk [.own 1 1 [Sq (Es cB)]] []);have c0:M5.cells=[.sc (.string A8h),.sc (.string Aka),.sc (.int .u64 1),.sc (.int .i64 (E1 33 4).h),.sc (.int .u64 (E1 33 4).root),.sc (.int .i64 0),.sc (.int .i64 900),.sc (.bool false),.sc (.int .i64 0),.sc (.int .u64 3),.sc (.int .i64 0),.lst false 1 0 [],.lst false 1 0 []]:=rfl;rw [c0] at sg;simp only [Ce.cells,Ky.cells] at k sg en;generalize Es cB=E at *
 generalize cB=C at *
 generalize E1 33 4=K at *
 try unfold Aa
 repeat first
  |((with_reducible first|apply Ap|apply Ag|apply Am|apply Ar|apply Ax|apply Az|apply Bh|apply A6|apply Ah);· first|with_reducible rfl|(simp (disch:=omega) only [k,sg,en,Cm,B4,Bl,L,t]<;>with_reducible rfl))
  |((with_reducible first|apply Ao|apply Ak);· first|with_reducible rfl|omega|(simp (disch:=omega) only [gT,k,sg,en,Cm,B4,Bl,L,t]<;>omega))
  |(with_reducible apply Al;· first|with_reducible rfl|(simp (disch:=omega) only [gF,k,sg,en,Cm,B4,Bl,L,t]<;>omega))
 try simp (disch:=omega) only [k,sg,en,Cm,B4,Bl,L,t]
 all_goals rfl
structure Ax3 (sd hh fm lf:Int) (r:Rp) (a:Ad):Prop where
 ok:r.ok
 good:a.good
 ad:r.ad=X1 a
 cd:r.cd.size<=600
 fmt:r.fmt=fm
 key:a.key=E1 sd hh
 model:a.model=3
 sgl:r.sg.length<=300
 cl:r.certs.length<=1
 cb:∀b∈r.certs,b.length<=400
 kind:r.kind=1
 idB:Gn r.id_
 idl:r.id_.length=176
 user:r.user=C2
 f0:fm=0->r.sg=[]∧r.certs=[]
 f1:fm=1->r.certs=[]∧∃s,r.sg=Mv s∧sgD r.sg=some s∧s.leaf=0∧Jj (E1 sd hh) (Wr r.ad (Et 11 (Bz r.cd))) s=0
 f2:fm=2->r.certs=[Ub]∧∃s,r.sg=Mv s∧sgD r.sg=some s∧s.leaf=lf∧Jj (E1 33 4) (Wr r.ad (Et 11 (Bz r.cd))) s=0
theorem As2 {s:Sg}(hs:s.ok)(h1:Df s.path.length=false)(h2:Ga s.leaf s.path.length=false)(h3:s.chains.length=18):Gn (Mv s)∧(Mv s).length<=300∧sgD (Mv s)=some s:=by
 have hb:=Gi h1;refine ⟨A6d s,?_,Axa hs h1 h2 h3⟩;rw [A5i];omega
theorem A73 {seed h:Int}(hh:Df h=false)(ho:Ga 0 h=false){id_ ch:List Int}(hib:Gn id_)(hil:id_.length=176)(hcl:ch.length=16)(sh vf:Bool){fmt leaf:Int}(hf:fmt=0∨fmt=1∨fmt=2)(l0:0<=leaf)(l1:leaf<=15):
  ∃r a,Ax3 seed h fmt leaf r a∧Ae C0 Tryz.prog 2000 (d+15) I1 [.agg [.sc (.int .u64 seed),.sc (.int .i64 h),Sq id_,.sc (.bool sh)],.sc (.string Ao0),.sc (.string A10),.lst false 1 16 (Ai .u8 ch),.sc (.int .i64 fmt),.sc (.bool vf),.sc (.int .i64 leaf)]=some ⟨[.agg r.cells],[]⟩:=by
 obtain ⟨t,t1,t2⟩:=Ayk (d:=d+8) (b:=ch) (by omega) (by omega)
 rw [hcl] at t2;have rp:=Ays (fu:=2000) (d:=d+9) (s:=Ao0) (by decide) (by omega)
 have hd:=Ahm (fu:=2000) (d:=d+9) (s:=t) (by omega) (by omega)
 have fl:=A2a (fu:=2000) (d:=d+13) seed h id_ sh vf;have ky:=Aqy (fu:=2000) (d:=d+1) (by omega) seed h
 rw [hil] at fl
 have fe:Xz .i64 (Afv sh vf) 64=77∨Xz .i64 (Afv sh vf) 64=69∨Xz .i64 (Afv sh vf) 64=73∨Xz .i64 (Afv sh vf) 64=65:=by
  cases sh<;>cases vf
  ·exact .inr (.inr (.inr (by decide)))
  ·exact .inr (.inl (by decide))
  ·exact .inr (.inr (.inl (by decide)))
  ·exact .inl (by decide)
 obtain ⟨F,hF⟩:∃F,Xz .i64 (Afv sh vf) 64=F:=⟨_,rfl⟩;rw [hF] at fe;obtain ⟨P,hP⟩:∃P,Et 9 (Bz Ao0)=P:=⟨_,rfl⟩;have hPU:=Aih 9 (Bz Ao0);rw [hP] at rp hPU;have hKr:=Aon seed h;have hKh:=Anj seed h;have good:∀cnt:Int,cnt=0∨cnt=1->(Ad.mk P F cnt 0 3 id_ (E1 seed h)).good:=fun cnt hc=>⟨hPU,fe,hc,rfl,(⟨by decide,by decide⟩:isU 3),hib,hil,hKh,hKr⟩
 have enc:=fun (cnt:Int) (hc:cnt=0∨cnt=1)=>Avr (fu:=2000) (d:=d+10) (by omega) (good cnt hc)
 have LA:=fun (cnt:Int) (hc:cnt=0∨cnt=1)=>Axb (good cnt hc)
 have BA:=fun (cnt:Int) (hc:cnt=0∨cnt=1)=>A6v (good cnt hc)
 have msg:=fun (cnt:Int) (hc:cnt=0∨cnt=1)=>Ali (fu:=2000) (d:=d+9) (BA cnt hc) (by rw [LA cnt hc];omega) (by omega) (Et 11 (Bz t))
 simp only [Ad.cells,Sq,Ky.cells] at enc ky fl;simp only [hil] at enc;have s9:(9:Int)=9:=rfl;have oA:=fun (fm:Int) (cnt:Int) (hc:cnt=0∨cnt=1)=>(Qp 2000 (d+14) seed h id_.length (Ai .u8 id_) sh Ao0 A10 16 (Ai .u8 ch) fm vf leaf)
 simp only [hil] at oA;rcases hf with rfl|rfl|rfl
 ·refine ⟨⟨1,t,X1 ⟨P,F,0,0,3,id_,E1 seed h⟩,[],[],0,id_,C2⟩,⟨P,F,0,0,3,id_,E1 seed h⟩,⟨⟨(by intro x hx;cases hx),(by simp),(by intro b hb;cases hb)⟩,good 0 (.inl rfl),rfl,(by simp only;omega),rfl,rfl,rfl,(by simp),(by simp),(by intro b hb;cases hb),rfl,hib,hil,rfl,(fun _=>⟨rfl,rfl⟩),(fun hx=>by omega),(fun hx=>by omega)⟩,?_⟩
  have en:=enc 0 (.inl rfl);have ms:=msg 0 (.inl rfl);rw [LA 0 (.inl rfl)] at ms;have L:=As .u8 (X1 ⟨P,F,0,0,3,id_,E1 seed h⟩);have tk:=G4 .u8 (X1 ⟨P,F,0,0,3,id_,E1 seed h⟩);rw [LA 0 (.inl rfl)] at L tk;simp only [Rp.cells,Sq,LA 0 (.inl rfl),hil];refine (oA 0 0 (.inl rfl)).trans ?_;generalize X1 ⟨P,F,0,0,3,id_,E1 seed h⟩=A at *
  generalize E1 seed h=K at *
  try unfold Aa
  repeat first
   |((with_reducible first|apply Ap|apply Ag|apply Am|apply Ar|apply Ax|apply Az|apply Bh|apply A6|apply Ah);· first|with_reducible rfl|(simp (disch:=omega) only [t2,rp,fl,hF,ky,Int.reduceBEq,en,hd,Cm,B4,Bl,Nat.reduceMul,L,tk,ms]<;>with_reducible rfl))
   |((with_reducible first|apply Ao|apply Ak);· first|with_reducible rfl|omega|(simp (disch:=omega) only [gT,t2,rp,fl,hF,ky,Int.reduceBEq,en,hd,Cm,B4,Bl,Nat.reduceMul,L,tk,ms]<;>omega))
   |(with_reducible apply Al;· first|with_reducible rfl|(simp (disch:=omega) only [gF,t2,rp,fl,hF,ky,Int.reduceBEq,en,hd,Cm,B4,Bl,Nat.reduceMul,L,tk,ms]<;>omega))
  try simp (disch:=omega) only [t2,rp,fl,hF,ky,Int.reduceBEq,en,hd,Cm,B4,Bl,Nat.reduceMul,L,tk,ms]
  all_goals rfl
 ·obtain ⟨s,s1,s2,s3,s4,s5,s6⟩:=Apz (seed:=seed) (h:=h) (leaf:=0) (m:=Wr (X1 ⟨P,F,1,0,3,id_,E1 seed h⟩) (Et 11 (Bz t))) hh ho;have p1:Df s.path.length=false:=by rw [s5];exact hh
  have p2:Ga s.leaf s.path.length=false:=by rw [s5,s3];exact ho
  obtain ⟨g1,g2,g3⟩:=As2 s2 p1 p2 s4;refine ⟨⟨1,t,X1 ⟨P,F,1,0,3,id_,E1 seed h⟩,Mv s,[],1,id_,C2⟩,⟨P,F,1,0,3,id_,E1 seed h⟩,⟨⟨g1,(by simp only;omega),(by intro b hb;cases hb)⟩,good 1 (.inr rfl),rfl,(by simp only;omega),rfl,rfl,rfl,g2,(by simp),(by intro b hb;cases hb),rfl,hib,hil,rfl,(fun hx=>by omega),(fun _=>⟨rfl,s,rfl,g3,s3,s6⟩),(fun hx=>by omega)⟩,?_⟩
  have en:=enc 1 (.inr rfl);have ms:=msg 1 (.inr rfl);rw [LA 1 (.inr rfl)] at ms;have L:=As .u8 (X1 ⟨P,F,1,0,3,id_,E1 seed h⟩);have tk:=G4 .u8 (X1 ⟨P,F,1,0,3,id_,E1 seed h⟩);rw [LA 1 (.inr rfl)] at L tk;have sg:=Ajh (fu:=2000) (d:=d+2) (by omega) seed h 0 (Wr (X1 ⟨P,F,1,0,3,id_,E1 seed h⟩) (Et 11 (Bz t)))
  rw [s1] at sg;simp only [Aed,Sg.owned] at sg;have es:=Acr (fu:=2000) (d:=d+12) (by omega) s (by have:=Gi p1;omega)
  rw [p1,p2,s4,A3 (by simp),A3 (by simp),A3 (by simp)] at es
  simp only [Sg.cells,s4] at es sg;have L1:=As .u64 s.chains;have L2:=As .u64 s.path;have t1':=G4 .u64 s.chains;have t2':=G4 .u64 s.path;rw [s4] at L1 t1';have L3:=As .u8 (Mv s);have t3:=G4 .u8 (Mv s);simp only [Rp.cells,Sq,LA 1 (.inr rfl),hil];refine (oA 1 1 (.inr rfl)).trans ?_;clear g1 g2 g3 s6 s1;generalize Wr (X1 ⟨P,F,1,0,3,id_,E1 seed h⟩) (Et 11 (Bz t))=M at *
  generalize X1 ⟨P,F,1,0,3,id_,E1 seed h⟩=A at *
  generalize E1 seed h=K at *
  generalize Mv s=G at *
  try unfold Aa
  repeat first
   |((with_reducible first|apply Ap|apply Ag|apply Am|apply Ar|apply Ax|apply Az|apply Bh|apply A6|apply Ah);· first|with_reducible rfl|(simp (disch:=omega) only [t2,rp,fl,hF,ky,Int.reduceBEq,en,hd,Cm,B4,Bl,Nat.reduceMul,L,tk,ms,sg,L1,L2,t1',t2',es,L3,t3]<;>with_reducible rfl))
   |((with_reducible first|apply Ao|apply Ak);· first|with_reducible rfl|omega|(simp (disch:=omega) only [gT,t2,rp,fl,hF,ky,Int.reduceBEq,en,hd,Cm,B4,Bl,Nat.reduceMul,L,tk,ms,sg,L1,L2,t1',t2',es,L3,t3]<;>omega))
   |(with_reducible apply Al;· first|with_reducible rfl|(simp (disch:=omega) only [gF,t2,rp,fl,hF,ky,Int.reduceBEq,en,hd,Cm,B4,Bl,Nat.reduceMul,L,tk,ms,sg,L1,L2,t1',t2',es,L3,t3]<;>omega))
  try simp (disch:=omega) only [t2,rp,fl,hF,ky,Int.reduceBEq,en,hd,Cm,B4,Bl,Nat.reduceMul,L,tk,ms,sg,L1,L2,t1',t2',es,L3,t3]
  all_goals rfl
 ·have ho4:Ga leaf 4=false:=by
   unfold Ga;have:Fk .i64 1 4=16:=by decide
   rw [this];simp;omega
  obtain ⟨s,s1,s2,s3,s4,s5,s6⟩:=Apz (seed:=33) (h:=4) (leaf:=leaf) (m:=Wr (X1 ⟨P,F,0,0,3,id_,E1 seed h⟩) (Et 11 (Bz t))) (by decide) ho4
  have p1:Df s.path.length=false:=by rw [s5];decide
  have p2:Ga s.leaf s.path.length=false:=by rw [s5,s3];exact ho4
  obtain ⟨g1,g2,g3⟩:=As2 s2 p1 p2 s4;have clen:=Auk;refine ⟨⟨1,t,X1 ⟨P,F,0,0,3,id_,E1 seed h⟩,Mv s,[Ub],2,id_,C2⟩,⟨P,F,0,0,3,id_,E1 seed h⟩,⟨⟨g1,(by simp only;omega),(by intro b hb;simp at hb;subst hb;exact ⟨A30,by omega⟩)⟩,good 0 (.inl rfl),rfl,(by simp only;omega),rfl,rfl,rfl,g2,(by simp),(by intro b hb;simp at hb;subst hb;exact clen),rfl,hib,hil,rfl,(fun hx=>by omega),(fun hx=>by omega),(fun _=>⟨rfl,s,rfl,g3,s3,s6⟩)⟩,?_⟩
  have en:=enc 0 (.inl rfl);have ms:=msg 0 (.inl rfl);rw [LA 0 (.inl rfl)] at ms;have L:=As .u8 (X1 ⟨P,F,0,0,3,id_,E1 seed h⟩);have tk:=G4 .u8 (X1 ⟨P,F,0,0,3,id_,E1 seed h⟩);rw [LA 0 (.inl rfl)] at L tk;have sg:=Ajh (fu:=2000) (d:=d+2) (by omega) 33 4 leaf (Wr (X1 ⟨P,F,0,0,3,id_,E1 seed h⟩) (Et 11 (Bz t)))
  rw [s1] at sg;simp only [Aed,Sg.owned] at sg;have es:=Acr (fu:=2000) (d:=d+12) (by omega) s (by have:=Gi p1;omega)
  rw [p1,p2,s4,A3 (by simp),A3 (by simp),A3 (by simp)] at es
  simp only [Sg.cells,s4] at es sg;have L1:=As .u64 s.chains;have L2:=As .u64 s.path;have t1':=G4 .u64 s.chains;have t2':=G4 .u64 s.path;rw [s4] at L1 t1';have L3:=As .u8 (Mv s);have t3:=G4 .u8 (Mv s);have ch':=A1a (fu:=2000) (d:=d) (by omega)
  have eb:Vf [Ub]=[Sq Ub]:=rfl;simp only [Rp.cells,LA 0 (.inl rfl),hil,eb];simp only [Sq,LA 0 (.inl rfl),hil];refine (oA 2 0 (.inl rfl)).trans ?_;clear g1 g2 g3 s6 s1;generalize Wr (X1 ⟨P,F,0,0,3,id_,E1 seed h⟩) (Et 11 (Bz t))=M at *
  generalize X1 ⟨P,F,0,0,3,id_,E1 seed h⟩=A at *
  generalize E1 seed h=K at *
  generalize Mv s=G at *
  generalize Ub=CB at *
  have tc:List.take 1 [PV.lst false 1 CB.length (Ai .u8 CB)]=[PV.lst false 1 CB.length (Ai .u8 CB)]:=rfl;have lc:[PV.lst false 1 CB.length (Ai .u8 CB)].length=1:=rfl
  try unfold Aa
  repeat first
   |((with_reducible first|apply Ap|apply Ag|apply Am|apply Ar|apply Ax|apply Az|apply Bh|apply A6|apply Ah);· first|with_reducible rfl|(simp (disch:=omega) only [t2,rp,fl,hF,ky,Int.reduceBEq,en,hd,Cm,B4,Bl,Nat.reduceMul,L,tk,ms,sg,L1,L2,t1',t2',es,L3,t3,ch',lc,tc]<;>with_reducible rfl))
   |((with_reducible first|apply Ao|apply Ak);· first|with_reducible rfl|omega|(simp (disch:=omega) only [gT,t2,rp,fl,hF,ky,Int.reduceBEq,en,hd,Cm,B4,Bl,Nat.reduceMul,L,tk,ms,sg,L1,L2,t1',t2',es,L3,t3,ch',lc,tc]<;>omega))
   |(with_reducible apply Al;· first|with_reducible rfl|(simp (disch:=omega) only [gF,t2,rp,fl,hF,ky,Int.reduceBEq,en,hd,Cm,B4,Bl,Nat.reduceMul,L,tk,ms,sg,L1,L2,t1',t2',es,L3,t3,ch',lc,tc]<;>omega))
  try simp (disch:=omega) only [t2,rp,fl,hF,ky,Int.reduceBEq,en,hd,Cm,B4,Bl,Nat.reduceMul,L,tk,ms,sg,L1,L2,t1',t2',es,L3,t3,ch',lc,tc]
  all_goals rfl
end
end
section
set_option maxRecDepth 1000000
theorem A7u:Pn 9 0=13207923356878440101:=by kernel_rfl
theorem A8a:Pn 9 1=15907844771915319014:=by kernel_rfl
theorem A5u:Pn 32 0=10501167752601797684:=by kernel_rfl
theorem A53:Pn 32 1=17170201293266426176:=by kernel_rfl
theorem A4o:(E1 9 1).root≠(E1 32 1).root:=by
 have h:Df 1=false:=by decide
 have e:∀s:Int,(E1 s 1).root=Ob 1 (Pn s 0) (Pn s 1):=by
  intro s;unfold E1;rw [A3 (by simp [h])]
  rfl
 rw [e,e,A7u,A8a,A5u,A53];exact of_decide_eq_true (by kernel_rfl)
end
section
set_option maxRecDepth 1000000
theorem A31 {k:Ky}{m:Int}{s:Sg}(h:Jj k m s=0):Wy s.leaf 0 (Aly s.leaf m s.chains) s.path=k.root:=by
 unfold Jj at h
 repeat' (split at h;· cases h)
 unfold okE at h;split at h
 ·assumption
 ·cases h
theorem A2b {k k':Ky}{m:Int}{s:Sg}(h:Jj k m s=0)(h':Jj k' m s=0):k.root=k'.root:=by rw [←A31 h,←A31 h']
noncomputable def Ih:List An:=[⟨Aka,E1 9 1⟩,⟨Aka,E1 32 1⟩]
theorem Axh (k:Ky):Ns cB k=Jj k (Rj M5) Amg:=by
 unfold Ns;rw [Apg,Bk rfl];rfl
theorem Ay3:Ns cB (E1 32 1)=0:=by rw [Axh];exact Aac.2.2.2.2.2
theorem A4d:Ns cB (E1 9 1)≠0:=by
 intro h;rw [Axh] at h;exact A4o (A2b h Aac.2.2.2.2.2)
theorem Aqr:Ms cB 0 Ih=1:=by
 unfold Ih;rw [Ms,A3 (fun h=>A4d h.2),Ms,Bk ⟨by decide,Ay3⟩]
 rfl
theorem A2l (vs:List Rv)(now:Int):Ge cB 0 vs now=if now<0 then 38 else if now>900 then 38 else Jz cB now vs:=by
 unfold Ge;rw [Apg];rfl
theorem A1q (ans:List An)(now:Int)(h0:0<=now)(h1:now<=1099511627776):O1 [cB] ans [] now=if now<=900 then Aqp cB ans else (0,38):=by
 unfold O1;rw [A3 (by omega),A3 (by omega),A3 (by simp),A3 (by simp)]
 unfold Vn;have lk:Ge cB ((0:Nat):Int) [] now=if now<0 then 38 else if now>900 then 38 else Jz cB now []:=A2l [] now
 have n0:¬(now<0):=by omega
 rw [lk,A3 n0];by_cases h:now<=900
 ·have h9:¬(now>900):=by omega
  have r0:Jz cB now []=0:=rfl;rw [A3 h9,Bk h,r0,A3 (by simp)]
 ·have h9:now>900:=by omega
  rw [Bk h9,A3 h,Bk (by simp)]
theorem A7m {sd hh lf:Int}{r:Rp}{a:Ad}(h:Ax3 sd hh 2 lf r a)(hf:Ez .i64 a.flags 64≠0)(ans:List An)(now:Int):Ags r a (Wr r.ad (Et 11 (Bz r.cd))) ans [] now=if (O1 [cB] ans [] now).2≠0 then avE (O1 [cB] ans [] now).2 else ⟨2,(O1 [cB] ans [] now).1,-1,0⟩:=by
 obtain ⟨hc,s,s1,s2,s3,s4⟩:=h.f2 rfl;unfold Ags;rw [A3 hf,h.fmt,A3 (by omega),A3 (by omega),Bk rfl]
 unfold Af1;rw [hc]
 have ed:Cc [Ub]=([cB],0):=by
  rw [Cc,Ard,A3 (by simp),Cc,A3 (by simp)]
 rw [ed,A3 (by simp),A3 (by simp),A3 (by simp)]
 simp only;rw [P5,A3 (by show ¬(false=true);simp),A3 (by show ¬((3:Int)=0);omega),A3 (by rw [h.model];show ¬((3:Int)≠3);simp),s2]
 simp only;have e:Jj cB.key (Wr r.ad (Et 11 (Bz r.cd))) s=0:=s4;rw [e,A3 (by simp)]
theorem Agi {a:Ad}(h:a.good):Ez .i64 a.flags 64≠0:=by rcases h.flags with e|e|e|e<;>rw [e]<;>decide
theorem A7g {sd hh lf:Int}{r:Rp}{a:Ad}(h:Ax3 sd hh 1 lf r a)(ans:List An)(vs:List Rv)(now:Int):Ags r a (Wr r.ad (Et 11 (Bz r.cd))) ans vs now=⟨1,-1,0,0⟩:=by
 obtain ⟨hc,s,s1,s2,s3,s4⟩:=h.f1 rfl;unfold Ags;rw [A3 (Agi h.good),h.fmt,A3 (by omega),Bk rfl]
 unfold Ase;rw [hc,A3 (by simp),s2]
 simp only;rw [h.key,s4,A3 (by simp),s3]
theorem A7q {sd hh lf:Int}{r:Rp}{a:Ad}(h:Ax3 sd hh 0 lf r a)(w:Int)(ans:List An)(vs:List Rv)(now:Int):Ags r a w ans vs now=⟨0,-1,-1,0⟩:=by
 obtain ⟨h1,h2⟩:=h.f0 rfl;unfold Ags;rw [A3 (Agi h.good),h.fmt,Bk rfl,h1,h2,A3 (by simp),A3 (by simp)]
theorem A5t {sd hh lf:Int}{r:Rp}{a:Ad}(h:Ax3 sd hh 2 lf r a):Ags r a (Wr r.ad (Et 11 (Bz r.cd))) Ih [] 5=⟨2,1,-1,0⟩:=by
 have e:O1 [cB] Ih [] 5=(1,0):=by
  rw [A1q _ _ (by omega) (by omega),Bk (by omega)]
  unfold Aqp;rw [Aqr];rfl
 rw [A7m h (Agi h.good),e,A3 (by simp)]
section
variable {d:Nat}
theorem Avj:Ae C0 Tryz.prog 2000 (d+14) Mq []=some ⟨[.own 3 2 (Ed Ih)],[]⟩:=by
 rw [Wj];have k1:=Aqy (fu:=2000) (d:=d) (by omega) 9 1
 have k2:=Aqy (fu:=2000) (d:=d) (by omega) 32 1
 show _=some (A0.mk [.own 3 2 [.sc (.string Aka),.sc (.int .i64 (E1 9 1).h),.sc (.int .u64 (E1 9 1).root),.sc (.string Aka),.sc (.int .i64 (E1 32 1).h),.sc (.int .u64 (E1 32 1).root)]] []);simp only [Ky.cells] at k1 k2;generalize E1 9 1=K1 at *
 generalize E1 32 1=K2 at *
 try unfold Aa
 repeat first
  |((with_reducible first|apply Ap|apply Ag|apply Am|apply Ar|apply Ax|apply Az|apply Bh|apply A6|apply Ah);· first|with_reducible rfl|(simp (disch:=omega) only [k1,k2]<;>with_reducible rfl))
  |((with_reducible first|apply Ao|apply Ak);· first|with_reducible rfl|omega|(simp (disch:=omega) only [gT,k1,k2]<;>omega))
  |(with_reducible apply Al;· first|with_reducible rfl|(simp (disch:=omega) only [gF,k1,k2]<;>omega))
 try simp (disch:=omega) only [k1,k2]
 all_goals rfl
theorem Asl:(Ed Ih).length=6:=rfl
theorem Aqa:List.take 6 (Ed Ih)=Ed Ih:=rfl
theorem A5l (n:Int){h:Int}(hh:Df h=false)(ho:Ga 0 h=false){fmt leaf:Int}(hf:fmt=0∨fmt=1∨fmt=2)(l0:0<=leaf)(l1:leaf<=15):
  ∃sd r a,Ax3 sd h fmt leaf r a∧Ae C0 Tryz.prog 2000 (d+16) P1 [.sc (.int .i64 n),.sc (.int .i64 h),.sc (.int .i64 fmt),.sc (.int .i64 leaf)]=some ⟨[.agg r.cells,.agg a.cells,.sc (.int .u64 (Wr r.ad (Et 11 (Bz r.cd))))],[]⟩:=by
 obtain ⟨m,m0,m1,m2⟩:=A1x n 50 (by omega) (by omega)
 obtain ⟨id_,i1,i2,i3⟩:=A55 (fu:=2000) (d:=d+8) (by omega) (n:=m) m0 (by omega) h (Ez .i64 n 64==64)
 obtain ⟨ch,c1,c2,c3⟩:=Arj (fu:=2000) (d:=d+9) (by omega) (Ez .i64 n 7) (n:=16) (by omega)
 obtain ⟨r,a,M,R⟩:=A73 (d:=d) (seed:=1000+m) hh ho i1 i2 c2 (Ez .i64 n 64==64) (Ez .i64 n 128==128) hf l0 l1;refine ⟨1000+m,r,a,M,?_⟩;have dd:=At7 (fu:=2000) (d:=d+11) (by omega) M.good
 rw [←M.ad] at dd;have al:r.ad.length=204:=by rw [M.ad,Axb M.good]
 have hd:=Ahm (fu:=2000) (d:=d+10) (s:=r.cd) (by have:=M.cd;omega) (by omega)
 have ms:=Ali (fu:=2000) (d:=d+10) (b:=r.ad) (by rw [M.ad];exact A6v M.good) (by omega) (by omega) (Et 11 (Bz r.cd))
 rw [al] at ms;have c3':Ae C0 Tryz.prog 2000 (d+15) Ha [.sc (.int .i64 (Ez .i64 n 7)),.sc (.int .i64 16)]=some ⟨[.own 1 16 (Ai .u8 ch)],[]⟩:=c3;have L1:=As .u8 id_;have t1:=G4 .u8 id_;have L2:=As .u8 ch;have t2:=G4 .u8 ch;rw [i2] at L1 t1;rw [c2] at L2 t2;simp only [Rp.cells,Ad.cells,Sq,i2,al] at R dd ⊢;rw [Aau];generalize Wr r.ad (Et 11 (Bz r.cd))=W at *
 try unfold Aa
 repeat first
  |((with_reducible first|apply Ap|apply Ag|apply Am|apply Ar|apply Ax|apply Az|apply Bh|apply A6|apply Ah);· first|with_reducible rfl|(simp (disch:=omega) only [m2,i3,c3',Cm,B4,Bl,L1,t1,L2,t2,R,dd,hd,ms]<;>with_reducible rfl))
  |((with_reducible first|apply Ao|apply Ak);· first|with_reducible rfl|omega|(simp (disch:=omega) only [gT,m2,i3,c3',Cm,B4,Bl,L1,t1,L2,t2,R,dd,hd,ms]<;>omega))
  |(with_reducible apply Al;· first|with_reducible rfl|(simp (disch:=omega) only [gF,m2,i3,c3',Cm,B4,Bl,L1,t1,L2,t2,R,dd,hd,ms]<;>omega))
 try simp (disch:=omega) only [m2,i3,c3',Cm,B4,Bl,L1,t1,L2,t2,R,dd,hd,ms]
 all_goals rfl
theorem Aks {call:Aq}{nn:Nat}{f:Int}(h:f>2):Cr 2000 call (nn+1) f=some ⟨[.sc (.bool true)],[]⟩:=by
 rw [Lh,Dj _ _ _ (by omega)]
theorem Ai4:Ae C0 Tryz.prog 2000 (d+17) O9 []=some ⟨[.sc (.bool true)],[]⟩:=by
 rw [Zi];have an:=Avj (d:=d+2);have l2:Ih.length=2:=rfl;have L:=Asl;have t:=Aqa;have w0:IntKind.wrap .i64 ((0:Int)+1)=1:=by decide
 have w1:IntKind.wrap .i64 ((1:Int)+1)=2:=by decide
 have w2:IntKind.wrap .i64 ((2:Int)+1)=3:=by decide
 have st:∀(f:Int) (nn:Nat),f=0∨f=1∨f=2->Cr 2000 (Ae C0 Tryz.prog 2000 (d+16)) (nn+1) f=Cr 2000 (Ae C0 Tryz.prog 2000 (d+16)) nn (f+1):=by
  intro f nn hf;obtain ⟨sd,r,a,M,R⟩:=A5l (d:=d) 1 (h:=1) (by decide) (by decide) (leaf:=0) hf (by omega) (by omega)
  have p:=Axn (fu:=2000) (d:=d+4) (by omega) M.ok a (Wr r.ad (Et 11 (Bz r.cd))) (ans:=Ih) (by rw [l2];omega) (vs:=[]) (by simp) 5
  have ez:Ex []=[]:=rfl;rw [l2] at p;simp only [Rp.cells,Ad.cells,Sq,Av.vals,ez,X2] at p R
  have av:∃x y:Int,Ags r a (Wr r.ad (Et 11 (Bz r.cd))) Ih [] 5=⟨f,x,y,0⟩∧x=(if f=2 then 1 else -1)∧y=(if f=1 then 0 else -1):=by
   rcases hf with rfl|rfl|rfl
   ·exact ⟨_,_,A7q M _ _ _ _,rfl,rfl⟩
   ·exact ⟨_,_,A7g M _ _ _,rfl,rfl⟩
   ·exact ⟨_,_,A5t M,rfl,rfl⟩
  obtain ⟨x,y,e1,e2,e3⟩:=av;rw [e1] at p;simp only at p;subst e2 e3;clear e1 M;generalize Wr r.ad (Et 11 (Bz r.cd))=W at *
  generalize Ed Ih=E at *
  rw [Lh];rcases hf with rfl|rfl|rfl
  all_goals
   try unfold Aa
   repeat first
    |((with_reducible first|apply Ap|apply Ag|apply Am|apply Ar|apply Ax|apply Az|apply Bh|apply A6|apply Ah);· first|with_reducible rfl|(simp (disch:=omega) only [R,an,Cm,B4,Nat.reduceMul,L,t,p,Int.reduceBEq,w0,w1,w2,bne_self_eq_false,beq_self_eq_true,Zzm,Bool.and_true,Bn,Int.reduceEq,if_true,if_false]<;>with_reducible rfl))
    |((with_reducible first|apply Ao|apply Ak);· first|with_reducible rfl|omega|(simp (disch:=omega) only [gT,R,an,Cm,B4,Nat.reduceMul,L,t,p,Int.reduceBEq,w0,w1,w2,bne_self_eq_false,beq_self_eq_true,Zzm,Bool.and_true,Bn,Int.reduceEq,if_true,if_false]<;>omega))
    |(with_reducible apply Al;· first|with_reducible rfl|(simp (disch:=omega) only [gF,R,an,Cm,B4,Nat.reduceMul,L,t,p,Int.reduceBEq,w0,w1,w2,bne_self_eq_false,beq_self_eq_true,Zzm,Bool.and_true,Bn,Int.reduceEq,if_true,if_false]<;>omega))
   try simp (disch:=omega) only [R,an,Cm,B4,Nat.reduceMul,L,t,p,Int.reduceBEq,w0,w1,w2,bne_self_eq_false,beq_self_eq_true,Zzm,Bool.and_true,Bn,Int.reduceEq,if_true,if_false]
  all_goals rfl
 show Cr 2000 (Ae C0 Tryz.prog 2000 (d+16)) (1996+1+1+1+1) 0=_;rw [st 0 _ (.inl rfl),st (0+1) _ (.inr (.inl rfl)),st (0+1+1) _ (.inr (.inr rfl))];exact Aks (by omega)
end
end
section
theorem Aic {d:Nat}{ps:List PV}(h:WT Tryz.prog d 29 ps):∃(v0:Int)(v1:ByteArray)(v2:List Int)(v3:List Int)(v4:List (List PV)) (v5:Int)(v6:List Int)(v7:ByteArray),ps=[(.sc (.int .i64 v0)),(.sc (.string v1)),(.lst false 1 v2.length (Ai .u8 v2)),(.lst false 1 v3.length (Ai .u8 v3)),(.lst false 1 v4.length v4.flatten),(.sc (.int .i64 v5)),(.lst false 1 v6.length (Ai .u8 v6)),(.sc (.string v7))]∧(Lit.int .i64 v0).wf=true∧v1.size<=maxLen∧v2.length<=maxLen∧(∀n∈v2,(Lit.int .u8 n).wf=true)∧v3.length<=maxLen∧(∀n∈v3,(Lit.int .u8 n).wf=true)∧v4.length<=maxLen∧(∀r∈v4,r.length=1∧WT Tryz.prog (d-2) 26 r)∧(Lit.int .i64 v5).wf=true∧v6.length<=maxLen∧(∀n∈v6,(Lit.int .u8 n).wf=true)∧v7.size<=maxLen:=by
 obtain ⟨rs,rfl,h1⟩:=Arn (ts:=[3,9,26,26,27,3,26,9]) (by kernel_rfl) h
 obtain ⟨r0,_,rfl,g0,h1⟩:=h1.cons_inv;obtain ⟨r1,_,rfl,g1,h1⟩:=h1.cons_inv;obtain ⟨r2,_,rfl,g2,h1⟩:=h1.cons_inv;obtain ⟨r3,_,rfl,g3,h1⟩:=h1.cons_inv;obtain ⟨r4,_,rfl,g4,h1⟩:=h1.cons_inv;obtain ⟨r5,_,rfl,g5,h1⟩:=h1.cons_inv;obtain ⟨r6,_,rfl,g6,h1⟩:=h1.cons_inv;obtain ⟨r7,_,rfl,g7,h1⟩:=h1.cons_inv;obtain rfl:=h1.nil_inv;obtain ⟨v0,rfl,w0_0⟩:=Nm (k:=.i64) (by kernel_rfl) g0
 obtain ⟨v1,rfl,w1_0⟩:=Aqe (by kernel_rfl) g1
 obtain ⟨v2,rfl,w2_0,w2_1⟩:=Aev (k:=.u8) (e:=5) (by kernel_rfl) (by kernel_rfl) (by kernel_rfl) g2
 obtain ⟨v3,rfl,w3_0,w3_1⟩:=Aev (k:=.u8) (e:=5) (by kernel_rfl) (by kernel_rfl) (by kernel_rfl) g3
 obtain ⟨v4,rfl,w4_0,w4_1⟩:=A7b (k:=1) (e:=26) (by kernel_rfl) (by kernel_rfl) g4
 obtain ⟨v5,rfl,w5_0⟩:=Nm (k:=.i64) (by kernel_rfl) g5
 obtain ⟨v6,rfl,w6_0,w6_1⟩:=Aev (k:=.u8) (e:=5) (by kernel_rfl) (by kernel_rfl) (by kernel_rfl) g6
 obtain ⟨v7,rfl,w7_0⟩:=Aqe (by kernel_rfl) g7
 exact ⟨v0,v1,v2,v3,v4,v5,v6,v7,rfl,w0_0,w1_0,w2_0,w2_1,w3_0,w3_1,w4_0,w4_1,w5_0,w6_0,w6_1,w7_0⟩
theorem Vk {d:Nat}{ps:List PV}(h:WT Tryz.prog d 31 ps):∃(v0:Int)(v1:Int),ps=[(.sc (.int .i64 v0)),(.sc (.int .u64 v1))]∧(Lit.int .i64 v0).wf=true∧(Lit.int .u64 v1).wf=true:=by
 obtain ⟨rs,rfl,h1⟩:=Arn (ts:=[3,23]) (by kernel_rfl) h
 obtain ⟨r0,_,rfl,g0,h1⟩:=h1.cons_inv;obtain ⟨r1,_,rfl,g1,h1⟩:=h1.cons_inv;obtain rfl:=h1.nil_inv;obtain ⟨v0,rfl,w0_0⟩:=Nm (k:=.i64) (by kernel_rfl) g0
 obtain ⟨v1,rfl,w1_0⟩:=Nm (k:=.u64) (by kernel_rfl) g1
 exact ⟨v0,v1,rfl,w0_0,w1_0⟩
theorem Ah2 {d:Nat}{ps:List PV}(h:WT Tryz.prog d 33 ps):∃(v0:Int)(v1:Int)(v2:Int)(v3:Int)(v4:Int)(v5:List Int)(v6v0:Int)(v6v1:Int),ps=[(.sc (.int .u64 v0)),(.sc (.int .i64 v1)),(.sc (.int .i64 v2)),(.sc (.int .i64 v3)),(.sc (.int .u64 v4)),(.lst false 1 v5.length (Ai .u8 v5)),(.sc (.int .i64 v6v0)),(.sc (.int .u64 v6v1))]∧(Lit.int .u64 v0).wf=true∧(Lit.int .i64 v1).wf=true∧(Lit.int .i64 v2).wf=true∧(Lit.int .i64 v3).wf=true∧(Lit.int .u64 v4).wf=true∧v5.length<=maxLen∧(∀n∈v5,(Lit.int .u8 n).wf=true)∧(Lit.int .i64 v6v0).wf=true∧(Lit.int .u64 v6v1).wf=true:=by
 obtain ⟨rs,rfl,h1⟩:=Arn (ts:=[23,3,3,3,23,26,31]) (by kernel_rfl) h
 obtain ⟨r0,_,rfl,g0,h1⟩:=h1.cons_inv;obtain ⟨r1,_,rfl,g1,h1⟩:=h1.cons_inv;obtain ⟨r2,_,rfl,g2,h1⟩:=h1.cons_inv;obtain ⟨r3,_,rfl,g3,h1⟩:=h1.cons_inv;obtain ⟨r4,_,rfl,g4,h1⟩:=h1.cons_inv;obtain ⟨r5,_,rfl,g5,h1⟩:=h1.cons_inv;obtain ⟨r6,_,rfl,g6,h1⟩:=h1.cons_inv;obtain rfl:=h1.nil_inv;obtain ⟨v0,rfl,w0_0⟩:=Nm (k:=.u64) (by kernel_rfl) g0
 obtain ⟨v1,rfl,w1_0⟩:=Nm (k:=.i64) (by kernel_rfl) g1
 obtain ⟨v2,rfl,w2_0⟩:=Nm (k:=.i64) (by kernel_rfl) g2
 obtain ⟨v3,rfl,w3_0⟩:=Nm (k:=.i64) (by kernel_rfl) g3
 obtain ⟨v4,rfl,w4_0⟩:=Nm (k:=.u64) (by kernel_rfl) g4
 obtain ⟨v5,rfl,w5_0,w5_1⟩:=Aev (k:=.u8) (e:=5) (by kernel_rfl) (by kernel_rfl) (by kernel_rfl) g5
 obtain ⟨v6v0,v6v1,rfl,w6_0,w6_1⟩:=Vk g6;exact ⟨v0,v1,v2,v3,v4,v5,v6v0,v6v1,rfl,w0_0,w1_0,w2_0,w3_0,w4_0,w5_0,w5_1,w6_0,w6_1⟩
theorem Amj {d:Nat}{ps:List PV}(h:WT Tryz.prog d 66 ps):∃(v0:ByteArray)(v1v0:Int)(v1v1:Int),ps=[(.sc (.string v0)),(.sc (.int .i64 v1v0)),(.sc (.int .u64 v1v1))]∧v0.size<=maxLen∧(Lit.int .i64 v1v0).wf=true∧(Lit.int .u64 v1v1).wf=true:=by
 obtain ⟨rs,rfl,h1⟩:=Arn (ts:=[9,31]) (by kernel_rfl) h
 obtain ⟨r0,_,rfl,g0,h1⟩:=h1.cons_inv;obtain ⟨r1,_,rfl,g1,h1⟩:=h1.cons_inv;obtain rfl:=h1.nil_inv;obtain ⟨v0,rfl,w0_0⟩:=Aqe (by kernel_rfl) g0
 obtain ⟨v1v0,v1v1,rfl,w1_0,w1_1⟩:=Vk g1;exact ⟨v0,v1v0,v1v1,rfl,w0_0,w1_0,w1_1⟩
theorem Aek {d:Nat}{ps:List PV}(h:WT Tryz.prog d 39 ps):∃(v0:ByteArray)(v1:Int)(v2:Int),ps=[(.sc (.string v0)),(.sc (.int .u64 v1)),(.sc (.int .i64 v2))]∧v0.size<=maxLen∧(Lit.int .u64 v1).wf=true∧(Lit.int .i64 v2).wf=true:=by
 obtain ⟨rs,rfl,h1⟩:=Arn (ts:=[9,23,3]) (by kernel_rfl) h
 obtain ⟨r0,_,rfl,g0,h1⟩:=h1.cons_inv;obtain ⟨r1,_,rfl,g1,h1⟩:=h1.cons_inv;obtain ⟨r2,_,rfl,g2,h1⟩:=h1.cons_inv;obtain rfl:=h1.nil_inv;obtain ⟨v0,rfl,w0_0⟩:=Aqe (by kernel_rfl) g0
 obtain ⟨v1,rfl,w1_0⟩:=Nm (k:=.u64) (by kernel_rfl) g1
 obtain ⟨v2,rfl,w2_0⟩:=Nm (k:=.i64) (by kernel_rfl) g2
 exact ⟨v0,v1,v2,rfl,w0_0,w1_0,w2_0⟩
end
section
set_option maxRecDepth 100000
abbrev H1:FuncId:=4
noncomputable def Hx (fu:Nat)(call:Aq)(a0_0:Int)(a0_1:ByteArray)(a0_2n:Nat)(a0_2:List PV)(a0_3n:Nat)(a0_3:List PV)(a0_4n:Nat)(a0_4:List PV)(a0_5:Int)(a0_6n:Nat)(a0_6:List PV)(a0_7:ByteArray)(a1_0 a1_1:Int)(a1_2 a1_3 a1_4:Int)(a1_5n:Nat)(a1_5:List PV)(a1_6 a1_7 a2:Int)(a3n:Nat)(a3:List PV)(a4n:Nat)(a4:List PV)(a5:Int)(nn:Nat)(y0:Int)(y1:Nat)(y2:List PV)(y3:Nat)(y4:List PV)(y5 y6:Int)(y7:ByteArray)(y8:Nat)(y9:List PV)(y10:Nat)(Eb:List PV)(Ev:Nat)(Hf:List PV)(Ik:Int)(Iq:Nat)(Iv:List PV)(I3:ByteArray)(J0 Sh:Int)(Ws P0 V3:Int)(y23:Nat)(y24:List PV)(y25 y26:Int):Option A0:=Cw C0 Tryz.prog fu call 4 Tryz.f4 (B5 Tryz.f4) [.agg [.sc (.int .i64 a0_0),.sc (.string a0_1),.lst false 1 a0_2n a0_2,.lst false 1 a0_3n a0_3,.lst false 1 a0_4n a0_4,.sc (.int .i64 a0_5),.lst false 1 a0_6n a0_6,.sc (.string a0_7)],.agg [.sc (.int .u64 a1_0),.sc (.int .i64 a1_1),.sc (.int .i64 a1_2),.sc (.int .i64 a1_3),.sc (.int .u64 a1_4),.lst false 1 a1_5n a1_5,.sc (.int .i64 a1_6),.sc (.int .u64 a1_7)],.sc (.int .u64 a2),.lst false 3 a3n a3,.lst false 3 a4n a4,.sc (.int .i64 a5)] [.r] nn ⟨lk [(2,(.sc (.int .u64 y0))),(3,(.lst false 3 y1 y2)),(4,(.lst false 3 y3 y4)),(5,(.sc (.int .i64 y5))),(6,(.ptr 6 0)),(7,(.ptr 7 0))],Gf [(6,(.st [(.sc (.int .i64 y6)),(.sc (.string y7)),(.lst false 1 y8 y9),(.lst false 1 y10 Eb),(.lst false 1 Ev Hf),(.sc (.int .i64 Ik)),(.lst false 1 Iq Iv),(.sc (.string I3))])),(7,(.st [(.sc (.int .u64 J0)),(.sc (.int .i64 Sh)),(.sc (.int .i64 Ws)),(.sc (.int .i64 P0)),(.sc (.int .u64 V3)),(.lst false 1 y23 y24),(.sc (.int .i64 y25)),(.sc (.int .u64 y26))]))]⟩
noncomputable def Ea (fu:Nat)(call:Aq)(a0_0:Int)(a0_1:ByteArray)(a0_2n:Nat)(a0_2:List PV)(a0_3n:Nat)(a0_3:List PV)(a0_4n:Nat)(a0_4:List PV)(a0_5:Int)(a0_6n:Nat)(a0_6:List PV)(a0_7:ByteArray)(a1_0 a1_1:Int)(a1_2 a1_3 a1_4:Int)(a1_5n:Nat)(a1_5:List PV)(a1_6 a1_7 a2:Int)(a3n:Nat)(a3:List PV)(a4n:Nat)(a4:List PV)(a5:Int)(nn:Nat)(y0:Int)(y1:Nat)(y2:List PV)(y3:Nat)(y4:List PV)(y5 y6 y7:Int)(y8:ByteArray)(y9:Nat)(y10:List PV)(Eb:Nat)(Ev:List PV)(Hf:Nat)(Ik:List PV)(Iq:Int)(Iv:Nat)(I3:List PV)(J0:ByteArray)(Sh Ws:Int)(P0 V3 y23:Int)(y24:Nat)(y25:List PV)(y26 y27:Int):Option A0:=Cw C0 Tryz.prog fu call 4 Tryz.f4 (B5 Tryz.f4) [.agg [.sc (.int .i64 a0_0),.sc (.string a0_1),.lst false 1 a0_2n a0_2,.lst false 1 a0_3n a0_3,.lst false 1 a0_4n a0_4,.sc (.int .i64 a0_5),.lst false 1 a0_6n a0_6,.sc (.string a0_7)],.agg [.sc (.int .u64 a1_0),.sc (.int .i64 a1_1),.sc (.int .i64 a1_2),.sc (.int .i64 a1_3),.sc (.int .u64 a1_4),.lst false 1 a1_5n a1_5,.sc (.int .i64 a1_6),.sc (.int .u64 a1_7)],.sc (.int .u64 a2),.lst false 3 a3n a3,.lst false 3 a4n a4,.sc (.int .i64 a5)] [.r,.r,.l,.r,.l] nn ⟨lk [(2,(.sc (.int .u64 y0))),(3,(.lst false 3 y1 y2)),(4,(.lst false 3 y3 y4)),(5,(.sc (.int .i64 y5))),(6,(.ptr 6 0)),(7,(.ptr 7 0)),(13,(.sc (.int .i64 y6)))],Gf [(6,(.st [(.sc (.int .i64 y7)),(.sc (.string y8)),(.lst false 1 y9 y10),(.lst false 1 Eb Ev),(.lst false 1 Hf Ik),(.sc (.int .i64 Iq)),(.lst false 1 Iv I3),(.sc (.string J0))])),(7,(.st [(.sc (.int .u64 Sh)),(.sc (.int .i64 Ws)),(.sc (.int .i64 P0)),(.sc (.int .i64 V3)),(.sc (.int .u64 y23)),(.lst false 1 y24 y25),(.sc (.int .i64 y26)),(.sc (.int .u64 y27))]))]⟩
noncomputable def D8 (fu:Nat)(call:Aq)(a0_0:Int)(a0_1:ByteArray)(a0_2n:Nat)(a0_2:List PV)(a0_3n:Nat)(a0_3:List PV)(a0_4n:Nat)(a0_4:List PV)(a0_5:Int)(a0_6n:Nat)(a0_6:List PV)(a0_7:ByteArray)(a1_0 a1_1:Int)(a1_2 a1_3 a1_4:Int)(a1_5n:Nat)(a1_5:List PV)(a1_6 a1_7 a2:Int)(a3n:Nat)(a3:List PV)(a4n:Nat)(a4:List PV)(a5:Int)(nn:Nat)(y0:Int)(y1:Nat)(y2:List PV)(y3:Nat)(y4:List PV)(y5:Int)(y6:Nat)(y7 y8:Int)(y9 y10:Int)(Eb Ev Hf:Int)(Ik:Nat)(Iq:List PV)(Iv I3:Int)(J0:List PV):Option A0:=Cw C0 Tryz.prog fu call 4 Tryz.f4 (B5 Tryz.f4) [.agg [.sc (.int .i64 a0_0),.sc (.string a0_1),.lst false 1 a0_2n a0_2,.lst false 1 a0_3n a0_3,.lst false 1 a0_4n a0_4,.sc (.int .i64 a0_5),.lst false 1 a0_6n a0_6,.sc (.string a0_7)],.agg [.sc (.int .u64 a1_0),.sc (.int .i64 a1_1),.sc (.int .i64 a1_2),.sc (.int .i64 a1_3),.sc (.int .u64 a1_4),.lst false 1 a1_5n a1_5,.sc (.int .i64 a1_6),.sc (.int .u64 a1_7)],.sc (.int .u64 a2),.lst false 3 a3n a3,.lst false 3 a4n a4,.sc (.int .i64 a5)] [.r,.r,.r,.r,.r,.r,.l,.r,.l] nn ⟨lk [(2,(.sc (.int .u64 y0))),(3,(.lst false 3 y1 y2)),(4,(.lst false 3 y3 y4)),(5,(.sc (.int .i64 y5))),(7,(.ptr 7 0)),(68,(.view 68 8 0 y6)),(69,(.sc (.int .i64 y7))),(70,(.sc (.int .i64 y8)))],Gf [(7,(.st [(.sc (.int .u64 y9)),(.sc (.int .i64 y10)),(.sc (.int .i64 Eb)),(.sc (.int .i64 Ev)),(.sc (.int .u64 Hf)),(.lst false 1 Ik Iq),(.sc (.int .i64 Iv)),(.sc (.int .u64 I3))])),(68,(.ar false J0))]⟩
theorem Gt (fu:Nat)(call:Aq)(a0_0:Int)(a0_1:ByteArray)(a0_2n:Nat)(a0_2:List PV)(a0_3n:Nat)(a0_3:List PV)(a0_4n:Nat)(a0_4:List PV)(a0_5:Int)(a0_6n:Nat)(a0_6:List PV)(a0_7:ByteArray)(a1_0 a1_1:Int)(a1_2 a1_3 a1_4:Int)(a1_5n:Nat)(a1_5:List PV)(a1_6 a1_7 a2:Int)(a3n:Nat)(a3:List PV)(a4n:Nat)(a4:List PV)(a5:Int)(nn:Nat)(hnn:0<nn)(y0:Int)(y1:Nat)(y2:List PV)(y3:Nat)(y4:List PV)(y5 y6:Int)(y7:ByteArray)(y8:Nat)(y9:List PV)(y10:Nat)(Eb:List PV)(Ev:Nat)(Hf:List PV)(Ik:Int)(Iq:Nat)(Iv:List PV)(I3:ByteArray)(J0 Sh:Int)(Ws P0 V3:Int)(y23:Nat)(y24:List PV)(y25 y26:Int):Hx fu call a0_0 a0_1 a0_2n a0_2 a0_3n a0_3 a0_4n a0_4 a0_5 a0_6n a0_6 a0_7 a1_0 a1_1 a1_2 a1_3 a1_4 a1_5n a1_5 a1_6 a1_7 a2 a3n a3 a4n a4 a5 nn y0 y1 y2 y3 y4 y5 y6 y7 y8 y9 y10 Eb Ev Hf Ik Iq Iv I3 J0 Sh Ws P0 V3 y23 y24 y25 y26=(Ea fu call a0_0 a0_1 a0_2n a0_2 a0_3n a0_3 a0_4n a0_4 a0_5 a0_6n a0_6 a0_7 a1_0 a1_1 a1_2 a1_3 a1_4 a1_5n a1_5 a1_6 a1_7 a2 a3n a3 a4n a4 a5 (fu) (y0) (y1) (y2) (y3) (y4) (y5) 0 (y6) (y7) (y8) (y9) (y10) (Eb) (Ev) (Hf) (Ik) (Iq) (Iv) (I3) (J0) (Sh) (Ws) (P0) (V3) (y23) (y24) (y25) (y26)):=by cases nn with|zero=>exact absurd hnn (Nat.lt_irrefl 0)|succ nn=>kernel_rfl
theorem Gw (fu:Nat)(call:Aq)(a0_0:Int)(a0_1:ByteArray)(a0_2n:Nat)(a0_2:List PV)(a0_3n:Nat)(a0_3:List PV)(a0_4n:Nat)(a0_4:List PV)(a0_5:Int)(a0_6n:Nat)(a0_6:List PV)(a0_7:ByteArray)(a1_0 a1_1:Int)(a1_2 a1_3 a1_4:Int)(a1_5n:Nat)(a1_5:List PV)(a1_6 a1_7 a2:Int)(a3n:Nat)(a3:List PV)(a4n:Nat)(a4:List PV)(a5:Int)(nn:Nat)(y0:Int)(y1:Nat)(y2:List PV)(y3:Nat)(y4:List PV)(y5 y6 y7:Int)(y8:ByteArray)(y9:Nat)(y10:List PV)(Eb:Nat)(Ev:List PV)(Hf:Nat)(Ik:List PV)(Iq:Int)(Iv:Nat)(I3:List PV)(J0:ByteArray)(Sh Ws:Int)(P0 V3 y23:Int)(y24:Nat)(y25:List PV)(y26 y27:Int):Ea fu call a0_0 a0_1 a0_2n a0_2 a0_3n a0_3 a0_4n a0_4 a0_5 a0_6n a0_6 a0_7 a1_0 a1_1 a1_2 a1_3 a1_4 a1_5n a1_5 a1_6 a1_7 a2 a3n a3 a4n a4 a5 (nn+1) y0 y1 y2 y3 y4 y5 y6 y7 y8 y9 y10 Eb Ev Hf Ik Iq Iv I3 J0 Sh Ws P0 V3 y23 y24 y25 y26 y27=(A4 (decide (y6<(↑Hf:Int))) (Ay (decide (0<=y6)&&decide (y6<(↑Hf:Int)))<|Iz 1 (List.getD Ik (Int.toNat y6*1) .top) fun Fq Cl Fy=>A4 (decide ((↑Cl:Int)>600)) (Aj (call 13 []) fun Dn B3=>Ac B3<|Ab Dn fun Ew F4=>Bw Ew fun Bm=>Ac F4<|some (A0.mk [.sc (.bool Bm)] [])) (Aa (IntKind.wrap .i64 (y6+1)) fun Ci=>Ea fu call a0_0 a0_1 a0_2n a0_2 a0_3n a0_3 a0_4n a0_4 a0_5 a0_6n a0_6 a0_7 a1_0 a1_1 a1_2 a1_3 a1_4 a1_5n a1_5 a1_6 a1_7 a2 a3n a3 a4n a4 a5 (nn) (y0) (y1) (y2) (y3) (y4) (y5) Ci (y7) (y8) (y9) (y10) (Eb) (Ev) (Hf) (Ik) (Iq) (Iv) (I3) (J0) (Sh) (Ws) (P0) (V3) (y23) (y24) (y25) (y26) (y27))) (Aa (Xz .i64 Ws 64) fun Gx=>Aj (call 11 [.sc (.int .i64 Iq),.sc (.int .i64 3)]) fun G2 Ib=>Ac Ib<|Ab G2 fun Hz I4=>Af .i64 Hz fun G8=>Ac I4<|D8 fu call a0_0 a0_1 a0_2n a0_2 a0_3n a0_3 a0_4n a0_4 a0_5 a0_6n a0_6 a0_7 a1_0 a1_1 a1_2 a1_3 a1_4 a1_5n a1_5 a1_6 a1_7 a2 a3n a3 a4n a4 a5 (fu) (y0) (y1) (y2) (y3) (y4) (y5) 2 2 0 (Sh) Gx (P0) (V3) (y23) (y24) (y25) (y26) (y27) ([.sc (.int .i64 y7),.sc (.string y8),.lst false 1 y9 y10,.lst false 1 Eb Ev,.lst false 1 Hf Ik,.sc (.int .i64 Iq),.lst false 1 Iv I3,.sc (.string J0),.sc (.int .i64 y7),.sc (.string y8),.lst false 1 y9 y10,.lst false 1 Eb Ev,.lst false 1 Hf Ik,.sc (.int .i64 G8),.lst false 1 Iv I3,.sc (.string J0)]))):=by kernel_rfl
theorem G0 (fu:Nat)(call:Aq)(a0_0:Int)(a0_1:ByteArray)(a0_2n:Nat)(a0_2:List PV)(a0_3n:Nat)(a0_3:List PV)(a0_4n:Nat)(a0_4:List PV)(a0_5:Int)(a0_6n:Nat)(a0_6:List PV)(a0_7:ByteArray)(a1_0 a1_1:Int)(a1_2 a1_3 a1_4:Int)(a1_5n:Nat)(a1_5:List PV)(a1_6 a1_7 a2:Int)(a3n:Nat)(a3:List PV)(a4n:Nat)(a4:List PV)(a5:Int)(nn:Nat)(y0:Int)(y1:Nat)(y2:List PV)(y3:Nat)(y4:List PV)(y5:Int)(y6:Nat)(y7 y8:Int)(y9 y10:Int)(Eb Ev Hf:Int)(Ik:Nat)(Iq:List PV)(Iv I3:Int)(J0:List PV):D8 fu call a0_0 a0_1 a0_2n a0_2 a0_3n a0_3 a0_4n a0_4 a0_5 a0_6n a0_6 a0_7 a1_0 a1_1 a1_2 a1_3 a1_4 a1_5n a1_5 a1_6 a1_7 a2 a3n a3 a4n a4 a5 (nn+1) y0 y1 y2 y3 y4 y5 y6 y7 y8 y9 y10 Eb Ev Hf Ik Iq Iv I3 J0=(A4 (decide (y8<y7)) (Ay (decide (0<=y8)&&decide (y8<(↑y6:Int)))<|Af .i64 (List.getD J0 (0+Int.toNat y8*8) .top) fun I5=>Cn (List.getD J0 (0+Int.toNat y8*8+1) .top) fun Ls=>Iz 1 (List.getD J0 (0+Int.toNat y8*8+1+1) .top) fun F5 Il Pc=>Iz 1 (List.getD J0 (0+Int.toNat y8*8+1+1+1) .top) fun Qi Ke Kf=>Iz 1 (List.getD J0 (0+Int.toNat y8*8+1+1+1+1) .top) fun Ph Mw Pi=>Af .i64 (List.getD J0 (0+Int.toNat y8*8+1+1+1+1+1) .top) fun Ps=>Iz 1 (List.getD J0 (0+Int.toNat y8*8+1+1+1+1+1+1) .top) fun Qx Pd Qk=>Cn (List.getD J0 (0+Int.toNat y8*8+1+1+1+1+1+1+1) .top) fun Q3=>Aj (call 14 [.agg [.sc (.int .i64 I5),.sc (.string Ls),.lst false 1 Il Pc,.lst false 1 Ke Kf,.lst false 1 Mw Pi,.sc (.int .i64 Ps),.lst false 1 Pd Qk,.sc (.string Q3)],.agg [.sc (.int .u64 y9),.sc (.int .i64 y10),.sc (.int .i64 Eb),.sc (.int .i64 Ev),.sc (.int .u64 Hf),.lst false 1 Ik Iq,.sc (.int .i64 Iv),.sc (.int .u64 I3)],.sc (.int .u64 y0),.lst false 3 y1 y2,.lst false 3 y3 y4,.sc (.int .i64 y5)]) fun Q4 Kx=>Ac Kx<|Ab Q4 fun Sk Qw=>C3 Sk fun Sx=>Ab Sx fun Ow Qu=>Af .i64 Ow fun R5=>Ab Qu fun S3 Qm=>Af .i64 S3 fun Tw=>Ab Qm fun Vs Sy=>Af .i64 Vs fun Su=>Ac Sy<|Ab Qw fun Sf Sa=>Af .i64 Sf fun Wo=>Ac Sa<|Aj (call 15 [.agg [.sc (.int .i64 I5),.sc (.string Ls),.lst false 1 Il Pc,.lst false 1 Ke Kf,.lst false 1 Mw Pi,.sc (.int .i64 Ps),.lst false 1 Pd Qk,.sc (.string Q3)],.agg [.sc (.int .u64 y9),.sc (.int .i64 y10),.sc (.int .i64 Eb),.sc (.int .i64 Ev),.sc (.int .u64 Hf),.lst false 1 Ik Iq,.sc (.int .i64 Iv),.sc (.int .u64 I3)],.sc (.int .u64 y0),.lst false 3 y1 y2,.lst false 3 y3 y4,.sc (.int .i64 y5)]) fun Tf Td=>Ac Td<|Ab Tf fun Th Vh=>C3 Th fun Uh=>Ab Uh fun Tc So=>Af .i64 Tc fun Vr=>Ab So fun Uk V2=>Af .i64 Uk fun Xu=>Ab V2 fun Xa x81=>Af .i64 Xa fun X3=>Ac x81<|Ab Vh fun X4 Xo=>Af .i64 X4 fun x85=>Ac Xo<|A4 (!(R5==Vr&&(Tw==Xu&&(Su==X3&&true)))) (some (A0.mk [.sc (.bool false)] [])) (A4 (Wo != x85) (some (A0.mk [.sc (.bool false)] [])) (Aa (IntKind.wrap .i64 (y8+1)) fun x86=>D8 fu call a0_0 a0_1 a0_2n a0_2 a0_3n a0_3 a0_4n a0_4 a0_5 a0_6n a0_6 a0_7 a1_0 a1_1 a1_2 a1_3 a1_4 a1_5n a1_5 a1_6 a1_7 a2 a3n a3 a4n a4 a5 (nn) (y0) (y1) (y2) (y3) (y4) (y5) (y6) (y7) x86 (y9) (y10) (Eb) (Ev) (Hf) (Ik) (Iq) (Iv) (I3) (J0)))) (Aj (call 13 []) fun x87 Ro=>Ac Ro<|Ab x87 fun Uf Uo=>Bw Uf fun x91=>Ac Uo<|some (A0.mk [.sc (.bool x91)] []))):=by kernel_rfl
theorem O6 (fu d:Nat)(a0_0:Int)(a0_1:ByteArray)(a0_2n:Nat)(a0_2:List PV)(a0_3n:Nat)(a0_3:List PV)(a0_4n:Nat)(a0_4:List PV)(a0_5:Int)(a0_6n:Nat)(a0_6:List PV)(a0_7:ByteArray)(a1_0 a1_1:Int)(a1_2 a1_3 a1_4:Int)(a1_5n:Nat)(a1_5:List PV)(a1_6 a1_7 a2:Int)(a3n:Nat)(a3:List PV)(a4n:Nat)(a4:List PV)(a5:Int):Ae C0 Tryz.prog fu (d+1) H1 [.agg [.sc (.int .i64 a0_0),.sc (.string a0_1),.lst false 1 a0_2n a0_2,.lst false 1 a0_3n a0_3,.lst false 1 a0_4n a0_4,.sc (.int .i64 a0_5),.lst false 1 a0_6n a0_6,.sc (.string a0_7)],.agg [.sc (.int .u64 a1_0),.sc (.int .i64 a1_1),.sc (.int .i64 a1_2),.sc (.int .i64 a1_3),.sc (.int .u64 a1_4),.lst false 1 a1_5n a1_5,.sc (.int .i64 a1_6),.sc (.int .u64 a1_7)],.sc (.int .u64 a2),.lst false 3 a3n a3,.lst false 3 a4n a4,.sc (.int .i64 a5)]=(fun (call:Aq)=>A4 (decide ((↑a0_3n:Int)>300)) (Aj (call 13 []) fun x1 x2=>Ac x2<|Ab x1 fun x3 x4=>Bw x3 fun x5=>Ac x4<|some (A0.mk [.sc (.bool x5)] [])) (A4 (decide ((↑a0_4n:Int)>5)) (Aj (call 13 []) fun x6 x7=>Ac x7<|Ab x6 fun x8 x9=>Bw x8 fun Cj=>Ac x9<|some (A0.mk [.sc (.bool Cj)] [])) (A4 (decide ((↑a3n:Int)>5)) (Aj (call 13 []) fun Bp Cz=>Ac Cz<|Ab Bp fun C9 Cq=>Bw C9 fun C8=>Ac Cq<|some (A0.mk [.sc (.bool C8)] [])) (A4 (decide ((↑a4n:Int)>10)) (Aj (call 13 []) fun Dh Dt=>Ac Dt<|Ab Dh fun D6 D1=>Bw D6 fun Ee=>Ac D1<|some (A0.mk [.sc (.bool Ee)] [])) (Hx fu call a0_0 a0_1 a0_2n a0_2 a0_3n a0_3 a0_4n a0_4 a0_5 a0_6n a0_6 a0_7 a1_0 a1_1 a1_2 a1_3 a1_4 a1_5n a1_5 a1_6 a1_7 a2 a3n a3 a4n a4 a5 (fu) (a2) (a3n) (a3) (a4n) (a4) (a5) (a0_0) (a0_1) (a0_2n) (a0_2) (a0_3n) (a0_3) (a0_4n) (a0_4) (a0_5) (a0_6n) (a0_6) (a0_7) (a1_0) (a1_1) (a1_2) (a1_3) (a1_4) (a1_5n) (a1_5) (a1_6) (a1_7)))))) (Ae C0 Tryz.prog fu d):=by kernel_rfl
end
section
set_option maxRecDepth 1000000
theorem Air {l:List Int}(h:∀n∈l,(Lit.int .u8 n).wf=true):Gn l:=fun x hx=>A8x (h x hx)
theorem A4m {p:PV}(h:WTv Tryz.prog 29 p):∃r:Rp,p=.agg r.cells∧Gn r.sg∧Gn r.ad∧Gn r.id_∧(∀b∈r.certs,Gn b)∧r.certs.length<=maxLen∧r.sg.length<=maxLen∧r.ad.length<=maxLen∧r.id_.length<=maxLen∧r.cd.size<=maxLen∧r.user.size<=maxLen:=by
 obtain ⟨ps,rfl,k0⟩:=Axi (by kernel_rfl) h
 obtain ⟨v0,v1,v2,v3,v4,v5,v6,v7,rfl,e0,e1,e2,e3,e4,e5,e6,e7,e8,e9,e10,e11⟩:=Aic k0
 obtain ⟨xs,h1,h2,h3⟩:=Ok A1g Gn (rows:=v4) fun r hr=>by
  obtain ⟨l,q1,q2,q3⟩:=Aev (k:=.u8) (e:=5) (by kernel_rfl) (by kernel_rfl) (by kernel_rfl) (e7 r hr).2
  exact ⟨l,q1,Air q3⟩
 refine ⟨⟨v0,v1,v2,v3,xs,v5,v6,v7⟩,?_,Air e5,Air e3,Air e10,h3,by simp only;omega,e4,e2,e9,e1,e11⟩
 rw [h1,h2];rfl
theorem A4j {p:PV}(h:WTv Tryz.prog 33 p):∃a:Ad,p=.agg a.cells∧isU a.rp∧isU a.model∧isU a.key.root∧Gn a.id_∧a.id_.length<=maxLen:=by
 obtain ⟨ps,rfl,k0⟩:=Axi (by kernel_rfl) h
 obtain ⟨v0,v1,v2,v3,v4,v5,v6,v7,rfl,e0,e1,e2,e3,e4,e5,e6,e7,e8⟩:=Ah2 k0;exact ⟨⟨v0,v1,v2,v3,v4,v5,⟨v6,v7⟩⟩,rfl,Av9 e0,Av9 e4,Av9 e8,Air e6,e5⟩
theorem A36 {p:PV}(h:WTv Tryz.prog 45 p):∃l:List An,p=.lst false 3 l.length (Ed l):=by
 obtain ⟨rows,rfl,hl,hr⟩:=A2d (e:=66) (by kernel_rfl) (by kernel_rfl) h
 obtain ⟨xs,h1,h2,_⟩:=Ok An.cells (fun _=>True) (rows:=rows) fun r hr'=>by
  obtain ⟨v0,v1,v2,rfl,_⟩:=Amj (hr r hr').2;exact ⟨⟨v0,⟨v1,v2⟩⟩,rfl,trivial⟩
 refine ⟨xs,?_⟩;rw [h1,h2];rfl
theorem A0q {p:PV}(h:WTv Tryz.prog 40 p):∃l:List Rv,p=.lst false 3 l.length (Ex l):=by
 obtain ⟨rows,rfl,hl,hr⟩:=A2d (e:=39) (by kernel_rfl) (by kernel_rfl) h
 obtain ⟨xs,h1,h2,_⟩:=Ok Rv.cells (fun _=>True) (rows:=rows) fun r hr'=>by
  obtain ⟨v0,v1,v2,rfl,_⟩:=Aek (hr r hr').2;exact ⟨⟨v0,v1,v2⟩,rfl,trivial⟩
 refine ⟨xs,?_⟩;rw [h1,h2];rfl
theorem Rp.cells_len (r:Rp):r.cells.length=8:=rfl
theorem rpa {l:List Rp}{j:Nat}{r:Rp}(h:l[j]?=some r):
  (l.flatMap Rp.cells).getD (0+j*8) .top=.sc (.int .i64 r.kind)∧(l.flatMap Rp.cells).getD (0+j*8+1) .top=.sc (.string r.cd)∧(l.flatMap Rp.cells).getD (0+j*8+1+1) .top=Sq r.ad∧(l.flatMap Rp.cells).getD (0+j*8+1+1+1) .top=Sq r.sg ∧
  (l.flatMap Rp.cells).getD (0+j*8+1+1+1+1) .top=.lst false 1 r.certs.length (Vf r.certs)∧(l.flatMap Rp.cells).getD (0+j*8+1+1+1+1+1) .top=.sc (.int .i64 r.fmt)∧(l.flatMap Rp.cells).getD (0+j*8+1+1+1+1+1+1) .top=Sq r.id_∧(l.flatMap Rp.cells).getD (0+j*8+1+1+1+1+1+1+1) .top=.sc (.string r.user):=by
 simp only [B4];exact ⟨D3 Rp.cells_len h (j:=0) (by omega),D3 Rp.cells_len h (j:=1) (by omega),D3 Rp.cells_len h (j:=2) (by omega),D3 Rp.cells_len h (j:=3) (by omega),D3 Rp.cells_len h (j:=4) (by omega),D3 Rp.cells_len h (j:=5) (by omega),D3 Rp.cells_len h (j:=6) (by omega),D3 Rp.cells_len h (j:=7) (by omega)⟩
theorem Atf {a0_0:Int}{a0_1:ByteArray}{a0_2n:Nat}{a0_2:List PV}{a0_3n:Nat}{a0_3:List PV}{a0_4n:Nat}{a0_4:List PV}{a0_5:Int}{a0_6n:Nat}{a0_6:List PV}{a0_7:ByteArray}{a1_0 a1_1 a1_2 a1_3 a1_4:Int}{a1_5n:Nat}{a1_5:List PV}{a1_6 a1_7 a2:Int}{a3n:Nat}{a3:List PV}{a4n:Nat}{a4:List PV}{a5:Int}
  {w:Int} {ans:List An} (hl:ans.length<=900) {vs:List Rv} (hv:vs.length<=900) {now:Int} {a:Ad} {rs:List Rp} (h2:rs.length=2) (hok:∀r∈rs,r.ok):∀(q:List Rp) (j nn:Nat),rs.drop j=q->q.length<nn->j<=2 ->
  D8 2000 (Ae C0 Tryz.prog 2000 18) a0_0 a0_1 a0_2n a0_2 a0_3n a0_3 a0_4n a0_4 a0_5 a0_6n a0_6 a0_7 a1_0 a1_1 a1_2 a1_3 a1_4 a1_5n a1_5 a1_6 a1_7 a2 a3n a3 a4n a4 a5 nn w ans.length (Ed ans) vs.length (Ex vs) now 2 2 (j:Int) a.rp a.flags a.cnt a.rng a.model a.id_.length (Ai .u8 a.id_) a.key.h a.key.root (rs.flatMap Rp.cells)=some ⟨[.sc (.bool true)],[]⟩
 |_,_,0,_,h,_=>by omega
 |[],j,nn+1,hd,hn,hj=>by
  have:=drop_nil hd;have aw:=Ai4 (d:=1);rw [G0,Dj _ _ _ (by omega)]
  try unfold Aa
  repeat first
   |((with_reducible first|apply Ap|apply Ag|apply Am|apply Ar|apply Ax|apply Bh|apply A6|apply Ah);· first|with_reducible rfl|(simp (disch:=omega) only [aw]<;>with_reducible rfl))
   |((with_reducible first|apply Ao|apply Ak);· first|with_reducible rfl|omega|(simp (disch:=omega) only [gT,aw]<;>omega))
   |(with_reducible apply Al;· first|with_reducible rfl|(simp (disch:=omega) only [gF,aw]<;>omega))
  try simp (disch:=omega) only [aw]
  all_goals rfl
 |r::q,j,nn+1,hd,hn,hj=>by
  obtain ⟨h1,h2',h3⟩:=Ca hd;simp only [H0] at hn;obtain ⟨c0,c1,c2,c3,c4,c5,c6,c7⟩:=rpa h2';have hr:=hok r (List.mem_of_getElem? h2');have p:=Axn (fu:=2000) (d:=6) (by omega) hr a w hl hv now
  have p':=A4r (fu:=2000) (d:=1) (by omega) hr a w hl hv now
  have nt:Int.toNat (j:Int)=j:=G6 _;have w1:IntKind.wrap .i64 ((j:Int)+1)=((j+1:Nat):Int):=by rw [Au (by omega) (by omega)];omega
  have ih:=Atf (a0_0:=a0_0) (a0_1:=a0_1) (a0_2n:=a0_2n) (a0_2:=a0_2) (a0_3n:=a0_3n) (a0_3:=a0_3) (a0_4n:=a0_4n) (a0_4:=a0_4) (a0_5:=a0_5) (a0_6n:=a0_6n) (a0_6:=a0_6) (a0_7:=a0_7) (a1_0:=a1_0) (a1_1:=a1_1) (a1_2:=a1_2) (a1_3:=a1_3) (a1_4:=a1_4) (a1_5n:=a1_5n) (a1_5:=a1_5) (a1_6:=a1_6) (a1_7:=a1_7) (a2:=a2) (a3n:=a3n) (a3:=a3) (a4n:=a4n) (a4:=a4) (a5:=a5) (w:=w) hl hv (now:=now) (a:=a) h2 hok q (j+1) nn h3 (by omega) (by omega)
  simp only [Rp.cells,Ad.cells,Sq,Av.vals] at p p' c0 c1 c2 c3 c4 c5 c6 c7;generalize Ags r a w ans vs now=v at *
  rw [G0];have e1:∀x:Int,(x==x)=true:=fun x=>beq_self_eq_true x
  have e2:∀x:Int,(x != x)=false:=fun x=>bne_self_eq_false x
  try unfold Aa
  repeat first
   |((with_reducible first|apply Ap|apply Ag|apply Am|apply Ar|apply Ax|apply Bh|apply A6|apply Ah);· first|with_reducible rfl|(simp (disch:=omega) only [nt,c0,c1,c2,c3,c4,c5,c6,c7,p,p',e1,e2,w1,Zzm,Bool.and_true,Bn]<;>with_reducible rfl))
   |((with_reducible first|apply Ao|apply Ak);· first|with_reducible rfl|omega|(simp (disch:=omega) only [gT,nt,c0,c1,c2,c3,c4,c5,c6,c7,p,p',e1,e2,w1,Zzm,Bool.and_true,Bn]<;>omega))
   |(with_reducible apply Al;· first|with_reducible rfl|(simp (disch:=omega) only [gF,nt,c0,c1,c2,c3,c4,c5,c6,c7,p,p',e1,e2,w1,Zzm,Bool.and_true,Bn]<;>omega))
  try simp (disch:=omega) only [nt,c0,c1,c2,c3,c4,c5,c6,c7,p,p',e1,e2,w1,Zzm,Bool.and_true,Bn]
  exact ih
theorem Aop {a0_0:Int}{a0_1:ByteArray}{a0_2n:Nat}{a0_2:List PV}{a0_3n:Nat}{a0_3:List PV}{a0_4n:Nat}{a0_4:List PV}{a0_5:Int}{a0_6n:Nat}{a0_6:List PV}{a0_7:ByteArray}{a1_0 a1_1 a1_2 a1_3 a1_4:Int}{a1_5n:Nat}{a1_5:List PV}{a1_6 a1_7 a2:Int}{a3n:Nat}{a3:List PV}{a4n:Nat}{a4:List PV}{a5:Int}
  {w:Int} {ans:List An} (hl:ans.length<=900) {vs:List Rv} (hv:vs.length<=900) {now:Int} {a:Ad} {r:Rp} (hsg:Gn r.sg) (hsl:r.sg.length<=1000) (hcb:∀b∈r.certs,Gn b) (hcl:r.certs.length<=1000):∀(q:List (List Int)) (i nn:Nat),r.certs.drop i=q->q.length<nn->i<=r.certs.length->(∀b∈r.certs.take i,b.length<=600) ->
  Ea 2000 (Ae C0 Tryz.prog 2000 18) a0_0 a0_1 a0_2n a0_2 a0_3n a0_3 a0_4n a0_4 a0_5 a0_6n a0_6 a0_7 a1_0 a1_1 a1_2 a1_3 a1_4 a1_5n a1_5 a1_6 a1_7 a2 a3n a3 a4n a4 a5 nn w ans.length (Ed ans) vs.length (Ex vs) now (i:Int) r.kind r.cd r.ad.length (Ai .u8 r.ad) r.sg.length (Ai .u8 r.sg) r.certs.length (Vf r.certs) r.fmt r.id_.length (Ai .u8 r.id_) r.user a.rp a.flags a.cnt a.rng a.model a.id_.length (Ai .u8 a.id_) a.key.h a.key.root=some ⟨[.sc (.bool true)],[]⟩
 |_,_,0,_,h,_,_=>by omega
 |[],i,nn+1,hd,hn,hi,ht=>by
  have hlen:=drop_nil hd;rw [I2 (by omega)] at ht
  obtain ⟨m,m0,m1,m2⟩:=A1x r.fmt 3 (by omega) (by omega)
  have ok1:r.ok:=⟨hsg,by omega,fun b hb=>⟨hcb b hb,by have:=ht b hb;omega⟩⟩
  have ok2:(Rp.mk r.kind r.cd r.ad r.sg r.certs m r.id_ r.user).ok:=⟨hsg,by simp only;omega,fun b hb=>⟨hcb b hb,by have:=ht b hb;omega⟩⟩
  have lp:=Atf (a0_0:=a0_0) (a0_1:=a0_1) (a0_2n:=a0_2n) (a0_2:=a0_2) (a0_3n:=a0_3n) (a0_3:=a0_3) (a0_4n:=a0_4n) (a0_4:=a0_4) (a0_5:=a0_5) (a0_6n:=a0_6n) (a0_6:=a0_6) (a0_7:=a0_7) (a1_0:=a1_0) (a1_1:=a1_1) (a1_2:=a1_2) (a1_3:=a1_3) (a1_4:=a1_4) (a1_5n:=a1_5n) (a1_5:=a1_5) (a1_6:=a1_6) (a1_7:=a1_7) (a2:=a2) (a3n:=a3n) (a3:=a3) (a4n:=a4n) (a4:=a4) (a5:=a5) (w:=w) hl hv (now:=now) (a:=⟨a.rp,Xz .i64 a.flags 64,a.cnt,a.rng,a.model,a.id_,a.key⟩) (rs:=[r,⟨r.kind,r.cd,r.ad,r.sg,r.certs,m,r.id_,r.user⟩]) rfl (by
   intro x hx;simp only [List.mem_cons,List.not_mem_nil,or_false] at hx;rcases hx with rfl|rfl
   ·exact ok1
   ·exact ok2) _ 0 2000 rfl (by simp) (by omega)
  rw [Gw,Dj _ _ _ (by omega)]
  try unfold Aa
  repeat first
   |((with_reducible first|apply Ap|apply Ag|apply Am|apply Ar|apply Ax|apply Bh|apply A6|apply Ah);· first|with_reducible rfl|(simp (disch:=omega) only [m2]<;>with_reducible rfl))
   |((with_reducible first|apply Ao|apply Ak);· first|with_reducible rfl|omega|(simp (disch:=omega) only [gT,m2]<;>omega))
   |(with_reducible apply Al;· first|with_reducible rfl|(simp (disch:=omega) only [gF,m2]<;>omega))
  try simp (disch:=omega) only [m2]
  exact lp
 |b::q,i,nn+1,hd,hn,hi,ht=>by
  obtain ⟨h1,h2',h3⟩:=Ca hd;simp only [H0] at hn;have g0:=atb h2';have nt:Int.toNat (i:Int)=i:=G6 _;have w1:IntKind.wrap .i64 ((i:Int)+1)=((i+1:Nat):Int):=by rw [Au (by omega) (by omega)];omega
  rw [Gw];by_cases hb:b.length>600
  ·have aw:=Ai4 (d:=1)
   try unfold Aa
   repeat first
    |((with_reducible first|apply Ap|apply Ag|apply Am|apply Ar|apply Ax|apply Bh|apply A6|apply Ah);· first|with_reducible rfl|(simp (disch:=omega) only [nt,g0,aw]<;>with_reducible rfl))
    |((with_reducible first|apply Ao|apply Ak);· first|with_reducible rfl|omega|(simp (disch:=omega) only [gT,nt,g0,aw]<;>omega))
    |(with_reducible apply Al;· first|with_reducible rfl|(simp (disch:=omega) only [gF,nt,g0,aw]<;>omega))
   try simp (disch:=omega) only [nt,g0,aw]
   all_goals rfl
  ·have ih:=Aop (a0_0:=a0_0) (a0_1:=a0_1) (a0_2n:=a0_2n) (a0_2:=a0_2) (a0_3n:=a0_3n) (a0_3:=a0_3) (a0_4n:=a0_4n) (a0_4:=a0_4) (a0_5:=a0_5) (a0_6n:=a0_6n) (a0_6:=a0_6) (a0_7:=a0_7) (a1_0:=a1_0) (a1_1:=a1_1) (a1_2:=a1_2) (a1_3:=a1_3) (a1_4:=a1_4) (a1_5n:=a1_5n) (a1_5:=a1_5) (a1_6:=a1_6) (a1_7:=a1_7) (a2:=a2) (a3n:=a3n) (a3:=a3) (a4n:=a4n) (a4:=a4) (a5:=a5) (w:=w) hl hv (now:=now) (a:=a) hsg hsl hcb hcl q (i+1) nn h3 (by omega) (by omega) (by
    intro x hx;rw [List.take_add_one,h2'] at hx;rcases List.mem_append.1 hx with hx|hx
    ·exact ht x hx
    ·simp at hx;subst hx;omega)
   rw [←ih]
   try unfold Aa
   repeat first
    |((with_reducible first|apply Ap|apply Ag|apply Am|apply Ar|apply Ax|apply Bh|apply A6|apply Ah);· first|with_reducible rfl|(simp (disch:=omega) only [nt,g0,w1]<;>with_reducible rfl))
    |((with_reducible first|apply Ao|apply Ak);· first|with_reducible rfl|omega|(simp (disch:=omega) only [gT,nt,g0,w1]<;>omega))
    |(with_reducible apply Al;· first|with_reducible rfl|(simp (disch:=omega) only [gF,nt,g0,w1]<;>omega))
   try simp (disch:=omega) only [nt,g0,w1]
   all_goals rfl
theorem attestationAny_plain (qs:List PV)(h:B8 (WTv Tryz.prog) [29,33,23,45,40,3] qs):∃fu d,Ae C0 Tryz.prog fu d H1 qs=some ⟨[.sc (.bool true)],[]⟩:=by
 obtain ⟨q0,_,rfl,h0,g⟩:=h.cons_inv;obtain ⟨q1,_,rfl,h1,g⟩:=g.cons_inv;obtain ⟨q2,_,rfl,h2,g⟩:=g.cons_inv;obtain ⟨q3,_,rfl,h3,g⟩:=g.cons_inv;obtain ⟨q4,_,rfl,h4,g⟩:=g.cons_inv;obtain ⟨q5,_,rfl,h5,g⟩:=g.cons_inv;obtain rfl:=g.nil_inv;clear h g;obtain ⟨r,rfl,r1,r2,r3,r4,r5,_⟩:=A4m h0;obtain ⟨a,rfl,_⟩:=A4j h1;obtain ⟨w,rfl,_⟩:=Aw8 (k:=.u64) (by kernel_rfl) (by kernel_rfl) h2
 obtain ⟨ans,rfl⟩:=A36 h3;obtain ⟨vs,rfl⟩:=A0q h4;obtain ⟨now,rfl,_⟩:=Aw8 (k:=.i64) (by kernel_rfl) (by kernel_rfl) h5
 clear h0 h1 h2 h3 h4 h5;refine ⟨2000,19,?_⟩;refine (O6 2000 18 r.kind r.cd r.ad.length (Ai .u8 r.ad) r.sg.length (Ai .u8 r.sg) r.certs.length (Vf r.certs) r.fmt r.id_.length (Ai .u8 r.id_) r.user a.rp a.flags a.cnt a.rng a.model a.id_.length (Ai .u8 a.id_) a.key.h a.key.root w ans.length (Ed ans) vs.length (Ex vs) now).trans ?_;have aw:=Ai4 (d:=1);by_cases c1:r.sg.length>300
 ·skip
  try unfold Aa
  repeat first
   |((with_reducible first|apply Ap|apply Ag|apply Am|apply Ar|apply Ax|apply Bh|apply A6|apply Ah);· first|with_reducible rfl|(simp (disch:=omega) only [aw]<;>with_reducible rfl))
   |((with_reducible first|apply Ao|apply Ak);· first|with_reducible rfl|omega|(simp (disch:=omega) only [gT,aw]<;>omega))
   |(with_reducible apply Al;· first|with_reducible rfl|(simp (disch:=omega) only [gF,aw]<;>omega))
  try simp (disch:=omega) only [aw]
  all_goals rfl
 by_cases c2:r.certs.length>5
 ·skip
  try unfold Aa
  repeat first
   |((with_reducible first|apply Ap|apply Ag|apply Am|apply Ar|apply Ax|apply Bh|apply A6|apply Ah);· first|with_reducible rfl|(simp (disch:=omega) only [aw]<;>with_reducible rfl))
   |((with_reducible first|apply Ao|apply Ak);· first|with_reducible rfl|omega|(simp (disch:=omega) only [gT,aw]<;>omega))
   |(with_reducible apply Al;· first|with_reducible rfl|(simp (disch:=omega) only [gF,aw]<;>omega))
  try simp (disch:=omega) only [aw]
  all_goals rfl
 by_cases c3:ans.length>5
 ·skip
  try unfold Aa
  repeat first
   |((with_reducible first|apply Ap|apply Ag|apply Am|apply Ar|apply Ax|apply Bh|apply A6|apply Ah);· first|with_reducible rfl|(simp (disch:=omega) only [aw]<;>with_reducible rfl))
   |((with_reducible first|apply Ao|apply Ak);· first|with_reducible rfl|omega|(simp (disch:=omega) only [gT,aw]<;>omega))
   |(with_reducible apply Al;· first|with_reducible rfl|(simp (disch:=omega) only [gF,aw]<;>omega))
  try simp (disch:=omega) only [aw]
  all_goals rfl
 by_cases c4:vs.length>10
 ·skip
  try unfold Aa
  repeat first
   |((with_reducible first|apply Ap|apply Ag|apply Am|apply Ar|apply Ax|apply Bh|apply A6|apply Ah);· first|with_reducible rfl|(simp (disch:=omega) only [aw]<;>with_reducible rfl))
   |((with_reducible first|apply Ao|apply Ak);· first|with_reducible rfl|omega|(simp (disch:=omega) only [gT,aw]<;>omega))
   |(with_reducible apply Al;· first|with_reducible rfl|(simp (disch:=omega) only [gF,aw]<;>omega))
  try simp (disch:=omega) only [aw]
  all_goals rfl
 have lp:=Aop (a0_0:=r.kind) (a0_1:=r.cd) (a0_2n:=r.ad.length) (a0_2:=Ai .u8 r.ad) (a0_3n:=r.sg.length) (a0_3:=Ai .u8 r.sg) (a0_4n:=r.certs.length) (a0_4:=Vf r.certs) (a0_5:=r.fmt) (a0_6n:=r.id_.length) (a0_6:=Ai .u8 r.id_) (a0_7:=r.user) (a1_0:=a.rp) (a1_1:=a.flags) (a1_2:=a.cnt) (a1_3:=a.rng) (a1_4:=a.model) (a1_5n:=a.id_.length) (a1_5:=Ai .u8 a.id_) (a1_6:=a.key.h) (a1_7:=a.key.root) (a2:=w) (a3n:=ans.length) (a3:=Ed ans) (a4n:=vs.length) (a4:=Ex vs) (a5:=now) (w:=w) (ans:=ans) (by omega) (vs:=vs) (by omega) (now:=now) (a:=a) (r:=r) r1 (by omega) r4 (by omega) r.certs 0 2000 rfl (by omega) (by omega) (by simp)
 have J:=Gt
 try unfold Aa
 repeat first
  |((with_reducible first|apply Ap|apply Ag|apply Am|apply Ar|apply Ax|apply Bh|apply A6|apply Ah);· first|with_reducible rfl|(simp (disch:=omega) only [aw]<;>with_reducible rfl))
  |((with_reducible first|apply Ao|apply Ak);· first|with_reducible rfl|omega|(simp (disch:=omega) only [gT,aw]<;>omega))
  |(with_reducible apply Al;· first|with_reducible rfl|(simp (disch:=omega) only [gF,aw]<;>omega))
 try simp (disch:=omega) only [aw]
 rw [Gt (hnn:=by omega)]
 exact lp
end
section
open Go.RowKit
theorem An8 {w w':World}{Y:Nat->Prop}{bt:Bt2}{args:List PV}{v:Value}(hb:Below w.heap.size w w')(ho:Adb w' (Au6 bt (fun _=>none) Y) (fun _=>none) bt (Ue [.sc v]) 0 args []):
  Out w w' Y bt args (fun _=>none) ⟨[.sc v],[]⟩ [v] where
 os:=hb.os
 tape:=hb.tape
 output:=hb.output
 ext:=⟨hb.size,fun b h _=>hb.block b h,fun b h=>by unfold bsz;rw [hb.block b h];exact Nat.le_refl _⟩
 rng:=fun b j h _=>⟨by unfold World.cell?;simp only [hb.block b h],by unfold World.frozen?;simp only [hb.block b h]⟩
 vals:=⟨Bu.sc v,trivial⟩
 outs:=ho
 fresh:=fun j b o h=>by cases h
 inj:=fun j j' b o o' h=>by cases h
theorem Ahk {P:Program}{w:World}{A:Nat->Prop}{bt:Bt}{z:Bool}{n:Nat}{c:List PV}{u:Value}{l:List UInt8}(h:Ast w A bt (.lst z 1 n c) u) (hl:bytesOf c=some l)(hn:c.length=n):
  (Extern.Bytes.bytesOf u).run P w=.ok ⟨l.toArray⟩ w:=by
 obtain ⟨ns,rfl,rfl⟩:=Zl hl;have ht:Bu w A (.lst z 1 n (ns.map fun n=>.sc (.int .u8 n))) u:=h.2
 generalize hc:(ns.map fun n=>PV.sc (.int .u8 n))=c at ht
 cases ht with
 |lnil=>
  have:ns=[]:=by simpa using hc
  subst this;rfl
 |lemp=>
  have:ns=[]:=by simpa using hc
  subst this;rfl
 |lst _ _ _ a cap f hs hb hA hn' hcell h1 hr=>
  subst hc;rw [List.length_map] at hn;subst hn;show (Extern.Bytes.loadBytes a ns.length .empty).run P w=_;rw [Lib.run_loadBytesX w ns a .empty fun j x hj=>?_]
  ·simp [Lib.bytesOf,Nat.toUInt8]
  ·have e:(ns.map fun n=>PV.sc (.int .u8 n))[j]?=some (.sc (.int .u8 x)):=by rw [List.getElem?_map,hj];rfl
   rw [hcell j _ e,(hr j _ e).val]
set_option maxRecDepth 1000000 in
theorem Ap8 (u1 u2:Value)(a b:List UInt8)(w:World)(h1:(Extern.Bytes.bytesOf u1).run Tryz.prog w=.ok ⟨a.toArray⟩ w) (h2:(Extern.Bytes.bytesOf u2).run Tryz.prog w=.ok ⟨b.toArray⟩ w):
  Calls Tryz.prog 143 #[u1,u2] w fun e w'=>e=.returned (.int .i64 (Lib.compareBytes a b))∧w'=w:=by
 have hr:(Extern.BytealgCompare.compare #[u1,u2]).run Tryz.prog w=.ok (.int .i64 (Lib.compareBytes a b)) w:=by
  change Sem.run Tryz.prog (do pure (goInt (Extern.BytealgCompare.cmp (←Extern.Bytes.bytesOf u1) (←Extern.Bytes.bytesOf u2)))) w=_
  simp only [Sem.run_bind,Sem.run_pure,Result.andThen,h1,h2];rw [Lib.cmp_eq];rfl
 go_enter Tryz.func143,Tryz.ntmps143
 go_wp2
 rw [run_callFunc_extern Tryz.func145 (by kernel_rfl) (by kernel_rfl) (by kernel_rfl) (e:=Extern.BytealgCompare.compare) (by kernel_rfl),hr]
 simp only [Result.andThen];rw [Oper.upon_value]
 go_wp2
 go_ret
 exact ⟨rfl,rfl⟩
theorem Aml (G:Glo)(args:List PV)(res:A0)(h:Y8 args=some res):Hr G Tryz.prog 143 args res:=by
 refine ⟨⟨_,Tryz.func143,by kernel_rfl⟩,fun w Y bt us hi _ _=>?_⟩
 unfold Y8 at h;split at h
 rotate_left
 ·cases h
 rename_i z n c z' m c';cases hq:(Nat.beq c.length n&&Nat.beq c'.length m)
 ·rw [hq] at h;cases h
 rw [hq] at h;simp only [Bool.and_eq_true] at hq;have hn:=Nat.eq_of_beq_eq_true hq.1;have hm:=Nat.eq_of_beq_eq_true hq.2;simp only [cond_true] at h;split at h
 rotate_left
 ·cases h
 rename_i a b ha hb;cases h;have ps:=hi.args
 match us,ps with
 |[u1,u2],ps=>
  refine (Ap8 u1 u2 a b w (Ahk ps.1 ha hn) (Ahk ps.2.1 hb hm)).mono ?_
  rintro e w' ⟨rfl,rfl⟩
  exact ⟨[.int .i64 (Lib.compareBytes a b)],fun _=>none,rfl,An8 (Below.refl _ _) rfl⟩
 |[],ps=>exact ps.elim
 |[_],ps=>exact ps.2.elim
 |_::_::_::_,ps=>exact ps.2.2.elim
end
section
set_option maxRecDepth 1000000
open Go.Shelf Go.RowKit Go.Lib
def A9b:Go.Shelf.Ren:=⟨fun|196=>67|259=>98|n=>n,fun|0=>0|3=>3|4=>4|5=>5|9=>9|12=>12|46=>54|53=>23|119=>155|138=>157|139=>158|n=>n,fun|3=>0|4=>1|n=>n⟩
theorem laysVS:Lays.n196 Tryz.prog A9b:={
 mixed:=by kernel_rfl
 f196:=Tryz.func67.trans (congrArg some (by kernel_rfl))
 f259:=Tryz.func98.trans (congrArg some (by kernel_rfl))
 t0:=Tryz.underlying0
 a0:=Tryz.isAgg0
 z0:=Tryz.sizeOf0
 v0:=Tryz.zeroValue0
 t3:=Tryz.underlying3
 a3:=Tryz.isAgg3
 z3:=Tryz.sizeOf3
 v3:=Tryz.zeroValue3
 t4:=Tryz.underlying4
 a4:=Tryz.isAgg4
 z4:=Tryz.sizeOf4
 v4:=Tryz.zeroValue4
 t5:=Tryz.underlying5
 a5:=Tryz.isAgg5
 z5:=Tryz.sizeOf5
 v5:=Tryz.zeroValue5
 t9:=Tryz.underlying9
 a9:=Tryz.isAgg9
 z9:=Tryz.sizeOf9
 v9:=Tryz.zeroValue9
 t12:=Tryz.underlying12
 a12:=Tryz.isAgg12
 z12:=Tryz.sizeOf12
 v12:=Tryz.zeroValue12
 t46:=Tryz.underlying54
 a46:=Tryz.isAgg54
 z46:=Tryz.sizeOf54
 v46:=Tryz.zeroValue54
 t53:=Tryz.underlying23
 a53:=Tryz.isAgg23
 z53:=Tryz.sizeOf23
 v53:=Tryz.zeroValue23
 t119:=Tryz.underlying155
 a119:=Tryz.isAgg155
 z119:=Tryz.sizeOf155
 t138:=Tryz.underlying157
 a138:=Tryz.isAgg157
 z138:=Tryz.sizeOf157
 v138:=Tryz.zeroValue157
 t139:=Tryz.underlying158
 a139:=Tryz.isAgg158
 z139:=Tryz.sizeOf158
 v139:=Tryz.zeroValue158
 g3:=by kernel_rfl
 g4:=by kernel_rfl }
def gU:Glo:=⟨fun b=>b=0∨b=1,fun w=>0<w.heap.size∧1<w.heap.size∧Lib.Utf8Tabs 0 1 w,fun w w' h ⟨s1,s2,h1,h2⟩=>by
 have e1:=h _ (.inl rfl) s1;have e2:=h _ (.inr rfl) s2
 have hs:∀b,b<w.heap.size->w'.heap[b]?=w.heap[b]?->b<w'.heap.size:=by
  intro b hb he;rw [Array.getElem?_eq_getElem hb] at he;rcases Nat.lt_or_ge b w'.heap.size with q|q
  ·exact q
  ·rw [Array.getElem?_eq_none q] at he;cases he
 refine ⟨hs _ s1 e1,hs _ s2 e2,fun c hc=>?_,fun i hi=>?_⟩
 ·have:=h1 c hc;unfold World.cell? at this ⊢;simp only [e1] at this ⊢;exact this
 ·obtain ⟨a,b⟩:=h2 i hi;unfold World.cell? at a b ⊢;simp only [e2] at a b ⊢;exact ⟨a,b⟩⟩
theorem Asm (args:List PV)(res:A0)(h:Akb args=some res):Hr gU Tryz.prog 67 args res:=by
 refine ⟨⟨_,Tryz.func67,by kernel_rfl⟩,fun w Y bt us hi hok _=>?_⟩
 unfold Akb at h;split at h
 rotate_left
 ·cases h
 rename_i s;cases hq:decide (s.size<=9223372036854775807)
 ·rw [hq] at h;cases h
 rw [hq] at h;cases h;have hs:=of_decide_eq_true hq;have ps:=hi.args
 match us,ps with
 |[u],ps=>
  have hu:u=.string s:=by
   have:Bu w _ (.sc (.string s)) u:=ps.1.2;exact this.val
  subst hu;refine (Any.utf8_ValidString laysVS s w hs hok.2.2).mono ?_
  rintro e w' ⟨rfl,hb⟩
  exact ⟨[.bool (Lib.validD s.data.toList)],fun _=>none,rfl,An8 hb rfl⟩
 |[],ps=>exact ps.elim
 |_::_::_,ps=>exact ps.2.elim
theorem extU:A3n gU Tryz.prog C0:=by
 intro f g args res hx hg;have hx':A3z f=some g:=hx;unfold A3z at hx';cases h1:Nat.beq f 67
 rotate_left
 ·rw [h1,cond_true] at hx';cases hx';rw [Nat.eq_of_beq_eq_true h1];exact Asm args res hg
 rw [h1,cond_false] at hx';cases h2:Nat.beq f 143
 rotate_left
 ·rw [h2,cond_true] at hx';cases hx';rw [Nat.eq_of_beq_eq_true h2];exact Aml gU args res hg
 rw [h2,cond_false] at hx';cases h3:Nat.beq f 1000000
 ·rw [h3,cond_false] at hx';cases hx'
 ·rw [h3,cond_true] at hx';cases hx';cases hg
end
end Go.Proofs.YtgfgmbpmghgbkaaGreatDoor.Pv
